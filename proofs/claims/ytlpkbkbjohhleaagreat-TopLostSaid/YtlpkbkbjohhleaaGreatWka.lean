/- Each call computes what its mirror does; written by a program of mine (gowalk.py). -/
import Derived.Test.YtlpkbkbjohhleaaGreatTy
namespace Go.Proofs.YtlpkbkbjohhleaaGreat
open Go.Gv Go.RowKit
set_option linter.unusedVariables false
set_option maxRecDepth 100000

theorem humpgen_New_ok {N : Nat} {a0 : List Int} {res : Int} (h : humpgen_New N a0 = some res) {w : World} {v0 : Value} (hv0 : Sl (Old w No) w v0 a0) :
    CallsR Tryz.prog 6 [v0] w (fun u w' => ∃ gr : Nat, u = (Value.pointer (some ⟨gr, 0, none⟩)) ∧ Mem w No [blk gr 83 [v0, (Value.int .i64 res)]] w') := by
  unfold humpgen_New at h
  refine fn_ok Tryz.func6 rfl rfl rfl ?_
  have hm0 := Mem.nil w
  refine cw_seq ?_
  refine cw_region ?_
  refine t_rd rfl (rd_assign rfl) ?_
  refine rwt_nil ?_
  refine qn_then ?_
  refine cw_seq ?_
  refine cw_region ?_
  refine t_rd rfl (rd_move rfl) ?_
  refine t_rd rfl (rd_build (cs := #[v0, (Value.int .i64 0)]) rfl (by obtain ⟨_, _, e⟩ := ((hv0.of_old hm0)).val; rw [e]; clear e; kernel_rfl)) ?_
  refine t_ef rfl (ef_box hm0 rfl rfl) ?_
  rintro _ w6 ⟨g4, rfl, hm5⟩
  refine t_rd rfl (rd_assign rfl) ?_
  refine rwt_nil ?_
  refine qn_then ?_
  refine cw_ret ?_
  obtain rfl := os h
  exact ret1 rfl rfl ⟨g4, rfl, (hm5.pick [0] (by decide) rfl)⟩

theorem Maker_Next_ok {N : Nat} {a0_l : List Int} {a0_n : Int} {a1 : Int} {res : Int × Int} (h : Maker_Next N a0_l a0_n a1 = some res) {w : World} {v0_l : Value} {g0 : Nat} (hv0_l : Sl (Old w (fun k => k = g0)) w v0_l a0_l) (hk0 : (blk g0 83 [v0_l, (Value.int .i64 a0_n)]).φ w) :
    CallsR Tryz.prog 39 [(Value.pointer (some ⟨g0, 0, none⟩)), (Value.int .i64 a1)] w (fun u w' => u = (Value.int .i64 res.2) ∧ Mem w (fun k => k = g0) [blk g0 83 [v0_l, (Value.int .i64 res.1)]] w') := by
  unfold Maker_Next at h
  refine fn_ok Tryz.func39 rfl rfl rfl ?_
  have hm0 := Mem.one hk0
  refine cw_seq ?_
  refine cw_region ?_
  refine t_rd rfl (rd_assign rfl) ?_
  refine rwt_nil ?_
  refine qn_then ?_
  refine cw_seq ?_
  refine cw_region ?_
  refine t_rd rfl (rd_assign rfl) ?_
  refine rwt_nil ?_
  refine qn_then ?_
  refine cw_seq ?_
  refine cw_seq ?_
  refine cw_region ?_
  refine t_rd rfl (rd_move rfl) ?_
  refine t_rd rfl (rd_nilCheck rfl) ?_
  refine t_rd rfl (rd_fld tF83_0 rfl) ?_
  refine t_rd rfl (rd_ld1 tO22 rfl (hm0.blk 0 rfl) (off := 0) rfl) ?_
  refine t_rd rfl (rd_lenS tS22 rfl (hv0_l.of_old hm0)) ?_
  refine t_rd rfl (rd_gtr rfl rfl) ?_
  refine rwt_nil ?_
  refine qn_then ?_
  obtain ⟨j96, hit97, q98⟩ := ob h; clear h
  refine cw_join (X := fun eq envq wq => eq = .normal ∧ Sub [(0, (Value.pointer (some ⟨g0, 0, none⟩))), (1, (Value.int .i64 a1)), (5, (Value.int .i64 j96))] envq ∧ Mem w (fun k => k = g0) [blk g0 83 [v0_l, (Value.int .i64 a0_n)]] wq) ?_ ?_
  · clear q98
    obtain ⟨hb99, q100⟩ | ⟨hb99, q100⟩ := oi hit97 <;> clear hit97
    · refine cw_t rfl hb99 ?_
      obtain ⟨w111, he113⟩ : ∃ q, q = w.drew := ⟨_, rfl⟩
      have hm112 := hm0.drew; rw [← he113] at hm112
      refine cw_region_s (fun q => q = w111) (cls [] []) mixed ?_
      rintro _ rfl; rw [← he113]
      refine s_rp (i := 0) rfl (by kernel_rfl) rfl (fun _ => (rd_move rfl)) ?_
      refine s_rp (i := 1) rfl (by kernel_rfl) rfl (fun _ => (rd_nilCheck rfl)) ?_
      refine s_rp (i := 2) rfl (by kernel_rfl) rfl (fun _ => (rd_fld tF83_0 rfl)) ?_
      refine s_rd (i := 3) rfl (by kernel_rfl) rfl (fun _ hS => by rw [hS]; exact (rd_ld1 tO22 rfl (hm112.blk 0 rfl) (off := 0) rfl)) rfl ?_
      refine s_rp (i := 4) rfl (by kernel_rfl) rfl (fun _ => (rd_move rfl)) ?_
      refine s_rp (i := 5) rfl (by kernel_rfl) rfl (fun _ => (rd_nilCheck rfl)) ?_
      refine s_rp (i := 6) rfl (by kernel_rfl) rfl (fun _ => (rd_fld tF83_1 rfl)) ?_
      refine s_rd (i := 7) rfl (by kernel_rfl) rfl (fun _ hS => by rw [hS]; exact (rd_ld1 tO3 rfl (hm112.blk 0 rfl) (off := 1) rfl)) rfl ?_
      refine s_rp (i := 8) rfl (by kernel_rfl) rfl (fun _ => (rd_move rfl)) ?_
      refine s_rp (i := 9) rfl (by kernel_rfl) rfl (fun _ => (rd_nilCheck rfl)) ?_
      refine s_rp (i := 10) rfl (by kernel_rfl) rfl (fun _ => (rd_fld tF83_0 rfl)) ?_
      refine s_rd (i := 11) rfl (by kernel_rfl) rfl (fun _ hS => by rw [hS]; exact (rd_ld1 tO22 rfl (hm112.blk 0 rfl) (off := 0) rfl)) rfl ?_
      refine s_rp (i := 12) rfl (by kernel_rfl) rfl (fun _ => (rd_lenS tS22 rfl (hv0_l.of_old hm112))) ?_
      obtain ⟨x114, h115, q116⟩ := ob q100; clear q100
      refine s_rp (i := 13) rfl (by kernel_rfl) rfl (fun _ => (rd_rem64 h115 rfl rfl)) ?_
      obtain ⟨x117, h118, q119⟩ := ob q116; clear q116
      refine s_rp (i := 14) rfl (by kernel_rfl) rfl (fun _ => (rd_index tS22 rfl rfl (hv0_l.of_old hm112) h118)) ?_
      refine s_rd (i := 15) rfl (by kernel_rfl) rfl (fun _ hS => by rw [hS]; exact (rd_ld1 tO3 rfl ((hv0_l.of_old hm112).cells h118) (off := 0) rfl)) rfl ?_
      refine s_rp (i := 16) rfl (by kernel_rfl) rfl (fun _ => (rd_move rfl)) ?_
      refine s_rp (i := 17) rfl (by kernel_rfl) rfl (fun _ => (rd_nilCheck rfl)) ?_
      refine s_rp (i := 18) rfl (by kernel_rfl) rfl (fun _ => (rd_fld tF83_1 rfl)) ?_
      refine s_rd (i := 19) rfl (by kernel_rfl) rfl (fun _ hS => by rw [hS]; exact (rd_ld1 tO3 rfl (hm112.blk 0 rfl) (off := 1) rfl)) rfl ?_
      refine s_rp (i := 20) rfl (by kernel_rfl) rfl (fun _ => (rd_move rfl)) ?_
      refine s_rp (i := 21) rfl (by kernel_rfl) rfl (fun _ => (rd_nilCheck rfl)) ?_
      refine s_rp (i := 22) rfl (by kernel_rfl) rfl (fun _ => (rd_fld tF83_0 rfl)) ?_
      refine s_rd (i := 23) rfl (by kernel_rfl) rfl (fun _ hS => by rw [hS]; exact (rd_ld1 tO22 rfl (hm112.blk 0 rfl) (off := 0) rfl)) rfl ?_
      refine s_rp (i := 24) rfl (by kernel_rfl) rfl (fun _ => (rd_lenS tS22 rfl (hv0_l.of_old hm112))) ?_
      obtain ⟨x120, h121, q122⟩ := ob q119; clear q119
      refine s_rp (i := 25) rfl (by kernel_rfl) rfl (fun _ => (rd_quo64 h121 rfl rfl)) ?_
      refine s_rp (i := 26) rfl (by kernel_rfl) rfl (fun _ => (rd_mulw rfl rfl)) ?_
      refine s_rp (i := 27) rfl (by kernel_rfl) rfl (fun _ => (rd_addw rfl rfl)) ?_
      refine s_rp (i := 28) rfl (by kernel_rfl) rfl (fun _ => (rd_assign rfl)) ?_
      refine s_nil (by kernel_rfl) ?_
      obtain rfl := os q122
      exact ⟨rfl, (by repeat (first | exact Sub.nil _ | refine Sub.cons rfl ?_)), (hm112.pick [0] (by decide) rfl)⟩
    · refine cw_f rfl hb99 ?_
      refine cw_skip ?_
      obtain rfl := os q100
      exact ⟨rfl, (by repeat (first | exact Sub.nil _ | refine Sub.cons rfl ?_)), (hm0.pick [0] (by decide) rfl)⟩
  · clear hit97
    intro e env123 w124 hX125
    obtain ⟨rfl, hs126, hm127⟩ := hX125
    refine qn_then ?_
    refine cw_sub hs126 ?_
    refine cw_seq ?_
    refine cw_region ?_
    refine t_rd rfl (rd_move rfl) ?_
    refine t_rd rfl (rd_nilCheck rfl) ?_
    refine t_rd rfl (rd_fld tF83_1 rfl) ?_
    refine t_rd rfl (rd_ld1 tO3 rfl (hm127.blk 0 rfl) (off := 1) rfl) ?_
    obtain ⟨x128, h129, q130⟩ := ob q98; clear q98
    refine t_rd rfl (rd_add64 h129 rfl rfl) ?_
    refine t_rd rfl (rd_nilCheck rfl) ?_
    refine t_rd rfl (rd_fld tF83_1 rfl) ?_
    refine t_ef0 (ef_st1 (k := 0) (off := 1) hm127 tO3 rfl rfl rfl rfl rfl rfl) ?_
    intro _ w132 hm131
    refine rwt_nil ?_
    refine qn_then ?_
    refine cw_seq ?_
    refine cw_region ?_
    refine t_rd rfl (rd_move rfl) ?_
    refine t_rd rfl (rd_move rfl) ?_
    obtain ⟨x133, h134, q135⟩ := ob q130; clear q130
    refine t_rd rfl (rd_rem64 h134 rfl rfl) ?_
    refine t_rd rfl (rd_assign rfl) ?_
    refine rwt_nil ?_
    refine qn_then ?_
    refine cw_seq ?_
    refine cw_seq ?_
    refine cw_region ?_
    refine t_rd rfl (rd_move rfl) ?_
    refine t_rd rfl (rd_lss rfl rfl) ?_
    refine rwt_nil ?_
    refine qn_then ?_
    obtain ⟨hb136, q137⟩ | ⟨hb136, q137⟩ := oi q135 <;> clear q135
    · refine cw_t rfl hb136 ?_
      refine cw_region ?_
      refine t_rd rfl (rd_move rfl) ?_
      refine t_rd rfl (rd_move rfl) ?_
      obtain ⟨x138, h139, q140⟩ := ob q137; clear q137
      refine t_rd rfl (rd_add64 h139 rfl rfl) ?_
      refine t_rd rfl (rd_assign rfl) ?_
      refine rwt_nil ?_
      refine qn_then ?_
      refine cw_seq ?_
      refine cw_region ?_
      refine t_rd rfl (rd_move rfl) ?_
      refine t_rd rfl (rd_assign rfl) ?_
      refine rwt_nil ?_
      refine qn_then ?_
      refine cw_ret ?_
      obtain rfl := os q140
      exact ret1 rfl rfl ⟨rfl, (hm131.pick [0] (by decide) rfl)⟩
    · refine cw_f rfl hb136 ?_
      refine cw_skip ?_
      refine qn_then ?_
      refine cw_seq ?_
      refine cw_region ?_
      refine t_rd rfl (rd_move rfl) ?_
      refine t_rd rfl (rd_assign rfl) ?_
      refine rwt_nil ?_
      refine qn_then ?_
      refine cw_ret ?_
      obtain rfl := os q137
      exact ret1 rfl rfl ⟨rfl, (hm131.pick [0] (by decide) rfl)⟩

theorem Maker_Digits_ok {N : Nat} {a0_l : List Int} {a0_n : Int} {a1 : Int} {res : Int × List UInt8} (h : Maker_Digits N a0_l a0_n a1 = some res) {w : World} {v0_l : Value} {g0 : Nat} (hv0_l : Sl (Old w (fun k => k = g0)) w v0_l a0_l) (hk0 : (blk g0 83 [v0_l, (Value.int .i64 a0_n)]).φ w) :
    CallsR Tryz.prog 93 [(Value.pointer (some ⟨g0, 0, none⟩)), (Value.int .i64 a1)] w (fun u w' => u = (Value.string (bs res.2)) ∧ Mem w (fun k => k = g0) [blk g0 83 [v0_l, (Value.int .i64 res.1)]] w') := by
  unfold Maker_Digits at h
  refine fn_ok Tryz.func93 rfl rfl rfl ?_
  have hm0 := Mem.one hk0
  refine cw_seq ?_
  refine cw_region ?_
  refine t_rd rfl (rd_assign rfl) ?_
  refine rwt_nil ?_
  refine qn_then ?_
  refine cw_seq ?_
  refine cw_region ?_
  refine t_rd rfl (rd_move rfl) ?_
  obtain ⟨l87, h88, q89⟩ := ob h; clear h
  refine t_ef rfl (ef_make hm0 tS60 tE5 rfl rfl rfl h88) ?_
  intro v90 w92 hm91
  refine t_rd rfl (rd_assign rfl) ?_
  refine rwt_nil ?_
  refine qn_then ?_
  refine cw_seq ?_
  refine cw_seq ?_
  refine cw_region ?_
  refine t_rd rfl (rd_assign rfl) ?_
  refine rwt_nil ?_
  refine qn_then ?_
  refine cw_block ?_
  obtain ⟨r145, hit146, q147⟩ := ob q89; clear q89
  refine cw_loop2 (I := fun q envq wq => Sub [(0, (Value.pointer (some ⟨g0, 0, none⟩))), (1, (Value.int .i64 a1)), (5, v90), (6, (Value.int .i64 q.1))] envq ∧ Mem w (fun k => k = g0) [ownL 5 v90 (q.2.2 : List UInt8), blk g0 83 [v0_l, (Value.int .i64 q.2.1)]] wq) (X := fun eq envq wq => eq = .exit 0 ∧ Sub [(5, v90)] envq ∧ Mem w (fun k => k = g0) [ownL 5 v90 (r145.2 : List UInt8), blk g0 83 [v0_l, (Value.int .i64 r145.1)]] wq) hit146 ⟨(by repeat (first | exact Sub.nil _ | refine Sub.cons rfl ?_)), (hm91.pick [0, 1] (by decide) rfl)⟩ ?_ ?_
  · rintro ⟨i136, i137, l138⟩ x140 env141 w142 hf143 hr144 ⟨hs_, hm_⟩
    have hs_ : Sub [(0, (Value.pointer (some ⟨g0, 0, none⟩))), (1, (Value.int .i64 a1)), (5, v90), (6, (Value.int .i64 i136))] env141 := hs_
    have hm148 : Mem w (fun k => k = g0) [ownL 5 v90 (l138 : List UInt8), blk g0 83 [v0_l, (Value.int .i64 i137)]] w142 := hm_
    refine cw_sub hs_ ?_
    clear hs_ hm_ q147
    have h : Maker_Digits_l1 N a0_l a1 i136 i137 l138 = some x140 := hf143
    clear hf143
    refine cw_seq ?_
    refine cw_seq ?_
    refine cw_region ?_
    refine t_rd rfl (rd_move rfl) ?_
    refine t_rd rfl (rd_move rfl) ?_
    refine t_rd rfl (rd_lss rfl rfl) ?_
    refine rwt_nil ?_
    refine qn_then ?_
    obtain ⟨hb149, q150⟩ | ⟨hb149, q150⟩ := oi h <;> clear h
    · refine cw_t rfl hb149 ?_
      refine cw_skip ?_
      refine qn_then ?_
      refine cw_seq ?_
      refine cw_block ?_
      refine cw_region ?_
      refine t_rd rfl (rd_move rfl) ?_
      refine t_rd rfl (rd_move rfl) ?_
      refine t_rd rfl (rd_move rfl) ?_
      obtain ⟨r151, h152, q153⟩ := ob q150; clear q150
      refine t_ef rfl (ef_call tf39 rfl (Maker_Next_ok h152 (hv0_l.to_callT (k := 1) hm148 rfl) (hm148.get (k := 1) rfl))) ?_
      rintro _ w155 ⟨e_, hm154⟩
      obtain rfl := e_.symm
      have hm156 := hm148.callT (k := 1) rfl (fun _ h => h) hm154 (fun _ => Iff.rfl)
      obtain ⟨x157, h158, q159⟩ := ob q153; clear q153
      refine t_rd rfl (rd_add64 h158 rfl rfl) ?_
      refine t_rd rfl (rd_cv8 tH3 tI5 rfl) ?_
      obtain ⟨x160, h161, q162⟩ := ob q159; clear q159
      refine t_rd rfl (rd_index tS60 rfl rfl (hm156.sl 0 rfl) h161) ?_
      refine t_ef0 (ef_stl (k := 0) (off := 0) (x' := (toU8 x157)) hm156 tO5 rfl rfl rfl rfl h161 rfl rfl) ?_
      intro _ w164 hm163
      refine rwt_nil ?_
      refine qn_block (qn_then ?_)
      refine cw_region ?_
      refine t_rd rfl (rd_move rfl) ?_
      obtain ⟨x165, h166, q167⟩ := ob q162; clear q162
      refine t_rd rfl (rd_add64 h166 rfl rfl) ?_
      refine t_rd rfl (rd_assign rfl) ?_
      refine rwt_nil ?_
      refine qn_then ?_
      refine ⟨_, (os q167), (by repeat (first | exact Sub.nil _ | refine Sub.cons rfl ?_)), (hm163.pick [0, 1] (by decide) rfl)⟩
    · refine cw_f rfl hb149 ?_
      refine cw_exit ?_
      refine qx_then (qx_then ?_)
      obtain rfl := hr144 _ (os q150)
      exact ⟨rfl, (by repeat (first | exact Sub.nil _ | refine Sub.cons rfl ?_)), (hm148.pick [0, 1] (by decide) rfl)⟩
  · skip
    intro e env168 w169 hX170
    obtain ⟨rfl, hs171, hm172⟩ := hX170
    refine qx_same (qn_then ?_)
    refine cw_sub hs171 ?_
    refine cw_seq ?_
    refine cw_region ?_
    refine t_rd rfl (rd_move rfl) ?_
    refine t_ef rfl (Rd.ef (rd_tostr tS60.1 tU5 tStr9 rfl (hm172.sl 0 rfl))) ?_
    rintro _ _ ⟨rfl, rfl⟩
    refine t_rd rfl (rd_assign rfl) ?_
    refine rwt_nil ?_
    refine qn_then ?_
    refine cw_ret ?_
    obtain rfl := os q147
    exact ret1 rfl rfl ⟨rfl, (hm172.pick [1] (by decide) rfl)⟩

theorem r02_digits_ok {N : Nat} {a0 : List UInt8} {a1 : Int} {res : Bool} (h : r02_digits N a0 a1 = some res) {w : World}   :
    CallsR Tryz.prog 104 [(Value.string (bs a0)), (Value.int .i64 a1)] w (fun u w' => u = (Value.bool res) ∧ Mem w No [] w') := by
  unfold r02_digits at h
  refine fn_ok Tryz.func104 rfl rfl rfl ?_
  have hm0 := Mem.nil w
  refine cw_seq ?_
  refine cw_region ?_
  refine t_rd rfl (rd_assign rfl) ?_
  refine rwt_nil ?_
  refine qn_then ?_
  refine cw_seq ?_
  refine cw_seq ?_
  refine cw_region ?_
  refine t_rd rfl (rd_move rfl) ?_
  refine t_rd rfl (rd_lenst tStr9 rfl) ?_
  refine t_rd rfl (rd_move rfl) ?_
  refine t_rd rfl (rd_neq rfl rfl) ?_
  refine rwt_nil ?_
  refine qn_then ?_
  obtain ⟨hb1, q2⟩ | ⟨hb1, q2⟩ := oi h <;> clear h
  · refine cw_t rfl hb1 ?_
    refine cw_seq ?_
    refine cw_region ?_
    refine t_rd rfl (rd_assign rfl) ?_
    refine rwt_nil ?_
    refine qn_then ?_
    refine cw_ret ?_
    refine qr_then ?_
    obtain rfl := os q2
    exact ret1 rfl rfl ⟨rfl, (hm0.pick [] (by decide) rfl)⟩
  · refine cw_f rfl hb1 ?_
    refine cw_skip ?_
    refine qn_then ?_
    refine cw_seq ?_
    refine cw_seq ?_
    refine cw_region ?_
    refine t_rd rfl (rd_assign rfl) ?_
    refine rwt_nil ?_
    refine qn_then ?_
    refine cw_block ?_
    obtain ⟨r47, hit48, q49⟩ := ob q2; clear q2
    refine cw_loop2 (I := fun q envq wq => Sub [(0, (Value.string (bs a0))), (1, (Value.int .i64 a1)), (5, (Value.int .i64 q))] envq ∧ Mem w No [] wq) (X := fun eq envq wq => (∃ p50, r47 = (Sum.inl p50) ∧ eq = .ret ∧ retQ Tryz.prog 25 Tryz.f104 (fun u w' => u = (Value.bool p50) ∧ Mem w No [] w') .ret envq wq) ∨ (∃ p51, r47 = (Sum.inr p51) ∧ eq = .exit 0 ∧ Sub [] envq ∧ Mem w No [] wq)) hit48 ⟨(by repeat (first | exact Sub.nil _ | refine Sub.cons rfl ?_)), (hm0.pick [] (by decide) rfl)⟩ ?_ ?_
    · rintro i40 x42 env43 w44 hf45 hr46 ⟨hs_, hm_⟩
      have hs_ : Sub [(0, (Value.string (bs a0))), (1, (Value.int .i64 a1)), (5, (Value.int .i64 i40))] env43 := hs_
      have hm52 : Mem w No [] w44 := hm_
      refine cw_sub hs_ ?_
      clear hs_ hm_ q49
      have h : r02_digits_l1 N a0 a1 i40 = some x42 := hf45
      clear hf45
      refine cw_seq ?_
      refine cw_seq ?_
      refine cw_region ?_
      refine t_rd rfl (rd_move rfl) ?_
      refine t_rd rfl (rd_move rfl) ?_
      refine t_rd rfl (rd_lss rfl rfl) ?_
      refine rwt_nil ?_
      refine qn_then ?_
      obtain ⟨hb53, q54⟩ | ⟨hb53, q54⟩ := oi h <;> clear h
      · refine cw_t rfl hb53 ?_
        refine cw_skip ?_
        refine qn_then ?_
        refine cw_seq ?_
        refine cw_block ?_
        refine cw_seq ?_
        refine cw_region ?_
        refine t_rd rfl (rd_move rfl) ?_
        refine t_rd rfl (rd_move rfl) ?_
        obtain ⟨x55, h56, q57⟩ := ob q54; clear q54
        refine t_rd rfl (rd_sidx tStr9 rfl rfl h56) ?_
        refine t_rd rfl (rd_lss rfl rfl) ?_
        refine t_rd rfl (rd_move rfl) ?_
        refine t_rdg rfl rfl rfl rfl (gv_f _) (fun hg58 => (rd_move rfl)) ?_
        refine t_rdg rfl rfl rfl rfl (gv_f _) (fun hg59 => (rd_move rfl)) ?_
        obtain ⟨x61, h62, q63⟩ := ob q57; clear q57
        refine t_rdg rfl rfl rfl rfl (gv_f _) (fun hg60 => (rd_sidx tStr9 (gvx rfl hg60) (gvx rfl hg60) (gO_t h62 hg60))) ?_
        refine t_rdg rfl rfl rfl rfl (gv_f _) (fun hg64 => (rd_gtr (gvx rfl hg64) rfl)) ?_
        refine t_rd rfl (rd_or rfl (fun hc65 => (gvx rfl (bnotIt hc65)))) ?_
        refine rwt_nil ?_
        refine qn_then ?_
        obtain ⟨hb66, q67⟩ | ⟨hb66, q67⟩ := oi q63 <;> clear q63
        · refine cw_t rfl hb66 ?_
          refine cw_seq ?_
          refine cw_region ?_
          refine t_rd rfl (rd_assign rfl) ?_
          refine rwt_nil ?_
          refine qn_then ?_
          refine cw_ret ?_
          refine qr_block (qr_then (qr_then ?_))
          obtain rfl := hr46 _ (os q67)
          refine .inl (⟨_, rfl, ⟨rfl, ?_⟩⟩)
          exact ret1 rfl rfl ⟨rfl, (hm52.pick [] (by decide) rfl)⟩
        · refine cw_f rfl hb66 ?_
          refine cw_skip ?_
          refine qn_block (qn_then ?_)
          refine cw_region ?_
          refine t_rd rfl (rd_move rfl) ?_
          obtain ⟨x68, h69, q70⟩ := ob q67; clear q67
          refine t_rd rfl (rd_add64 h69 rfl rfl) ?_
          refine t_rd rfl (rd_assign rfl) ?_
          refine rwt_nil ?_
          refine qn_then ?_
          refine ⟨_, (os q70), (by repeat (first | exact Sub.nil _ | refine Sub.cons rfl ?_)), (hm52.pick [] (by decide) rfl)⟩
      · refine cw_f rfl hb53 ?_
        refine cw_exit ?_
        refine qx_then (qx_then ?_)
        obtain rfl := hr46 _ (os q54)
        exact .inr (⟨_, rfl, ⟨rfl, (by repeat (first | exact Sub.nil _ | refine Sub.cons rfl ?_)), (hm52.pick [] (by decide) rfl)⟩⟩)
    · skip
      intro e env71 w72 hX73
      rcases hX73 with hX73 | hX73
      · obtain ⟨p75, rfl, hX73⟩ := hX73
        obtain ⟨rfl, hq77⟩ := hX73
        exact qr_block (qr_then ((by have e := os q49; subst e; exact hq77)))
      · obtain ⟨p78, rfl, hX73⟩ := hX73
        obtain ⟨rfl, hs79, hm80⟩ := hX73
        refine qx_same (qn_then ?_)
        refine cw_sub hs79 ?_
        refine cw_seq ?_
        refine cw_region ?_
        refine t_rd rfl (rd_assign rfl) ?_
        refine rwt_nil ?_
        refine qn_then ?_
        refine cw_ret ?_
        obtain rfl := os q49
        exact ret1 rfl rfl ⟨rfl, (hm80.pick [] (by decide) rfl)⟩

theorem r02_sum_ok {N : Nat} {a0 : List UInt8} {a1 : Int} {res : Int} (h : r02_sum N a0 a1 = some res) {w : World}   :
    CallsR Tryz.prog 105 [(Value.string (bs a0)), (Value.int .i64 a1)] w (fun u w' => u = (Value.int .i64 res) ∧ Mem w No [] w') := by
  unfold r02_sum at h
  refine fn_ok Tryz.func105 rfl rfl rfl ?_
  have hm0 := Mem.nil w
  refine cw_seq ?_
  refine cw_region ?_
  refine t_rd rfl (rd_assign rfl) ?_
  refine rwt_nil ?_
  refine qn_then ?_
  refine cw_seq ?_
  refine cw_region ?_
  refine t_rd rfl (rd_assign rfl) ?_
  refine rwt_nil ?_
  refine qn_then ?_
  refine cw_seq ?_
  refine cw_seq ?_
  refine cw_region ?_
  refine t_rd rfl (rd_assign rfl) ?_
  refine rwt_nil ?_
  refine qn_then ?_
  refine cw_block ?_
  obtain ⟨r84, hit85, q86⟩ := ob h; clear h
  refine cw_loop2 (I := fun q envq wq => Sub [(0, (Value.string (bs a0))), (1, (Value.int .i64 a1)), (5, (Value.int .i64 q.1)), (6, (Value.int .i64 q.2))] envq ∧ Mem w No [] wq) (X := fun eq envq wq => eq = .exit 0 ∧ Sub [(5, (Value.int .i64 r84))] envq ∧ Mem w No [] wq) hit85 ⟨(by repeat (first | exact Sub.nil _ | refine Sub.cons rfl ?_)), (hm0.pick [] (by decide) rfl)⟩ ?_ ?_
  · rintro ⟨i76, i77⟩ x79 env80 w81 hf82 hr83 ⟨hs_, hm_⟩
    have hs_ : Sub [(0, (Value.string (bs a0))), (1, (Value.int .i64 a1)), (5, (Value.int .i64 i76)), (6, (Value.int .i64 i77))] env80 := hs_
    have hm87 : Mem w No [] w81 := hm_
    refine cw_sub hs_ ?_
    clear hs_ hm_ q86
    have h : r02_sum_l1 N a0 a1 i76 i77 = some x79 := hf82
    clear hf82
    refine cw_seq ?_
    refine cw_seq ?_
    refine cw_region ?_
    refine t_rd rfl (rd_move rfl) ?_
    refine t_rd rfl (rd_move rfl) ?_
    refine t_rd rfl (rd_lss rfl rfl) ?_
    refine rwt_nil ?_
    refine qn_then ?_
    obtain ⟨hb88, q89⟩ | ⟨hb88, q89⟩ := oi h <;> clear h
    · refine cw_t rfl hb88 ?_
      refine cw_skip ?_
      refine qn_then ?_
      refine cw_seq ?_
      refine cw_block ?_
      refine cw_seq ?_
      refine cw_region ?_
      refine t_rd rfl (rd_move rfl) ?_
      refine t_rd rfl (rd_move rfl) ?_
      obtain ⟨x90, h91, q92⟩ := ob q89; clear q89
      refine t_rd rfl (rd_sidx tStr9 rfl rfl h91) ?_
      refine t_rd rfl (rd_sub_u8 rfl rfl) ?_
      obtain ⟨x93, h94, q95⟩ := ob q92; clear q92
      refine t_rd rfl (rd_cv64 tH5 tI3 h94 rfl) ?_
      refine t_rd rfl (rd_assign rfl) ?_
      refine rwt_nil ?_
      refine qn_then ?_
      refine cw_seq ?_
      refine cw_seq ?_
      refine cw_region ?_
      refine t_rd rfl (rd_move rfl) ?_
      refine t_rd rfl (rd_rem rfl rfl (by decide)) ?_
      refine t_rd rfl (rd_eql rfl rfl) ?_
      refine rwt_nil ?_
      refine qn_then ?_
      obtain ⟨hb96, q97⟩ | ⟨hb96, q97⟩ := oi q95 <;> clear q95
      · refine cw_t rfl hb96 ?_
        refine cw_seq ?_
        refine cw_region ?_
        refine t_rd rfl (rd_move rfl) ?_
        obtain ⟨x98, h99, q100⟩ := ob q97; clear q97
        refine t_rd rfl (rd_mul64 h99 rfl rfl) ?_
        refine t_rd rfl (rd_assign rfl) ?_
        refine rwt_nil ?_
        refine qn_then ?_
        refine cw_seq ?_
        refine cw_region ?_
        refine t_rd rfl (rd_move rfl) ?_
        refine t_rd rfl (rd_gtr rfl rfl) ?_
        refine rwt_nil ?_
        refine qn_then ?_
        obtain ⟨hb101, q102⟩ | ⟨hb101, q102⟩ := oi q100 <;> clear q100
        · refine cw_t rfl hb101 ?_
          refine cw_region ?_
          refine t_rd rfl (rd_move rfl) ?_
          obtain ⟨x103, h104, q105⟩ := ob q102; clear q102
          refine t_rd rfl (rd_sub64 h104 rfl rfl) ?_
          refine t_rd rfl (rd_assign rfl) ?_
          refine rwt_nil ?_
          refine qn_then ?_
          refine cw_region ?_
          refine t_rd rfl (rd_move rfl) ?_
          refine t_rd rfl (rd_move rfl) ?_
          obtain ⟨x106, h107, q108⟩ := ob q105; clear q105
          refine t_rd rfl (rd_add64 h107 rfl rfl) ?_
          refine t_rd rfl (rd_assign rfl) ?_
          refine rwt_nil ?_
          refine qn_block (qn_then ?_)
          refine cw_region ?_
          refine t_rd rfl (rd_move rfl) ?_
          obtain ⟨x109, h110, q111⟩ := ob q108; clear q108
          refine t_rd rfl (rd_add64 h110 rfl rfl) ?_
          refine t_rd rfl (rd_assign rfl) ?_
          refine rwt_nil ?_
          refine qn_then ?_
          refine ⟨_, (os q111), (by repeat (first | exact Sub.nil _ | refine Sub.cons rfl ?_)), (hm87.pick [] (by decide) rfl)⟩
        · refine cw_f rfl hb101 ?_
          refine cw_skip ?_
          refine qn_then ?_
          refine cw_region ?_
          refine t_rd rfl (rd_move rfl) ?_
          refine t_rd rfl (rd_move rfl) ?_
          obtain ⟨x112, h113, q114⟩ := ob q102; clear q102
          refine t_rd rfl (rd_add64 h113 rfl rfl) ?_
          refine t_rd rfl (rd_assign rfl) ?_
          refine rwt_nil ?_
          refine qn_block (qn_then ?_)
          refine cw_region ?_
          refine t_rd rfl (rd_move rfl) ?_
          obtain ⟨x115, h116, q117⟩ := ob q114; clear q114
          refine t_rd rfl (rd_add64 h116 rfl rfl) ?_
          refine t_rd rfl (rd_assign rfl) ?_
          refine rwt_nil ?_
          refine qn_then ?_
          refine ⟨_, (os q117), (by repeat (first | exact Sub.nil _ | refine Sub.cons rfl ?_)), (hm87.pick [] (by decide) rfl)⟩
      · refine cw_f rfl hb96 ?_
        refine cw_skip ?_
        refine qn_then ?_
        refine cw_region ?_
        refine t_rd rfl (rd_move rfl) ?_
        refine t_rd rfl (rd_move rfl) ?_
        obtain ⟨x118, h119, q120⟩ := ob q97; clear q97
        refine t_rd rfl (rd_add64 h119 rfl rfl) ?_
        refine t_rd rfl (rd_assign rfl) ?_
        refine rwt_nil ?_
        refine qn_block (qn_then ?_)
        refine cw_region ?_
        refine t_rd rfl (rd_move rfl) ?_
        obtain ⟨x121, h122, q123⟩ := ob q120; clear q120
        refine t_rd rfl (rd_add64 h122 rfl rfl) ?_
        refine t_rd rfl (rd_assign rfl) ?_
        refine rwt_nil ?_
        refine qn_then ?_
        refine ⟨_, (os q123), (by repeat (first | exact Sub.nil _ | refine Sub.cons rfl ?_)), (hm87.pick [] (by decide) rfl)⟩
    · refine cw_f rfl hb88 ?_
      refine cw_exit ?_
      refine qx_then (qx_then ?_)
      obtain rfl := hr83 _ (os q89)
      exact ⟨rfl, (by repeat (first | exact Sub.nil _ | refine Sub.cons rfl ?_)), (hm87.pick [] (by decide) rfl)⟩
  · skip
    intro e env124 w125 hX126
    obtain ⟨rfl, hs127, hm128⟩ := hX126
    refine qx_same (qn_then ?_)
    refine cw_sub hs127 ?_
    refine cw_seq ?_
    refine cw_region ?_
    refine t_rd rfl (rd_move rfl) ?_
    refine t_rd rfl (rd_assign rfl) ?_
    refine rwt_nil ?_
    refine qn_then ?_
    refine cw_ret ?_
    obtain rfl := os q86
    exact ret1 rfl rfl ⟨rfl, (hm128.pick [] (by decide) rfl)⟩

theorem r02_Digit_ok {N : Nat} {a0 : List UInt8} {res : Int × Int} (h : r02_Digit N a0 = some res) {w : World}   :
    CallsR Tryz.prog 94 [(Value.string (bs a0))] w (fun u w' => u = (Value.tuple #[(Value.int .i64 res.1), (Value.int .i64 res.2)]) ∧ Mem w No [] w') := by
  unfold r02_Digit at h
  refine fn_ok Tryz.func94 rfl rfl rfl ?_
  have hm0 := Mem.nil w
  refine cw_seq ?_
  refine cw_region ?_
  refine t_rd rfl (rd_assign rfl) ?_
  refine t_rd rfl (rd_assign rfl) ?_
  refine rwt_nil ?_
  refine qn_then ?_
  refine cw_seq ?_
  refine cw_seq ?_
  refine cw_region ?_
  refine t_rd rfl (rd_move rfl) ?_
  obtain ⟨r1, h2, q3⟩ := ob h; clear h
  refine t_ef rfl (ef_call tf104 rfl (r02_digits_ok h2)) ?_
  rintro _ w5 ⟨e_, hm4⟩
  obtain rfl := e_.symm
  have hm6 := hm0.call hm4
  refine t_rd rfl (rd_not rfl) ?_
  refine rwt_nil ?_
  refine qn_then ?_
  obtain ⟨hb7, q8⟩ | ⟨hb7, q8⟩ := oi q3 <;> clear q3
  · refine cw_t rfl hb7 ?_
    refine cw_seq ?_
    refine cw_region ?_
    refine t_rd rfl (rd_assign rfl) ?_
    refine t_rd rfl (rd_assign rfl) ?_
    refine rwt_nil ?_
    refine qn_then ?_
    refine cw_ret ?_
    refine qr_then ?_
    obtain rfl := os q8
    exact ret2 rfl rfl rfl ⟨rfl, (hm6.pick [] (by decide) rfl)⟩
  · refine cw_f rfl hb7 ?_
    refine cw_skip ?_
    refine qn_then ?_
    refine cw_seq ?_
    refine cw_region ?_
    refine t_rd rfl (rd_move rfl) ?_
    obtain ⟨r9, h10, q11⟩ := ob q8; clear q8
    refine t_ef rfl (ef_call tf105 rfl (r02_sum_ok h10)) ?_
    rintro _ w13 ⟨e_, hm12⟩
    obtain rfl := e_.symm
    have hm14 := hm6.call hm12
    refine t_rd rfl (rd_rem rfl rfl (by decide)) ?_
    obtain ⟨x15, h16, q17⟩ := ob q11; clear q11
    refine t_rd rfl (rd_sub64 h16 rfl rfl) ?_
    refine t_rd rfl (rd_rem rfl rfl (by decide)) ?_
    refine t_rd rfl (rd_assign rfl) ?_
    refine t_rd rfl (rd_assign rfl) ?_
    refine rwt_nil ?_
    refine qn_then ?_
    refine cw_ret ?_
    obtain rfl := os q17
    exact ret2 rfl rfl rfl ⟨rfl, (hm14.pick [] (by decide) rfl)⟩

theorem Maker_Number_ok {N : Nat} {a0_l : List Int} {a0_n : Int} {a1 : Int} {res : Int × List UInt8} (h : Maker_Number N a0_l a0_n a1 = some res) {w : World} {v0_l : Value} {g0 : Nat} (hv0_l : Sl (Old w (fun k => k = g0)) w v0_l a0_l) (hk0 : (blk g0 83 [v0_l, (Value.int .i64 a0_n)]).φ w) :
    CallsR Tryz.prog 71 [(Value.pointer (some ⟨g0, 0, none⟩)), (Value.int .i64 a1)] w (fun u w' => u = (Value.string (bs res.2)) ∧ Mem w (fun k => k = g0) [blk g0 83 [v0_l, (Value.int .i64 res.1)]] w') := by
  unfold Maker_Number at h
  refine fn_ok Tryz.func71 rfl rfl rfl ?_
  have hm0 := Mem.one hk0
  refine cw_seq ?_
  refine cw_region ?_
  refine t_rd rfl (rd_assign rfl) ?_
  refine rwt_nil ?_
  refine qn_then ?_
  refine cw_seq ?_
  refine cw_region ?_
  refine t_rd rfl (rd_move rfl) ?_
  obtain ⟨r58, h59, q60⟩ := ob h; clear h
  refine t_ef rfl (ef_call tf93 rfl (Maker_Digits_ok h59 (hv0_l.to_callT (k := 0) hm0 rfl) (hm0.get (k := 0) rfl))) ?_
  rintro _ w62 ⟨e_, hm61⟩
  obtain rfl := e_.symm
  have hm63 := hm0.callT (k := 0) rfl (fun _ h => h) hm61 (fun _ => Iff.rfl)
  obtain ⟨l64, h65, q66⟩ := ob q60; clear q60
  refine t_ef rfl (ef_bytes hm63 tStr9 tS60.1 tU5 rfl h65) ?_
  intro v67 w69 hm68
  refine t_rd rfl (rd_assign rfl) ?_
  refine rwt_nil ?_
  refine qn_then ?_
  refine cw_seq ?_
  refine cw_region ?_
  refine t_rd rfl (rd_move rfl) ?_
  refine t_rd rfl (rd_move rfl) ?_
  refine t_rd rfl (rd_move rfl) ?_
  refine t_rd rfl (rd_move rfl) ?_
  obtain ⟨x70, h71, q72⟩ := ob q66; clear q66
  refine t_rd rfl (rd_quo64 h71 rfl rfl) ?_
  refine t_rd rfl (rd_rem rfl rfl (by decide)) ?_
  obtain ⟨x73, h74, q75⟩ := ob q72; clear q72
  refine t_rd rfl (rd_add64 h74 rfl rfl) ?_
  refine t_rd rfl (rd_cv8 tH3 tI5 rfl) ?_
  refine t_rd rfl (rd_move rfl) ?_
  obtain ⟨x76, h77, q78⟩ := ob q75; clear q75
  refine t_rd rfl (rd_quo64 h77 rfl rfl) ?_
  refine t_rd rfl (rd_rem rfl rfl (by decide)) ?_
  obtain ⟨x79, h80, q81⟩ := ob q78; clear q78
  refine t_rd rfl (rd_add64 h80 rfl rfl) ?_
  refine t_rd rfl (rd_cv8 tH3 tI5 rfl) ?_
  refine t_rd rfl (rd_move rfl) ?_
  refine t_rd rfl (rd_rem rfl rfl (by decide)) ?_
  obtain ⟨x82, h83, q84⟩ := ob q81; clear q81
  refine t_rd rfl (rd_add64 h83 rfl rfl) ?_
  refine t_rd rfl (rd_cv8 tH3 tI5 rfl) ?_
  obtain ⟨x85, h86, q87⟩ := ob q84; clear q84
  refine t_rd rfl (rd_index tS60 rfl rfl (hm68.slz 0 rfl) h86) ?_
  refine t_ef0 (ef_stlZ (k := 0) (off := 0) (x' := (toU8 x73)) hm68 tO5 rfl rfl rfl rfl h86 rfl rfl) ?_
  intro _ w89 hm88
  obtain ⟨x90, h91, q92⟩ := ob q87; clear q87
  refine t_rd rfl (rd_index tS60 rfl rfl (hm88.slz 0 rfl) h91) ?_
  refine t_ef0 (ef_stlZ (k := 0) (off := 0) (x' := (toU8 x79)) hm88 tO5 rfl rfl rfl rfl h91 rfl rfl) ?_
  intro _ w94 hm93
  obtain ⟨x95, h96, q97⟩ := ob q92; clear q92
  refine t_rd rfl (rd_index tS60 rfl rfl (hm93.slz 0 rfl) h96) ?_
  refine t_ef0 (ef_stlZ (k := 0) (off := 0) (x' := (toU8 x82)) hm93 tO5 rfl rfl rfl rfl h96 rfl rfl) ?_
  intro _ w99 hm98
  refine rwt_nil ?_
  refine qn_then ?_
  refine cw_seq ?_
  refine cw_region ?_
  refine t_rd rfl (rd_move rfl) ?_
  refine t_ef rfl (Rd.ef (rd_tostr tS60.1 tU5 tStr9 rfl (hm98.slz 0 rfl))) ?_
  rintro _ _ ⟨rfl, rfl⟩
  obtain ⟨r100, h101, q102⟩ := ob q97; clear q97
  refine t_ef rfl (ef_call tf94 rfl (r02_Digit_ok h101)) ?_
  rintro _ w104 ⟨e_, hm103⟩
  obtain rfl := e_.symm
  have hm105 := hm98.call hm103
  refine t_rd rfl (rd_move rfl) ?_
  refine t_rd rfl (rd_extract rfl rfl) ?_
  refine t_rd rfl (rd_extract rfl rfl) ?_
  refine t_rd rfl (rd_assign rfl) ?_
  refine t_rd rfl (rd_assign rfl) ?_
  refine rwt_nil ?_
  refine qn_then ?_
  refine cw_seq ?_
  refine cw_region ?_
  refine t_rd rfl (rd_move rfl) ?_
  refine t_ef rfl (Rd.ef (rd_tostr tS60.1 tU5 tStr9 rfl (hm105.slz 0 rfl))) ?_
  rintro _ _ ⟨rfl, rfl⟩
  refine t_rd rfl (rd_move rfl) ?_
  obtain ⟨x106, h107, q108⟩ := ob q102; clear q102
  refine t_rd rfl (rd_add64 h107 rfl rfl) ?_
  refine t_rd rfl (rd_cv8 tH3 tI5 rfl) ?_
  refine t_ef rfl (ef_bslice (l := ([(toU8 x106)] : List UInt8)) hm105 tS60 rfl (cs := #[(Value.int .u8 ((toU8 x106).toNat : Int))]) (by unfold bsl; kernel_rfl) rfl rfl) ?_
  intro v109 w111 hm110
  refine t_ef rfl (Rd.ef (rd_tostr tS60.1 tU5 tStr9 rfl (hm110.sl 0 rfl))) ?_
  rintro _ _ ⟨rfl, rfl⟩
  obtain ⟨l112, h113, q114⟩ := ob q108; clear q108
  refine t_rd rfl (rd_cat h113 rfl rfl) ?_
  refine t_rd rfl (rd_assign rfl) ?_
  refine rwt_nil ?_
  refine qn_then ?_
  refine cw_ret ?_
  obtain rfl := os q114
  exact ret1 rfl rfl ⟨rfl, (hm110.pick [2] (by decide) rfl)⟩

theorem Maker_Pick_ok {N : Nat} {a0_l : List Int} {a0_n : Int} {a1 : List Int} {res : Int × Int} (h : Maker_Pick N a0_l a0_n a1 = some res) {w : World} {v0_l : Value} {g0 : Nat} {v1 : Value} (hv0_l : Sl (Old w (fun k => k = g0)) w v0_l a0_l) (hk0 : (blk g0 83 [v0_l, (Value.int .i64 a0_n)]).φ w) (hv1 : Sl (Old w (fun k => k = g0)) w v1 a1) :
    CallsR Tryz.prog 23 [(Value.pointer (some ⟨g0, 0, none⟩)), v1] w (fun u w' => u = (Value.int .i64 res.2) ∧ Mem w (fun k => k = g0) [blk g0 83 [v0_l, (Value.int .i64 res.1)]] w') := by
  unfold Maker_Pick at h
  refine fn_ok Tryz.func23 rfl rfl rfl ?_
  have hm0 := Mem.one hk0
  refine cw_seq ?_
  refine cw_region ?_
  refine t_rd rfl (rd_assign rfl) ?_
  refine rwt_nil ?_
  refine qn_then ?_
  refine cw_seq ?_
  refine cw_region ?_
  refine t_rd rfl (rd_move rfl) ?_
  refine t_rd rfl (rd_move rfl) ?_
  refine t_rd rfl (rd_move rfl) ?_
  refine t_rd rfl (rd_lenS tS22 rfl (hv1.of_old hm0)) ?_
  obtain ⟨r10, h11, q12⟩ := ob h; clear h
  refine t_ef rfl (ef_call tf39 rfl (Maker_Next_ok h11 (hv0_l.to_callT (k := 0) hm0 rfl) (hm0.get (k := 0) rfl))) ?_
  rintro _ w14 ⟨e_, hm13⟩
  obtain rfl := e_.symm
  have hm15 := hm0.callT (k := 0) rfl (fun _ h => h) hm13 (fun _ => Iff.rfl)
  obtain ⟨x16, h17, q18⟩ := ob q12; clear q12
  refine t_rd rfl (rd_index tS22 rfl rfl (hv1.of_old hm15) h17) ?_
  refine t_rd rfl (rd_ld1 tO3 rfl ((hv1.of_old hm15).cells h17) (off := 0) rfl) ?_
  refine t_rd rfl (rd_assign rfl) ?_
  refine rwt_nil ?_
  refine qn_then ?_
  refine cw_ret ?_
  obtain rfl := os q18
  exact ret1 rfl rfl ⟨rfl, (hm15.pick [0] (by decide) rfl)⟩

theorem Maker_Name_ok {N : Nat} {a0_l : List Int} {a0_n : Int} {res : Int × List UInt8} (h : Maker_Name N a0_l a0_n = some res) {w : World} {v0_l : Value} {g0 : Nat} (hv0_l : Sl (Old w (fun k => k = g0)) w v0_l a0_l) (hk0 : (blk g0 83 [v0_l, (Value.int .i64 a0_n)]).φ w) :
    CallsR Tryz.prog 72 [(Value.pointer (some ⟨g0, 0, none⟩))] w (fun u w' => u = (Value.string (bs res.2)) ∧ Mem w (fun k => k = g0) [blk g0 83 [v0_l, (Value.int .i64 res.1)]] w') := by
  unfold Maker_Name at h
  refine fn_ok Tryz.func72 rfl rfl rfl ?_
  have hm0 := Mem.one hk0
  refine cw_seq ?_
  refine cw_region ?_
  refine t_rd rfl (rd_assign rfl) ?_
  refine rwt_nil ?_
  refine qn_then ?_
  refine cw_seq ?_
  refine cw_region ?_
  refine t_ef rfl (ef_bslice (l := ([(Str.mk ([97] : List UInt8)), (Str.mk ([98] : List UInt8)), (Str.mk ([99] : List UInt8)), (Str.mk ([100] : List UInt8)), (Str.mk ([101] : List UInt8)), (Str.mk ([110, 111, 114, 116, 104] : List UInt8)), (Str.mk ([115, 111, 117, 116, 104] : List UInt8)), (Str.mk ([112, 111, 114, 116, 49] : List UInt8)), (Str.mk ([120, 57] : List UInt8)), (Str.mk ([97, 98, 99, 100, 101, 102, 103, 104, 105, 106, 107, 108] : List UInt8))] : List Str)) hm0 tS65 rfl (cs := #[(Value.string (bs ([97] : List UInt8))), (Value.string (bs ([98] : List UInt8))), (Value.string (bs ([99] : List UInt8))), (Value.string (bs ([100] : List UInt8))), (Value.string (bs ([101] : List UInt8))), (Value.string (bs ([110, 111, 114, 116, 104] : List UInt8))), (Value.string (bs ([115, 111, 117, 116, 104] : List UInt8))), (Value.string (bs ([112, 111, 114, 116, 49] : List UInt8))), (Value.string (bs ([120, 57] : List UInt8))), (Value.string (bs ([97, 98, 99, 100, 101, 102, 103, 104, 105, 106, 107, 108] : List UInt8)))]) (by unfold bsl; kernel_rfl) rfl rfl) ?_
  intro v13 w15 hm14
  refine t_rd rfl (rd_move rfl) ?_
  obtain ⟨r16, h17, q18⟩ := ob h; clear h
  refine t_ef rfl (ef_call tf39 rfl (Maker_Next_ok h17 (hv0_l.to_callT (k := 1) hm14 rfl) (hm14.get (k := 1) rfl))) ?_
  rintro _ w20 ⟨e_, hm19⟩
  obtain rfl := e_.symm
  have hm21 := hm14.callT (k := 1) rfl (fun _ h => h) hm19 (fun _ => Iff.rfl)
  obtain ⟨x22, h23, q24⟩ := ob q18; clear q18
  refine t_rd rfl (rd_index tS65 rfl rfl (hm21.sl 0 rfl) h23) ?_
  refine t_rd rfl (rd_ld1 tO9 rfl ((hm21.sl 0 rfl).cells h23) (off := 0) rfl) ?_
  refine t_rd rfl (rd_assign rfl) ?_
  refine rwt_nil ?_
  refine qn_then ?_
  refine cw_ret ?_
  obtain rfl := os q24
  exact ret1 rfl rfl ⟨rfl, (hm21.pick [1] (by decide) rfl)⟩

theorem Maker_Wagon_ok {N : Nat} {a0_l : List Int} {a0_n : Int} {a1 : Int} {res : Int × T_Wagon} (h : Maker_Wagon N a0_l a0_n a1 = some res) {w : World} {v0_l : Value} {g0 : Nat} (hv0_l : Sl (Old w (fun k => k = g0)) w v0_l a0_l) (hk0 : (blk g0 83 [v0_l, (Value.int .i64 a0_n)]).φ w) :
    CallsR Tryz.prog 40 [(Value.pointer (some ⟨g0, 0, none⟩)), (Value.int .i64 a1)] w (fun u w' => u = (Value.agg (Flat.enc res.2).toArray) ∧ Mem w (fun k => k = g0) [blk g0 83 [v0_l, (Value.int .i64 res.1)]] w') := by
  unfold Maker_Wagon at h
  refine fn_ok Tryz.func40 rfl rfl rfl ?_
  have hm0 := Mem.one hk0
  refine cw_seq ?_
  refine cw_region ?_
  refine t_ef rfl (ef_alloc hm0 tZ51 rfl) ?_
  rintro _ w163 ⟨g161, rfl, hm162⟩
  refine rwt_nil ?_
  refine qn_then ?_
  refine cw_seq ?_
  refine cw_region ?_
  refine t_rd rfl (rd_move rfl) ?_
  refine t_rd rfl (rd_move rfl) ?_
  obtain ⟨r164, h165, q166⟩ := ob h; clear h
  refine t_ef rfl (ef_call tf71 rfl (Maker_Number_ok h165 (hv0_l.to_callT (k := 1) hm162 rfl) (hm162.get (k := 1) rfl))) ?_
  rintro _ w168 ⟨e_, hm167⟩
  obtain rfl := e_.symm
  have hm169 := hm162.callT (k := 1) rfl (fun _ h => h) hm167 (fun _ => Iff.rfl)
  refine t_rd rfl (rd_move rfl) ?_
  refine t_ef rfl (ef_bslice (l := ([80, 120, 142, 199, 262, 400] : List Int)) hm169 tS22 rfl (cs := #[(Value.int .i64 80), (Value.int .i64 120), (Value.int .i64 142), (Value.int .i64 199), (Value.int .i64 262), (Value.int .i64 400)]) (by unfold bsl; kernel_rfl) rfl rfl) ?_
  intro v170 w172 hm171
  obtain ⟨r173, h174, q175⟩ := ob q166; clear q166
  refine t_ef rfl (ef_call tf23 rfl (Maker_Pick_ok h174 (hv0_l.to_callT (k := 2) hm171 rfl) (hm171.get (k := 2) rfl) (hm171.sl_callT 0 2 rfl rfl (by decide)))) ?_
  rintro _ w177 ⟨e_, hm176⟩
  obtain rfl := e_.symm
  have hm178 := hm171.callT (k := 2) rfl (fun _ h => h) hm176 (fun _ => Iff.rfl)
  refine t_rd rfl (rd_move rfl) ?_
  refine t_ef rfl (ef_bslice (l := ([50, 120, 400, 800, 2000] : List Int)) hm178 tS22 rfl (cs := #[(Value.int .i64 50), (Value.int .i64 120), (Value.int .i64 400), (Value.int .i64 800), (Value.int .i64 2000)]) (by unfold bsl; kernel_rfl) rfl rfl) ?_
  intro v179 w181 hm180
  obtain ⟨r182, h183, q184⟩ := ob q175; clear q175
  refine t_ef rfl (ef_call tf23 rfl (Maker_Pick_ok h183 (hv0_l.to_callT (k := 3) hm180 rfl) (hm180.get (k := 3) rfl) (hm180.sl_callT 0 3 rfl rfl (by decide)))) ?_
  rintro _ w186 ⟨e_, hm185⟩
  obtain rfl := e_.symm
  have hm187 := hm180.callT (k := 3) rfl (fun _ h => h) hm185 (fun _ => Iff.rfl)
  refine t_rd rfl (rd_move rfl) ?_
  refine t_ef rfl (ef_bslice (l := ([0, 0, 0, 1, 3, 9] : List Int)) hm187 tS22 rfl (cs := #[(Value.int .i64 0), (Value.int .i64 0), (Value.int .i64 0), (Value.int .i64 1), (Value.int .i64 3), (Value.int .i64 9)]) (by unfold bsl; kernel_rfl) rfl rfl) ?_
  intro v188 w190 hm189
  obtain ⟨r191, h192, q193⟩ := ob q184; clear q184
  refine t_ef rfl (ef_call tf23 rfl (Maker_Pick_ok h192 (hv0_l.to_callT (k := 4) hm189 rfl) (hm189.get (k := 4) rfl) (hm189.sl_callT 0 4 rfl rfl (by decide)))) ?_
  rintro _ w195 ⟨e_, hm194⟩
  obtain rfl := e_.symm
  have hm196 := hm189.callT (k := 4) rfl (fun _ h => h) hm194 (fun _ => Iff.rfl)
  refine t_rd rfl (rd_move rfl) ?_
  obtain ⟨r197, h198, q199⟩ := ob q193; clear q193
  refine t_ef rfl (ef_call tf39 rfl (Maker_Next_ok h198 (hv0_l.to_callT (k := 4) hm196 rfl) (hm196.get (k := 4) rfl))) ?_
  rintro _ w201 ⟨e_, hm200⟩
  obtain rfl := e_.symm
  have hm202 := hm196.callT (k := 4) rfl (fun _ h => h) hm200 (fun _ => Iff.rfl)
  refine t_rd rfl (rd_eql rfl rfl) ?_
  refine t_rd rfl (rd_move rfl) ?_
  obtain ⟨r203, h204, q205⟩ := ob q199; clear q199
  refine t_ef rfl (ef_call tf72 rfl (Maker_Name_ok h204 (hv0_l.to_callT (k := 4) hm202 rfl) (hm202.get (k := 4) rfl))) ?_
  rintro _ w207 ⟨e_, hm206⟩
  obtain rfl := e_.symm
  have hm208 := hm202.callT (k := 4) rfl (fun _ h => h) hm206 (fun _ => Iff.rfl)
  refine t_rd rfl (rd_build (cs := #[(Value.string (bs r164.2)), (Value.int .i64 r173.2), (Value.int .i64 4), (Value.int .i64 r182.2), (Value.int .i64 0), (Value.int .i64 r191.2), (Value.bool (decide (r197.2 = 0))), (Value.string (bs r203.2))]) rfl (by kernel_rfl)) ?_
  refine t_ef rfl (ef_alloc hm208 tZ51 rfl) ?_
  rintro _ w211 ⟨g209, rfl, hm210⟩
  refine t_ef0 (ef_stw (k := 0) hm210 tA51 rfl rfl (oc_cons rfl (oc_cons rfl (oc_cons rfl (oc_cons rfl (oc_cons rfl (oc_cons rfl (oc_cons rfl (oc_cons rfl oc_nil)))))))) rfl rfl rfl) ?_
  intro _ w213 hm212
  refine rwt_nil ?_
  refine qn_then ?_
  refine cw_seq ?_
  refine cw_seq ?_
  refine cw_region ?_
  refine t_rd rfl (rd_fld tF51_0 rfl) ?_
  refine t_rd rfl (rd_ld1 tO9 rfl (hm212.blk 0 rfl) (off := 0) rfl) ?_
  obtain ⟨x214, h215, q216⟩ := ob q205; clear q205
  refine t_rd rfl (rd_sidx tStr9 rfl rfl h215) ?_
  refine rwt_nil ?_
  refine qn_then ?_
  obtain ⟨j242, hit243, q244⟩ := ob q216; clear q216
  refine cw_join (X := fun eq envq wq => eq = .normal ∧ Sub [(0, (Value.pointer (some ⟨g0, 0, none⟩))), (4, (Value.pointer (some ⟨g161, 0, none⟩))), (5, (Value.pointer (some ⟨g209, 0, none⟩)))] envq ∧ Mem w (fun k => k = g0) [blk g209 51 [(Value.string (bs r164.2)), (Value.int .i64 j242.1), (Value.int .i64 j242.2), (Value.int .i64 r182.2), (Value.int .i64 0), (Value.int .i64 r191.2), (Value.bool (decide (r197.2 = 0))), (Value.string (bs r203.2))], blk g161 51 [(Value.string (bs [])), (Value.int .i64 0), (Value.int .i64 0), (Value.int .i64 0), (Value.int .i64 0), (Value.int .i64 0), (Value.bool false), (Value.string (bs []))], blk g0 83 [v0_l, (Value.int .i64 r203.1)]] wq) ?_ ?_
  · clear q244
    refine cw_block ?_
    refine cw_seq ?_
    refine cw_seq ?_
    refine cw_region ?_
    refine t_rd rfl (rd_eql rfl rfl) ?_
    refine t_rd rfl (rd_assign rfl) ?_
    refine rwt_nil ?_
    refine qn_then ?_
    obtain ⟨j248, hit249, q250⟩ := ob hit243; clear hit243
    refine cw_join (X := fun eq envq wq => eq = .normal ∧ Sub [(0, (Value.pointer (some ⟨g0, 0, none⟩))), (4, (Value.pointer (some ⟨g161, 0, none⟩))), (5, (Value.pointer (some ⟨g209, 0, none⟩))), (26, (Value.int .u8 (x214.toNat : Int))), (27, (Value.bool j248))] envq ∧ Mem w (fun k => k = g0) [blk g209 51 [(Value.string (bs r164.2)), (Value.int .i64 r173.2), (Value.int .i64 4), (Value.int .i64 r182.2), (Value.int .i64 0), (Value.int .i64 r191.2), (Value.bool (decide (r197.2 = 0))), (Value.string (bs r203.2))], blk g161 51 [(Value.string (bs [])), (Value.int .i64 0), (Value.int .i64 0), (Value.int .i64 0), (Value.int .i64 0), (Value.int .i64 0), (Value.bool false), (Value.string (bs []))], blk g0 83 [v0_l, (Value.int .i64 r203.1)]] wq) ?_ ?_
    · clear q250
      obtain ⟨hb251, q252⟩ | ⟨hb251, q252⟩ := oi hit249 <;> clear hit249
      · refine cw_t rfl hb251 ?_
        refine cw_skip ?_
        obtain rfl := os q252
        exact ⟨rfl, (by repeat (first | exact Sub.nil _ | refine Sub.cons rfl ?_)), (hm212.pick [0, 4, 5] (by decide) rfl)⟩
      · refine cw_f rfl hb251 ?_
        refine cw_region ?_
        refine t_rd rfl (rd_eql rfl rfl) ?_
        refine t_rd rfl (rd_assign rfl) ?_
        refine rwt_nil ?_
        obtain rfl := os q252
        exact ⟨rfl, (by repeat (first | exact Sub.nil _ | refine Sub.cons rfl ?_)), (hm212.pick [0, 4, 5] (by decide) rfl)⟩
    · clear hit249
      intro e env253 w254 hX255
      obtain ⟨rfl, hs256, hm257⟩ := hX255
      refine qn_then ?_
      refine cw_sub hs256 ?_
      obtain ⟨hb258, q259⟩ | ⟨hb258, q259⟩ := oi q250 <;> clear q250
      · refine cw_t rfl hb258 ?_
        refine cw_region ?_
        refine t_rd rfl (rd_fld tF51_2 rfl) ?_
        refine t_ef0 (ef_st1 (k := 0) (off := 2) hm257 tO3 rfl rfl rfl rfl rfl rfl) ?_
        intro _ w261 hm260
        refine rwt_nil ?_
        refine qn_block ?_
        obtain rfl := os q259
        exact ⟨rfl, (by repeat (first | exact Sub.nil _ | refine Sub.cons rfl ?_)), (hm260.pick [0, 1, 2] (by decide) rfl)⟩
      · refine cw_f rfl hb258 ?_
        refine cw_seq ?_
        refine cw_region ?_
        refine t_rd rfl (rd_eql rfl rfl) ?_
        refine t_rd rfl (rd_assign rfl) ?_
        refine rwt_nil ?_
        refine qn_then ?_
        obtain ⟨hb262, q263⟩ | ⟨hb262, q263⟩ := oi q259 <;> clear q259
        · refine cw_t rfl hb262 ?_
          refine cw_seq ?_
          refine cw_region ?_
          refine t_rd rfl (rd_fld tF51_2 rfl) ?_
          refine t_ef0 (ef_st1 (k := 0) (off := 2) hm257 tO3 rfl rfl rfl rfl rfl rfl) ?_
          intro _ w265 hm264
          refine rwt_nil ?_
          refine qn_then ?_
          refine cw_region ?_
          refine t_rd rfl (rd_fld tF51_1 rfl) ?_
          refine t_rd rfl (rd_ld1 tO3 rfl (hm264.blk 0 rfl) (off := 1) rfl) ?_
          refine t_rd rfl (rd_max rfl rfl) ?_
          refine t_rd rfl (rd_fld tF51_1 rfl) ?_
          refine t_ef0 (ef_st1 (k := 0) (off := 1) hm264 tO3 rfl rfl rfl rfl rfl rfl) ?_
          intro _ w267 hm266
          refine rwt_nil ?_
          refine qn_block ?_
          obtain rfl := os q263
          exact ⟨rfl, (by repeat (first | exact Sub.nil _ | refine Sub.cons rfl ?_)), (hm266.pick [0, 1, 2] (by decide) rfl)⟩
        · refine cw_f rfl hb262 ?_
          refine cw_skip ?_
          refine qn_block ?_
          obtain rfl := os q263
          exact ⟨rfl, (by repeat (first | exact Sub.nil _ | refine Sub.cons rfl ?_)), (hm257.pick [0, 1, 2] (by decide) rfl)⟩
  · clear hit243
    intro e env268 w269 hX270
    obtain ⟨rfl, hs271, hm272⟩ := hX270
    refine qn_then ?_
    refine cw_sub hs271 ?_
    refine cw_seq ?_
    obtain ⟨w288, he290⟩ : ∃ q, q = w269.drew := ⟨_, rfl⟩
    have hm289 := hm272.drew; rw [← he290] at hm289
    refine cw_region_s (fun q => (blk g209 51 [(Value.string (bs r164.2)), (Value.int .i64 j242.1), (Value.int .i64 j242.2), (Value.int .i64 r182.2), (Value.int .i64 0), (Value.int .i64 r191.2), (Value.bool (decide (r197.2 = 0))), (Value.string (bs r203.2))]).φ q) (cls [3] [7]) mixed ?_
    rintro _ rfl; rw [← he290]
    refine s_rp (i := 0) rfl (by kernel_rfl) rfl (fun _ => (rd_fld tF51_3 rfl)) ?_
    refine s_rd (i := 1) rfl (by kernel_rfl) rfl (fun w287 hS => (rd_ld1 tO3 rfl (cells_blk hS) (off := 3) rfl)) (hm289.get (k := 0) rfl) ?_
    refine s_rp (i := 2) rfl (by kernel_rfl) rfl (fun _ => (rd_move rfl)) ?_
    obtain ⟨r305, h306, q307⟩ := ob q244; clear q244
    refine s_ef (i := 3) rfl (by kernel_rfl) rfl (ef_call tf39 rfl (Maker_Next_ok h306 (hv0_l.to_callT (k := 2) hm289 rfl) (hm289.get (k := 2) rfl))) (by decide) ?_ ?_
    · rintro _ w309 ⟨e_, hm308⟩
      obtain rfl := e_.symm
      have hm310 := hm289.callT (k := 2) rfl (fun _ h => h) hm308 (fun _ => Iff.rfl)
      intro _
      exact (hm310.get (k := 0) rfl)
    rintro _ w309 ⟨e_, hm308⟩
    obtain rfl := e_.symm
    have hm310 := hm289.callT (k := 2) rfl (fun _ h => h) hm308 (fun _ => Iff.rfl)
    obtain ⟨x311, h312, q313⟩ := ob q307; clear q307
    refine s_rp (i := 4) rfl (by kernel_rfl) rfl (fun _ => (rd_mul64 h312 rfl rfl)) ?_
    obtain ⟨x314, h315, q316⟩ := ob q313; clear q313
    refine s_rp (i := 5) rfl (by kernel_rfl) rfl (fun _ => (rd_quo64 h315 rfl rfl)) ?_
    refine s_rp (i := 6) rfl (by kernel_rfl) rfl (fun _ => (rd_fld tF51_4 rfl)) ?_
    refine s_ef0 (i := 7) rfl (by kernel_rfl) (ef_st1 (k := 0) (off := 4) hm310 tO3 rfl rfl rfl rfl rfl rfl) (by decide) (fun _ _ _ q => absurd q (by decide)) ?_
    intro _ w318 hm317
    refine s_nil (by kernel_rfl) ?_
    refine qn_then ?_
    refine cw_seq ?_
    refine cw_region ?_
    refine t_rd rfl (rd_ld tA51 rfl (hm317.blk 0 rfl) rfl) ?_
    refine t_ef0 (ef_stw (k := 1) hm317 tA51 rfl rfl (oc_cons rfl (oc_cons rfl (oc_cons rfl (oc_cons rfl (oc_cons rfl (oc_cons rfl (oc_cons rfl (oc_cons rfl oc_nil)))))))) rfl rfl rfl) ?_
    intro _ w320 hm319
    refine rwt_nil ?_
    refine qn_then ?_
    refine cw_ret ?_
    obtain rfl := os q316
    exact retL1 (rs := [.cell 4 51]) rfl (.rc rfl tA51 (hm319.blk 1 rfl) rfl .rn) ⟨rfl, (hm319.pick [2] (by decide) rfl)⟩

theorem Maker_Wagons_ok {N : Nat} {a0_l : List Int} {a0_n : Int} {a1 : Int} {res : Int × List T_Wagon} (h : Maker_Wagons N a0_l a0_n a1 = some res) {w : World} {v0_l : Value} {g0 : Nat} (hv0_l : Sl (Old w (fun k => k = g0)) w v0_l a0_l) (hk0 : (blk g0 83 [v0_l, (Value.int .i64 a0_n)]).φ w) :
    CallsR Tryz.prog 14 [(Value.pointer (some ⟨g0, 0, none⟩)), (Value.int .i64 a1)] w (fun u w' => ∃ (y0 : Value), u = y0 ∧ Mem w (fun k => k = g0) [blk g0 83 [v0_l, (Value.int .i64 res.1)], ownL 51 y0 (res.2 : List T_Wagon)] w') := by
  unfold Maker_Wagons at h
  refine fn_ok Tryz.func14 rfl rfl rfl ?_
  have hm0 := Mem.one hk0
  refine cw_seq ?_
  refine cw_region ?_
  refine t_rd rfl (rd_assign rfl) ?_
  refine rwt_nil ?_
  refine qn_then ?_
  refine cw_seq ?_
  refine cw_region ?_
  refine t_rd rfl (rd_assign rfl) ?_
  refine rwt_nil ?_
  refine qn_then ?_
  refine cw_seq ?_
  refine cw_seq ?_
  refine cw_region ?_
  refine t_rd rfl (rd_move rfl) ?_
  refine t_rd rfl (rd_move rfl) ?_
  obtain ⟨x120, h121, q122⟩ := ob h; clear h
  refine t_rd rfl (rd_add64 h121 rfl rfl) ?_
  obtain ⟨r123, h124, q125⟩ := ob q122; clear q122
  refine t_ef rfl (ef_call tf39 rfl (Maker_Next_ok h124 (hv0_l.to_callT (k := 0) hm0 rfl) (hm0.get (k := 0) rfl))) ?_
  rintro _ w127 ⟨e_, hm126⟩
  obtain rfl := e_.symm
  have hm128 := hm0.callT (k := 0) rfl (fun _ h => h) hm126 (fun _ => Iff.rfl)
  refine t_rd rfl (rd_assign rfl) ?_
  refine rwt_nil ?_
  refine qn_then ?_
  refine cw_block ?_
  have hm150 := hm128.addNil (α := T_Wagon) 51
  obtain ⟨r210, hit211, q212⟩ := ob q125; clear q125
  refine cw_loop2 (I := fun q envq wq => ∃ (v203 : Value), Sub [(0, (Value.pointer (some ⟨g0, 0, none⟩))), (5, v203), (6, (Value.int .i64 q.1))] envq ∧ Mem w (fun k => k = g0) [ownL 51 v203 (q.2.2 : List T_Wagon), blk g0 83 [v0_l, (Value.int .i64 q.2.1)]] wq) (X := fun eq envq wq => eq = .exit 0 ∧ ∃ (v199 : Value), Sub [(5, v199)] envq ∧ Mem w (fun k => k = g0) [ownL 51 v199 (r210.2 : List T_Wagon), blk g0 83 [v0_l, (Value.int .i64 r210.1)]] wq) hit211 ⟨(Value.slice none 0 0), (by repeat (first | exact Sub.nil _ | refine Sub.cons rfl ?_)), (hm150.pick [0, 1] (by decide) rfl)⟩ ?_ ?_
  · rintro ⟨i200, i201, l202⟩ x205 env206 w207 hf208 hr209 ⟨v203, hs_, hm_⟩
    have hs_ : Sub [(0, (Value.pointer (some ⟨g0, 0, none⟩))), (5, v203), (6, (Value.int .i64 i200))] env206 := hs_
    have hm213 : Mem w (fun k => k = g0) [ownL 51 v203 (l202 : List T_Wagon), blk g0 83 [v0_l, (Value.int .i64 i201)]] w207 := hm_
    refine cw_sub hs_ ?_
    clear hs_ hm_ q212
    have h : Maker_Wagons_l1 N a0_l i200 i201 l202 = some x205 := hf208
    clear hf208
    refine cw_seq ?_
    refine cw_seq ?_
    refine cw_region ?_
    refine t_rd rfl (rd_move rfl) ?_
    refine t_rd rfl (rd_gtr rfl rfl) ?_
    refine rwt_nil ?_
    refine qn_then ?_
    obtain ⟨hb214, q215⟩ | ⟨hb214, q215⟩ := oi h <;> clear h
    · refine cw_t rfl hb214 ?_
      refine cw_skip ?_
      refine qn_then ?_
      refine cw_seq ?_
      refine cw_block ?_
      refine cw_region ?_
      refine t_rd rfl (rd_move rfl) ?_
      refine t_rd rfl (rd_move rfl) ?_
      refine t_rd rfl (rd_move rfl) ?_
      refine t_rd rfl (rd_lenS tS48 rfl (hm213.sl 0 rfl)) ?_
      obtain ⟨r216, h217, q218⟩ := ob q215; clear q215
      refine t_ef rfl (ef_call tf40 rfl (Maker_Wagon_ok h217 (hv0_l.to_callT (k := 1) hm213 rfl) (hm213.get (k := 1) rfl))) ?_
      rintro _ w220 ⟨e_, hm219⟩
      obtain rfl := e_.symm
      have hm221 := hm213.callT (k := 1) rfl (fun _ h => h) hm219 (fun _ => Iff.rfl)
      refine t_ef rfl (ef_bslice (l := ([r216.2] : List T_Wagon)) hm221 tS48 rfl (cs := #[(Value.string (bs r216.2.Number)), (Value.int .i64 r216.2.Length), (Value.int .i64 r216.2.Axles), (Value.int .i64 r216.2.Mass), (Value.int .i64 r216.2.Brake), (Value.int .i64 r216.2.Goods), (Value.bool r216.2.Gentle), (Value.string (bs r216.2.Dest))]) (by unfold bsl; kernel_rfl) rfl rfl) ?_
      intro v222 w224 hm223
      obtain ⟨l225, h226, q227⟩ := ob q218; clear q218
      refine t_ef rfl (ef_append (k := 1) hm223 tS48 tE51 rfl rfl rfl rfl (hm223.sl 0 rfl) h226) ?_
      intro v228 w230 hm229
      refine t_rd rfl (rd_assign rfl) ?_
      refine rwt_nil ?_
      refine qn_block (qn_then ?_)
      refine cw_region ?_
      refine t_rd rfl (rd_move rfl) ?_
      obtain ⟨x231, h232, q233⟩ := ob q227; clear q227
      refine t_rd rfl (rd_sub64 h232 rfl rfl) ?_
      refine t_rd rfl (rd_assign rfl) ?_
      refine rwt_nil ?_
      refine qn_then ?_
      refine ⟨_, (os q233), v228, (by repeat (first | exact Sub.nil _ | refine Sub.cons rfl ?_)), (hm229.pick [1, 2] (by decide) rfl)⟩
    · refine cw_f rfl hb214 ?_
      refine cw_exit ?_
      refine qx_then (qx_then ?_)
      obtain rfl := hr209 _ (os q215)
      exact ⟨rfl, v203, (by repeat (first | exact Sub.nil _ | refine Sub.cons rfl ?_)), (hm213.pick [0, 1] (by decide) rfl)⟩
  · skip
    intro e env234 w235 hX236
    obtain ⟨rfl, v199, hs237, hm238⟩ := hX236
    refine qx_same (qn_then ?_)
    refine cw_sub hs237 ?_
    refine cw_seq ?_
    refine cw_region ?_
    refine t_rd rfl (rd_move rfl) ?_
    refine t_rd rfl (rd_assign rfl) ?_
    refine rwt_nil ?_
    refine qn_then ?_
    refine cw_ret ?_
    obtain rfl := os q212
    exact ret1 rfl rfl ⟨v199, rfl, (hm238.pick [1, 0] (by decide) rfl)⟩

theorem job_in_ok {N : Nat} {a0 : Int} {a1 : Int} {a2 : Int} {res : Bool} (h : job_in N a0 a1 a2 = some res) {w : World}   :
    CallsR Tryz.prog 67 [(Value.int .i64 a0), (Value.int .i64 a1), (Value.int .i64 a2)] w (fun u w' => u = (Value.bool res) ∧ Mem w No [] w') := by
  unfold job_in at h
  refine fn_ok Tryz.func67 rfl rfl rfl ?_
  have hm0 := Mem.nil w
  refine cw_seq ?_
  refine cw_region ?_
  refine t_rd rfl (rd_assign rfl) ?_
  refine rwt_nil ?_
  refine qn_then ?_
  refine cw_seq ?_
  refine cw_region ?_
  refine t_rd rfl (rd_move rfl) ?_
  refine t_rd rfl (rd_move rfl) ?_
  refine t_rd rfl (rd_geq rfl rfl) ?_
  refine t_rd rfl (rd_move rfl) ?_
  refine t_rdg rfl rfl rfl rfl (gv_t _) (fun hg1 => (rd_move rfl)) ?_
  refine t_rdg rfl rfl rfl rfl (gv_t _) (fun hg2 => (rd_move rfl)) ?_
  refine t_rdg rfl rfl rfl rfl (gv_t _) (fun hg3 => (rd_leq (gvx rfl hg3) (gvx rfl hg3))) ?_
  refine t_rd rfl (rd_and rfl (fun hc4 => (gvx rfl hc4))) ?_
  refine t_rd rfl (rd_assign rfl) ?_
  refine rwt_nil ?_
  refine qn_then ?_
  refine cw_ret ?_
  obtain rfl := os h
  exact ret1 rfl rfl ⟨rfl, (hm0.pick [] (by decide) rfl)⟩

theorem job_Valid_ok {N : Nat} {a0_Items : List T_Item} {a0_Weight : Int} {res : Int} (h : job_Valid N a0_Items a0_Weight = some res) {w : World} {v0_Items : Value} (hv0_Items : Sl (Old w No) w v0_Items a0_Items) :
    CallsR Tryz.prog 59 [(Value.agg #[v0_Items, (Value.int .i64 a0_Weight)])] w (fun u w' => u = (Value.int .i64 res) ∧ Mem w No [] w') := by
  unfold job_Valid at h
  refine fn_ok Tryz.func59 rfl rfl rfl ?_
  have hm0 := Mem.nil w
  refine cw_seq ?_
  refine cw_region ?_
  refine t_ef rfl (ef_box hm0 rfl rfl) ?_
  rintro _ w3 ⟨g1, rfl, hm2⟩
  refine t_rd rfl (rd_assign rfl) ?_
  refine rwt_nil ?_
  refine qn_then ?_
  refine cw_seq ?_
  refine cw_seq ?_
  refine cw_region ?_
  refine t_rd rfl (rd_fld tF27_0 rfl) ?_
  refine t_rd rfl (rd_ld1 tO25 rfl (hm2.blk 0 rfl) (off := 0) rfl) ?_
  refine t_rd rfl (rd_lenS tS25 rfl (hv0_Items.of_old hm2)) ?_
  refine t_rd rfl (rd_gtr rfl rfl) ?_
  refine rwt_nil ?_
  refine qn_then ?_
  obtain ⟨hb4, q5⟩ | ⟨hb4, q5⟩ := oi h <;> clear h
  · refine cw_t rfl hb4 ?_
    refine cw_seq ?_
    refine cw_region ?_
    refine t_rd rfl (rd_assign rfl) ?_
    refine rwt_nil ?_
    refine qn_then ?_
    refine cw_ret ?_
    refine qr_then ?_
    obtain rfl := os q5
    exact ret1 rfl rfl ⟨rfl, (hm2.pick [] (by decide) rfl)⟩
  · refine cw_f rfl hb4 ?_
    refine cw_skip ?_
    refine qn_then ?_
    refine cw_seq ?_
    refine cw_seq ?_
    refine cw_region ?_
    refine t_rd rfl (rd_fld tF27_1 rfl) ?_
    refine t_rd rfl (rd_ld1 tO3 rfl (hm2.blk 0 rfl) (off := 1) rfl) ?_
    obtain ⟨r6, h7, q8⟩ := ob q5; clear q5
    refine t_ef rfl (ef_call tf67 rfl (job_in_ok h7)) ?_
    rintro _ w10 ⟨e_, hm9⟩
    obtain rfl := e_.symm
    have hm11 := hm2.call hm9
    refine t_rd rfl (rd_not rfl) ?_
    refine rwt_nil ?_
    refine qn_then ?_
    obtain ⟨hb12, q13⟩ | ⟨hb12, q13⟩ := oi q8 <;> clear q8
    · refine cw_t rfl hb12 ?_
      refine cw_seq ?_
      refine cw_region ?_
      refine t_rd rfl (rd_assign rfl) ?_
      refine rwt_nil ?_
      refine qn_then ?_
      refine cw_ret ?_
      refine qr_then ?_
      obtain rfl := os q13
      exact ret1 rfl rfl ⟨rfl, (hm11.pick [] (by decide) rfl)⟩
    · refine cw_f rfl hb12 ?_
      refine cw_skip ?_
      refine qn_then ?_
      refine cw_seq ?_
      refine cw_seq ?_
      refine cw_region ?_
      refine t_rd rfl (rd_fld tF27_0 rfl) ?_
      refine t_rd rfl (rd_ld1 tO25 rfl (hm11.blk 0 rfl) (off := 0) rfl) ?_
      refine t_rd rfl (rd_lenS tS25 rfl (hv0_Items.of_old hm11)) ?_
      refine t_rd rfl (rd_move rfl) ?_
      refine rwt_nil ?_
      refine qn_then ?_
      refine cw_block ?_
      obtain ⟨r210, hit211, q212⟩ := ob q13; clear q13
      refine cw_loop2 (I := fun q envq wq => Sub [(1, (Value.pointer (some ⟨g1, 0, none⟩))), (14, v0_Items), (15, (Value.int .i64 (List.length a0_Items : Int))), (16, (Value.int .i64 q))] envq ∧ Mem w No [blk g1 27 [v0_Items, (Value.int .i64 a0_Weight)]] wq) (X := fun eq envq wq => (∃ p213, r210 = (Sum.inl p213) ∧ eq = .ret ∧ retQ Tryz.prog 58 Tryz.f59 (fun u w' => u = (Value.int .i64 p213) ∧ Mem w No [] w') .ret envq wq) ∨ (∃ p214, r210 = (Sum.inr p214) ∧ eq = .exit 0 ∧ Sub [] envq ∧ Mem w No [] wq)) hit211 ⟨(by repeat (first | exact Sub.nil _ | refine Sub.cons rfl ?_)), (hm11.pick [0] (by decide) rfl)⟩ ?_ ?_
      · rintro i203 x205 env206 w207 hf208 hr209 ⟨hs_, hm_⟩
        have hs_ : Sub [(1, (Value.pointer (some ⟨g1, 0, none⟩))), (14, v0_Items), (15, (Value.int .i64 (List.length a0_Items : Int))), (16, (Value.int .i64 i203))] env206 := hs_
        have hm215 : Mem w No [blk g1 27 [v0_Items, (Value.int .i64 a0_Weight)]] w207 := hm_
        refine cw_sub hs_ ?_
        clear hs_ hm_ q212
        have h : job_Valid_l1 N a0_Items i203 = some x205 := hf208
        clear hf208
        refine cw_seq ?_
        refine cw_region ?_
        refine t_rd rfl (rd_lss rfl rfl) ?_
        refine rwt_nil ?_
        refine qn_then ?_
        refine cw_seq ?_
        obtain ⟨hb216, q217⟩ | ⟨hb216, q217⟩ := oi h <;> clear h
        · refine cw_t rfl hb216 ?_
          refine cw_skip ?_
          refine qn_then ?_
          refine cw_seq ?_
          refine cw_block ?_
          refine cw_seq ?_
          refine cw_region ?_
          refine t_rd rfl (rd_move rfl) ?_
          obtain ⟨x218, h219, q220⟩ := ob q217; clear q217
          refine t_rd rfl (rd_index tS25 rfl rfl (hv0_Items.of_old hm215) h219) ?_
          refine t_rd rfl (rd_ld tA40 rfl ((hv0_Items.of_old hm215).cells h219) rfl) ?_
          refine t_ef rfl (ef_alloc hm215 tZ40 rfl) ?_
          rintro _ w223 ⟨g221, rfl, hm222⟩
          refine t_rd rfl (rd_assign rfl) ?_
          refine t_ef0 (ef_stw (k := 0) hm222 tA40 rfl rfl (oc_cons rfl (oc_cons rfl (oc_cons rfl (oc_cons rfl oc_nil)))) rfl rfl rfl) ?_
          intro _ w225 hm224
          refine rwt_nil ?_
          refine qn_then ?_
          refine cw_seq ?_
          refine cw_seq ?_
          refine cw_region ?_
          refine t_rd rfl (rd_fld tF40_0 rfl) ?_
          refine t_rd rfl (rd_ld1 tO3 rfl (hm224.blk 0 rfl) (off := 0) rfl) ?_
          obtain ⟨r226, h227, q228⟩ := ob q220; clear q220
          refine t_ef rfl (ef_call tf67 rfl (job_in_ok h227)) ?_
          rintro _ w230 ⟨e_, hm229⟩
          obtain rfl := e_.symm
          have hm231 := hm224.call hm229
          refine t_rd rfl (rd_not rfl) ?_
          refine t_rd rfl (rd_move rfl) ?_
          refine t_rdg rfl rfl rfl rfl (gv_f _) (fun hg232 => (rd_fld tF40_1 rfl)) ?_
          refine t_rdg rfl rfl rfl rfl (gv_f _) (fun hg233 => (rd_ld1 tO3 (gvx rfl hg233) (hm231.blk 0 rfl) (off := 1) rfl)) ?_
          obtain ⟨r235, h236, q237⟩ := ob q228; clear q228
          refine t_efg rfl rfl rfl rfl (R := (fun v w' => v = gV (!(!r226)) (Value.bool r235) ∧ Mem w230 No [] w')) (gv_f _) (fun hg234 => (ef_call tf67 (evc (gvx rfl hg234) (evc rfl (evc rfl evn))) (job_in_ok (gO_t h236 hg234))).mono (by rintro _ _ ⟨rfl, q⟩; exact ⟨(gV_t hg234).symm, q⟩)) (fun q => ⟨(gV_f q).symm, Mem.nil _⟩) ?_
          rintro _ w239 ⟨rfl, hm238⟩
          have hm240 := hm231.call hm238
          refine t_rdg rfl rfl rfl rfl (gv_f _) (fun hg241 => (rd_not (gvx rfl hg241))) ?_
          refine t_rd rfl (rd_or rfl (fun hc242 => (gvx rfl (bnotIt hc242)))) ?_
          refine t_rd rfl (rd_move rfl) ?_
          refine t_rdg rfl rfl rfl rfl (gv_f _) (fun hg243 => (rd_fld tF40_2 rfl)) ?_
          refine t_rdg rfl rfl rfl rfl (gv_f _) (fun hg244 => (rd_ld1 tO3 (gvx rfl hg244) (hm240.blk 0 rfl) (off := 2) rfl)) ?_
          obtain ⟨r246, h247, q248⟩ := ob q237; clear q237
          refine t_efg rfl rfl rfl rfl (R := (fun v w' => v = gV (!((!r226) || (!r235))) (Value.bool r246) ∧ Mem w239 No [] w')) (gv_f _) (fun hg245 => (ef_call tf67 (evc (gvx rfl hg245) (evc rfl (evc rfl evn))) (job_in_ok (gO_t h247 hg245))).mono (by rintro _ _ ⟨rfl, q⟩; exact ⟨(gV_t hg245).symm, q⟩)) (fun q => ⟨(gV_f q).symm, Mem.nil _⟩) ?_
          rintro _ w250 ⟨rfl, hm249⟩
          have hm251 := hm240.call hm249
          refine t_rdg rfl rfl rfl rfl (gv_f _) (fun hg252 => (rd_not (gvx rfl hg252))) ?_
          refine t_rd rfl (rd_or rfl (fun hc253 => (gvx rfl (bnotIt hc253)))) ?_
          refine t_rd rfl (rd_move rfl) ?_
          refine t_rdg rfl rfl rfl rfl (gv_f _) (fun hg254 => (rd_fld tF40_3 rfl)) ?_
          refine t_rdg rfl rfl rfl rfl (gv_f _) (fun hg255 => (rd_ld1 tO3 (gvx rfl hg255) (hm251.blk 0 rfl) (off := 3) rfl)) ?_
          obtain ⟨r257, h258, q259⟩ := ob q248; clear q248
          refine t_efg rfl rfl rfl rfl (R := (fun v w' => v = gV (!(((!r226) || (!r235)) || (!r246))) (Value.bool r257) ∧ Mem w250 No [] w')) (gv_f _) (fun hg256 => (ef_call tf67 (evc (gvx rfl hg256) (evc rfl (evc rfl evn))) (job_in_ok (gO_t h258 hg256))).mono (by rintro _ _ ⟨rfl, q⟩; exact ⟨(gV_t hg256).symm, q⟩)) (fun q => ⟨(gV_f q).symm, Mem.nil _⟩) ?_
          rintro _ w261 ⟨rfl, hm260⟩
          have hm262 := hm251.call hm260
          refine t_rdg rfl rfl rfl rfl (gv_f _) (fun hg263 => (rd_not (gvx rfl hg263))) ?_
          refine t_rd rfl (rd_or rfl (fun hc264 => (gvx rfl (bnotIt hc264)))) ?_
          refine rwt_nil ?_
          refine qn_then ?_
          obtain ⟨hb265, q266⟩ | ⟨hb265, q266⟩ := oi q259 <;> clear q259
          · refine cw_t rfl hb265 ?_
            refine cw_seq ?_
            refine cw_region ?_
            refine t_rd rfl (rd_assign rfl) ?_
            refine rwt_nil ?_
            refine qn_then ?_
            refine cw_ret ?_
            refine qr_then (qr_block (qr_then (qr_then ?_)))
            obtain rfl := hr209 _ (os q266)
            refine .inl (⟨_, rfl, ⟨rfl, ?_⟩⟩)
            exact ret1 rfl rfl ⟨rfl, (hm262.pick [] (by decide) rfl)⟩
          · refine cw_f rfl hb265 ?_
            refine cw_skip ?_
            refine qn_then ?_
            refine cw_seq ?_
            obtain ⟨w285, he287⟩ : ∃ q, q = w261.drew := ⟨_, rfl⟩
            have hm286 := hm262.drew; rw [← he287] at hm286
            refine cw_region_s (fun q => q = w285) (cls [] []) mixed ?_
            rintro _ rfl; rw [← he287]
            refine s_rp (i := 0) rfl (by kernel_rfl) rfl (fun _ => (rd_move rfl)) ?_
            refine s_rp (i := 1) rfl (by kernel_rfl) rfl (fun _ => (rd_gtr rfl rfl)) ?_
            refine s_rp (i := 2) rfl (by kernel_rfl) rfl (fun _ => (rd_move rfl)) ?_
            refine s_rpg (i := 3) rfl (by kernel_rfl) rfl rfl rfl rfl (gv_t _) (fun hg288 _ => (rd_fld tF40_2 rfl)) ?_
            refine s_rdg (i := 4) rfl (by kernel_rfl) rfl rfl rfl rfl (gv_t _) (fun hg289 => (fun _ hS => by rw [hS]; exact (rd_ld1 tO3 (gvx rfl hg289) (hm286.blk 0 rfl) (off := 2) rfl))) rfl ?_
            refine s_rpg (i := 5) rfl (by kernel_rfl) rfl rfl rfl rfl (gv_t _) (fun hg290 _ => (rd_fld tF27_0 rfl)) ?_
            refine s_rdg (i := 6) rfl (by kernel_rfl) rfl rfl rfl rfl (gv_t _) (fun hg291 => (fun _ hS => by rw [hS]; exact (rd_ld1 tO25 (gvx rfl hg291) (hm286.blk 1 rfl) (off := 0) rfl))) rfl ?_
            refine s_rpg (i := 7) rfl (by kernel_rfl) rfl rfl rfl rfl (gv_t _) (fun hg292 _ => (rd_move rfl)) ?_
            obtain ⟨x294, h295, q296⟩ := ob q266; clear q266
            refine s_rpg (i := 8) rfl (by kernel_rfl) rfl rfl rfl rfl (gv_t _) (fun hg293 _ => (rd_sub64 (gO_t h295 hg293) (gvx rfl hg293) rfl)) ?_
            obtain ⟨x298, h299, q300⟩ := ob q296; clear q296
            refine s_rpg (i := 9) rfl (by kernel_rfl) rfl rfl rfl rfl (gv_t _) (fun hg297 _ => (rd_index tS25 (gvx rfl hg297) (gvx rfl hg297) (hv0_Items.of_old hm286) (gO_t h299 hg297))) ?_
            refine s_rpg (i := 10) rfl (by kernel_rfl) rfl rfl rfl rfl (gv_t _) (fun hg301 _ => (rd_fld tF40_2 (gvx rfl hg301))) ?_
            refine s_rdg (i := 11) rfl (by kernel_rfl) rfl rfl rfl rfl (gv_t _) (fun hg302 => (fun _ hS => by rw [hS]; exact (rd_ld1 tO3 (gvx rfl hg302) ((hv0_Items.of_old hm286).cells (gO_t h299 hg302)) (off := 2) rfl))) rfl ?_
            refine s_rpg (i := 12) rfl (by kernel_rfl) rfl rfl rfl rfl (gv_t _) (fun hg303 _ => (rd_lss (gvx rfl hg303) (gvx rfl hg303))) ?_
            refine s_rp (i := 13) rfl (by kernel_rfl) rfl (fun _ => (rd_and rfl (fun hc304 => (gvx rfl hc304)))) ?_
            refine s_nil (by kernel_rfl) ?_
            refine qn_then ?_
            obtain ⟨hb305, q306⟩ | ⟨hb305, q306⟩ := oi q300 <;> clear q300
            · refine cw_t rfl hb305 ?_
              refine cw_seq ?_
              refine cw_region ?_
              refine t_rd rfl (rd_assign rfl) ?_
              refine rwt_nil ?_
              refine qn_then ?_
              refine cw_ret ?_
              refine qr_block (qr_then (qr_then ?_))
              obtain rfl := hr209 _ (os q306)
              refine .inl (⟨_, rfl, ⟨rfl, ?_⟩⟩)
              exact ret1 rfl rfl ⟨rfl, (hm286.pick [] (by decide) rfl)⟩
            · refine cw_f rfl hb305 ?_
              refine cw_skip ?_
              refine qn_block (qn_then ?_)
              refine cw_region ?_
              obtain ⟨x307, h308, q309⟩ := ob q306; clear q306
              refine t_rd rfl (rd_add64 h308 rfl rfl) ?_
              refine t_rd rfl (rd_move rfl) ?_
              refine rwt_nil ?_
              refine qn_then ?_
              refine ⟨_, (os q309), (by repeat (first | exact Sub.nil _ | refine Sub.cons rfl ?_)), (hm286.pick [1] (by decide) rfl)⟩
        · refine cw_f rfl hb216 ?_
          refine cw_exit ?_
          refine qx_then (qx_then ?_)
          obtain rfl := hr209 _ (os q217)
          exact .inr (⟨_, rfl, ⟨rfl, (by repeat (first | exact Sub.nil _ | refine Sub.cons rfl ?_)), (hm215.pick [] (by decide) rfl)⟩⟩)
      · skip
        intro e env310 w311 hX312
        rcases hX312 with hX312 | hX312
        · obtain ⟨p314, rfl, hX312⟩ := hX312
          obtain ⟨rfl, hq316⟩ := hX312
          exact qr_block (qr_then ((by have e := os q212; subst e; exact hq316)))
        · obtain ⟨p317, rfl, hX312⟩ := hX312
          obtain ⟨rfl, hs318, hm319⟩ := hX312
          refine qx_same (qn_then ?_)
          refine cw_sub hs318 ?_
          refine cw_seq ?_
          refine cw_region ?_
          refine t_rd rfl (rd_assign rfl) ?_
          refine rwt_nil ?_
          refine qn_then ?_
          refine cw_ret ?_
          obtain rfl := os q212
          exact ret1 rfl rfl ⟨rfl, (hm319.pick [] (by decide) rfl)⟩

theorem leastcode_relations_ok {N : Nat} {a0_Items : List T_Item} {a0_Weight : Int} {res : List (List Int)} (h : leastcode_relations N a0_Items a0_Weight = some res) {w : World} {v0_Items : Value} (hv0_Items : Sl (Old w No) w v0_Items a0_Items) :
    CallsR Tryz.prog 61 [(Value.agg #[v0_Items, (Value.int .i64 a0_Weight)])] w (fun u w' => ∃ (zy0 : List Hdr) (y1 : Value), u = y1 ∧ Mem w No [ownL 22 y1 (zy0 : List Hdr), rowsC 3 zy0 (res : List (List Int)) none] w') := by
  unfold leastcode_relations at h
  refine fn_ok Tryz.func61 rfl rfl rfl ?_
  have hm0 := Mem.nil w
  refine cw_seq ?_
  refine cw_region ?_
  refine t_ef rfl (ef_box hm0 rfl rfl) ?_
  rintro _ w3 ⟨g1, rfl, hm2⟩
  refine t_rd rfl (rd_assign rfl) ?_
  refine rwt_nil ?_
  refine qn_then ?_
  refine cw_seq ?_
  refine cw_region ?_
  refine t_rd rfl (rd_fld tF27_0 rfl) ?_
  refine t_rd rfl (rd_ld1 tO25 rfl (hm2.blk 0 rfl) (off := 0) rfl) ?_
  refine t_rd rfl (rd_lenS tS25 rfl (hv0_Items.of_old hm2)) ?_
  obtain ⟨l4, h5, q6⟩ := ob h; clear h
  refine t_ef rfl (ef_make (z := nilH) hm2 tS41 tE22 rfl rfl rfl (mkL_h h5)) ?_
  intro v7 w9 hm8
  have hm10 := hm8.rowsRep (α := Int) 3 h5
  refine t_rd rfl (rd_assign rfl) ?_
  refine rwt_nil ?_
  refine qn_then ?_
  refine cw_seq ?_
  refine cw_seq ?_
  refine cw_region ?_
  refine t_rd rfl (rd_move rfl) ?_
  refine t_rd rfl (rd_lenS tS41 rfl ((Nl.mk (hm10.sl_call 1 rfl) (hm10.rows_call 0 rfl)).sl)) ?_
  refine t_rd rfl (rd_move rfl) ?_
  refine rwt_nil ?_
  refine qn_then ?_
  refine cw_block ?_
  obtain ⟨r1228, hit1229, q1230⟩ := ob q6; clear q6
  refine cw_loop2 (I := fun q envq wq => ∃ (v1220 : Value) (zs1221 : List Hdr), Sub [(1, (Value.pointer (some ⟨g1, 0, none⟩))), (3, v1220), (13, (Value.int .i64 (List.length l4 : Int))), (14, (Value.int .i64 q.1))] envq ∧ Mem w No [rowsC 3 zs1221 (q.2 : List (List Int)) none, ownL 22 v1220 (zs1221 : List Hdr), blk g1 27 [v0_Items, (Value.int .i64 a0_Weight)]] wq) (X := fun eq envq wq => eq = .exit 0 ∧ ∃ (v1216 : Value) (zs1217 : List Hdr), Sub [(3, v1216)] envq ∧ Mem w No [rowsC 3 zs1217 (r1228 : List (List Int)) none, ownL 22 v1216 (zs1217 : List Hdr)] wq) hit1229 ⟨v7, (List.replicate (Int.toNat (List.length a0_Items : Int)) nilH), (by repeat (first | exact Sub.nil _ | refine Sub.cons rfl ?_)), (hm10.pick [0, 1, 2] (by decide) rfl)⟩ ?_ ?_
  · rintro ⟨i1218, l1219⟩ x1223 env1224 w1225 hf1226 hr1227 ⟨v1220, zs1221, hs_, hm_⟩
    have hs_ : Sub [(1, (Value.pointer (some ⟨g1, 0, none⟩))), (3, v1220), (13, (Value.int .i64 (List.length l4 : Int))), (14, (Value.int .i64 i1218))] env1224 := hs_
    have hm1231 : Mem w No [rowsC 3 zs1221 (l1219 : List (List Int)) none, ownL 22 v1220 (zs1221 : List Hdr), blk g1 27 [v0_Items, (Value.int .i64 a0_Weight)]] w1225 := hm_
    refine cw_sub hs_ ?_
    clear hs_ hm_ q1230
    have h : leastcode_relations_l3 N a0_Items l4 i1218 l1219 = some x1223 := hf1226
    clear hf1226
    refine cw_seq ?_
    refine cw_region ?_
    refine t_rd rfl (rd_lss rfl rfl) ?_
    refine rwt_nil ?_
    refine qn_then ?_
    refine cw_seq ?_
    obtain ⟨hb1232, q1233⟩ | ⟨hb1232, q1233⟩ := oi h <;> clear h
    · refine cw_t rfl hb1232 ?_
      refine cw_skip ?_
      refine qn_then ?_
      refine cw_seq ?_
      refine cw_block ?_
      refine cw_seq ?_
      refine cw_region ?_
      refine t_rd rfl (rd_move rfl) ?_
      refine t_rd rfl (rd_assign rfl) ?_
      refine rwt_nil ?_
      refine qn_then ?_
      refine cw_seq ?_
      refine cw_region ?_
      refine t_rd rfl (rd_move rfl) ?_
      refine t_rd rfl (rd_move rfl) ?_
      refine t_rd rfl (rd_fld tF27_0 rfl) ?_
      refine t_rd rfl (rd_ld1 tO25 rfl (hm1231.blk 2 rfl) (off := 0) rfl) ?_
      refine t_rd rfl (rd_lenS tS25 rfl (hv0_Items.of_old hm1231)) ?_
      obtain ⟨l1234, h1235, q1236⟩ := ob q1233; clear q1233
      refine t_ef rfl (ef_make hm1231 tS22 tE3 rfl rfl rfl h1235) ?_
      intro v1237 w1239 hm1238
      obtain ⟨x1240, h1241, q1242⟩ := ob q1236; clear q1236
      refine t_rd rfl (rd_index tS41 rfl rfl ((Nl.mk (hm1238.sl_call 2 rfl) (hm1238.rows_call 1 rfl)).sl) h1241) ?_
      obtain ⟨zd1243, ez1244⟩ : ∃ z : Hdr, z.1 = v1237 := ⟨⟨v1237, sl_one (hm1238.sl 0 rfl)⟩, rfl⟩
      obtain ⟨zd1245, hz1246⟩ := (Nl.mk (hm1238.sl_call 2 rfl) (hm1238.rows_call 1 rfl)).row h1241
      have hm1247 := hm1238.pick [1, 0, 2, 3] (L' := [rowsC 3 zs1221 (l1219 : List (List Int)) none, ownL 3 v1237 (l1234 : List Int), ownL 22 v1220 (zs1221 : List Hdr), blk g1 27 [v0_Items, (Value.int .i64 a0_Weight)]]) (by decide) rfl
      have hm1248 := hm1247.hole (Int.toNat i1218)
      refine t_ef0 (ef_stl (k := 2) (off := 0) (x' := zd1243) hm1248 tO22 rfl rfl (sl_one (hm1248.sl 1 rfl)) rfl hz1246 (by show [v1237] = [zd1243.1]; rw [ez1244]) rfl) ?_
      intro _ w1250 hm1249
      have hm1251 := hm1249.fill ez1244
      refine rwt_nil ?_
      refine qn_then ?_
      refine cw_seq ?_
      refine cw_region ?_
      refine t_rd rfl (rd_move rfl) ?_
      refine t_rd rfl (rd_move rfl) ?_
      obtain ⟨x1252, h1253, q1254⟩ := ob q1242; clear q1242
      refine t_rd rfl (rd_index tS41 rfl rfl ((Nl.mk (hm1251.sl_call 1 rfl) (hm1251.rows_call 0 rfl)).sl) h1253) ?_
      obtain ⟨zd1255, hz1256⟩ := (Nl.mk (hm1251.sl_call 1 rfl) (hm1251.rows_call 0 rfl)).row h1253
      refine t_rd rfl (rd_ld1 tO22 rfl ((Nl.mk (hm1251.sl_call 1 rfl) (hm1251.rows_call 0 rfl)).cells hz1256) (off := 0) rfl) ?_
      refine t_rd rfl (rd_lenS tS22 rfl ((Nl.mk (hm1251.sl_call 1 rfl) (hm1251.rows_call 0 rfl)).get hz1256 h1253)) ?_
      refine t_rd rfl (rd_move rfl) ?_
      refine rwt_nil ?_
      refine qn_then ?_
      refine cw_block ?_
      obtain ⟨r1638, hit1639, q1640⟩ := ob q1254; clear q1254
      refine cw_loop2 (I := fun q envq wq => ∃ (v1630 : Value) (zs1631 : List Hdr), Sub [(1, (Value.pointer (some ⟨g1, 0, none⟩))), (3, v1630), (4, (Value.int .i64 i1218)), (13, (Value.int .i64 (List.length l4 : Int))), (14, (Value.int .i64 i1218)), (28, (Value.int .i64 (List.length x1252 : Int))), (29, (Value.int .i64 q.1))] envq ∧ Mem w No [rowsC 3 zs1631 (q.2 : List (List Int)) none, ownL 22 v1630 (zs1631 : List Hdr), blk g1 27 [v0_Items, (Value.int .i64 a0_Weight)]] wq) (X := fun eq envq wq => eq = .exit 2 ∧ ∃ (v1626 : Value) (zs1627 : List Hdr), Sub [(1, (Value.pointer (some ⟨g1, 0, none⟩))), (3, v1626), (13, (Value.int .i64 (List.length l4 : Int))), (14, (Value.int .i64 i1218))] envq ∧ Mem w No [rowsC 3 zs1627 (r1638 : List (List Int)) none, ownL 22 v1626 (zs1627 : List Hdr), blk g1 27 [v0_Items, (Value.int .i64 a0_Weight)]] wq) hit1639 ⟨v1220, (List.set zs1221 (Int.toNat i1218) zd1243), (by repeat (first | exact Sub.nil _ | refine Sub.cons rfl ?_)), (hm1251.pick [0, 1, 2] (by decide) rfl)⟩ ?_ ?_
      · rintro ⟨i1628, l1629⟩ x1633 env1634 w1635 hf1636 hr1637 ⟨v1630, zs1631, hs_, hm_⟩
        have hs_ : Sub [(1, (Value.pointer (some ⟨g1, 0, none⟩))), (3, v1630), (4, (Value.int .i64 i1218)), (13, (Value.int .i64 (List.length l4 : Int))), (14, (Value.int .i64 i1218)), (28, (Value.int .i64 (List.length x1252 : Int))), (29, (Value.int .i64 i1628))] env1634 := hs_
        have hm1641 : Mem w No [rowsC 3 zs1631 (l1629 : List (List Int)) none, ownL 22 v1630 (zs1631 : List Hdr), blk g1 27 [v0_Items, (Value.int .i64 a0_Weight)]] w1635 := hm_
        refine cw_sub hs_ ?_
        clear hs_ hm_ q1640
        have h : leastcode_relations_l4 N a0_Items i1218 x1252 i1628 l1629 = some x1633 := hf1636
        clear hf1636
        refine cw_seq ?_
        refine cw_region ?_
        refine t_rd rfl (rd_lss rfl rfl) ?_
        refine rwt_nil ?_
        refine qn_then ?_
        refine cw_seq ?_
        obtain ⟨hb1642, q1643⟩ | ⟨hb1642, q1643⟩ := oi h <;> clear h
        · refine cw_t rfl hb1642 ?_
          refine cw_skip ?_
          refine qn_then ?_
          refine cw_seq ?_
          refine cw_block ?_
          refine cw_seq ?_
          refine cw_region ?_
          refine t_rd rfl (rd_move rfl) ?_
          refine t_rd rfl (rd_assign rfl) ?_
          refine rwt_nil ?_
          refine qn_then ?_
          refine cw_seq ?_
          obtain ⟨j1716, hit1717, q1718⟩ := ob q1643; clear q1643
          refine cw_join (X := fun eq envq wq => eq = .normal ∧ ∃ (g1706 : Nat) (g1707 : Nat), Sub [(1, (Value.pointer (some ⟨g1, 0, none⟩))), (3, v1630), (4, (Value.int .i64 i1218)), (5, (Value.int .i64 i1628)), (6, (Value.pointer (some ⟨g1706, 0, none⟩))), (7, (Value.pointer (some ⟨g1707, 0, none⟩))), (13, (Value.int .i64 (List.length l4 : Int))), (14, (Value.int .i64 i1218)), (28, (Value.int .i64 (List.length x1252 : Int))), (29, (Value.int .i64 i1628))] envq ∧ Mem w No [blk g1706 40 [(Value.int .i64 j1716.1), (Value.int .i64 j1716.2.1), (Value.int .i64 j1716.2.2.1), (Value.int .i64 j1716.2.2.2.1)], blk g1707 40 [(Value.int .i64 j1716.2.2.2.2.1), (Value.int .i64 j1716.2.2.2.2.2.1), (Value.int .i64 j1716.2.2.2.2.2.2.1), (Value.int .i64 j1716.2.2.2.2.2.2.2)], rowsC 3 zs1631 (l1629 : List (List Int)) none, ownL 22 v1630 (zs1631 : List Hdr), blk g1 27 [v0_Items, (Value.int .i64 a0_Weight)]] wq) ?_ ?_
          · clear q1718
            obtain ⟨w1736, he1738⟩ : ∃ q, q = w1635.drew := ⟨_, rfl⟩
            have hm1737 := hm1641.drew; rw [← he1738] at hm1737
            refine cw_region_s (fun q => (blk g1 27 [v0_Items, (Value.int .i64 a0_Weight)]).φ q ∧ Sl (Old w No) q v0_Items a0_Items) (cls [10, 11, 12] [13]) mixed ?_
            rintro _ rfl; rw [← he1738]
            refine s_rp (i := 0) rfl (by kernel_rfl) rfl (fun _ => (rd_fld tF27_0 rfl)) ?_
            refine s_rd (i := 1) rfl (by kernel_rfl) rfl (fun w1735 hS => (rd_ld1 tO25 rfl (cells_blk hS.1) (off := 0) rfl)) ⟨(hm1737.get (k := 2) rfl), (hv0_Items.of_old hm1737)⟩ ?_
            refine s_rp (i := 2) rfl (by kernel_rfl) rfl (fun _ => (rd_move rfl)) ?_
            obtain ⟨x1755, h1756, q1757⟩ := ob hit1717; clear hit1717
            refine s_rp (i := 3) rfl (by kernel_rfl) rfl (fun _ => (rd_index tS25 rfl rfl (hv0_Items.of_old hm1737) h1756)) ?_
            refine s_rd (i := 4) rfl (by kernel_rfl) rfl (fun w1735 hS => (rd_ld tA40 rfl (hS.2.cells h1756) rfl)) ⟨(hm1737.get (k := 2) rfl), (hv0_Items.of_old hm1737)⟩ ?_
            refine s_rp (i := 5) rfl (by kernel_rfl) rfl (fun _ => (rd_fld tF27_0 rfl)) ?_
            refine s_rd (i := 6) rfl (by kernel_rfl) rfl (fun w1735 hS => (rd_ld1 tO25 rfl (cells_blk hS.1) (off := 0) rfl)) ⟨(hm1737.get (k := 2) rfl), (hv0_Items.of_old hm1737)⟩ ?_
            refine s_rp (i := 7) rfl (by kernel_rfl) rfl (fun _ => (rd_move rfl)) ?_
            obtain ⟨x1758, h1759, q1760⟩ := ob q1757; clear q1757
            refine s_rp (i := 8) rfl (by kernel_rfl) rfl (fun _ => (rd_index tS25 rfl rfl (hv0_Items.of_old hm1737) h1759)) ?_
            refine s_rd (i := 9) rfl (by kernel_rfl) rfl (fun w1735 hS => (rd_ld tA40 rfl (hS.2.cells h1759) rfl)) ⟨(hm1737.get (k := 2) rfl), (hv0_Items.of_old hm1737)⟩ ?_
            refine s_br2 (i := 10) (j := 11) (by kernel_rfl) ?_ ?_
            · skip
              refine e_ef (i := 10) rfl rfl (ef_alloc hm1737 tZ40 rfl) (by decide) ?_ ?_
              · rintro _ w1763 ⟨g1761, rfl, hm1762⟩
                intro _
                exact ⟨(hm1762.get (k := 3) rfl), (hv0_Items.of_old hm1762)⟩
              rintro _ w1763 ⟨g1761, rfl, hm1762⟩
              refine s_ef (i := 11) rfl (by kernel_rfl) rfl (ef_alloc hm1762 tZ40 rfl) (by decide) ?_ ?_
              · rintro _ w1766 ⟨g1764, rfl, hm1765⟩
                intro _
                exact ⟨(hm1765.get (k := 4) rfl), (hv0_Items.of_old hm1765)⟩
              rintro _ w1766 ⟨g1764, rfl, hm1765⟩
              refine s_ef0 (i := 12) rfl (by kernel_rfl) (ef_stw (k := 1) hm1765 tA40 rfl rfl (oc_cons rfl (oc_cons rfl (oc_cons rfl (oc_cons rfl oc_nil)))) rfl rfl rfl) (by decide) ?_ ?_
              · intro _ w1768 hm1767
                intro _
                exact ⟨(hm1767.get (k := 4) rfl), (hv0_Items.of_old hm1767)⟩
              intro _ w1768 hm1767
              refine s_ef0 (i := 13) rfl (by kernel_rfl) (ef_stw (k := 0) hm1767 tA40 rfl rfl (oc_cons rfl (oc_cons rfl (oc_cons rfl (oc_cons rfl oc_nil)))) rfl rfl rfl) (by decide) (fun _ _ _ q => absurd q (by decide)) ?_
              intro _ w1770 hm1769
              refine s_nil (by kernel_rfl) ?_
              obtain rfl := os q1760
              exact ⟨rfl, g1761, g1764, (by repeat (first | exact Sub.nil _ | refine Sub.cons rfl ?_)), (hm1769.pick [1, 0, 2, 3, 4] (by decide) rfl)⟩
            · skip
              refine e_ef (i := 11) rfl rfl (ef_alloc hm1737 tZ40 rfl) (by decide) ?_ ?_
              · rintro _ w1773 ⟨g1771, rfl, hm1772⟩
                intro _
                exact ⟨(hm1772.get (k := 3) rfl), (hv0_Items.of_old hm1772)⟩
              rintro _ w1773 ⟨g1771, rfl, hm1772⟩
              refine s_ef (i := 10) rfl (by kernel_rfl) rfl (ef_alloc hm1772 tZ40 rfl) (by decide) ?_ ?_
              · rintro _ w1776 ⟨g1774, rfl, hm1775⟩
                intro _
                exact ⟨(hm1775.get (k := 4) rfl), (hv0_Items.of_old hm1775)⟩
              rintro _ w1776 ⟨g1774, rfl, hm1775⟩
              refine s_ef0 (i := 12) rfl (by kernel_rfl) (ef_stw (k := 0) hm1775 tA40 rfl rfl (oc_cons rfl (oc_cons rfl (oc_cons rfl (oc_cons rfl oc_nil)))) rfl rfl rfl) (by decide) ?_ ?_
              · intro _ w1778 hm1777
                intro _
                exact ⟨(hm1777.get (k := 4) rfl), (hv0_Items.of_old hm1777)⟩
              intro _ w1778 hm1777
              refine s_ef0 (i := 13) rfl (by kernel_rfl) (ef_stw (k := 1) hm1777 tA40 rfl rfl (oc_cons rfl (oc_cons rfl (oc_cons rfl (oc_cons rfl oc_nil)))) rfl rfl rfl) (by decide) (fun _ _ _ q => absurd q (by decide)) ?_
              intro _ w1780 hm1779
              refine s_nil (by kernel_rfl) ?_
              obtain rfl := os q1760
              exact ⟨rfl, g1774, g1771, (by repeat (first | exact Sub.nil _ | refine Sub.cons rfl ?_)), (hm1779.pick [0, 1, 2, 3, 4] (by decide) rfl)⟩
          · clear hit1717
            intro e env1781 w1782 hX1783
            obtain ⟨rfl, g1706, g1707, hs1784, hm1785⟩ := hX1783
            refine qn_then ?_
            refine cw_sub hs1784 ?_
            refine cw_block ?_
            refine cw_seq ?_
            refine cw_region ?_
            refine t_rd rfl (rd_fld tF40_0 rfl) ?_
            refine t_rd rfl (rd_ld1 tO3 rfl (hm1785.blk 0 rfl) (off := 0) rfl) ?_
            refine t_rd rfl (rd_fld tF40_0 rfl) ?_
            refine t_rd rfl (rd_ld1 tO3 rfl (hm1785.blk 1 rfl) (off := 0) rfl) ?_
            refine t_rd rfl (rd_neq rfl rfl) ?_
            refine t_rd rfl (rd_move rfl) ?_
            refine t_rdg rfl rfl rfl rfl (gv_f _) (fun hg1786 => (rd_fld tF40_1 rfl)) ?_
            refine t_rdg rfl rfl rfl rfl (gv_f _) (fun hg1787 => (rd_ld1 tO3 (gvx rfl hg1787) (hm1785.blk 0 rfl) (off := 1) rfl)) ?_
            refine t_rdg rfl rfl rfl rfl (gv_f _) (fun hg1788 => (rd_fld tF40_1 rfl)) ?_
            refine t_rdg rfl rfl rfl rfl (gv_f _) (fun hg1789 => (rd_ld1 tO3 (gvx rfl hg1789) (hm1785.blk 1 rfl) (off := 1) rfl)) ?_
            refine t_rdg rfl rfl rfl rfl (gv_f _) (fun hg1790 => (rd_geq (gvx rfl hg1790) (gvx rfl hg1790))) ?_
            refine t_rd rfl (rd_or rfl (fun hc1791 => (gvx rfl (bnotIt hc1791)))) ?_
            refine t_rd rfl (rd_assign rfl) ?_
            refine rwt_nil ?_
            refine qn_then ?_
            obtain ⟨hb1792, q1793⟩ | ⟨hb1792, q1793⟩ := oi q1718 <;> clear q1718
            · refine cw_t rfl hb1792 ?_
              refine cw_skip ?_
              refine qn_block (qn_block (qn_then ?_))
              refine cw_region ?_
              obtain ⟨x1794, h1795, q1796⟩ := ob q1793; clear q1793
              refine t_rd rfl (rd_add64 h1795 rfl rfl) ?_
              refine t_rd rfl (rd_move rfl) ?_
              refine rwt_nil ?_
              refine qn_then ?_
              refine ⟨_, (os q1796), v1630, zs1631, (by repeat (first | exact Sub.nil _ | refine Sub.cons rfl ?_)), (hm1785.pick [2, 3, 4] (by decide) rfl)⟩
            · refine cw_f rfl hb1792 ?_
              refine cw_seq ?_
              refine cw_region ?_
              refine t_rd rfl (rd_move rfl) ?_
              refine t_rd rfl (rd_move rfl) ?_
              refine t_rd rfl (rd_lss rfl rfl) ?_
              refine t_rd rfl (rd_assign rfl) ?_
              refine rwt_nil ?_
              refine qn_then ?_
              obtain ⟨hb1797, q1798⟩ | ⟨hb1797, q1798⟩ := oi q1793 <;> clear q1793
              · refine cw_t rfl hb1797 ?_
                refine cw_region ?_
                refine t_rd rfl (rd_move rfl) ?_
                refine t_rd rfl (rd_move rfl) ?_
                obtain ⟨x1799, h1800, q1801⟩ := ob q1798; clear q1798
                refine t_rd rfl (rd_index tS41 rfl rfl ((Nl.mk (hm1785.sl_call 3 rfl) (hm1785.rows_call 2 rfl)).sl) h1800) ?_
                obtain ⟨zd1802, hz1803⟩ := (Nl.mk (hm1785.sl_call 3 rfl) (hm1785.rows_call 2 rfl)).row h1800
                refine t_rd rfl (rd_ld1 tO22 rfl ((Nl.mk (hm1785.sl_call 3 rfl) (hm1785.rows_call 2 rfl)).cells hz1803) (off := 0) rfl) ?_
                refine t_rd rfl (rd_move rfl) ?_
                obtain ⟨x1804, h1805, q1806⟩ := ob q1801; clear q1801
                refine t_rd rfl (rd_index tS22 rfl rfl ((Nl.mk (hm1785.sl_call 3 rfl) (hm1785.rows_call 2 rfl)).get hz1803 h1800) h1805) ?_
                have hm1807 := hm1785.pick [2, 0, 1, 3, 4] (L' := [rowsC 3 zs1631 (l1629 : List (List Int)) none, blk g1706 40 [(Value.int .i64 j1716.1), (Value.int .i64 j1716.2.1), (Value.int .i64 j1716.2.2.1), (Value.int .i64 j1716.2.2.2.1)], blk g1707 40 [(Value.int .i64 j1716.2.2.2.2.1), (Value.int .i64 j1716.2.2.2.2.2.1), (Value.int .i64 j1716.2.2.2.2.2.2.1), (Value.int .i64 j1716.2.2.2.2.2.2.2)], ownL 22 v1630 (zs1631 : List Hdr), blk g1 27 [v0_Items, (Value.int .i64 a0_Weight)]]) (by decide) rfl
                refine t_ef0 (ef_strow (off := 0) (x' := 2) hm1807 tO3 hz1803 h1800 rfl rfl rfl h1805 rfl rfl) ?_
                intro _ w1809 hm1808
                refine rwt_nil ?_
                refine qn_block (qn_block (qn_then ?_))
                refine cw_region ?_
                obtain ⟨x1810, h1811, q1812⟩ := ob q1806; clear q1806
                refine t_rd rfl (rd_add64 h1811 rfl rfl) ?_
                refine t_rd rfl (rd_move rfl) ?_
                refine rwt_nil ?_
                refine qn_then ?_
                refine ⟨_, (os q1812), v1630, zs1631, (by repeat (first | exact Sub.nil _ | refine Sub.cons rfl ?_)), (hm1808.pick [0, 3, 4] (by decide) rfl)⟩
              · refine cw_f rfl hb1797 ?_
                refine cw_region ?_
                refine t_rd rfl (rd_move rfl) ?_
                refine t_rd rfl (rd_move rfl) ?_
                obtain ⟨x1813, h1814, q1815⟩ := ob q1798; clear q1798
                refine t_rd rfl (rd_index tS41 rfl rfl ((Nl.mk (hm1785.sl_call 3 rfl) (hm1785.rows_call 2 rfl)).sl) h1814) ?_
                obtain ⟨zd1816, hz1817⟩ := (Nl.mk (hm1785.sl_call 3 rfl) (hm1785.rows_call 2 rfl)).row h1814
                refine t_rd rfl (rd_ld1 tO22 rfl ((Nl.mk (hm1785.sl_call 3 rfl) (hm1785.rows_call 2 rfl)).cells hz1817) (off := 0) rfl) ?_
                refine t_rd rfl (rd_move rfl) ?_
                obtain ⟨x1818, h1819, q1820⟩ := ob q1815; clear q1815
                refine t_rd rfl (rd_index tS22 rfl rfl ((Nl.mk (hm1785.sl_call 3 rfl) (hm1785.rows_call 2 rfl)).get hz1817 h1814) h1819) ?_
                have hm1821 := hm1785.pick [2, 0, 1, 3, 4] (L' := [rowsC 3 zs1631 (l1629 : List (List Int)) none, blk g1706 40 [(Value.int .i64 j1716.1), (Value.int .i64 j1716.2.1), (Value.int .i64 j1716.2.2.1), (Value.int .i64 j1716.2.2.2.1)], blk g1707 40 [(Value.int .i64 j1716.2.2.2.2.1), (Value.int .i64 j1716.2.2.2.2.2.1), (Value.int .i64 j1716.2.2.2.2.2.2.1), (Value.int .i64 j1716.2.2.2.2.2.2.2)], ownL 22 v1630 (zs1631 : List Hdr), blk g1 27 [v0_Items, (Value.int .i64 a0_Weight)]]) (by decide) rfl
                refine t_ef0 (ef_strow (off := 0) (x' := 1) hm1821 tO3 hz1817 h1814 rfl rfl rfl h1819 rfl rfl) ?_
                intro _ w1823 hm1822
                refine rwt_nil ?_
                refine qn_block (qn_block (qn_then ?_))
                refine cw_region ?_
                obtain ⟨x1824, h1825, q1826⟩ := ob q1820; clear q1820
                refine t_rd rfl (rd_add64 h1825 rfl rfl) ?_
                refine t_rd rfl (rd_move rfl) ?_
                refine rwt_nil ?_
                refine qn_then ?_
                refine ⟨_, (os q1826), v1630, zs1631, (by repeat (first | exact Sub.nil _ | refine Sub.cons rfl ?_)), (hm1822.pick [0, 3, 4] (by decide) rfl)⟩
        · refine cw_f rfl hb1642 ?_
          refine cw_exit ?_
          refine qx_then (qx_then ?_)
          obtain rfl := hr1637 _ (os q1643)
          exact ⟨rfl, v1630, zs1631, (by repeat (first | exact Sub.nil _ | refine Sub.cons rfl ?_)), (hm1641.pick [0, 1, 2] (by decide) rfl)⟩
      · skip
        intro e env1827 w1828 hX1829
        obtain ⟨rfl, v1626, zs1627, hs1830, hm1831⟩ := hX1829
        refine qx_same (qn_block (qn_then ?_))
        refine cw_sub hs1830 ?_
        refine cw_region ?_
        obtain ⟨x1832, h1833, q1834⟩ := ob q1640; clear q1640
        refine t_rd rfl (rd_add64 h1833 rfl rfl) ?_
        refine t_rd rfl (rd_move rfl) ?_
        refine rwt_nil ?_
        refine qn_then ?_
        refine ⟨_, (os q1834), v1626, zs1627, (by repeat (first | exact Sub.nil _ | refine Sub.cons rfl ?_)), (hm1831.pick [0, 1, 2] (by decide) rfl)⟩
    · refine cw_f rfl hb1232 ?_
      refine cw_exit ?_
      refine qx_then (qx_then ?_)
      obtain rfl := hr1227 _ (os q1233)
      exact ⟨rfl, v1220, zs1221, (by repeat (first | exact Sub.nil _ | refine Sub.cons rfl ?_)), (hm1231.pick [0, 1] (by decide) rfl)⟩
  · skip
    intro e env1835 w1836 hX1837
    obtain ⟨rfl, v1216, zs1217, hs1838, hm1839⟩ := hX1837
    refine qx_same (qn_then ?_)
    refine cw_sub hs1838 ?_
    refine cw_seq ?_
    refine cw_region ?_
    refine t_rd rfl (rd_move rfl) ?_
    refine t_rd rfl (rd_assign rfl) ?_
    refine rwt_nil ?_
    refine qn_then ?_
    refine cw_ret ?_
    obtain rfl := os q1230
    exact ret1 rfl rfl ⟨zs1217, v1216, rfl, (hm1839.pick [1, 0] (by decide) rfl)⟩

theorem leastcode_solve_1_ok {N : Nat} {a0 : Int} {a1 : Int} {a2_Items : List T_Item} {a2_Weight : Int} {res : Int} (h : leastcode_solve_1 N a0 a1 a2_Items a2_Weight = some res) {w : World} {gb2 : Nat} {v2_Items : Value} (hv2_Items : Sl (Old w No) w v2_Items a2_Items) (hb2 : BoxL (Old w No) w gb2 [v2_Items, (Value.int .i64 a2_Weight)]) :
    CallsR Tryz.prog 89 [(Value.int .i64 a0), (Value.int .i64 a1), (Value.pointer (some ⟨gb2, 0, none⟩))] w (fun u w' => u = (Value.int .i64 res) ∧ Mem w No [] w') := by
  unfold leastcode_solve_1 at h
  refine fn_ok Tryz.func89 rfl rfl rfl ?_
  have hm0 := Mem.nil w
  refine cw_seq ?_
  refine cw_region ?_
  refine t_rd rfl (rd_assign rfl) ?_
  refine rwt_nil ?_
  refine qn_then ?_
  refine cw_seq ?_
  obtain ⟨w11, he13⟩ : ∃ q, q = w.drew := ⟨_, rfl⟩
  have hm12 := hm0.drew; rw [← he13] at hm12
  refine cw_region_s (fun q => q = w11) (cls [] []) mixed ?_
  rintro _ rfl; rw [← he13]
  refine s_rp (i := 0) rfl (by kernel_rfl) rfl (fun _ => (rd_fld tF27_0 rfl)) ?_
  refine s_rd (i := 1) rfl (by kernel_rfl) rfl (fun _ hS => by rw [hS]; exact (rd_ld1 tO25 rfl (hb2.of_old hm12).2 (off := 0) rfl)) rfl ?_
  refine s_rp (i := 2) rfl (by kernel_rfl) rfl (fun _ => (rd_move rfl)) ?_
  obtain ⟨x14, h15, q16⟩ := ob h; clear h
  refine s_rp (i := 3) rfl (by kernel_rfl) rfl (fun _ => (rd_index tS25 rfl rfl (hv2_Items.of_old hm12) h15)) ?_
  refine s_rp (i := 4) rfl (by kernel_rfl) rfl (fun _ => (rd_fld tF40_1 rfl)) ?_
  refine s_rd (i := 5) rfl (by kernel_rfl) rfl (fun _ hS => by rw [hS]; exact (rd_ld1 tO3 rfl ((hv2_Items.of_old hm12).cells h15) (off := 1) rfl)) rfl ?_
  refine s_rp (i := 6) rfl (by kernel_rfl) rfl (fun _ => (rd_fld tF27_0 rfl)) ?_
  refine s_rd (i := 7) rfl (by kernel_rfl) rfl (fun _ hS => by rw [hS]; exact (rd_ld1 tO25 rfl (hb2.of_old hm12).2 (off := 0) rfl)) rfl ?_
  refine s_rp (i := 8) rfl (by kernel_rfl) rfl (fun _ => (rd_move rfl)) ?_
  obtain ⟨x17, h18, q19⟩ := ob q16; clear q16
  refine s_rp (i := 9) rfl (by kernel_rfl) rfl (fun _ => (rd_index tS25 rfl rfl (hv2_Items.of_old hm12) h18)) ?_
  refine s_rp (i := 10) rfl (by kernel_rfl) rfl (fun _ => (rd_fld tF40_1 rfl)) ?_
  refine s_rd (i := 11) rfl (by kernel_rfl) rfl (fun _ hS => by rw [hS]; exact (rd_ld1 tO3 rfl ((hv2_Items.of_old hm12).cells h18) (off := 1) rfl)) rfl ?_
  obtain ⟨x20, h21, q22⟩ := ob q19; clear q19
  refine s_rp (i := 12) rfl (by kernel_rfl) rfl (fun _ => (rd_sub64 h21 rfl rfl)) ?_
  refine s_rp (i := 13) rfl (by kernel_rfl) rfl (fun _ => (rd_assign rfl)) ?_
  refine s_nil (by kernel_rfl) ?_
  refine qn_then ?_
  refine cw_ret ?_
  obtain rfl := os q22
  exact ret1 rfl rfl ⟨rfl, (hm12.pick [] (by decide) rfl)⟩

theorem leastcode_solve_1_okp {N : Nat} {a0 : Int} {a1 : Int} {a2_Items : List T_Item} {a2_Weight : Int} {res : Int} (h : leastcode_solve_1 N a0 a1 a2_Items a2_Weight = some res) {w : World} {gb2 : Nat} {v2_Items : Value} (hv2_Items : Sl (Old w No) w v2_Items a2_Items) (hb2 : BoxL (Old w No) w gb2 [v2_Items, (Value.int .i64 a2_Weight)]) :
    CallsR Tryz.prog 89 [(Value.int .i64 a0), (Value.int .i64 a1), (Value.pointer (some ⟨gb2, 0, none⟩))] w (fun u w' => u = (Value.int .i64 res) ∧ ∃ q, w' = w.drewN q) := by
  unfold leastcode_solve_1 at h
  refine fn_ok Tryz.func89 rfl rfl rfl ?_
  have hm0 := Mem.nil w
  refine cw_seq ?_
  refine cw_region ?_
  refine t_rd rfl (rd_assign rfl) ?_
  refine rwt_nil ?_
  refine qn_then ?_
  refine cw_seq ?_
  obtain ⟨w11, he13⟩ : ∃ q, q = w.drew := ⟨_, rfl⟩
  have hm12 := hm0.drew; rw [← he13] at hm12
  refine cw_region_s (fun q => q = w11) (cls [] []) mixed ?_
  rintro _ rfl; rw [← he13]
  refine s_rp (i := 0) rfl (by kernel_rfl) rfl (fun _ => (rd_fld tF27_0 rfl)) ?_
  refine s_rd (i := 1) rfl (by kernel_rfl) rfl (fun _ hS => by rw [hS]; exact (rd_ld1 tO25 rfl (hb2.of_old hm12).2 (off := 0) rfl)) rfl ?_
  refine s_rp (i := 2) rfl (by kernel_rfl) rfl (fun _ => (rd_move rfl)) ?_
  obtain ⟨x14, h15, q16⟩ := ob h; clear h
  refine s_rp (i := 3) rfl (by kernel_rfl) rfl (fun _ => (rd_index tS25 rfl rfl (hv2_Items.of_old hm12) h15)) ?_
  refine s_rp (i := 4) rfl (by kernel_rfl) rfl (fun _ => (rd_fld tF40_1 rfl)) ?_
  refine s_rd (i := 5) rfl (by kernel_rfl) rfl (fun _ hS => by rw [hS]; exact (rd_ld1 tO3 rfl ((hv2_Items.of_old hm12).cells h15) (off := 1) rfl)) rfl ?_
  refine s_rp (i := 6) rfl (by kernel_rfl) rfl (fun _ => (rd_fld tF27_0 rfl)) ?_
  refine s_rd (i := 7) rfl (by kernel_rfl) rfl (fun _ hS => by rw [hS]; exact (rd_ld1 tO25 rfl (hb2.of_old hm12).2 (off := 0) rfl)) rfl ?_
  refine s_rp (i := 8) rfl (by kernel_rfl) rfl (fun _ => (rd_move rfl)) ?_
  obtain ⟨x17, h18, q19⟩ := ob q16; clear q16
  refine s_rp (i := 9) rfl (by kernel_rfl) rfl (fun _ => (rd_index tS25 rfl rfl (hv2_Items.of_old hm12) h18)) ?_
  refine s_rp (i := 10) rfl (by kernel_rfl) rfl (fun _ => (rd_fld tF40_1 rfl)) ?_
  refine s_rd (i := 11) rfl (by kernel_rfl) rfl (fun _ hS => by rw [hS]; exact (rd_ld1 tO3 rfl ((hv2_Items.of_old hm12).cells h18) (off := 1) rfl)) rfl ?_
  obtain ⟨x20, h21, q22⟩ := ob q19; clear q19
  refine s_rp (i := 12) rfl (by kernel_rfl) rfl (fun _ => (rd_sub64 h21 rfl rfl)) ?_
  refine s_rp (i := 13) rfl (by kernel_rfl) rfl (fun _ => (rd_assign rfl)) ?_
  refine s_nil (by kernel_rfl) ?_
  refine qn_then ?_
  refine cw_ret ?_
  obtain rfl := os q22
  exact ret1 rfl rfl ⟨rfl, 1, he13⟩

theorem code_in_ok {N : Nat} {a0 : Int} {a1 : Int} {a2 : Int} {res : Bool} (h : code_in N a0 a1 a2 = some res) {w : World}   :
    CallsR Tryz.prog 70 [(Value.int .i64 a0), (Value.int .i64 a1), (Value.int .i64 a2)] w (fun u w' => u = (Value.bool res) ∧ Mem w No [] w') := by
  unfold code_in at h
  refine fn_ok Tryz.func70 rfl rfl rfl ?_
  have hm0 := Mem.nil w
  refine cw_seq ?_
  refine cw_region ?_
  refine t_rd rfl (rd_assign rfl) ?_
  refine rwt_nil ?_
  refine qn_then ?_
  refine cw_seq ?_
  refine cw_region ?_
  refine t_rd rfl (rd_move rfl) ?_
  refine t_rd rfl (rd_move rfl) ?_
  refine t_rd rfl (rd_geq rfl rfl) ?_
  refine t_rd rfl (rd_move rfl) ?_
  refine t_rdg rfl rfl rfl rfl (gv_t _) (fun hg1 => (rd_move rfl)) ?_
  refine t_rdg rfl rfl rfl rfl (gv_t _) (fun hg2 => (rd_move rfl)) ?_
  refine t_rdg rfl rfl rfl rfl (gv_t _) (fun hg3 => (rd_leq (gvx rfl hg3) (gvx rfl hg3))) ?_
  refine t_rd rfl (rd_and rfl (fun hc4 => (gvx rfl hc4))) ?_
  refine t_rd rfl (rd_assign rfl) ?_
  refine rwt_nil ?_
  refine qn_then ?_
  refine cw_ret ?_
  obtain rfl := os h
  exact ret1 rfl rfl ⟨rfl, (hm0.pick [] (by decide) rfl)⟩

theorem code_form_ok {N : Nat} {a0 : Int} {a1 : Int} {res : Bool} (h : code_form N a0 a1 = some res) {w : World}   :
    CallsR Tryz.prog 90 [(Value.int .i64 a0), (Value.int .i64 a1)] w (fun u w' => u = (Value.bool res) ∧ Mem w No [] w') := by
  unfold code_form at h
  refine fn_ok Tryz.func90 rfl rfl rfl ?_
  have hm0 := Mem.nil w
  refine cw_seq ?_
  refine cw_region ?_
  refine t_rd rfl (rd_assign rfl) ?_
  refine rwt_nil ?_
  refine qn_then ?_
  refine cw_seq ?_
  refine cw_region ?_
  refine t_rd rfl (rd_move rfl) ?_
  obtain ⟨r1, h2, q3⟩ := ob h; clear h
  refine t_ef rfl (ef_call tf70 rfl (code_in_ok h2)) ?_
  rintro _ w5 ⟨e_, hm4⟩
  obtain rfl := e_.symm
  have hm6 := hm0.call hm4
  refine t_rd rfl (rd_move rfl) ?_
  refine t_rdg rfl rfl rfl rfl (gv_t _) (fun hg7 => (rd_move rfl)) ?_
  obtain ⟨r9, h10, q11⟩ := ob q3; clear q3
  refine t_efg rfl rfl rfl rfl (R := (fun v w' => v = gV r1 (Value.bool r9) ∧ Mem w5 No [] w')) (gv_t _) (fun hg8 => (ef_call tf70 (evc (gvx rfl hg8) (evc rfl (evc rfl evn))) (code_in_ok (gO_t h10 hg8))).mono (by rintro _ _ ⟨rfl, q⟩; exact ⟨(gV_t hg8).symm, q⟩)) (fun q => ⟨(gV_f q).symm, Mem.nil _⟩) ?_
  rintro _ w13 ⟨rfl, hm12⟩
  have hm14 := hm6.call hm12
  refine t_rd rfl (rd_and rfl (fun hc15 => (gvx rfl hc15))) ?_
  refine t_rd rfl (rd_assign rfl) ?_
  refine rwt_nil ?_
  refine qn_then ?_
  refine cw_ret ?_
  obtain rfl := os q11
  exact ret1 rfl rfl ⟨rfl, (hm14.pick [] (by decide) rfl)⟩

theorem code_missed_ok {N : Nat} {a0 : Int} {res : Int} (h : code_missed N a0 = some res) {w : World}   :
    CallsR Tryz.prog 91 [(Value.int .i64 a0)] w (fun u w' => u = (Value.int .i64 res) ∧ Mem w No [] w') := by
  unfold code_missed at h
  refine fn_ok Tryz.func91 rfl rfl rfl ?_
  have hm0 := Mem.nil w
  refine cw_seq ?_
  refine cw_region ?_
  refine t_rd rfl (rd_assign rfl) ?_
  refine rwt_nil ?_
  refine qn_then ?_
  refine cw_seq ?_
  refine cw_region ?_
  refine t_rd rfl (rd_move rfl) ?_
  obtain ⟨x1, h2, q3⟩ := ob h; clear h
  refine t_rd rfl (rd_shl_i64 h2 rfl rfl) ?_
  obtain ⟨x4, h5, q6⟩ := ob q3; clear q3
  refine t_rd rfl (rd_sub64 h5 rfl rfl) ?_
  refine t_rd rfl (rd_assign rfl) ?_
  refine rwt_nil ?_
  refine qn_then ?_
  refine cw_ret ?_
  obtain rfl := os q6
  exact ret1 rfl rfl ⟨rfl, (hm0.pick [] (by decide) rfl)⟩

theorem code_ones_ok {N : Nat} {a0 : Int} {res : Int} (h : code_ones N a0 = some res) {w : World}   :
    CallsR Tryz.prog 92 [(Value.int .i64 a0)] w (fun u w' => u = (Value.int .i64 res) ∧ Mem w No [] w') := by
  unfold code_ones at h
  refine fn_ok Tryz.func92 rfl rfl rfl ?_
  have hm0 := Mem.nil w
  refine cw_seq ?_
  refine cw_region ?_
  refine t_rd rfl (rd_assign rfl) ?_
  refine rwt_nil ?_
  refine qn_then ?_
  refine cw_seq ?_
  refine cw_region ?_
  refine t_rd rfl (rd_assign rfl) ?_
  refine rwt_nil ?_
  refine qn_then ?_
  refine cw_seq ?_
  refine cw_block ?_
  obtain ⟨r34, hit35, q36⟩ := ob h; clear h
  refine cw_loop2 (I := fun q envq wq => Sub [(0, (Value.int .i64 q.1)), (3, (Value.int .i64 q.2))] envq ∧ Mem w No [] wq) (X := fun eq envq wq => eq = .exit 0 ∧ Sub [(3, (Value.int .i64 r34))] envq ∧ Mem w No [] wq) hit35 ⟨(by repeat (first | exact Sub.nil _ | refine Sub.cons rfl ?_)), (hm0.pick [] (by decide) rfl)⟩ ?_ ?_
  · rintro ⟨i26, i27⟩ x29 env30 w31 hf32 hr33 ⟨hs_, hm_⟩
    have hs_ : Sub [(0, (Value.int .i64 i26)), (3, (Value.int .i64 i27))] env30 := hs_
    have hm37 : Mem w No [] w31 := hm_
    refine cw_sub hs_ ?_
    clear hs_ hm_ q36
    have h : code_ones_l1 N i26 i27 = some x29 := hf32
    clear hf32
    refine cw_seq ?_
    refine cw_seq ?_
    refine cw_region ?_
    refine t_rd rfl (rd_move rfl) ?_
    refine t_rd rfl (rd_neq rfl rfl) ?_
    refine rwt_nil ?_
    refine qn_then ?_
    obtain ⟨hb38, q39⟩ | ⟨hb38, q39⟩ := oi h <;> clear h
    · refine cw_t rfl hb38 ?_
      refine cw_skip ?_
      refine qn_then ?_
      refine cw_seq ?_
      refine cw_block ?_
      refine cw_region ?_
      refine t_rd rfl (rd_move rfl) ?_
      obtain ⟨x40, h41, q42⟩ := ob q39; clear q39
      refine t_rd rfl (rd_add64 h41 rfl rfl) ?_
      refine t_rd rfl (rd_assign rfl) ?_
      refine rwt_nil ?_
      refine qn_block (qn_then ?_)
      refine cw_region ?_
      refine t_rd rfl (rd_move rfl) ?_
      refine t_rd rfl (rd_move rfl) ?_
      obtain ⟨x43, h44, q45⟩ := ob q42; clear q42
      refine t_rd rfl (rd_sub64 h44 rfl rfl) ?_
      obtain ⟨x46, h47, q48⟩ := ob q45; clear q45
      refine t_rd rfl (rd_bits_and_i64 h47 rfl rfl) ?_
      refine t_rd rfl (rd_assign rfl) ?_
      refine rwt_nil ?_
      refine qn_then ?_
      refine ⟨_, (os q48), (by repeat (first | exact Sub.nil _ | refine Sub.cons rfl ?_)), (hm37.pick [] (by decide) rfl)⟩
    · refine cw_f rfl hb38 ?_
      refine cw_exit ?_
      refine qx_then (qx_then ?_)
      obtain rfl := hr33 _ (os q39)
      exact ⟨rfl, (by repeat (first | exact Sub.nil _ | refine Sub.cons rfl ?_)), (hm37.pick [] (by decide) rfl)⟩
  · skip
    intro e env49 w50 hX51
    obtain ⟨rfl, hs52, hm53⟩ := hX51
    refine qx_same (qn_then ?_)
    refine cw_sub hs52 ?_
    refine cw_seq ?_
    refine cw_region ?_
    refine t_rd rfl (rd_move rfl) ?_
    refine t_rd rfl (rd_assign rfl) ?_
    refine rwt_nil ?_
    refine qn_then ?_
    refine cw_ret ?_
    obtain rfl := os q36
    exact ret1 rfl rfl ⟨rfl, (hm53.pick [] (by decide) rfl)⟩

theorem code_Next_ok {N : Nat} {a0 : Int} {a1 : Int} {a2 : Int} {res : Int × Int} (h : code_Next N a0 a1 a2 = some res) {w : World}   :
    CallsR Tryz.prog 69 [(Value.int .i64 a0), (Value.int .i64 a1), (Value.int .i64 a2)] w (fun u w' => u = (Value.tuple #[(Value.int .i64 res.1), (Value.int .i64 res.2)]) ∧ Mem w No [] w') := by
  unfold code_Next at h
  refine fn_ok Tryz.func69 rfl rfl rfl ?_
  have hm0 := Mem.nil w
  refine cw_seq ?_
  refine cw_region ?_
  refine t_rd rfl (rd_assign rfl) ?_
  refine t_rd rfl (rd_assign rfl) ?_
  refine rwt_nil ?_
  refine qn_then ?_
  refine cw_seq ?_
  refine cw_seq ?_
  refine cw_region ?_
  refine t_rd rfl (rd_move rfl) ?_
  refine t_rd rfl (rd_move rfl) ?_
  obtain ⟨r1, h2, q3⟩ := ob h; clear h
  refine t_ef rfl (ef_call tf90 rfl (code_form_ok h2)) ?_
  rintro _ w5 ⟨e_, hm4⟩
  obtain rfl := e_.symm
  have hm6 := hm0.call hm4
  refine t_rd rfl (rd_not rfl) ?_
  refine t_rd rfl (rd_move rfl) ?_
  refine t_rdg rfl rfl rfl rfl (gv_f _) (fun hg7 => (rd_move rfl)) ?_
  refine t_rdg rfl rfl rfl rfl (gv_f _) (fun hg8 => (rd_lss (gvx rfl hg8) rfl)) ?_
  refine t_rd rfl (rd_or rfl (fun hc9 => (gvx rfl (bnotIt hc9)))) ?_
  refine rwt_nil ?_
  refine qn_then ?_
  obtain ⟨hb10, q11⟩ | ⟨hb10, q11⟩ := oi q3 <;> clear q3
  · refine cw_t rfl hb10 ?_
    refine cw_seq ?_
    refine cw_region ?_
    refine t_rd rfl (rd_assign rfl) ?_
    refine t_rd rfl (rd_assign rfl) ?_
    refine rwt_nil ?_
    refine qn_then ?_
    refine cw_ret ?_
    refine qr_then ?_
    obtain rfl := os q11
    exact ret2 rfl rfl rfl ⟨rfl, (hm6.pick [] (by decide) rfl)⟩
  · refine cw_f rfl hb10 ?_
    refine cw_skip ?_
    refine qn_then ?_
    refine cw_seq ?_
    refine cw_seq ?_
    refine cw_region ?_
    refine t_rd rfl (rd_move rfl) ?_
    refine t_rd rfl (rd_geq rfl rfl) ?_
    refine rwt_nil ?_
    refine qn_then ?_
    obtain ⟨hb12, q13⟩ | ⟨hb12, q13⟩ := oi q11 <;> clear q11
    · refine cw_t rfl hb12 ?_
      refine cw_seq ?_
      refine cw_region ?_
      refine t_rd rfl (rd_assign rfl) ?_
      refine t_rd rfl (rd_assign rfl) ?_
      refine rwt_nil ?_
      refine qn_then ?_
      refine cw_ret ?_
      refine qr_then ?_
      obtain rfl := os q13
      exact ret2 rfl rfl rfl ⟨rfl, (hm6.pick [] (by decide) rfl)⟩
    · refine cw_f rfl hb12 ?_
      refine cw_skip ?_
      refine qn_then ?_
      refine cw_seq ?_
      refine cw_region ?_
      refine t_rd rfl (rd_assign rfl) ?_
      refine rwt_nil ?_
      refine qn_then ?_
      refine cw_seq ?_
      refine cw_seq ?_
      refine cw_region ?_
      refine t_rd rfl (rd_move rfl) ?_
      obtain ⟨r14, h15, q16⟩ := ob q13; clear q13
      refine t_ef rfl (ef_call tf91 rfl (code_missed_ok h15)) ?_
      rintro _ w18 ⟨e_, hm17⟩
      obtain rfl := e_.symm
      have hm19 := hm6.call hm17
      refine t_rd rfl (rd_assign rfl) ?_
      refine rwt_nil ?_
      refine qn_then ?_
      refine cw_seq ?_
      refine cw_region ?_
      refine t_rd rfl (rd_move rfl) ?_
      refine t_rd rfl (rd_move rfl) ?_
      refine t_rd rfl (rd_gtr rfl rfl) ?_
      refine rwt_nil ?_
      refine qn_then ?_
      obtain ⟨j38, hit39, q40⟩ := ob q16; clear q16
      refine cw_join (X := fun eq envq wq => eq = .normal ∧ Sub [(1, (Value.int .i64 a1)), (2, (Value.int .i64 a2)), (8, (Value.int .i64 j38))] envq ∧ Mem w No [] wq) ?_ ?_
      · clear q40
        obtain ⟨hb41, q42⟩ | ⟨hb41, q42⟩ := oi hit39 <;> clear hit39
        · refine cw_t rfl hb41 ?_
          refine cw_region ?_
          refine t_rd rfl (rd_move rfl) ?_
          refine t_rd rfl (rd_move rfl) ?_
          obtain ⟨x43, h44, q45⟩ := ob q42; clear q42
          refine t_rd rfl (rd_sub64 h44 rfl rfl) ?_
          refine t_rd rfl (rd_move rfl) ?_
          obtain ⟨x46, h47, q48⟩ := ob q45; clear q45
          refine t_rd rfl (rd_shl_i64 h47 rfl rfl) ?_
          obtain ⟨x49, h50, q51⟩ := ob q48; clear q48
          refine t_rd rfl (rd_add64 h50 rfl rfl) ?_
          obtain ⟨x52, h53, q54⟩ := ob q51; clear q51
          refine t_rd rfl (rd_sub64 h53 rfl rfl) ?_
          refine t_rd rfl (rd_move rfl) ?_
          obtain ⟨x55, h56, q57⟩ := ob q54; clear q54
          refine t_rd rfl (rd_shr_i64 h56 rfl rfl) ?_
          refine t_rd rfl (rd_assign rfl) ?_
          refine rwt_nil ?_
          obtain rfl := os q57
          exact ⟨rfl, (by repeat (first | exact Sub.nil _ | refine Sub.cons rfl ?_)), (hm19.pick [] (by decide) rfl)⟩
        · refine cw_f rfl hb41 ?_
          refine cw_skip ?_
          obtain rfl := os q42
          exact ⟨rfl, (by repeat (first | exact Sub.nil _ | refine Sub.cons rfl ?_)), (hm19.pick [] (by decide) rfl)⟩
      · clear hit39
        intro e env58 w59 hX60
        obtain ⟨rfl, hs61, hm62⟩ := hX60
        refine qn_then ?_
        refine cw_sub hs61 ?_
        refine cw_seq ?_
        refine cw_block ?_
        obtain ⟨r104, hit105, q106⟩ := ob q40; clear q40
        refine cw_loop2 (I := fun q envq wq => Sub [(1, (Value.int .i64 a1)), (2, (Value.int .i64 a2)), (8, (Value.int .i64 q))] envq ∧ Mem w No [] wq) (X := fun eq envq wq => (∃ p107, r104 = (Sum.inl p107) ∧ eq = .ret ∧ retQ Tryz.prog 56 Tryz.f69 (fun u w' => u = (Value.tuple #[(Value.int .i64 p107.1), (Value.int .i64 p107.2)]) ∧ Mem w No [] w') .ret envq wq) ∨ (∃ p108, r104 = (Sum.inr p108) ∧ eq = .exit 0 ∧ Sub [(1, (Value.int .i64 a1)), (8, (Value.int .i64 p108))] envq ∧ Mem w No [] wq)) hit105 ⟨(by repeat (first | exact Sub.nil _ | refine Sub.cons rfl ?_)), (hm62.pick [] (by decide) rfl)⟩ ?_ ?_
        · rintro i97 x99 env100 w101 hf102 hr103 ⟨hs_, hm_⟩
          have hs_ : Sub [(1, (Value.int .i64 a1)), (2, (Value.int .i64 a2)), (8, (Value.int .i64 i97))] env100 := hs_
          have hm109 : Mem w No [] w101 := hm_
          refine cw_sub hs_ ?_
          clear hs_ hm_ q106
          have h : code_Next_l1 N a2 i97 = some x99 := hf102
          clear hf102
          refine cw_seq ?_
          refine cw_seq ?_
          refine cw_region ?_
          refine t_rd rfl (rd_move rfl) ?_
          obtain ⟨r110, h111, q112⟩ := ob h; clear h
          refine t_ef rfl (ef_call tf92 rfl (code_ones_ok h111)) ?_
          rintro _ w114 ⟨e_, hm113⟩
          obtain rfl := e_.symm
          have hm115 := hm109.call hm113
          refine t_rd rfl (rd_move rfl) ?_
          refine t_rd rfl (rd_gtr rfl rfl) ?_
          refine rwt_nil ?_
          refine qn_then ?_
          obtain ⟨hb116, q117⟩ | ⟨hb116, q117⟩ := oi q112 <;> clear q112
          · refine cw_t rfl hb116 ?_
            refine cw_skip ?_
            refine qn_then ?_
            refine cw_block ?_
            refine cw_seq ?_
            refine cw_region ?_
            refine t_rd rfl (rd_move rfl) ?_
            refine t_rd rfl (rd_move rfl) ?_
            refine t_rd rfl (rd_move rfl) ?_
            obtain ⟨x118, h119, q120⟩ := ob q117; clear q117
            refine t_rd rfl (rd_neg64 h119 rfl) ?_
            refine t_rd rfl (rd_andI rfl rfl) ?_
            obtain ⟨x121, h122, q123⟩ := ob q120; clear q120
            refine t_rd rfl (rd_add64 h122 rfl rfl) ?_
            refine t_rd rfl (rd_assign rfl) ?_
            refine rwt_nil ?_
            refine qn_then ?_
            refine cw_seq ?_
            refine cw_region ?_
            refine t_rd rfl (rd_move rfl) ?_
            refine t_rd rfl (rd_geq rfl rfl) ?_
            refine rwt_nil ?_
            refine qn_then ?_
            obtain ⟨hb124, q125⟩ | ⟨hb124, q125⟩ := oi q123 <;> clear q123
            · refine cw_t rfl hb124 ?_
              refine cw_seq ?_
              refine cw_region ?_
              refine t_rd rfl (rd_assign rfl) ?_
              refine t_rd rfl (rd_assign rfl) ?_
              refine rwt_nil ?_
              refine qn_then ?_
              refine cw_ret ?_
              refine qr_block (qr_then ?_)
              obtain rfl := hr103 _ (os q125)
              refine .inl (⟨_, rfl, ⟨rfl, ?_⟩⟩)
              exact ret2 rfl rfl rfl ⟨rfl, (hm115.pick [] (by decide) rfl)⟩
            · refine cw_f rfl hb124 ?_
              refine cw_skip ?_
              refine qn_block (qn_then ?_)
              refine ⟨_, (os q125), (by repeat (first | exact Sub.nil _ | refine Sub.cons rfl ?_)), (hm115.pick [] (by decide) rfl)⟩
          · refine cw_f rfl hb116 ?_
            refine cw_exit ?_
            refine qx_then (qx_then ?_)
            obtain rfl := hr103 _ (os q117)
            exact .inr (⟨_, rfl, ⟨rfl, (by repeat (first | exact Sub.nil _ | refine Sub.cons rfl ?_)), (hm115.pick [] (by decide) rfl)⟩⟩)
        · skip
          intro e env126 w127 hX128
          rcases hX128 with hX128 | hX128
          · obtain ⟨p130, rfl, hX128⟩ := hX128
            obtain ⟨rfl, hq132⟩ := hX128
            exact qr_block (qr_then ((by have e := os q106; subst e; exact hq132)))
          · obtain ⟨p133, rfl, hX128⟩ := hX128
            obtain ⟨rfl, hs134, hm135⟩ := hX128
            refine qx_same (qn_then ?_)
            refine cw_sub hs134 ?_
            refine cw_seq ?_
            refine cw_seq ?_
            obtain ⟨w146, he148⟩ : ∃ q, q = w127.drew := ⟨_, rfl⟩
            have hm147 := hm135.drew; rw [← he148] at hm147
            refine cw_region_s (fun q => q = w146) (cls [] [4]) mixed ?_
            rintro _ rfl; rw [← he148]
            refine s_rp (i := 0) rfl (by kernel_rfl) rfl (fun _ => (rd_move rfl)) ?_
            refine s_rp (i := 1) rfl (by kernel_rfl) rfl (fun _ => (rd_move rfl)) ?_
            obtain ⟨x149, h150, q151⟩ := ob q106; clear q106
            refine s_rp (i := 2) rfl (by kernel_rfl) rfl (fun _ => (rd_shl_i64 h150 rfl rfl)) ?_
            refine s_rp (i := 3) rfl (by kernel_rfl) rfl (fun _ => (rd_move rfl)) ?_
            refine s_ef (i := 4) rfl (by kernel_rfl) rfl (ef_call tf91 rfl (code_missed_ok h15)) (by decide) (fun _ _ _ q => absurd q (by decide)) ?_
            rintro _ w153 ⟨e_, hm152⟩
            obtain rfl := e_.symm
            have hm154 := hm147.call hm152
            obtain ⟨x155, h156, q157⟩ := ob q151; clear q151
            refine s_rp (i := 5) rfl (by kernel_rfl) rfl (fun _ => (rd_bits_or_i64 h156 rfl rfl)) ?_
            refine s_rp (i := 6) rfl (by kernel_rfl) rfl (fun _ => (rd_assign rfl)) ?_
            refine s_nil (by kernel_rfl) ?_
            refine qn_then ?_
            refine cw_seq ?_
            refine cw_region ?_
            refine t_rd rfl (rd_move rfl) ?_
            refine t_rd rfl (rd_lss rfl rfl) ?_
            refine rwt_nil ?_
            refine qn_then ?_
            obtain ⟨hb158, q159⟩ | ⟨hb158, q159⟩ := oi q157 <;> clear q157
            · refine cw_t rfl hb158 ?_
              refine cw_seq ?_
              refine cw_region ?_
              refine t_rd rfl (rd_move rfl) ?_
              refine t_rd rfl (rd_assign rfl) ?_
              refine t_rd rfl (rd_assign rfl) ?_
              refine rwt_nil ?_
              refine qn_then ?_
              refine cw_ret ?_
              refine qr_then ?_
              obtain rfl := os q159
              exact ret2 rfl rfl rfl ⟨rfl, (hm154.pick [] (by decide) rfl)⟩
            · refine cw_f rfl hb158 ?_
              refine cw_skip ?_
              refine qn_then ?_
              refine cw_seq ?_
              refine cw_region ?_
              refine t_rd rfl (rd_assign rfl) ?_
              refine t_rd rfl (rd_assign rfl) ?_
              refine rwt_nil ?_
              refine qn_then ?_
              refine cw_ret ?_
              obtain rfl := os q159
              exact ret2 rfl rfl rfl ⟨rfl, (hm154.pick [] (by decide) rfl)⟩

theorem leastcode_solve_ok {N : Nat} {a0_Items : List T_Item} {a0_Weight : Int} {a1 : List (List Int)} {res : List Int × List Int × Int} (h : leastcode_solve N a0_Items a0_Weight a1 = some res) {w : World} {v0_Items : Value} {v1 : Value} (hv0_Items : Sl (Old w No) w v0_Items a0_Items) (hv1 : Sl (Old w No) w v1 a1) :
    CallsR Tryz.prog 60 [(Value.agg #[v0_Items, (Value.int .i64 a0_Weight)]), v1] w (fun u w' => ∃ (y0 : Value) (y1 : Value), u = (Value.tuple #[y0, y1, (Value.int .i64 res.2.2)]) ∧ Mem w No [ownL 3 y0 (res.1 : List Int), ownL 3 y1 (res.2.1 : List Int)] w') := by
  unfold leastcode_solve at h
  refine fn_ok Tryz.func60 rfl rfl rfl ?_
  obtain ⟨zs_a1, hn1⟩ := hv1.nest
  have hm0 := Mem.nil w
  refine cw_seq ?_
  refine cw_region ?_
  refine t_ef rfl (ef_box hm0 rfl rfl) ?_
  rintro _ w3 ⟨g1, rfl, hm2⟩
  refine t_rd rfl (rd_assign rfl) ?_
  refine t_rd rfl (rd_assign rfl) ?_
  refine t_rd rfl (rd_assign rfl) ?_
  refine rwt_nil ?_
  refine qn_then ?_
  refine cw_seq ?_
  refine cw_region ?_
  refine t_rd rfl (rd_fld tF27_0 rfl) ?_
  refine t_rd rfl (rd_ld1 tO25 rfl (hm2.blk 0 rfl) (off := 0) rfl) ?_
  refine t_rd rfl (rd_lenS tS25 rfl (hv0_Items.of_old hm2)) ?_
  obtain ⟨l4, h5, q6⟩ := ob h; clear h
  refine t_ef rfl (ef_make hm2 tS22 tE3 rfl rfl rfl h5) ?_
  intro v7 w9 hm8
  refine t_rd rfl (rd_assign rfl) ?_
  refine rwt_nil ?_
  refine qn_then ?_
  refine cw_seq ?_
  refine cw_seq ?_
  refine cw_region ?_
  refine t_rd rfl (rd_move rfl) ?_
  refine t_rd rfl (rd_lenS tS22 rfl (hm8.sl 0 rfl)) ?_
  refine t_rd rfl (rd_move rfl) ?_
  refine rwt_nil ?_
  refine qn_then ?_
  refine cw_block ?_
  obtain ⟨r41, hit42, q43⟩ := ob q6; clear q6
  refine cw_loop2 (I := fun q envq wq => Sub [(1, v1), (2, (Value.pointer (some ⟨g1, 0, none⟩))), (7, v7), (20, (Value.int .i64 (List.length l4 : Int))), (21, (Value.int .i64 q.1))] envq ∧ Mem w No [ownL 3 v7 (q.2 : List Int), blk g1 27 [v0_Items, (Value.int .i64 a0_Weight)]] wq) (X := fun eq envq wq => eq = .exit 0 ∧ Sub [(1, v1), (2, (Value.pointer (some ⟨g1, 0, none⟩))), (7, v7)] envq ∧ Mem w No [ownL 3 v7 (r41 : List Int), blk g1 27 [v0_Items, (Value.int .i64 a0_Weight)]] wq) hit42 ⟨(by repeat (first | exact Sub.nil _ | refine Sub.cons rfl ?_)), (hm8.pick [0, 1] (by decide) rfl)⟩ ?_ ?_
  · rintro ⟨i33, l34⟩ x36 env37 w38 hf39 hr40 ⟨hs_, hm_⟩
    have hs_ : Sub [(1, v1), (2, (Value.pointer (some ⟨g1, 0, none⟩))), (7, v7), (20, (Value.int .i64 (List.length l4 : Int))), (21, (Value.int .i64 i33))] env37 := hs_
    have hm44 : Mem w No [ownL 3 v7 (l34 : List Int), blk g1 27 [v0_Items, (Value.int .i64 a0_Weight)]] w38 := hm_
    refine cw_sub hs_ ?_
    clear hs_ hm_ q43
    have h : leastcode_solve_l1 N l4 i33 l34 = some x36 := hf39
    clear hf39
    refine cw_seq ?_
    refine cw_region ?_
    refine t_rd rfl (rd_lss rfl rfl) ?_
    refine rwt_nil ?_
    refine qn_then ?_
    refine cw_seq ?_
    obtain ⟨hb45, q46⟩ | ⟨hb45, q46⟩ := oi h <;> clear h
    · refine cw_t rfl hb45 ?_
      refine cw_skip ?_
      refine qn_then ?_
      refine cw_seq ?_
      refine cw_block ?_
      refine cw_seq ?_
      refine cw_region ?_
      refine t_rd rfl (rd_move rfl) ?_
      refine t_rd rfl (rd_assign rfl) ?_
      refine rwt_nil ?_
      refine qn_then ?_
      refine cw_region ?_
      refine t_rd rfl (rd_move rfl) ?_
      refine t_rd rfl (rd_move rfl) ?_
      refine t_rd rfl (rd_move rfl) ?_
      obtain ⟨x47, h48, q49⟩ := ob q46; clear q46
      refine t_rd rfl (rd_index tS22 rfl rfl (hm44.sl 0 rfl) h48) ?_
      refine t_ef0 (ef_stl (k := 0) (off := 0) (x' := i33) hm44 tO3 rfl rfl rfl rfl h48 rfl rfl) ?_
      intro _ w51 hm50
      refine rwt_nil ?_
      refine qn_block (qn_then ?_)
      refine cw_region ?_
      obtain ⟨x52, h53, q54⟩ := ob q49; clear q49
      refine t_rd rfl (rd_add64 h53 rfl rfl) ?_
      refine t_rd rfl (rd_move rfl) ?_
      refine rwt_nil ?_
      refine qn_then ?_
      refine ⟨_, (os q54), (by repeat (first | exact Sub.nil _ | refine Sub.cons rfl ?_)), (hm50.pick [0, 1] (by decide) rfl)⟩
    · refine cw_f rfl hb45 ?_
      refine cw_exit ?_
      refine qx_then (qx_then ?_)
      obtain rfl := hr40 _ (os q46)
      exact ⟨rfl, (by repeat (first | exact Sub.nil _ | refine Sub.cons rfl ?_)), (hm44.pick [0, 1] (by decide) rfl)⟩
  · skip
    intro e env55 w56 hX57
    obtain ⟨rfl, hs58, hm59⟩ := hX57
    refine qx_same (qn_then ?_)
    refine cw_sub hs58 ?_
    refine cw_seq ?_
    refine cw_region ?_
    refine t_rd rfl (rd_move rfl) ?_
    refine t_rd rfl (rd_makeFunc rfl) ?_
    obtain ⟨l60, h61, q62⟩ := ob q43; clear q43
    refine t_ef rfl (ef_call tf88 rfl (sortFn_calls Tryz.srt88 tf89 h61 (hm59.get (k := 0) rfl) (fun W_ hW_ x_ y_ r_ hr_ => leastcode_solve_1_okp hr_ ((hv0_Items.to_callT (k := 0) hm59 rfl).mono hW_) ((hm59.boxL_callT 1 0 rfl rfl (by decide)).toW hW_)))) ?_
    rintro _ w64 ⟨e_, hm63⟩
    obtain rfl := e_.symm
    have hm65 := hm59.callT (k := 0) rfl (fun _ h => h) hm63 (fun _ => Iff.rfl)
    refine rwt_nil ?_
    refine qn_then ?_
    refine cw_seq ?_
    refine cw_region ?_
    refine t_rd rfl (rd_move rfl) ?_
    refine t_rd rfl (rd_lenS tS22 rfl (hm65.sl 0 rfl)) ?_
    obtain ⟨l66, h67, q68⟩ := ob q62; clear q62
    refine t_ef rfl (ef_make hm65 tS22 tE3 rfl rfl rfl h67) ?_
    intro v69 w71 hm70
    refine t_rd rfl (rd_assign rfl) ?_
    refine rwt_nil ?_
    refine qn_then ?_
    refine cw_seq ?_
    refine cw_region ?_
    refine t_rd rfl (rd_move rfl) ?_
    refine t_rd rfl (rd_lenS tS22 rfl (hm70.sl 1 rfl)) ?_
    obtain ⟨l72, h73, q74⟩ := ob q68; clear q68
    refine t_ef rfl (ef_make hm70 tS22 tE3 rfl rfl rfl h73) ?_
    intro v75 w77 hm76
    refine t_rd rfl (rd_assign rfl) ?_
    refine rwt_nil ?_
    refine qn_then ?_
    refine cw_seq ?_
    refine cw_seq ?_
    refine cw_region ?_
    refine t_rd rfl (rd_move rfl) ?_
    refine t_rd rfl (rd_lenS tS22 rfl (hm76.sl 2 rfl)) ?_
    refine t_rd rfl (rd_move rfl) ?_
    refine rwt_nil ?_
    refine qn_then ?_
    refine cw_block ?_
    obtain ⟨r518, hit519, q520⟩ := ob q74; clear q74
    refine cw_loop2 (I := fun q envq wq => Sub [(1, v1), (2, (Value.pointer (some ⟨g1, 0, none⟩))), (4, v69), (5, v75), (38, v7), (39, (Value.int .i64 (List.length l60 : Int))), (40, (Value.int .i64 q.1))] envq ∧ Mem w No [ownL 3 v75 (q.2.2 : List Int), ownL 3 v69 (q.2.1 : List Int), ownL 3 v7 (l60 : List Int), blk g1 27 [v0_Items, (Value.int .i64 a0_Weight)]] wq) (X := fun eq envq wq => (∃ p521, r518 = (Sum.inl p521) ∧ eq = .ret ∧ retQ Tryz.prog 101 Tryz.f60 (fun u w' => ∃ (y0 : Value) (y1 : Value), u = (Value.tuple #[y0, y1, (Value.int .i64 p521.2.2)]) ∧ Mem w No [ownL 3 y0 (p521.1 : List Int), ownL 3 y1 (p521.2.1 : List Int)] w') .ret envq wq) ∨ (∃ p522, r518 = (Sum.inr p522) ∧ eq = .exit 2 ∧ Sub [(4, v69), (5, v75)] envq ∧ Mem w No [ownL 3 v75 (p522.2 : List Int), ownL 3 v69 (p522.1 : List Int)] wq)) hit519 ⟨(by repeat (first | exact Sub.nil _ | refine Sub.cons rfl ?_)), (hm76.pick [0, 1, 2, 3] (by decide) rfl)⟩ ?_ ?_
    · rintro ⟨i509, l510, l511⟩ x513 env514 w515 hf516 hr517 ⟨hs_, hm_⟩
      have hs_ : Sub [(1, v1), (2, (Value.pointer (some ⟨g1, 0, none⟩))), (4, v69), (5, v75), (38, v7), (39, (Value.int .i64 (List.length l60 : Int))), (40, (Value.int .i64 i509))] env514 := hs_
      have hm523 : Mem w No [ownL 3 v75 (l511 : List Int), ownL 3 v69 (l510 : List Int), ownL 3 v7 (l60 : List Int), blk g1 27 [v0_Items, (Value.int .i64 a0_Weight)]] w515 := hm_
      refine cw_sub hs_ ?_
      clear hs_ hm_ q520
      have h : leastcode_solve_l4 N a0_Items a0_Weight a1 l60 i509 l510 l511 = some x513 := hf516
      clear hf516
      refine cw_seq ?_
      refine cw_region ?_
      refine t_rd rfl (rd_lss rfl rfl) ?_
      refine rwt_nil ?_
      refine qn_then ?_
      refine cw_seq ?_
      obtain ⟨hb524, q525⟩ | ⟨hb524, q525⟩ := oi h <;> clear h
      · refine cw_t rfl hb524 ?_
        refine cw_skip ?_
        refine qn_then ?_
        refine cw_seq ?_
        refine cw_block ?_
        refine cw_seq ?_
        refine cw_region ?_
        obtain ⟨x526, h527, q528⟩ := ob q525; clear q525
        refine t_rd rfl (rd_index tS22 rfl rfl (hm523.sl 2 rfl) h527) ?_
        refine t_rd rfl (rd_ld1 tO3 rfl ((hm523.sl 2 rfl).cells h527) (off := 0) rfl) ?_
        refine t_rd rfl (rd_assign rfl) ?_
        refine rwt_nil ?_
        refine qn_then ?_
        refine cw_seq ?_
        refine cw_seq ?_
        refine cw_region ?_
        refine t_rd rfl (rd_fld tF27_0 rfl) ?_
        refine t_rd rfl (rd_ld1 tO25 rfl (hm523.blk 3 rfl) (off := 0) rfl) ?_
        refine t_rd rfl (rd_lenS tS25 rfl (hv0_Items.of_old hm523)) ?_
        refine t_rd rfl (rd_move rfl) ?_
        refine rwt_nil ?_
        refine qn_then ?_
        refine cw_block ?_
        obtain ⟨r640, hit641, q642⟩ := ob q528; clear q528
        refine cw_loop2 (I := fun q envq wq => Sub [(1, v1), (2, (Value.pointer (some ⟨g1, 0, none⟩))), (4, v69), (5, v75), (10, (Value.int .i64 x526)), (38, v7), (39, (Value.int .i64 (List.length l60 : Int))), (40, (Value.int .i64 i509)), (46, (Value.int .i64 (List.length a0_Items : Int))), (47, (Value.int .i64 q.1))] envq ∧ Mem w No [ownL 3 v75 (l511 : List Int), ownL 3 v69 (q.2 : List Int), ownL 3 v7 (l60 : List Int), blk g1 27 [v0_Items, (Value.int .i64 a0_Weight)]] wq) (X := fun eq envq wq => eq = .exit 4 ∧ Sub [(1, v1), (2, (Value.pointer (some ⟨g1, 0, none⟩))), (4, v69), (5, v75), (10, (Value.int .i64 x526)), (38, v7), (39, (Value.int .i64 (List.length l60 : Int))), (40, (Value.int .i64 i509))] envq ∧ Mem w No [ownL 3 v75 (l511 : List Int), ownL 3 v69 (r640 : List Int), ownL 3 v7 (l60 : List Int), blk g1 27 [v0_Items, (Value.int .i64 a0_Weight)]] wq) hit641 ⟨(by repeat (first | exact Sub.nil _ | refine Sub.cons rfl ?_)), (hm523.pick [0, 1, 2, 3] (by decide) rfl)⟩ ?_ ?_
        · rintro ⟨i632, l633⟩ x635 env636 w637 hf638 hr639 ⟨hs_, hm_⟩
          have hs_ : Sub [(1, v1), (2, (Value.pointer (some ⟨g1, 0, none⟩))), (4, v69), (5, v75), (10, (Value.int .i64 x526)), (38, v7), (39, (Value.int .i64 (List.length l60 : Int))), (40, (Value.int .i64 i509)), (46, (Value.int .i64 (List.length a0_Items : Int))), (47, (Value.int .i64 i632))] env636 := hs_
          have hm643 : Mem w No [ownL 3 v75 (l511 : List Int), ownL 3 v69 (l633 : List Int), ownL 3 v7 (l60 : List Int), blk g1 27 [v0_Items, (Value.int .i64 a0_Weight)]] w637 := hm_
          refine cw_sub hs_ ?_
          clear hs_ hm_ q642
          have h : leastcode_solve_l5 N a0_Items a1 l511 x526 i632 l633 = some x635 := hf638
          clear hf638
          refine cw_seq ?_
          refine cw_region ?_
          refine t_rd rfl (rd_lss rfl rfl) ?_
          refine rwt_nil ?_
          refine qn_then ?_
          refine cw_seq ?_
          obtain ⟨hb644, q645⟩ | ⟨hb644, q645⟩ := oi h <;> clear h
          · refine cw_t rfl hb644 ?_
            refine cw_skip ?_
            refine qn_then ?_
            refine cw_seq ?_
            refine cw_block ?_
            refine cw_seq ?_
            refine cw_region ?_
            refine t_rd rfl (rd_move rfl) ?_
            refine t_rd rfl (rd_assign rfl) ?_
            refine rwt_nil ?_
            refine qn_then ?_
            refine cw_seq ?_
            refine cw_region ?_
            refine t_rd rfl (rd_move rfl) ?_
            refine t_rd rfl (rd_move rfl) ?_
            obtain ⟨x646, h647, q648⟩ := ob q645; clear q645
            refine t_rd rfl (rd_index tS41 rfl rfl ((hn1.of_old hm643).sl) h647) ?_
            obtain ⟨zd649, hz650⟩ := (hn1.of_old hm643).row h647
            refine t_rd rfl (rd_ld1 tO22 rfl ((hn1.of_old hm643).cells hz650) (off := 0) rfl) ?_
            refine t_rd rfl (rd_move rfl) ?_
            obtain ⟨x651, h652, q653⟩ := ob q648; clear q648
            refine t_rd rfl (rd_index tS22 rfl rfl ((hn1.of_old hm643).get hz650 h647) h652) ?_
            refine t_rd rfl (rd_ld1 tO3 rfl (((hn1.of_old hm643).get hz650 h647).cells h652) (off := 0) rfl) ?_
            refine t_rd rfl (rd_assign rfl) ?_
            refine rwt_nil ?_
            refine qn_then ?_
            refine cw_seq ?_
            refine cw_region ?_
            refine t_rd rfl (rd_move rfl) ?_
            refine t_rd rfl (rd_gtr rfl rfl) ?_
            refine rwt_nil ?_
            refine qn_then ?_
            obtain ⟨hb654, q655⟩ | ⟨hb654, q655⟩ := oi q653 <;> clear q653
            · refine cw_t rfl hb654 ?_
              obtain ⟨w671, he673⟩ : ∃ q, q = w637.drew := ⟨_, rfl⟩
              have hm672 := hm643.drew; rw [← he673] at hm672
              refine cw_region_s (fun q => q = w671) (cls [] [15]) mixed ?_
              rintro _ rfl; rw [← he673]
              refine s_rp (i := 0) rfl (by kernel_rfl) rfl (fun _ => (rd_move rfl)) ?_
              refine s_rp (i := 1) rfl (by kernel_rfl) rfl (fun _ => (rd_move rfl)) ?_
              refine s_rp (i := 2) rfl (by kernel_rfl) rfl (fun _ => (rd_move rfl)) ?_
              refine s_rp (i := 3) rfl (by kernel_rfl) rfl (fun _ => (rd_move rfl)) ?_
              obtain ⟨x674, h675, q676⟩ := ob q655; clear q655
              refine s_rp (i := 4) rfl (by kernel_rfl) rfl (fun _ => (rd_index tS22 rfl rfl (hm672.sl 1 rfl) h675)) ?_
              refine s_rd (i := 5) rfl (by kernel_rfl) rfl (fun _ hS => by rw [hS]; exact (rd_ld1 tO3 rfl ((hm672.sl 1 rfl).cells h675) (off := 0) rfl)) rfl ?_
              refine s_rp (i := 6) rfl (by kernel_rfl) rfl (fun _ => (rd_move rfl)) ?_
              refine s_rp (i := 7) rfl (by kernel_rfl) rfl (fun _ => (rd_move rfl)) ?_
              obtain ⟨x677, h678, q679⟩ := ob q676; clear q676
              refine s_rp (i := 8) rfl (by kernel_rfl) rfl (fun _ => (rd_index tS22 rfl rfl (hm672.sl 0 rfl) h678)) ?_
              refine s_rd (i := 9) rfl (by kernel_rfl) rfl (fun _ hS => by rw [hS]; exact (rd_ld1 tO3 rfl ((hm672.sl 0 rfl).cells h678) (off := 0) rfl)) rfl ?_
              refine s_rp (i := 10) rfl (by kernel_rfl) rfl (fun _ => (rd_move rfl)) ?_
              obtain ⟨x680, h681, q682⟩ := ob q679; clear q679
              refine s_rp (i := 11) rfl (by kernel_rfl) rfl (fun _ => (rd_add64 h681 rfl rfl)) ?_
              obtain ⟨x683, h684, q685⟩ := ob q682; clear q682
              refine s_rp (i := 12) rfl (by kernel_rfl) rfl (fun _ => (rd_sub64 h684 rfl rfl)) ?_
              refine s_rp (i := 13) rfl (by kernel_rfl) rfl (fun _ => (rd_max rfl rfl)) ?_
              refine s_rp (i := 14) rfl (by kernel_rfl) rfl (fun _ => (rd_index tS22 rfl rfl (hm672.sl 1 rfl) h675)) ?_
              refine s_ef0 (i := 15) rfl (by kernel_rfl) (ef_stl (k := 1) (off := 0) (x' := (max x674 x683)) hm672 tO3 rfl rfl rfl rfl h675 rfl rfl) (by decide) (fun _ _ _ q => absurd q (by decide)) ?_
              intro _ w687 hm686
              refine s_nil (by kernel_rfl) ?_
              refine qn_block (qn_then ?_)
              refine cw_region ?_
              obtain ⟨x688, h689, q690⟩ := ob q685; clear q685
              refine t_rd rfl (rd_add64 h689 rfl rfl) ?_
              refine t_rd rfl (rd_move rfl) ?_
              refine rwt_nil ?_
              refine qn_then ?_
              refine ⟨_, (os q690), (by repeat (first | exact Sub.nil _ | refine Sub.cons rfl ?_)), (hm686.pick [0, 1, 2, 3] (by decide) rfl)⟩
            · refine cw_f rfl hb654 ?_
              refine cw_skip ?_
              refine qn_block (qn_then ?_)
              refine cw_region ?_
              obtain ⟨x691, h692, q693⟩ := ob q655; clear q655
              refine t_rd rfl (rd_add64 h692 rfl rfl) ?_
              refine t_rd rfl (rd_move rfl) ?_
              refine rwt_nil ?_
              refine qn_then ?_
              refine ⟨_, (os q693), (by repeat (first | exact Sub.nil _ | refine Sub.cons rfl ?_)), (hm643.pick [0, 1, 2, 3] (by decide) rfl)⟩
          · refine cw_f rfl hb644 ?_
            refine cw_exit ?_
            refine qx_then (qx_then ?_)
            obtain rfl := hr639 _ (os q645)
            exact ⟨rfl, (by repeat (first | exact Sub.nil _ | refine Sub.cons rfl ?_)), (hm643.pick [0, 1, 2, 3] (by decide) rfl)⟩
        · skip
          intro e env694 w695 hX696
          obtain ⟨rfl, hs697, hm698⟩ := hX696
          refine qx_same (qn_then ?_)
          refine cw_sub hs697 ?_
          refine cw_seq ?_
          obtain ⟨w712, he714⟩ : ∃ q, q = w695.drew := ⟨_, rfl⟩
          have hm713 := hm698.drew; rw [← he714] at hm713
          refine cw_region_s (fun q => q = w712) (cls [] [12]) mixed ?_
          rintro _ rfl; rw [← he714]
          refine s_rp (i := 0) rfl (by kernel_rfl) rfl (fun _ => (rd_move rfl)) ?_
          refine s_rp (i := 1) rfl (by kernel_rfl) rfl (fun _ => (rd_move rfl)) ?_
          obtain ⟨x715, h716, q717⟩ := ob q642; clear q642
          refine s_rp (i := 2) rfl (by kernel_rfl) rfl (fun _ => (rd_index tS22 rfl rfl (hm713.sl 1 rfl) h716)) ?_
          refine s_rd (i := 3) rfl (by kernel_rfl) rfl (fun _ hS => by rw [hS]; exact (rd_ld1 tO3 rfl ((hm713.sl 1 rfl).cells h716) (off := 0) rfl)) rfl ?_
          refine s_rp (i := 4) rfl (by kernel_rfl) rfl (fun _ => (rd_fld tF27_0 rfl)) ?_
          refine s_rd (i := 5) rfl (by kernel_rfl) rfl (fun _ hS => by rw [hS]; exact (rd_ld1 tO25 rfl (hm713.blk 3 rfl) (off := 0) rfl)) rfl ?_
          refine s_rp (i := 6) rfl (by kernel_rfl) rfl (fun _ => (rd_move rfl)) ?_
          obtain ⟨x718, h719, q720⟩ := ob q717; clear q717
          refine s_rp (i := 7) rfl (by kernel_rfl) rfl (fun _ => (rd_index tS25 rfl rfl (hv0_Items.of_old hm713) h719)) ?_
          refine s_rp (i := 8) rfl (by kernel_rfl) rfl (fun _ => (rd_fld tF40_2 rfl)) ?_
          refine s_rd (i := 9) rfl (by kernel_rfl) rfl (fun _ hS => by rw [hS]; exact (rd_ld1 tO3 rfl ((hv0_Items.of_old hm713).cells h719) (off := 2) rfl)) rfl ?_
          refine s_rp (i := 10) rfl (by kernel_rfl) rfl (fun _ => (rd_fld tF27_1 rfl)) ?_
          refine s_rd (i := 11) rfl (by kernel_rfl) rfl (fun _ hS => by rw [hS]; exact (rd_ld1 tO3 rfl (hm713.blk 3 rfl) (off := 1) rfl)) rfl ?_
          obtain ⟨r721, h722, q723⟩ := ob q720; clear q720
          refine s_ef (i := 12) rfl (by kernel_rfl) rfl (ef_call tf69 rfl (code_Next_ok h722)) (by decide) (fun _ _ _ q => absurd q (by decide)) ?_
          rintro _ w725 ⟨e_, hm724⟩
          obtain rfl := e_.symm
          have hm726 := hm713.call hm724
          refine s_rp (i := 13) rfl (by kernel_rfl) rfl (fun _ => (rd_move rfl)) ?_
          refine s_rp (i := 14) rfl (by kernel_rfl) rfl (fun _ => (rd_extract rfl rfl)) ?_
          refine s_rp (i := 15) rfl (by kernel_rfl) rfl (fun _ => (rd_extract rfl rfl)) ?_
          refine s_rp (i := 16) rfl (by kernel_rfl) rfl (fun _ => (rd_assign rfl)) ?_
          refine s_rp (i := 17) rfl (by kernel_rfl) rfl (fun _ => (rd_assign rfl)) ?_
          refine s_nil (by kernel_rfl) ?_
          refine qn_then ?_
          refine cw_seq ?_
          refine cw_seq ?_
          refine cw_region ?_
          refine t_rd rfl (rd_move rfl) ?_
          refine t_rd rfl (rd_neq rfl rfl) ?_
          refine rwt_nil ?_
          refine qn_then ?_
          obtain ⟨hb727, q728⟩ | ⟨hb727, q728⟩ := oi q723 <;> clear q723
          · refine cw_t rfl hb727 ?_
            refine cw_seq ?_
            refine cw_region ?_
            refine t_rd rfl (rd_move rfl) ?_
            refine t_rd rfl (rd_assign rfl) ?_
            refine t_rd rfl (rd_assign rfl) ?_
            refine t_rd rfl (rd_assign rfl) ?_
            refine rwt_nil ?_
            refine qn_then ?_
            refine cw_ret ?_
            refine qr_then (qr_block (qr_then (qr_then ?_)))
            obtain rfl := hr517 _ (os q728)
            refine .inl (⟨_, rfl, ⟨rfl, ?_⟩⟩)
            have hm729 := hm726.addNil (α := Int) 3
            have hm730 := hm729.addNil (α := Int) 3
            exact ret3 rfl rfl rfl rfl ⟨(Value.slice none 0 0), (Value.slice none 0 0), rfl, (hm730.pick [1, 0] (by decide) rfl)⟩
          · refine cw_f rfl hb727 ?_
            refine cw_skip ?_
            refine qn_then ?_
            refine cw_region ?_
            refine t_rd rfl (rd_move rfl) ?_
            refine t_rd rfl (rd_move rfl) ?_
            refine t_rd rfl (rd_move rfl) ?_
            obtain ⟨x731, h732, q733⟩ := ob q728; clear q728
            refine t_rd rfl (rd_index tS22 rfl rfl (hm726.sl 0 rfl) h732) ?_
            refine t_ef0 (ef_stl (k := 0) (off := 0) (x' := r721.1) hm726 tO3 rfl rfl rfl rfl h732 rfl rfl) ?_
            intro _ w735 hm734
            refine rwt_nil ?_
            refine qn_block (qn_then ?_)
            refine cw_region ?_
            obtain ⟨x736, h737, q738⟩ := ob q733; clear q733
            refine t_rd rfl (rd_add64 h737 rfl rfl) ?_
            refine t_rd rfl (rd_move rfl) ?_
            refine rwt_nil ?_
            refine qn_then ?_
            refine ⟨_, (os q738), (by repeat (first | exact Sub.nil _ | refine Sub.cons rfl ?_)), (hm734.pick [0, 1, 2, 3] (by decide) rfl)⟩
      · refine cw_f rfl hb524 ?_
        refine cw_exit ?_
        refine qx_then (qx_then ?_)
        obtain rfl := hr517 _ (os q525)
        exact .inr (⟨_, rfl, ⟨rfl, (by repeat (first | exact Sub.nil _ | refine Sub.cons rfl ?_)), (hm523.pick [0, 1] (by decide) rfl)⟩⟩)
    · skip
      intro e env739 w740 hX741
      rcases hX741 with hX741 | hX741
      · obtain ⟨p743, rfl, hX741⟩ := hX741
        obtain ⟨rfl, hq745⟩ := hX741
        exact qr_block (qr_then ((by have e := os q520; subst e; exact hq745)))
      · obtain ⟨p746, rfl, hX741⟩ := hX741
        obtain ⟨rfl, hs747, hm748⟩ := hX741
        refine qx_same (qn_then ?_)
        refine cw_sub hs747 ?_
        refine cw_seq ?_
        refine cw_region ?_
        refine t_rd rfl (rd_move rfl) ?_
        refine t_rd rfl (rd_move rfl) ?_
        refine t_rd rfl (rd_assign rfl) ?_
        refine t_rd rfl (rd_assign rfl) ?_
        refine t_rd rfl (rd_assign rfl) ?_
        refine rwt_nil ?_
        refine qn_then ?_
        refine cw_ret ?_
        obtain rfl := os q520
        exact ret3 rfl rfl rfl rfl ⟨v69, v75, rfl, (hm748.pick [1, 0] (by decide) rfl)⟩

theorem code_Steps_ok {N : Nat} {a0 : Int} {res : Int × Int} (h : code_Steps N a0 = some res) {w : World}   :
    CallsR Tryz.prog 34 [(Value.int .i64 a0)] w (fun u w' => u = (Value.tuple #[(Value.int .i64 res.1), (Value.int .i64 res.2)]) ∧ Mem w No [] w') := by
  unfold code_Steps at h
  refine fn_ok Tryz.func34 rfl rfl rfl ?_
  have hm0 := Mem.nil w
  refine cw_seq ?_
  refine cw_region ?_
  refine t_rd rfl (rd_assign rfl) ?_
  refine t_rd rfl (rd_assign rfl) ?_
  refine rwt_nil ?_
  refine qn_then ?_
  refine cw_seq ?_
  refine cw_seq ?_
  refine cw_region ?_
  refine t_rd rfl (rd_move rfl) ?_
  obtain ⟨r1, h2, q3⟩ := ob h; clear h
  refine t_ef rfl (ef_call tf70 rfl (code_in_ok h2)) ?_
  rintro _ w5 ⟨e_, hm4⟩
  obtain rfl := e_.symm
  have hm6 := hm0.call hm4
  refine t_rd rfl (rd_not rfl) ?_
  refine rwt_nil ?_
  refine qn_then ?_
  obtain ⟨hb7, q8⟩ | ⟨hb7, q8⟩ := oi q3 <;> clear q3
  · refine cw_t rfl hb7 ?_
    refine cw_seq ?_
    refine cw_region ?_
    refine t_rd rfl (rd_assign rfl) ?_
    refine t_rd rfl (rd_assign rfl) ?_
    refine rwt_nil ?_
    refine qn_then ?_
    refine cw_ret ?_
    refine qr_then ?_
    obtain rfl := os q8
    exact ret2 rfl rfl rfl ⟨rfl, (hm6.pick [] (by decide) rfl)⟩
  · refine cw_f rfl hb7 ?_
    refine cw_skip ?_
    refine qn_then ?_
    refine cw_seq ?_
    refine cw_region ?_
    refine t_rd rfl (rd_assign rfl) ?_
    refine rwt_nil ?_
    refine qn_then ?_
    refine cw_seq ?_
    refine cw_block ?_
    obtain ⟨r36, hit37, q38⟩ := ob q8; clear q8
    refine cw_loop2 (I := fun q envq wq => Sub [(0, (Value.int .i64 q.1)), (4, (Value.int .i64 q.2))] envq ∧ Mem w No [] wq) (X := fun eq envq wq => eq = .exit 0 ∧ Sub [(4, (Value.int .i64 r36))] envq ∧ Mem w No [] wq) hit37 ⟨(by repeat (first | exact Sub.nil _ | refine Sub.cons rfl ?_)), (hm6.pick [] (by decide) rfl)⟩ ?_ ?_
    · rintro ⟨i28, i29⟩ x31 env32 w33 hf34 hr35 ⟨hs_, hm_⟩
      have hs_ : Sub [(0, (Value.int .i64 i28)), (4, (Value.int .i64 i29))] env32 := hs_
      have hm39 : Mem w No [] w33 := hm_
      refine cw_sub hs_ ?_
      clear hs_ hm_ q38
      have h : code_Steps_l1 N i28 i29 = some x31 := hf34
      clear hf34
      refine cw_seq ?_
      refine cw_seq ?_
      refine cw_region ?_
      refine t_rd rfl (rd_move rfl) ?_
      refine t_rd rfl (rd_gtr rfl rfl) ?_
      refine rwt_nil ?_
      refine qn_then ?_
      obtain ⟨hb40, q41⟩ | ⟨hb40, q41⟩ := oi h <;> clear h
      · refine cw_t rfl hb40 ?_
        refine cw_skip ?_
        refine qn_then ?_
        refine cw_seq ?_
        refine cw_block ?_
        refine cw_region ?_
        refine t_rd rfl (rd_move rfl) ?_
        obtain ⟨x42, h43, q44⟩ := ob q41; clear q41
        refine t_rd rfl (rd_add64 h43 rfl rfl) ?_
        refine t_rd rfl (rd_assign rfl) ?_
        refine rwt_nil ?_
        refine qn_block (qn_then ?_)
        refine cw_region ?_
        refine t_rd rfl (rd_move rfl) ?_
        obtain ⟨x45, h46, q47⟩ := ob q44; clear q44
        refine t_rd rfl (rd_shr_i64 h46 rfl rfl) ?_
        refine t_rd rfl (rd_assign rfl) ?_
        refine rwt_nil ?_
        refine qn_then ?_
        refine ⟨_, (os q47), (by repeat (first | exact Sub.nil _ | refine Sub.cons rfl ?_)), (hm39.pick [] (by decide) rfl)⟩
      · refine cw_f rfl hb40 ?_
        refine cw_exit ?_
        refine qx_then (qx_then ?_)
        obtain rfl := hr35 _ (os q41)
        exact ⟨rfl, (by repeat (first | exact Sub.nil _ | refine Sub.cons rfl ?_)), (hm39.pick [] (by decide) rfl)⟩
    · skip
      intro e env48 w49 hX50
      obtain ⟨rfl, hs51, hm52⟩ := hX50
      refine qx_same (qn_then ?_)
      refine cw_sub hs51 ?_
      refine cw_seq ?_
      refine cw_region ?_
      refine t_rd rfl (rd_move rfl) ?_
      refine t_rd rfl (rd_assign rfl) ?_
      refine t_rd rfl (rd_assign rfl) ?_
      refine rwt_nil ?_
      refine qn_then ?_
      refine cw_ret ?_
      obtain rfl := os q38
      exact ret2 rfl rfl rfl ⟨rfl, (hm52.pick [] (by decide) rfl)⟩

theorem leastcode_Least_ok {N : Nat} {a0_Items : List T_Item} {a0_Weight : Int} {res : Int × List Int × Int} (h : leastcode_Least N a0_Items a0_Weight = some res) {w : World} {v0_Items : Value} (hv0_Items : Sl (Old w No) w v0_Items a0_Items) :
    CallsR Tryz.prog 28 [(Value.agg #[v0_Items, (Value.int .i64 a0_Weight)])] w (fun u w' => ∃ (y0 : Value), u = (Value.tuple #[(Value.agg #[(Value.int .i64 res.1), y0]), (Value.int .i64 res.2.2)]) ∧ Mem w No [ownL 3 y0 (res.2.1 : List Int)] w') := by
  unfold leastcode_Least at h
  refine fn_ok Tryz.func28 rfl rfl rfl ?_
  have hm0 := Mem.nil w
  refine cw_seq ?_
  refine cw_region ?_
  refine t_ef rfl (ef_box hm0 rfl rfl) ?_
  rintro _ w3 ⟨g1, rfl, hm2⟩
  refine t_ef rfl (ef_alloc hm2 tZ30 rfl) ?_
  rintro _ w6 ⟨g4, rfl, hm5⟩
  refine t_rd rfl (rd_assign rfl) ?_
  refine rwt_nil ?_
  refine qn_then ?_
  refine cw_seq ?_
  refine cw_seq ?_
  refine cw_region ?_
  refine t_rd rfl (rd_ld tA27 rfl (hm5.blk 1 rfl) rfl) ?_
  obtain ⟨r7, h8, q9⟩ := ob h; clear h
  refine t_ef rfl (ef_call tf59 rfl (job_Valid_ok h8 (hv0_Items.to_call hm5))) ?_
  rintro _ w11 ⟨e_, hm10⟩
  obtain rfl := e_.symm
  have hm12 := hm5.call hm10
  refine t_rd rfl (rd_assign rfl) ?_
  refine rwt_nil ?_
  refine qn_then ?_
  refine cw_seq ?_
  refine cw_region ?_
  refine t_rd rfl (rd_move rfl) ?_
  refine t_rd rfl (rd_neq rfl rfl) ?_
  refine rwt_nil ?_
  refine qn_then ?_
  obtain ⟨hb13, q14⟩ | ⟨hb13, q14⟩ := oi q9 <;> clear q9
  · refine cw_t rfl hb13 ?_
    refine cw_seq ?_
    refine cw_region ?_
    refine t_rd rfl (rd_build (cs := #[(Value.int .i64 0), (Value.slice none 0 0)]) rfl (by kernel_rfl)) ?_
    refine t_rd rfl (rd_move rfl) ?_
    refine t_ef0 (ef_stw (k := 0) hm12 tA30 rfl rfl (oc_cons rfl (oc_cons (sl_one (Sl.nil (α := Int) No w11)) oc_nil)) rfl rfl rfl) ?_
    intro _ w16 hm15
    refine t_rd rfl (rd_assign rfl) ?_
    refine rwt_nil ?_
    refine qn_then ?_
    refine cw_ret ?_
    refine qr_then ?_
    obtain rfl := os q14
    have hm17 := hm15.addNil (α := Int) 3
    exact retLn (rs := [.cell 2 30, .tmp 3]) rfl (.rc rfl tA30 (hm17.blk 1 rfl) rfl (.rt rfl .rn)) rfl ⟨(Value.slice none 0 0), rfl, (hm17.pick [0] (by decide) rfl)⟩
  · refine cw_f rfl hb13 ?_
    refine cw_skip ?_
    refine qn_then ?_
    refine cw_seq ?_
    obtain ⟨w35, he37⟩ : ∃ q, q = w11.drew := ⟨_, rfl⟩
    have hm36 := hm12.drew; rw [← he37] at hm36
    refine cw_region_s (fun q => (blk g1 27 [v0_Items, (Value.int .i64 a0_Weight)]).φ q) (cls [2] [3]) mixed ?_
    rintro _ rfl; rw [← he37]
    refine s_rd (i := 0) rfl (by kernel_rfl) rfl (fun w34 hS => (rd_ld tA27 rfl (cells_blk hS) rfl)) (hm36.get (k := 1) rfl) ?_
    refine s_rd (i := 1) rfl (by kernel_rfl) rfl (fun w34 hS => (rd_ld tA27 rfl (cells_blk hS) rfl)) (hm36.get (k := 1) rfl) ?_
    obtain ⟨r54, h55, q56⟩ := ob q14; clear q14
    refine s_ef (i := 2) rfl (by kernel_rfl) rfl (ef_call tf61 rfl (leastcode_relations_ok h55 (hv0_Items.to_call hm36))) (by decide) ?_ ?_
    · rintro _ w60 ⟨zs58, v57, e_, hm59⟩
      obtain rfl := e_.symm
      have hm61 := hm36.call hm59
      intro _
      exact (hm61.get (k := 3) rfl)
    rintro _ w60 ⟨zs58, v57, e_, hm59⟩
    obtain rfl := e_.symm
    have hm61 := hm36.call hm59
    obtain ⟨r62, h63, q64⟩ := ob q56; clear q56
    refine s_ef (i := 3) rfl (by kernel_rfl) rfl (ef_call tf60 rfl (leastcode_solve_ok h63 (hv0_Items.to_call hm61) ((Nl.mk (hm61.sl_call 0 rfl) (hm61.rows_call 1 rfl)).sl))) (by decide) (fun _ _ _ q => absurd q (by decide)) ?_
    rintro _ w68 ⟨v65, v66, e_, hm67⟩
    obtain rfl := e_.symm
    have hm69 := hm61.call hm67
    refine s_rp (i := 4) rfl (by kernel_rfl) rfl (fun _ => (rd_move rfl)) ?_
    refine s_rp (i := 5) rfl (by kernel_rfl) rfl (fun _ => (rd_extract rfl rfl)) ?_
    refine s_rp (i := 6) rfl (by kernel_rfl) rfl (fun _ => (rd_extract rfl rfl)) ?_
    refine s_rp (i := 7) rfl (by kernel_rfl) rfl (fun _ => (rd_extract rfl rfl)) ?_
    refine s_rp (i := 8) rfl (by kernel_rfl) rfl (fun _ => (rd_assign rfl)) ?_
    refine s_rp (i := 9) rfl (by kernel_rfl) rfl (fun _ => (rd_assign rfl)) ?_
    refine s_rp (i := 10) rfl (by kernel_rfl) rfl (fun _ => (rd_assign rfl)) ?_
    refine s_nil (by kernel_rfl) ?_
    refine qn_then ?_
    refine cw_seq ?_
    refine cw_seq ?_
    refine cw_region ?_
    refine t_rd rfl (rd_move rfl) ?_
    refine t_rd rfl (rd_neq rfl rfl) ?_
    refine rwt_nil ?_
    refine qn_then ?_
    obtain ⟨hb70, q71⟩ | ⟨hb70, q71⟩ := oi q64 <;> clear q64
    · refine cw_t rfl hb70 ?_
      refine cw_seq ?_
      refine cw_region ?_
      refine t_rd rfl (rd_build (cs := #[(Value.int .i64 0), (Value.slice none 0 0)]) rfl (by kernel_rfl)) ?_
      refine t_rd rfl (rd_move rfl) ?_
      refine t_ef0 (ef_stw (k := 4) hm69 tA30 rfl rfl (oc_cons rfl (oc_cons (sl_one (Sl.nil (α := Int) No w68)) oc_nil)) rfl rfl rfl) ?_
      intro _ w73 hm72
      refine t_rd rfl (rd_assign rfl) ?_
      refine rwt_nil ?_
      refine qn_then ?_
      refine cw_ret ?_
      refine qr_then ?_
      obtain rfl := os q71
      have hm74 := hm72.addNil (α := Int) 3
      exact retLn (rs := [.cell 2 30, .tmp 3]) rfl (.rc rfl tA30 (hm74.blk 5 rfl) rfl (.rt rfl .rn)) rfl ⟨(Value.slice none 0 0), rfl, (hm74.pick [0] (by decide) rfl)⟩
    · refine cw_f rfl hb70 ?_
      refine cw_skip ?_
      refine qn_then ?_
      refine cw_seq ?_
      refine cw_region ?_
      refine t_rd rfl (rd_move rfl) ?_
      refine t_rd rfl (rd_build (cs := #[(Value.int .i64 0), v66]) rfl (by obtain ⟨_, _, e⟩ := ((hm69.sl 1 rfl)).val; rw [e]; clear e; kernel_rfl)) ?_
      refine t_ef rfl (ef_alloc hm69 tZ30 rfl) ?_
      rintro _ w77 ⟨g75, rfl, hm76⟩
      refine t_ef0 (ef_stw (k := 0) hm76 tA30 rfl rfl (oc_cons rfl (oc_cons (sl_one (hm76.sl 2 rfl)) oc_nil)) rfl rfl rfl) ?_
      intro _ w79 hm78
      refine rwt_nil ?_
      refine qn_then ?_
      refine cw_seq ?_
      refine cw_seq ?_
      refine cw_region ?_
      refine t_rd rfl (rd_move rfl) ?_
      refine t_rd rfl (rd_lenS tS22 rfl (hm78.sl 2 rfl)) ?_
      refine t_rd rfl (rd_move rfl) ?_
      refine rwt_nil ?_
      refine qn_then ?_
      refine cw_block ?_
      obtain ⟨r123, hit124, q125⟩ := ob q71; clear q71
      refine cw_loop2 (I := fun q envq wq => Sub [(2, (Value.pointer (some ⟨g4, 0, none⟩))), (8, (Value.pointer (some ⟨g75, 0, none⟩))), (33, v66), (34, (Value.int .i64 (List.length r62.2.1 : Int))), (35, (Value.int .i64 q.1))] envq ∧ Mem w No [blk g75 30 [(Value.int .i64 q.2), v66], ownL 3 v66 (r62.2.1 : List Int), blk g4 30 [(Value.int .i64 0), (Value.slice none 0 0)]] wq) (X := fun eq envq wq => eq = .exit 0 ∧ Sub [(2, (Value.pointer (some ⟨g4, 0, none⟩))), (8, (Value.pointer (some ⟨g75, 0, none⟩)))] envq ∧ Mem w No [blk g75 30 [(Value.int .i64 r123), v66], ownL 3 v66 (r62.2.1 : List Int), blk g4 30 [(Value.int .i64 0), (Value.slice none 0 0)]] wq) hit124 ⟨(by repeat (first | exact Sub.nil _ | refine Sub.cons rfl ?_)), (hm78.pick [0, 2, 5] (by decide) rfl)⟩ ?_ ?_
      · rintro ⟨i115, i116⟩ x118 env119 w120 hf121 hr122 ⟨hs_, hm_⟩
        have hs_ : Sub [(2, (Value.pointer (some ⟨g4, 0, none⟩))), (8, (Value.pointer (some ⟨g75, 0, none⟩))), (33, v66), (34, (Value.int .i64 (List.length r62.2.1 : Int))), (35, (Value.int .i64 i115))] env119 := hs_
        have hm126 : Mem w No [blk g75 30 [(Value.int .i64 i116), v66], ownL 3 v66 (r62.2.1 : List Int), blk g4 30 [(Value.int .i64 0), (Value.slice none 0 0)]] w120 := hm_
        refine cw_sub hs_ ?_
        clear hs_ hm_ q125
        have h : leastcode_Least_l1 N r62 i115 i116 = some x118 := hf121
        clear hf121
        refine cw_seq ?_
        refine cw_region ?_
        refine t_rd rfl (rd_lss rfl rfl) ?_
        refine rwt_nil ?_
        refine qn_then ?_
        refine cw_seq ?_
        obtain ⟨hb127, q128⟩ | ⟨hb127, q128⟩ := oi h <;> clear h
        · refine cw_t rfl hb127 ?_
          refine cw_skip ?_
          refine qn_then ?_
          refine cw_seq ?_
          refine cw_block ?_
          refine cw_seq ?_
          refine cw_region ?_
          obtain ⟨x129, h130, q131⟩ := ob q128; clear q128
          refine t_rd rfl (rd_index tS22 rfl rfl (hm126.sl 1 rfl) h130) ?_
          refine t_rd rfl (rd_ld1 tO3 rfl ((hm126.sl 1 rfl).cells h130) (off := 0) rfl) ?_
          refine t_rd rfl (rd_assign rfl) ?_
          refine rwt_nil ?_
          refine qn_then ?_
          refine cw_seq ?_
          refine cw_region ?_
          refine t_rd rfl (rd_move rfl) ?_
          obtain ⟨r132, h133, q134⟩ := ob q131; clear q131
          refine t_ef rfl (ef_call tf34 rfl (code_Steps_ok h133)) ?_
          rintro _ w136 ⟨e_, hm135⟩
          obtain rfl := e_.symm
          have hm137 := hm126.call hm135
          refine t_rd rfl (rd_move rfl) ?_
          refine t_rd rfl (rd_extract rfl rfl) ?_
          refine t_rd rfl (rd_extract rfl rfl) ?_
          refine t_rd rfl (rd_assign rfl) ?_
          refine t_rd rfl (rd_assign rfl) ?_
          refine rwt_nil ?_
          refine qn_then ?_
          refine cw_region ?_
          refine t_rd rfl (rd_fld tF30_0 rfl) ?_
          refine t_rd rfl (rd_ld1 tO3 rfl (hm137.blk 0 rfl) (off := 0) rfl) ?_
          refine t_rd rfl (rd_move rfl) ?_
          refine t_rd rfl (rd_max rfl rfl) ?_
          refine t_rd rfl (rd_fld tF30_0 rfl) ?_
          refine t_ef0 (ef_st1 (k := 0) (off := 0) hm137 tO3 rfl rfl rfl rfl rfl rfl) ?_
          intro _ w139 hm138
          refine rwt_nil ?_
          refine qn_block (qn_then ?_)
          refine cw_region ?_
          obtain ⟨x140, h141, q142⟩ := ob q134; clear q134
          refine t_rd rfl (rd_add64 h141 rfl rfl) ?_
          refine t_rd rfl (rd_move rfl) ?_
          refine rwt_nil ?_
          refine qn_then ?_
          refine ⟨_, (os q142), (by repeat (first | exact Sub.nil _ | refine Sub.cons rfl ?_)), (hm138.pick [0, 1, 2] (by decide) rfl)⟩
        · refine cw_f rfl hb127 ?_
          refine cw_exit ?_
          refine qx_then (qx_then ?_)
          obtain rfl := hr122 _ (os q128)
          exact ⟨rfl, (by repeat (first | exact Sub.nil _ | refine Sub.cons rfl ?_)), (hm126.pick [0, 1, 2] (by decide) rfl)⟩
      · skip
        intro e env143 w144 hX145
        obtain ⟨rfl, hs146, hm147⟩ := hX145
        refine qx_same (qn_then ?_)
        refine cw_sub hs146 ?_
        refine cw_seq ?_
        refine cw_region ?_
        refine t_rd rfl (rd_ld tA30 rfl (hm147.blk 0 rfl) rfl) ?_
        refine t_ef0 (ef_stw (k := 2) hm147 tA30 rfl rfl (oc_cons rfl (oc_cons (sl_one (hm147.sl 1 rfl)) oc_nil)) rfl rfl rfl) ?_
        intro _ w149 hm148
        refine t_rd rfl (rd_assign rfl) ?_
        refine rwt_nil ?_
        refine qn_then ?_
        refine cw_ret ?_
        obtain rfl := os q125
        exact retLn (rs := [.cell 2 30, .tmp 3]) rfl (.rc rfl tA30 (hm148.blk 2 rfl) rfl (.rt rfl .rn)) rfl ⟨v66, rfl, (hm148.pick [1] (by decide) rfl)⟩

theorem code_Is_ok {N : Nat} {a0 : Int} {a1 : Int} {a2 : Int} {res : Bool} (h : code_Is N a0 a1 a2 = some res) {w : World}   :
    CallsR Tryz.prog 66 [(Value.int .i64 a0), (Value.int .i64 a1), (Value.int .i64 a2)] w (fun u w' => u = (Value.bool res) ∧ Mem w No [] w') := by
  unfold code_Is at h
  refine fn_ok Tryz.func66 rfl rfl rfl ?_
  have hm0 := Mem.nil w
  refine cw_seq ?_
  refine cw_region ?_
  refine t_rd rfl (rd_assign rfl) ?_
  refine rwt_nil ?_
  refine qn_then ?_
  refine cw_seq ?_
  refine cw_region ?_
  refine t_rd rfl (rd_move rfl) ?_
  refine t_rd rfl (rd_move rfl) ?_
  obtain ⟨r1, h2, q3⟩ := ob h; clear h
  refine t_ef rfl (ef_call tf90 rfl (code_form_ok h2)) ?_
  rintro _ w5 ⟨e_, hm4⟩
  obtain rfl := e_.symm
  have hm6 := hm0.call hm4
  refine t_rd rfl (rd_move rfl) ?_
  refine t_rdg rfl rfl rfl rfl (gv_t _) (fun hg7 => (rd_move rfl)) ?_
  obtain ⟨r9, h10, q11⟩ := ob q3; clear q3
  refine t_efg rfl rfl rfl rfl (R := (fun v w' => v = gV r1 (Value.bool r9) ∧ Mem w5 No [] w')) (gv_t _) (fun hg8 => (ef_call tf70 (evc (gvx rfl hg8) (evc rfl (evc rfl evn))) (code_in_ok (gO_t h10 hg8))).mono (by rintro _ _ ⟨rfl, q⟩; exact ⟨(gV_t hg8).symm, q⟩)) (fun q => ⟨(gV_f q).symm, Mem.nil _⟩) ?_
  rintro _ w13 ⟨rfl, hm12⟩
  have hm14 := hm6.call hm12
  refine t_rd rfl (rd_and rfl (fun hc15 => (gvx rfl hc15))) ?_
  refine t_rd rfl (rd_move rfl) ?_
  refine t_rdg rfl rfl rfl rfl (gv_t _) (fun hg16 => (rd_move rfl)) ?_
  refine t_rdg rfl rfl rfl rfl (gv_t _) (fun hg17 => (rd_move rfl)) ?_
  obtain ⟨r19, h20, q21⟩ := ob q11; clear q11
  refine t_efg rfl rfl rfl rfl (R := (fun v w' => v = gV (r1 && r9) (Value.int .i64 r19) ∧ Mem w13 No [] w')) (gv_t _) (fun hg18 => (ef_call tf91 (evc (gvx rfl hg18) evn) (code_missed_ok (gO_t h20 hg18))).mono (by rintro _ _ ⟨rfl, q⟩; exact ⟨(gV_t hg18).symm, q⟩)) (fun q => ⟨(gV_f q).symm, Mem.nil _⟩) ?_
  rintro _ w23 ⟨rfl, hm22⟩
  have hm24 := hm14.call hm22
  obtain ⟨x26, h27, q28⟩ := ob q21; clear q21
  refine t_rdg rfl rfl rfl rfl (gv_t _) (fun hg25 => (rd_bits_and_i64 (gO_t h27 hg25) (gvx rfl hg25) (gvx rfl hg25))) ?_
  refine t_rdg rfl rfl rfl rfl (gv_t _) (fun hg29 => (rd_move rfl)) ?_
  obtain ⟨r31, h32, q33⟩ := ob q28; clear q28
  refine t_efg rfl rfl rfl rfl (R := (fun v w' => v = gV (r1 && r9) (Value.int .i64 r31) ∧ Mem w23 No [] w')) (gv_t _) (fun hg30 => (ef_call tf91 (evc (gvx rfl hg30) evn) (code_missed_ok (gO_t h32 hg30))).mono (by rintro _ _ ⟨rfl, q⟩; exact ⟨(gV_t hg30).symm, q⟩)) (fun q => ⟨(gV_f q).symm, Mem.nil _⟩) ?_
  rintro _ w35 ⟨rfl, hm34⟩
  have hm36 := hm24.call hm34
  refine t_rdg rfl rfl rfl rfl (gv_t _) (fun hg37 => (rd_eql (gvx rfl hg37) (gvx rfl hg37))) ?_
  refine t_rd rfl (rd_and rfl (fun hc38 => (gvx rfl hc38))) ?_
  refine t_rd rfl (rd_move rfl) ?_
  refine t_rdg rfl rfl rfl rfl (gv_t _) (fun hg39 => (rd_move rfl)) ?_
  refine t_rdg rfl rfl rfl rfl (gv_t _) (fun hg40 => (rd_move rfl)) ?_
  obtain ⟨x42, h43, q44⟩ := ob q33; clear q33
  refine t_rdg rfl rfl rfl rfl (gv_t _) (fun hg41 => (rd_shr_i64 (gO_t h43 hg41) (gvx rfl hg41) (gvx rfl hg41))) ?_
  obtain ⟨r46, h47, q48⟩ := ob q44; clear q44
  refine t_efg rfl rfl rfl rfl (R := (fun v w' => v = gV ((r1 && r9) && decide (x26 = r31)) (Value.int .i64 r46) ∧ Mem w35 No [] w')) (gv_t _) (fun hg45 => (ef_call tf92 (evc (gvx rfl hg45) evn) (code_ones_ok (gO_t h47 hg45))).mono (by rintro _ _ ⟨rfl, q⟩; exact ⟨(gV_t hg45).symm, q⟩)) (fun q => ⟨(gV_f q).symm, Mem.nil _⟩) ?_
  rintro _ w50 ⟨rfl, hm49⟩
  have hm51 := hm36.call hm49
  refine t_rdg rfl rfl rfl rfl (gv_t _) (fun hg52 => (rd_move rfl)) ?_
  refine t_rdg rfl rfl rfl rfl (gv_t _) (fun hg53 => (rd_leq (gvx rfl hg53) (gvx rfl hg53))) ?_
  refine t_rd rfl (rd_and rfl (fun hc54 => (gvx rfl hc54))) ?_
  refine t_rd rfl (rd_assign rfl) ?_
  refine rwt_nil ?_
  refine qn_then ?_
  refine cw_ret ?_
  obtain rfl := os q48
  exact ret1 rfl rfl ⟨rfl, (hm51.pick [] (by decide) rfl)⟩

theorem rollin_Valid_ok {N : Nat} {a0_Items : List T_Item} {a0_Weight : Int} {a1_Steps : Int} {a1_Codes : List Int} {res : Int} (h : rollin_Valid N a0_Items a0_Weight a1_Steps a1_Codes = some res) {w : World} {v0_Items : Value} {v1_Codes : Value} (hv0_Items : Sl (Old w No) w v0_Items a0_Items) (hv1_Codes : Sl (Old w No) w v1_Codes a1_Codes) :
    CallsR Tryz.prog 31 [(Value.agg #[v0_Items, (Value.int .i64 a0_Weight)]), (Value.agg #[(Value.int .i64 a1_Steps), v1_Codes])] w (fun u w' => u = (Value.int .i64 res) ∧ Mem w No [] w') := by
  unfold rollin_Valid at h
  refine fn_ok Tryz.func31 rfl rfl rfl ?_
  have hm0 := Mem.nil w
  refine cw_seq ?_
  refine cw_region ?_
  refine t_ef rfl (ef_box hm0 rfl rfl) ?_
  rintro _ w3 ⟨g1, rfl, hm2⟩
  refine t_ef rfl (ef_box hm2 rfl rfl) ?_
  rintro _ w6 ⟨g4, rfl, hm5⟩
  refine t_rd rfl (rd_assign rfl) ?_
  refine rwt_nil ?_
  refine qn_then ?_
  refine cw_seq ?_
  refine cw_seq ?_
  refine cw_region ?_
  refine t_rd rfl (rd_ld tA27 rfl (hm5.blk 1 rfl) rfl) ?_
  obtain ⟨r7, h8, q9⟩ := ob h; clear h
  refine t_ef rfl (ef_call tf59 rfl (job_Valid_ok h8 (hv0_Items.to_call hm5))) ?_
  rintro _ w11 ⟨e_, hm10⟩
  obtain rfl := e_.symm
  have hm12 := hm5.call hm10
  refine t_rd rfl (rd_assign rfl) ?_
  refine rwt_nil ?_
  refine qn_then ?_
  refine cw_seq ?_
  refine cw_region ?_
  refine t_rd rfl (rd_move rfl) ?_
  refine t_rd rfl (rd_neq rfl rfl) ?_
  refine rwt_nil ?_
  refine qn_then ?_
  obtain ⟨hb13, q14⟩ | ⟨hb13, q14⟩ := oi q9 <;> clear q9
  · refine cw_t rfl hb13 ?_
    refine cw_seq ?_
    refine cw_region ?_
    refine t_rd rfl (rd_move rfl) ?_
    refine t_rd rfl (rd_assign rfl) ?_
    refine rwt_nil ?_
    refine qn_then ?_
    refine cw_ret ?_
    refine qr_then ?_
    obtain rfl := os q14
    exact ret1 rfl rfl ⟨rfl, (hm12.pick [] (by decide) rfl)⟩
  · refine cw_f rfl hb13 ?_
    refine cw_skip ?_
    refine qn_then ?_
    refine cw_seq ?_
    refine cw_seq ?_
    refine cw_region ?_
    refine t_rd rfl (rd_fld tF30_0 rfl) ?_
    refine t_rd rfl (rd_ld1 tO3 rfl (hm12.blk 0 rfl) (off := 0) rfl) ?_
    refine t_rd rfl (rd_lss rfl rfl) ?_
    refine t_rd rfl (rd_move rfl) ?_
    refine t_rdg rfl rfl rfl rfl (gv_f _) (fun hg15 => (rd_fld tF30_0 rfl)) ?_
    refine t_rdg rfl rfl rfl rfl (gv_f _) (fun hg16 => (rd_ld1 tO3 (gvx rfl hg16) (hm12.blk 0 rfl) (off := 0) rfl)) ?_
    refine t_rdg rfl rfl rfl rfl (gv_f _) (fun hg17 => (rd_gtr (gvx rfl hg17) rfl)) ?_
    refine t_rd rfl (rd_or rfl (fun hc18 => (gvx rfl (bnotIt hc18)))) ?_
    refine t_rd rfl (rd_move rfl) ?_
    refine t_rdg rfl rfl rfl rfl (gv_f _) (fun hg19 => (rd_fld tF30_1 rfl)) ?_
    refine t_rdg rfl rfl rfl rfl (gv_f _) (fun hg20 => (rd_ld1 tO22 (gvx rfl hg20) (hm12.blk 0 rfl) (off := 1) rfl)) ?_
    refine t_rdg rfl rfl rfl rfl (gv_f _) (fun hg21 => (rd_lenS tS22 (gvx rfl hg21) (hv1_Codes.of_old hm12))) ?_
    refine t_rdg rfl rfl rfl rfl (gv_f _) (fun hg22 => (rd_fld tF27_0 rfl)) ?_
    refine t_rdg rfl rfl rfl rfl (gv_f _) (fun hg23 => (rd_ld1 tO25 (gvx rfl hg23) (hm12.blk 1 rfl) (off := 0) rfl)) ?_
    refine t_rdg rfl rfl rfl rfl (gv_f _) (fun hg24 => (rd_lenS tS25 (gvx rfl hg24) (hv0_Items.of_old hm12))) ?_
    refine t_rdg rfl rfl rfl rfl (gv_f _) (fun hg25 => (rd_neq (gvx rfl hg25) (gvx rfl hg25))) ?_
    refine t_rd rfl (rd_or rfl (fun hc26 => (gvx rfl (bnotIt hc26)))) ?_
    refine rwt_nil ?_
    refine qn_then ?_
    obtain ⟨hb27, q28⟩ | ⟨hb27, q28⟩ := oi q14 <;> clear q14
    · refine cw_t rfl hb27 ?_
      refine cw_seq ?_
      refine cw_region ?_
      refine t_rd rfl (rd_assign rfl) ?_
      refine rwt_nil ?_
      refine qn_then ?_
      refine cw_ret ?_
      refine qr_then ?_
      obtain rfl := os q28
      exact ret1 rfl rfl ⟨rfl, (hm12.pick [] (by decide) rfl)⟩
    · refine cw_f rfl hb27 ?_
      refine cw_skip ?_
      refine qn_then ?_
      refine cw_seq ?_
      refine cw_seq ?_
      refine cw_region ?_
      refine t_rd rfl (rd_fld tF30_1 rfl) ?_
      refine t_rd rfl (rd_ld1 tO22 rfl (hm12.blk 0 rfl) (off := 1) rfl) ?_
      refine t_rd rfl (rd_lenS tS22 rfl (hv1_Codes.of_old hm12)) ?_
      refine t_rd rfl (rd_move rfl) ?_
      refine rwt_nil ?_
      refine qn_then ?_
      refine cw_block ?_
      obtain ⟨r173, hit174, q175⟩ := ob q28; clear q28
      refine cw_loop2 (I := fun q envq wq => Sub [(2, (Value.pointer (some ⟨g1, 0, none⟩))), (3, (Value.pointer (some ⟨g4, 0, none⟩))), (31, v1_Codes), (32, (Value.int .i64 (List.length a1_Codes : Int))), (33, (Value.int .i64 q))] envq ∧ Mem w No [blk g4 30 [(Value.int .i64 a1_Steps), v1_Codes], blk g1 27 [v0_Items, (Value.int .i64 a0_Weight)]] wq) (X := fun eq envq wq => (∃ p176, r173 = (Sum.inl p176) ∧ eq = .ret ∧ retQ Tryz.prog 57 Tryz.f31 (fun u w' => u = (Value.int .i64 p176) ∧ Mem w No [] w') .ret envq wq) ∨ (∃ p177, r173 = (Sum.inr p177) ∧ eq = .exit 0 ∧ Sub [] envq ∧ Mem w No [] wq)) hit174 ⟨(by repeat (first | exact Sub.nil _ | refine Sub.cons rfl ?_)), (hm12.pick [0, 1] (by decide) rfl)⟩ ?_ ?_
      · rintro i166 x168 env169 w170 hf171 hr172 ⟨hs_, hm_⟩
        have hs_ : Sub [(2, (Value.pointer (some ⟨g1, 0, none⟩))), (3, (Value.pointer (some ⟨g4, 0, none⟩))), (31, v1_Codes), (32, (Value.int .i64 (List.length a1_Codes : Int))), (33, (Value.int .i64 i166))] env169 := hs_
        have hm178 : Mem w No [blk g4 30 [(Value.int .i64 a1_Steps), v1_Codes], blk g1 27 [v0_Items, (Value.int .i64 a0_Weight)]] w170 := hm_
        refine cw_sub hs_ ?_
        clear hs_ hm_ q175
        have h : rollin_Valid_l1 N a0_Items a0_Weight a1_Steps a1_Codes i166 = some x168 := hf171
        clear hf171
        refine cw_seq ?_
        refine cw_region ?_
        refine t_rd rfl (rd_lss rfl rfl) ?_
        refine rwt_nil ?_
        refine qn_then ?_
        refine cw_seq ?_
        obtain ⟨hb179, q180⟩ | ⟨hb179, q180⟩ := oi h <;> clear h
        · refine cw_t rfl hb179 ?_
          refine cw_skip ?_
          refine qn_then ?_
          refine cw_seq ?_
          refine cw_block ?_
          refine cw_seq ?_
          refine cw_region ?_
          refine t_rd rfl (rd_move rfl) ?_
          obtain ⟨x181, h182, q183⟩ := ob q180; clear q180
          refine t_rd rfl (rd_index tS22 rfl rfl (hv1_Codes.of_old hm178) h182) ?_
          refine t_rd rfl (rd_ld1 tO3 rfl ((hv1_Codes.of_old hm178).cells h182) (off := 0) rfl) ?_
          refine t_rd rfl (rd_assign rfl) ?_
          refine t_rd rfl (rd_assign rfl) ?_
          refine rwt_nil ?_
          refine qn_then ?_
          refine cw_seq ?_
          obtain ⟨w203, he205⟩ : ∃ q, q = w170.drew := ⟨_, rfl⟩
          have hm204 := hm178.drew; rw [← he205] at hm204
          refine cw_region_s (fun q => (blk g1 27 [v0_Items, (Value.int .i64 a0_Weight)]).φ q ∧ Sl (Old w No) q v0_Items a0_Items ∧ (blk g4 30 [(Value.int .i64 a1_Steps), v1_Codes]).φ q) (cls [9] []) mixed ?_
          rintro _ rfl; rw [← he205]
          refine s_rp (i := 0) rfl (by kernel_rfl) rfl (fun _ => (rd_move rfl)) ?_
          refine s_rp (i := 1) rfl (by kernel_rfl) rfl (fun _ => (rd_fld tF27_0 rfl)) ?_
          refine s_rd (i := 2) rfl (by kernel_rfl) rfl (fun w202 hS => (rd_ld1 tO25 rfl (cells_blk hS.1) (off := 0) rfl)) ⟨(hm204.get (k := 1) rfl), (hv0_Items.of_old hm204), (hm204.get (k := 0) rfl)⟩ ?_
          refine s_rp (i := 3) rfl (by kernel_rfl) rfl (fun _ => (rd_move rfl)) ?_
          obtain ⟨x224, h225, q226⟩ := ob q183; clear q183
          refine s_rp (i := 4) rfl (by kernel_rfl) rfl (fun _ => (rd_index tS25 rfl rfl (hv0_Items.of_old hm204) h225)) ?_
          refine s_rp (i := 5) rfl (by kernel_rfl) rfl (fun _ => (rd_fld tF40_2 rfl)) ?_
          refine s_rd (i := 6) rfl (by kernel_rfl) rfl (fun w202 hS => (rd_ld1 tO3 rfl (hS.2.1.cells h225) (off := 2) rfl)) ⟨(hm204.get (k := 1) rfl), (hv0_Items.of_old hm204), (hm204.get (k := 0) rfl)⟩ ?_
          refine s_rp (i := 7) rfl (by kernel_rfl) rfl (fun _ => (rd_fld tF27_1 rfl)) ?_
          refine s_rd (i := 8) rfl (by kernel_rfl) rfl (fun w202 hS => (rd_ld1 tO3 rfl (cells_blk hS.1) (off := 1) rfl)) ⟨(hm204.get (k := 1) rfl), (hv0_Items.of_old hm204), (hm204.get (k := 0) rfl)⟩ ?_
          obtain ⟨r227, h228, q229⟩ := ob q226; clear q226
          refine s_ef (i := 9) rfl (by kernel_rfl) rfl (ef_call tf66 rfl (code_Is_ok h228)) (by decide) ?_ ?_
          · rintro _ w231 ⟨e_, hm230⟩
            obtain rfl := e_.symm
            have hm232 := hm204.call hm230
            intro _
            exact ⟨(hm232.get (k := 1) rfl), (hv0_Items.of_old hm232), (hm232.get (k := 0) rfl)⟩
          rintro _ w231 ⟨e_, hm230⟩
          obtain rfl := e_.symm
          have hm232 := hm204.call hm230
          refine s_rp (i := 10) rfl (by kernel_rfl) rfl (fun _ => (rd_not rfl)) ?_
          refine s_rp (i := 11) rfl (by kernel_rfl) rfl (fun _ => (rd_move rfl)) ?_
          refine s_rpg (i := 12) rfl (by kernel_rfl) rfl rfl rfl rfl (gv_f _) (fun hg233 _ => (rd_move rfl)) ?_
          refine s_rpg (i := 13) rfl (by kernel_rfl) rfl rfl rfl rfl (gv_f _) (fun hg234 _ => (rd_fld tF30_0 rfl)) ?_
          refine s_rdg (i := 14) rfl (by kernel_rfl) rfl rfl rfl rfl (gv_f _) (fun hg235 => (fun w202 hS => (rd_ld1 tO3 (gvx rfl hg235) (cells_blk hS.2.2) (off := 0) rfl))) ⟨(hm232.get (k := 1) rfl), (hv0_Items.of_old hm232), (hm232.get (k := 0) rfl)⟩ ?_
          obtain ⟨x237, h238, q239⟩ := ob q229; clear q229
          refine s_rpg (i := 15) rfl (by kernel_rfl) rfl rfl rfl rfl (gv_f _) (fun hg236 _ => (rd_shr_i64 (gO_t h238 hg236) (gvx rfl hg236) (gvx rfl hg236))) ?_
          refine s_rpg (i := 16) rfl (by kernel_rfl) rfl rfl rfl rfl (gv_f _) (fun hg240 _ => (rd_neq (gvx rfl hg240) rfl)) ?_
          refine s_rp (i := 17) rfl (by kernel_rfl) rfl (fun _ => (rd_or rfl (fun hc241 => (gvx rfl (bnotIt hc241))))) ?_
          refine s_nil (by kernel_rfl) ?_
          refine qn_then ?_
          obtain ⟨hb242, q243⟩ | ⟨hb242, q243⟩ := oi q239 <;> clear q239
          · refine cw_t rfl hb242 ?_
            refine cw_seq ?_
            refine cw_region ?_
            refine t_rd rfl (rd_assign rfl) ?_
            refine rwt_nil ?_
            refine qn_then ?_
            refine cw_ret ?_
            refine qr_block (qr_then (qr_then ?_))
            obtain rfl := hr172 _ (os q243)
            refine .inl (⟨_, rfl, ⟨rfl, ?_⟩⟩)
            exact ret1 rfl rfl ⟨rfl, (hm232.pick [] (by decide) rfl)⟩
          · refine cw_f rfl hb242 ?_
            refine cw_skip ?_
            refine qn_block (qn_then ?_)
            refine cw_region ?_
            obtain ⟨x244, h245, q246⟩ := ob q243; clear q243
            refine t_rd rfl (rd_add64 h245 rfl rfl) ?_
            refine t_rd rfl (rd_move rfl) ?_
            refine rwt_nil ?_
            refine qn_then ?_
            refine ⟨_, (os q246), (by repeat (first | exact Sub.nil _ | refine Sub.cons rfl ?_)), (hm232.pick [0, 1] (by decide) rfl)⟩
        · refine cw_f rfl hb179 ?_
          refine cw_exit ?_
          refine qx_then (qx_then ?_)
          obtain rfl := hr172 _ (os q180)
          exact .inr (⟨_, rfl, ⟨rfl, (by repeat (first | exact Sub.nil _ | refine Sub.cons rfl ?_)), (hm178.pick [] (by decide) rfl)⟩⟩)
      · skip
        intro e env247 w248 hX249
        rcases hX249 with hX249 | hX249
        · obtain ⟨p251, rfl, hX249⟩ := hX249
          obtain ⟨rfl, hq253⟩ := hX249
          exact qr_block (qr_then ((by have e := os q175; subst e; exact hq253)))
        · obtain ⟨p254, rfl, hX249⟩ := hX249
          obtain ⟨rfl, hs255, hm256⟩ := hX249
          refine qx_same (qn_then ?_)
          refine cw_sub hs255 ?_
          refine cw_seq ?_
          refine cw_region ?_
          refine t_rd rfl (rd_assign rfl) ?_
          refine rwt_nil ?_
          refine qn_then ?_
          refine cw_ret ?_
          obtain rfl := os q175
          exact ret1 rfl rfl ⟨rfl, (hm256.pick [] (by decide) rfl)⟩

theorem rollin_start_ok {N : Nat} {a0_Items : List T_Item} {a0_Weight : Int} {a1_Steps : Int} {a1_Codes : List Int} {res : Int × Int × List (List Int) × List (List Int) × Int × Int} (h : rollin_start N a0_Items a0_Weight a1_Steps a1_Codes = some res) {w : World} {v0_Items : Value} {v1_Codes : Value} (hv0_Items : Sl (Old w No) w v0_Items a0_Items) (hv1_Codes : Sl (Old w No) w v1_Codes a1_Codes) :
    CallsR Tryz.prog 85 [(Value.agg #[v0_Items, (Value.int .i64 a0_Weight)]), (Value.agg #[(Value.int .i64 a1_Steps), v1_Codes])] w (fun u w' => ∃ gr : Nat, ∃ (zy0 : List Hdr) (y1 : Value) (zy2 : List Hdr) (y3 : Value), u = (Value.pointer (some ⟨gr, 0, none⟩)) ∧ Mem w No [blk gr 131 [v0_Items, (Value.int .i64 res.1), (Value.int .i64 res.2.1), v1_Codes, y1, y3, (Value.int .i64 res.2.2.2.2.1), (Value.int .i64 res.2.2.2.2.2)], ownL 22 y1 (zy0 : List Hdr), rowsC 3 zy0 (res.2.2.1 : List (List Int)) none, ownL 22 y3 (zy2 : List Hdr), rowsC 3 zy2 (res.2.2.2.1 : List (List Int)) none] w') := by
  unfold rollin_start at h
  refine fn_ok Tryz.func85 rfl rfl rfl ?_
  have hm0 := Mem.nil w
  refine cw_seq ?_
  refine cw_region ?_
  refine t_ef rfl (ef_box hm0 rfl rfl) ?_
  rintro _ w536 ⟨g534, rfl, hm535⟩
  refine t_ef rfl (ef_box hm535 rfl rfl) ?_
  rintro _ w539 ⟨g537, rfl, hm538⟩
  refine t_rd rfl (rd_assign rfl) ?_
  refine rwt_nil ?_
  refine qn_then ?_
  refine cw_seq ?_
  obtain ⟨w551, he553⟩ : ∃ q, q = w539.drew := ⟨_, rfl⟩
  have hm552 := hm538.drew; rw [← he553] at hm552
  refine cw_region_s (fun q => (blk g534 27 [v0_Items, (Value.int .i64 a0_Weight)]).φ q ∧ (blk g537 30 [(Value.int .i64 a1_Steps), v1_Codes]).φ q) (cls [4] [6]) mixed ?_
  rintro _ rfl; rw [← he553]
  refine s_rd (i := 0) rfl (by kernel_rfl) rfl (fun w550 hS => (rd_ld tA27 rfl (cells_blk hS.1) rfl)) ⟨(hm552.get (k := 1) rfl), (hm552.get (k := 0) rfl)⟩ ?_
  refine s_rd (i := 1) rfl (by kernel_rfl) rfl (fun w550 hS => (rd_ld tA30 rfl (cells_blk hS.2) rfl)) ⟨(hm552.get (k := 1) rfl), (hm552.get (k := 0) rfl)⟩ ?_
  refine s_rp (i := 2) rfl (by kernel_rfl) rfl (fun _ => (rd_fld tF30_0 rfl)) ?_
  refine s_rd (i := 3) rfl (by kernel_rfl) rfl (fun w550 hS => (rd_ld1 tO3 rfl (cells_blk hS.2) (off := 0) rfl)) ⟨(hm552.get (k := 1) rfl), (hm552.get (k := 0) rfl)⟩ ?_
  obtain ⟨l564, h565, q566⟩ := ob h; clear h
  refine s_ef (i := 4) rfl (by kernel_rfl) rfl (ef_make (z := nilH) hm552 tS41 tE22 rfl rfl rfl (mkL_h h565)) (by decide) ?_ ?_
  · intro v567 w569 hm568
    have hm570 := hm568.rowsRep (α := Int) 3 h565
    intro _
    exact ⟨(hm570.get (k := 3) rfl), (hm570.get (k := 2) rfl)⟩
  intro v567 w569 hm568
  have hm570 := hm568.rowsRep (α := Int) 3 h565
  refine s_rp (i := 5) rfl (by kernel_rfl) rfl (fun _ => (rd_build (cs := #[v0_Items, (Value.int .i64 a0_Weight), (Value.int .i64 a1_Steps), v1_Codes, v567, (Value.slice none 0 0), (Value.int .i64 0), (Value.int .i64 0)]) rfl (by obtain ⟨_, _, e⟩ := ((hv0_Items.of_old hm570)).val; rw [e]; clear e; obtain ⟨_, _, e⟩ := ((hv1_Codes.of_old hm570)).val; rw [e]; clear e; obtain ⟨_, _, e⟩ := (((Nl.mk (hm570.sl_call 1 rfl) (hm570.rows_call 0 rfl)).sl)).val; rw [e]; clear e; kernel_rfl))) ?_
  refine s_ef (i := 6) rfl (by kernel_rfl) rfl (ef_box hm570 rfl rfl) (by decide) (fun _ _ _ q => absurd q (by decide)) ?_
  rintro _ w573 ⟨g571, rfl, hm572⟩
  refine s_rp (i := 7) rfl (by kernel_rfl) rfl (fun _ => (rd_assign rfl)) ?_
  refine s_nil (by kernel_rfl) ?_
  refine qn_then ?_
  refine cw_seq ?_
  refine cw_seq ?_
  refine cw_region ?_
  refine t_rd rfl (rd_fld tF27_0 rfl) ?_
  refine t_rd rfl (rd_ld1 tO25 rfl (hm572.blk 4 rfl) (off := 0) rfl) ?_
  refine t_rd rfl (rd_lenS tS25 rfl (hv0_Items.of_old hm572)) ?_
  refine t_rd rfl (rd_move rfl) ?_
  refine rwt_nil ?_
  refine qn_then ?_
  refine cw_block ?_
  have hm711 := hm572.addNil (α := Hdr) 22
  have hm712 := hm711.rowsNil (α := Int) 3
  obtain ⟨r949, hit950, q951⟩ := ob q566; clear q566
  refine cw_loop2 (I := fun q envq wq => ∃ (v941 : Value) (zs942 : List Hdr), Sub [(5, (Value.pointer (some ⟨g571, 0, none⟩))), (16, v0_Items), (17, (Value.int .i64 (List.length a0_Items : Int))), (18, (Value.int .i64 q.1))] envq ∧ Mem w No [rowsC 3 zs942 (q.2 : List (List Int)) none, ownL 22 v941 (zs942 : List Hdr), blk g571 131 [v0_Items, (Value.int .i64 a0_Weight), (Value.int .i64 a1_Steps), v1_Codes, v567, v941, (Value.int .i64 0), (Value.int .i64 0)], rowsC 3 (List.replicate (Int.toNat a1_Steps) nilH) (l564 : List (List Int)) none, ownL 22 v567 ((List.replicate (Int.toNat a1_Steps) nilH) : List Hdr)] wq) (X := fun eq envq wq => eq = .exit 0 ∧ ∃ (v937 : Value) (zs938 : List Hdr), Sub [(5, (Value.pointer (some ⟨g571, 0, none⟩)))] envq ∧ Mem w No [rowsC 3 zs938 (r949 : List (List Int)) none, ownL 22 v937 (zs938 : List Hdr), blk g571 131 [v0_Items, (Value.int .i64 a0_Weight), (Value.int .i64 a1_Steps), v1_Codes, v567, v937, (Value.int .i64 0), (Value.int .i64 0)], rowsC 3 (List.replicate (Int.toNat a1_Steps) nilH) (l564 : List (List Int)) none, ownL 22 v567 ((List.replicate (Int.toNat a1_Steps) nilH) : List Hdr)] wq) hit950 ⟨(Value.slice none 0 0), [], (by repeat (first | exact Sub.nil _ | refine Sub.cons rfl ?_)), (hm712.pick [0, 1, 2, 3, 4] (by decide) rfl)⟩ ?_ ?_
  · rintro ⟨i939, l940⟩ x944 env945 w946 hf947 hr948 ⟨v941, zs942, hs_, hm_⟩
    have hs_ : Sub [(5, (Value.pointer (some ⟨g571, 0, none⟩))), (16, v0_Items), (17, (Value.int .i64 (List.length a0_Items : Int))), (18, (Value.int .i64 i939))] env945 := hs_
    have hm952 : Mem w No [rowsC 3 zs942 (l940 : List (List Int)) none, ownL 22 v941 (zs942 : List Hdr), blk g571 131 [v0_Items, (Value.int .i64 a0_Weight), (Value.int .i64 a1_Steps), v1_Codes, v567, v941, (Value.int .i64 0), (Value.int .i64 0)], rowsC 3 (List.replicate (Int.toNat a1_Steps) nilH) (l564 : List (List Int)) none, ownL 22 v567 ((List.replicate (Int.toNat a1_Steps) nilH) : List Hdr)] w946 := hm_
    refine cw_sub hs_ ?_
    clear hs_ hm_ q951
    have h : rollin_start_l4 N a0_Items i939 l940 = some x944 := hf947
    clear hf947
    refine cw_seq ?_
    refine cw_region ?_
    refine t_rd rfl (rd_lss rfl rfl) ?_
    refine rwt_nil ?_
    refine qn_then ?_
    refine cw_seq ?_
    obtain ⟨hb953, q954⟩ | ⟨hb953, q954⟩ := oi h <;> clear h
    · refine cw_t rfl hb953 ?_
      refine cw_skip ?_
      refine qn_then ?_
      refine cw_seq ?_
      refine cw_block ?_
      refine cw_seq ?_
      refine cw_region ?_
      obtain ⟨x955, h956, q957⟩ := ob q954; clear q954
      refine t_rd rfl (rd_index tS25 rfl rfl (hv0_Items.of_old hm952) h956) ?_
      refine t_rd rfl (rd_ld tA40 rfl ((hv0_Items.of_old hm952).cells h956) rfl) ?_
      refine t_ef rfl (ef_alloc hm952 tZ40 rfl) ?_
      rintro _ w960 ⟨g958, rfl, hm959⟩
      refine t_ef0 (ef_stw (k := 0) hm959 tA40 rfl rfl (oc_cons rfl (oc_cons rfl (oc_cons rfl (oc_cons rfl oc_nil)))) rfl rfl rfl) ?_
      intro _ w962 hm961
      refine rwt_nil ?_
      refine qn_then ?_
      refine cw_block ?_
      obtain ⟨r1026, hit1027, q1028⟩ := ob q957; clear q957
      refine cw_loop2 (I := fun q envq wq => ∃ (v1018 : Value) (zs1019 : List Hdr), Sub [(5, (Value.pointer (some ⟨g571, 0, none⟩))), (7, (Value.pointer (some ⟨g958, 0, none⟩))), (16, v0_Items), (17, (Value.int .i64 (List.length a0_Items : Int))), (18, (Value.int .i64 i939))] envq ∧ Mem w No [blk g958 40 [(Value.int .i64 x955.Train), (Value.int .i64 x955.Block), (Value.int .i64 x955.Round), (Value.int .i64 x955.Length)], rowsC 3 zs1019 (q : List (List Int)) none, ownL 22 v1018 (zs1019 : List Hdr), blk g571 131 [v0_Items, (Value.int .i64 a0_Weight), (Value.int .i64 a1_Steps), v1_Codes, v567, v1018, (Value.int .i64 0), (Value.int .i64 0)], rowsC 3 (List.replicate (Int.toNat a1_Steps) nilH) (l564 : List (List Int)) none, ownL 22 v567 ((List.replicate (Int.toNat a1_Steps) nilH) : List Hdr)] wq) (X := fun eq envq wq => eq = .exit 2 ∧ ∃ (v1015 : Value) (zs1016 : List Hdr), Sub [(5, (Value.pointer (some ⟨g571, 0, none⟩))), (16, v0_Items), (17, (Value.int .i64 (List.length a0_Items : Int))), (18, (Value.int .i64 i939))] envq ∧ Mem w No [rowsC 3 zs1016 (r1026 : List (List Int)) none, ownL 22 v1015 (zs1016 : List Hdr), blk g571 131 [v0_Items, (Value.int .i64 a0_Weight), (Value.int .i64 a1_Steps), v1_Codes, v567, v1015, (Value.int .i64 0), (Value.int .i64 0)], rowsC 3 (List.replicate (Int.toNat a1_Steps) nilH) (l564 : List (List Int)) none, ownL 22 v567 ((List.replicate (Int.toNat a1_Steps) nilH) : List Hdr)] wq) hit1027 ⟨v941, zs942, (by repeat (first | exact Sub.nil _ | refine Sub.cons rfl ?_)), (hm961.pick [0, 1, 2, 3, 4, 5] (by decide) rfl)⟩ ?_ ?_
      · rintro l1017 x1021 env1022 w1023 hf1024 hr1025 ⟨v1018, zs1019, hs_, hm_⟩
        have hs_ : Sub [(5, (Value.pointer (some ⟨g571, 0, none⟩))), (7, (Value.pointer (some ⟨g958, 0, none⟩))), (16, v0_Items), (17, (Value.int .i64 (List.length a0_Items : Int))), (18, (Value.int .i64 i939))] env1022 := hs_
        have hm1029 : Mem w No [blk g958 40 [(Value.int .i64 x955.Train), (Value.int .i64 x955.Block), (Value.int .i64 x955.Round), (Value.int .i64 x955.Length)], rowsC 3 zs1019 (l1017 : List (List Int)) none, ownL 22 v1018 (zs1019 : List Hdr), blk g571 131 [v0_Items, (Value.int .i64 a0_Weight), (Value.int .i64 a1_Steps), v1_Codes, v567, v1018, (Value.int .i64 0), (Value.int .i64 0)], rowsC 3 (List.replicate (Int.toNat a1_Steps) nilH) (l564 : List (List Int)) none, ownL 22 v567 ((List.replicate (Int.toNat a1_Steps) nilH) : List Hdr)] w1023 := hm_
        refine cw_sub hs_ ?_
        clear hs_ hm_ q1028
        have h : rollin_start_l5 N x955 l1017 = some x1021 := hf1024
        clear hf1024
        refine cw_seq ?_
        refine cw_seq ?_
        obtain ⟨w1031, he1033⟩ : ∃ q, q = w1023.drew := ⟨_, rfl⟩
        have hm1032 := hm1029.drew; rw [← he1033] at hm1032
        refine cw_region_s (fun q => q = w1031) (cls [] []) mixed ?_
        rintro _ rfl; rw [← he1033]
        refine s_rp (i := 0) rfl (by kernel_rfl) rfl (fun _ => (rd_move rfl)) ?_
        refine s_rp (i := 1) rfl (by kernel_rfl) rfl (fun _ => (rd_nilCheck rfl)) ?_
        refine s_rp (i := 2) rfl (by kernel_rfl) rfl (fun _ => (rd_fld tF131_3 rfl)) ?_
        refine s_rd (i := 3) rfl (by kernel_rfl) rfl (fun _ hS => by rw [hS]; exact (rd_ld1 tO41 rfl (hm1032.blk 3 rfl) (off := 5) rfl)) rfl ?_
        refine s_rp (i := 4) rfl (by kernel_rfl) rfl (fun _ => (rd_lenS tS41 rfl ((Nl.mk (hm1032.sl_call 2 rfl) (hm1032.rows_call 1 rfl)).sl))) ?_
        refine s_rp (i := 5) rfl (by kernel_rfl) rfl (fun _ => (rd_fld tF40_0 rfl)) ?_
        refine s_rd (i := 6) rfl (by kernel_rfl) rfl (fun _ hS => by rw [hS]; exact (rd_ld1 tO3 rfl (hm1032.blk 0 rfl) (off := 0) rfl)) rfl ?_
        refine s_rp (i := 7) rfl (by kernel_rfl) rfl (fun _ => (rd_leq rfl rfl)) ?_
        refine s_nil (by kernel_rfl) ?_
        refine qn_then ?_
        obtain ⟨hb1034, q1035⟩ | ⟨hb1034, q1035⟩ := oi h <;> clear h
        · refine cw_t rfl hb1034 ?_
          refine cw_skip ?_
          refine qn_then ?_
          refine cw_block ?_
          refine cw_region ?_
          refine t_rd rfl (rd_move rfl) ?_
          refine t_rd rfl (rd_move rfl) ?_
          refine t_rd rfl (rd_nilCheck rfl) ?_
          refine t_rd rfl (rd_fld tF131_3 rfl) ?_
          refine t_rd rfl (rd_ld1 tO41 rfl (hm1032.blk 3 rfl) (off := 5) rfl) ?_
          obtain ⟨zd1036, ez1037⟩ : ∃ z : Hdr, z.1 = (Value.slice none 0 0) := ⟨⟨(Value.slice none 0 0), sl_one (Sl.nil (α := Int) No w1031)⟩, rfl⟩
          refine t_ef rfl (ef_bslice (l := ([zd1036] : List Hdr)) hm1032 tS41 rfl (cs := #[(Value.slice none 0 0)]) (by unfold bsl; kernel_rfl) (by show [zd1036.1] = [(Value.slice none 0 0)]; rw [ez1037]) rfl) ?_
          intro v1038 w1040 hm1039
          have hm1041 := hm1039.addNil (α := Int) 3
          obtain ⟨l1042, h1043, q1044⟩ := ob q1035; clear q1035
          obtain ⟨ha1045, he1046⟩ := app_h h1043 (hm1041.get (k := 3) rfl).1 ((Nl.mk (hm1041.sl_call 1 rfl) (Rows.cons (hm1041.sl_call 0 rfl) ez1037 Rows.nil))).rows.1
          refine t_ef rfl (ef_append (k := 4) hm1041 tS41 tE22 rfl rfl rfl rfl ((Nl.mk (hm1041.sl_call 1 rfl) (Rows.cons (hm1041.sl_call 0 rfl) ez1037 Rows.nil))).sp ha1045) ?_
          intro v1047 w1049 hm1048
          have hm1050 := hm1048.pick [3, 0, 1, 2, 4, 5, 6, 7] (L' := [rowsC 3 zs1019 (l1017 : List (List Int)) none, ownL 3 (Value.slice none 0 0) ([] : List Int), ownL 22 v1038 ([zd1036] : List Hdr), blk g958 40 [(Value.int .i64 x955.Train), (Value.int .i64 x955.Block), (Value.int .i64 x955.Round), (Value.int .i64 x955.Length)], ownL 22 v1047 ((zs1019 ++ [zd1036]) : List Hdr), blk g571 131 [v0_Items, (Value.int .i64 a0_Weight), (Value.int .i64 a1_Steps), v1_Codes, v567, v1018, (Value.int .i64 0), (Value.int .i64 0)], rowsC 3 (List.replicate (Int.toNat a1_Steps) nilH) (l564 : List (List Int)) none, ownL 22 v567 ((List.replicate (Int.toNat a1_Steps) nilH) : List Hdr)]) (by decide) rfl
          have hm1051 := hm1050.absorb ez1037 he1046
          refine t_rd rfl (rd_nilCheck rfl) ?_
          refine t_rd rfl (rd_fld tF131_3 rfl) ?_
          refine t_ef0 (ef_st1 (k := 4) (off := 5) hm1051 tO41 rfl rfl rfl (sl_one ((Nl.mk (hm1051.sl_call 3 rfl) (hm1051.rows_call 0 rfl)).sl)) rfl rfl) ?_
          intro _ w1053 hm1052
          refine rwt_nil ?_
          refine qn_block (qn_then ?_)
          refine ⟨_, (os q1044), v1047, (zs1019 ++ [zd1036]), (by repeat (first | exact Sub.nil _ | refine Sub.cons rfl ?_)), (hm1052.pick [2, 0, 3, 4, 5, 6] (by decide) rfl)⟩
        · refine cw_f rfl hb1034 ?_
          refine cw_exit ?_
          refine qx_then (qx_then ?_)
          obtain rfl := hr1025 _ (os q1035)
          exact ⟨rfl, v1018, zs1019, (by repeat (first | exact Sub.nil _ | refine Sub.cons rfl ?_)), (hm1032.pick [1, 2, 3, 4, 5] (by decide) rfl)⟩
      · skip
        intro e env1054 w1055 hX1056
        obtain ⟨rfl, v1015, zs1016, hs1057, hm1058⟩ := hX1056
        refine qx_same (qn_block (qn_then ?_))
        refine cw_sub hs1057 ?_
        refine cw_region ?_
        obtain ⟨x1059, h1060, q1061⟩ := ob q1028; clear q1028
        refine t_rd rfl (rd_add64 h1060 rfl rfl) ?_
        refine t_rd rfl (rd_move rfl) ?_
        refine rwt_nil ?_
        refine qn_then ?_
        refine ⟨_, (os q1061), v1015, zs1016, (by repeat (first | exact Sub.nil _ | refine Sub.cons rfl ?_)), (hm1058.pick [0, 1, 2, 3, 4] (by decide) rfl)⟩
    · refine cw_f rfl hb953 ?_
      refine cw_exit ?_
      refine qx_then (qx_then ?_)
      obtain rfl := hr948 _ (os q954)
      exact ⟨rfl, v941, zs942, (by repeat (first | exact Sub.nil _ | refine Sub.cons rfl ?_)), (hm952.pick [0, 1, 2, 3, 4] (by decide) rfl)⟩
  · skip
    intro e env1062 w1063 hX1064
    obtain ⟨rfl, v937, zs938, hs1065, hm1066⟩ := hX1064
    refine qx_same (qn_then ?_)
    refine cw_sub hs1065 ?_
    refine cw_seq ?_
    refine cw_region ?_
    refine t_rd rfl (rd_move rfl) ?_
    refine t_rd rfl (rd_assign rfl) ?_
    refine rwt_nil ?_
    refine qn_then ?_
    refine cw_ret ?_
    obtain rfl := os q951
    exact ret1 rfl rfl ⟨g571, (List.replicate (Int.toNat a1_Steps) nilH), v567, zs938, v937, rfl, (hm1066.pick [2, 4, 3, 1, 0] (by decide) rfl)⟩

end Go.Proofs.YtlpkbkbjohhleaaGreat
