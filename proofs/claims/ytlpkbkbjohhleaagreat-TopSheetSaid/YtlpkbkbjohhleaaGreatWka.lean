/- Each call computes what its mirror does; written by a program of mine (gowalk.py). -/
import Derived.Test.YtlpkbkbjohhleaaGreatTy
namespace Go.Proofs.YtlpkbkbjohhleaaGreat
open Go.Gv Go.RowKit
set_option linter.unusedVariables false
set_option maxRecDepth 100000

theorem humpgen_New_ok {N : Nat} {a0 : List Int} {res : Int} (h : humpgen_New N a0 = some res) {w : World} {v0 : Value} (hv0 : Sl (Old w No) w v0 a0) :
  CallsR Tryz.prog 6 [v0] w (fun u w' => ∃ gr : Nat, u = (Value.pointer (some ⟨gr, 0, none⟩)) ∧ Mem w No [blk gr 83 [v0, (Value.int .i64 res)]] w') := by
 unfold humpgen_New at h
 refine fn_ok Tryz.func6 rfl rfl rfl ?_
 have hm0 := Mem.nil w
 refine cw_sr (t_as rfl rfl (rwt_n (cw_sr (t_mv rfl rfl ?_))))
 refine t_rd rfl (rd_build (cs := #[v0, (Value.int .i64 0)]) rfl (by obtain ⟨_, _, e⟩ := ((hv0.of_old hm0)).val; rw [e]; clear e; kernel_rfl)) ?_
 refine t_ef rfl (ef_box hm0 rfl rfl) ?_
 rintro _ w6 ⟨g4, rfl, hm5⟩
 refine t_as rfl rfl (rwt_n ?_)
 refine cw_ret ?_
 obtain rfl := os h
 exact ret1 rfl rfl ⟨g4, rfl, (hm5.pick [0] (by decide) rfl)⟩

theorem Maker_Next_ok {N : Nat} {a0_l : List Int} {a0_n : Int} {a1 : Int} {res : Int × Int} (h : Maker_Next N a0_l a0_n a1 = some res) {w : World} {v0_l : Value} {g0 : Nat} (hv0_l : Sl (Old w (fun k => k = g0)) w v0_l a0_l) (hk0 : (blk g0 83 [v0_l, (Value.int .i64 a0_n)]).φ w) :
  CallsR Tryz.prog 39 [(Value.pointer (some ⟨g0, 0, none⟩)), (Value.int .i64 a1)] w (fun u w' => u = (Value.int .i64 res.2) ∧ Mem w (fun k => k = g0) [blk g0 83 [v0_l, (Value.int .i64 res.1)]] w') := by
 unfold Maker_Next at h
 refine fn_ok Tryz.func39 rfl rfl rfl ?_
 have hm0 := Mem.one hk0
 refine cw_sr (t_as rfl rfl (rwt_n (cw_sr (t_as rfl rfl (rwt_n (cw_seq ?_))))))
 refine cw_sr (t_mv rfl rfl ?_)
 refine t_rd rfl (rd_nilCheck rfl) ?_
 refine t_rd rfl (rd_fld tF83_0 rfl) ?_
 refine t_rd rfl (rd_ld1 tO22 rfl (hm0.blk 0 rfl) (off := 0) rfl) ?_
 refine t_rd rfl (rd_lenS tS22 rfl (hv0_l.of_old hm0)) ?_
 refine t_rd rfl (rd_gtr rfl rfl) ?_
 refine rwt_n ?_
 obtain ⟨j96, hit97, q98⟩ := ob h; clear h
 refine cw_join (X := fun eq envq wq => eq = .normal ∧ Sub [(0, (Value.pointer (some ⟨g0, 0, none⟩))), (1, (Value.int .i64 a1)), (5, (Value.int .i64 j96))] envq ∧ Mem w (fun k => k = g0) [blk g0 83 [v0_l, (Value.int .i64 a0_n)]] wq) ?_ ?_
 ·clear q98
  obtain ⟨hb99, q100⟩ | ⟨hb99, q100⟩ := oi hit97 <;> clear hit97
  ·refine cw_t rfl hb99 ?_
   obtain ⟨w111, he113⟩ : ∃ q, q = w.drew := ⟨_, rfl⟩
   have hm112 := hm0.drew; rw [← he113] at hm112
   refine cw_region_s (fun q => q = w111) (cls [] []) mixed ?_
   rintro _ rfl; rw [← he113]
   refine s_rp (i := 0) rfl (by kernel_rfl) rfl (fun _ => (rd_move rfl)) ?_
   refine s_rp (i := 1) rfl (by kernel_rfl) rfl (fun _ => (rd_nilCheck rfl)) ?_
   refine s_rp (i := 2) rfl (by kernel_rfl) rfl (fun _ => (rd_fld tF83_0 rfl)) ?_
   refine s_rd (i := 3) rfl (by kernel_rfl) rfl (fun _ hS => by rw [hS]; exact (rd_ld1 tO22 rfl (hm112.blk 0 rfl) (off := 0) rfl)) rfl ?_
   refine s_rp (i := 4) rfl (by kernel_rfl) rfl (fun _ => (rd_move rfl)) ?_
   refine s_rp (i := 5) rfl (by kernel_rfl) rfl (fun _ => (rd_nilCheck rfl)) ?_
   refine s_rp (i := 6) rfl (by kernel_rfl) rfl (fun _ => (rd_fld tF83_1 rfl)) ?_
   refine s_rd (i := 7) rfl (by kernel_rfl) rfl (fun _ hS => by rw [hS]; exact (rd_ld1 tO3 rfl (hm112.blk 0 rfl) (off := 1) rfl)) rfl ?_
   refine s_rp (i := 8) rfl (by kernel_rfl) rfl (fun _ => (rd_move rfl)) ?_
   refine s_rp (i := 9) rfl (by kernel_rfl) rfl (fun _ => (rd_nilCheck rfl)) ?_
   refine s_rp (i := 10) rfl (by kernel_rfl) rfl (fun _ => (rd_fld tF83_0 rfl)) ?_
   refine s_rd (i := 11) rfl (by kernel_rfl) rfl (fun _ hS => by rw [hS]; exact (rd_ld1 tO22 rfl (hm112.blk 0 rfl) (off := 0) rfl)) rfl ?_
   refine s_rp (i := 12) rfl (by kernel_rfl) rfl (fun _ => (rd_lenS tS22 rfl (hv0_l.of_old hm112))) ?_
   obtain ⟨x114, h115, q116⟩ := ob q100; clear q100
   refine s_rp (i := 13) rfl (by kernel_rfl) rfl (fun _ => (rd_rem64 h115 rfl rfl)) ?_
   obtain ⟨x117, h118, q119⟩ := ob q116; clear q116
   refine s_rp (i := 14) rfl (by kernel_rfl) rfl (fun _ => (rd_index tS22 rfl rfl (hv0_l.of_old hm112) h118)) ?_
   refine s_rd (i := 15) rfl (by kernel_rfl) rfl (fun _ hS => by rw [hS]; exact (rd_ld1 tO3 rfl ((hv0_l.of_old hm112).cells h118) (off := 0) rfl)) rfl ?_
   refine s_rp (i := 16) rfl (by kernel_rfl) rfl (fun _ => (rd_move rfl)) ?_
   refine s_rp (i := 17) rfl (by kernel_rfl) rfl (fun _ => (rd_nilCheck rfl)) ?_
   refine s_rp (i := 18) rfl (by kernel_rfl) rfl (fun _ => (rd_fld tF83_1 rfl)) ?_
   refine s_rd (i := 19) rfl (by kernel_rfl) rfl (fun _ hS => by rw [hS]; exact (rd_ld1 tO3 rfl (hm112.blk 0 rfl) (off := 1) rfl)) rfl ?_
   refine s_rp (i := 20) rfl (by kernel_rfl) rfl (fun _ => (rd_move rfl)) ?_
   refine s_rp (i := 21) rfl (by kernel_rfl) rfl (fun _ => (rd_nilCheck rfl)) ?_
   refine s_rp (i := 22) rfl (by kernel_rfl) rfl (fun _ => (rd_fld tF83_0 rfl)) ?_
   refine s_rd (i := 23) rfl (by kernel_rfl) rfl (fun _ hS => by rw [hS]; exact (rd_ld1 tO22 rfl (hm112.blk 0 rfl) (off := 0) rfl)) rfl ?_
   refine s_rp (i := 24) rfl (by kernel_rfl) rfl (fun _ => (rd_lenS tS22 rfl (hv0_l.of_old hm112))) ?_
   obtain ⟨x120, h121, q122⟩ := ob q119; clear q119
   refine s_rp (i := 25) rfl (by kernel_rfl) rfl (fun _ => (rd_quo64 h121 rfl rfl)) ?_
   refine s_rp (i := 26) rfl (by kernel_rfl) rfl (fun _ => (rd_mulw rfl rfl)) ?_
   refine s_rp (i := 27) rfl (by kernel_rfl) rfl (fun _ => (rd_addw rfl rfl)) ?_
   refine s_rp (i := 28) rfl (by kernel_rfl) rfl (fun _ => (rd_assign rfl)) ?_
   refine s_nil (by kernel_rfl) ?_
   obtain rfl := os q122
   exact ⟨rfl, (by repeat (first | exact Sub.nil _ | refine Sub.cons rfl ?_)), (hm112.pick [0] (by decide) rfl)⟩
  ·refine cw_f rfl hb99 (cw_skip ?_)
   obtain rfl := os q100
   exact ⟨rfl, (by repeat (first | exact Sub.nil _ | refine Sub.cons rfl ?_)), (hm0.pick [0] (by decide) rfl)⟩
 ·clear hit97
  intro e env123 w124 hX125
  obtain ⟨rfl, hs126, hm127⟩ := hX125
  refine qn_then ?_
  refine cw_sub hs126 ?_
  refine cw_sr (t_mv rfl rfl ?_)
  refine t_rd rfl (rd_nilCheck rfl) ?_
  refine t_rd rfl (rd_fld tF83_1 rfl) ?_
  refine t_rd rfl (rd_ld1 tO3 rfl (hm127.blk 0 rfl) (off := 1) rfl) ?_
  obtain ⟨x128, h129, q130⟩ := ob q98; clear q98
  refine t_rd rfl (rd_add64 h129 rfl rfl) ?_
  refine t_rd rfl (rd_nilCheck rfl) ?_
  refine t_rd rfl (rd_fld tF83_1 rfl) ?_
  refine t_ef0 (ef_st1 (k := 0) (off := 1) hm127 tO3 rfl rfl rfl rfl rfl rfl) ?_
  intro _ w132 hm131
  refine rwt_n (cw_sr (t_mv rfl rfl (t_mv rfl rfl ?_)))
  obtain ⟨x133, h134, q135⟩ := ob q130; clear q130
  refine t_rd rfl (rd_rem64 h134 rfl rfl) ?_
  refine t_as rfl rfl (rwt_n (cw_seq (cw_sr (t_mv rfl rfl (t_rd rfl (rd_lss rfl rfl) ?_)))))
  refine rwt_n ?_
  obtain ⟨hb136, q137⟩ | ⟨hb136, q137⟩ := oi q135 <;> clear q135
  ·refine cw_t rfl hb136 ?_
   refine cw_region ?_
   refine t_mv rfl rfl (t_mv rfl rfl ?_)
   obtain ⟨x138, h139, q140⟩ := ob q137; clear q137
   refine t_rd rfl (rd_add64 h139 rfl rfl) (t_as rfl rfl (rwt_n (cw_sr (t_mv rfl rfl (t_as rfl rfl (rwt_n ?_))))))
   refine cw_ret ?_
   obtain rfl := os q140
   exact ret1 rfl rfl ⟨rfl, (hm131.pick [0] (by decide) rfl)⟩
  ·refine cw_f rfl hb136 (cw_skip (qn_then (cw_sr (t_mv rfl rfl (t_as rfl rfl ?_)))))
   refine rwt_n ?_
   refine cw_ret ?_
   obtain rfl := os q137
   exact ret1 rfl rfl ⟨rfl, (hm131.pick [0] (by decide) rfl)⟩

theorem Maker_Digits_ok {N : Nat} {a0_l : List Int} {a0_n : Int} {a1 : Int} {res : Int × List UInt8} (h : Maker_Digits N a0_l a0_n a1 = some res) {w : World} {v0_l : Value} {g0 : Nat} (hv0_l : Sl (Old w (fun k => k = g0)) w v0_l a0_l) (hk0 : (blk g0 83 [v0_l, (Value.int .i64 a0_n)]).φ w) :
  CallsR Tryz.prog 93 [(Value.pointer (some ⟨g0, 0, none⟩)), (Value.int .i64 a1)] w (fun u w' => u = (Value.string (bs res.2)) ∧ Mem w (fun k => k = g0) [blk g0 83 [v0_l, (Value.int .i64 res.1)]] w') := by
 unfold Maker_Digits at h
 refine fn_ok Tryz.func93 rfl rfl rfl ?_
 have hm0 := Mem.one hk0
 refine cw_sr (t_as rfl rfl (rwt_n (cw_sr (t_mv rfl rfl ?_))))
 obtain ⟨l87, h88, q89⟩ := ob h; clear h
 refine t_ef rfl (ef_make hm0 tS60 tE5 rfl rfl rfl h88) ?_
 intro v90 w92 hm91
 refine t_as rfl rfl (rwt_n (cw_seq (cw_sr (t_as rfl rfl (rwt_n ?_)))))
 refine cw_block ?_
 obtain ⟨r145, hit146, q147⟩ := ob q89; clear q89
 refine cw_loop2 (I := fun q envq wq => Sub [(0, (Value.pointer (some ⟨g0, 0, none⟩))), (1, (Value.int .i64 a1)), (5, v90), (6, (Value.int .i64 q.1))] envq ∧ Mem w (fun k => k = g0) [ownL 5 v90 (q.2.2 : List UInt8), blk g0 83 [v0_l, (Value.int .i64 q.2.1)]] wq) (X := fun eq envq wq => eq = .exit 0 ∧ Sub [(5, v90)] envq ∧ Mem w (fun k => k = g0) [ownL 5 v90 (r145.2 : List UInt8), blk g0 83 [v0_l, (Value.int .i64 r145.1)]] wq) hit146 ⟨(by repeat (first | exact Sub.nil _ | refine Sub.cons rfl ?_)), (hm91.pick [0, 1] (by decide) rfl)⟩ ?_ ?_
 ·rintro ⟨i136, i137, l138⟩ x140 env141 w142 hf143 hr144 ⟨hs_, hm_⟩
  have hs_ : Sub [(0, (Value.pointer (some ⟨g0, 0, none⟩))), (1, (Value.int .i64 a1)), (5, v90), (6, (Value.int .i64 i136))] env141 := hs_
  have hm148 : Mem w (fun k => k = g0) [ownL 5 v90 (l138 : List UInt8), blk g0 83 [v0_l, (Value.int .i64 i137)]] w142 := hm_
  refine cw_sub hs_ ?_
  clear hs_ hm_ q147
  have h : Maker_Digits_l1 N a0_l a1 i136 i137 l138 = some x140 := hf143
  clear hf143
  refine cw_seq (cw_sr (t_mv rfl rfl (t_mv rfl rfl (t_rd rfl (rd_lss rfl rfl) (rwt_n ?_)))))
  obtain ⟨hb149, q150⟩ | ⟨hb149, q150⟩ := oi h <;> clear h
  ·refine cw_t rfl hb149 (cw_skip (qn_then (cw_seq (cw_block ?_))))
   refine cw_region ?_
   refine t_mv rfl rfl (t_mv rfl rfl (t_mv rfl rfl ?_))
   obtain ⟨r151, h152, q153⟩ := ob q150; clear q150
   refine t_ef rfl (ef_call tf39 rfl (Maker_Next_ok h152 (hv0_l.to_callT (k := 1) hm148 rfl) (hm148.get (k := 1) rfl))) ?_
   rintro _ w155 ⟨e_, hm154⟩
   obtain rfl := e_.symm
   have hm156 := hm148.callT (k := 1) rfl (fun _ h => h) hm154 (fun _ => Iff.rfl)
   obtain ⟨x157, h158, q159⟩ := ob q153; clear q153
   refine t_rd rfl (rd_add64 h158 rfl rfl) ?_
   refine t_rd rfl (rd_cv8 tH3 tI5 rfl) ?_
   obtain ⟨x160, h161, q162⟩ := ob q159; clear q159
   refine t_rd rfl (rd_index tS60 rfl rfl (hm156.sl 0 rfl) h161) ?_
   refine t_ef0 (ef_stl (k := 0) (off := 0) (x' := (toU8 x157)) hm156 tO5 rfl rfl rfl rfl h161 rfl rfl) ?_
   intro _ w164 hm163
   refine rwt_nil ?_
   refine qn_block (qn_then ?_)
   refine cw_region ?_
   refine t_mv rfl rfl ?_
   obtain ⟨x165, h166, q167⟩ := ob q162; clear q162
   refine t_rd rfl (rd_add64 h166 rfl rfl) (t_as rfl rfl (rwt_n ?_))
   refine ⟨_, (os q167), (by repeat (first | exact Sub.nil _ | refine Sub.cons rfl ?_)), (hm163.pick [0, 1] (by decide) rfl)⟩
  ·refine cw_f rfl hb149 ?_
   refine cw_exit ?_
   refine qx_then (qx_then ?_)
   obtain rfl := hr144 _ (os q150)
   exact ⟨rfl, (by repeat (first | exact Sub.nil _ | refine Sub.cons rfl ?_)), (hm148.pick [0, 1] (by decide) rfl)⟩
 ·skip
  intro e env168 w169 hX170
  obtain ⟨rfl, hs171, hm172⟩ := hX170
  refine qx_same (qn_then ?_)
  refine cw_sub hs171 ?_
  refine cw_sr (t_mv rfl rfl ?_)
  refine t_ef rfl (Rd.ef (rd_tostr tS60.1 tU5 tStr9 rfl (hm172.sl 0 rfl))) ?_
  rintro _ _ ⟨rfl, rfl⟩
  refine t_as rfl rfl (rwt_n ?_)
  refine cw_ret ?_
  obtain rfl := os q147
  exact ret1 rfl rfl ⟨rfl, (hm172.pick [1] (by decide) rfl)⟩

theorem r02_digits_ok {N : Nat} {a0 : List UInt8} {a1 : Int} {res : Bool} (h : r02_digits N a0 a1 = some res) {w : World}   :
  CallsR Tryz.prog 104 [(Value.string (bs a0)), (Value.int .i64 a1)] w (fun u w' => u = (Value.bool res) ∧ Mem w No [] w') := by
 unfold r02_digits at h
 refine fn_ok Tryz.func104 rfl rfl rfl ?_
 have hm0 := Mem.nil w
 refine cw_sr (t_as rfl rfl (rwt_n (cw_seq (cw_sr (t_mv rfl rfl ?_)))))
 refine t_rd rfl (rd_lenst tStr9 rfl) ?_
 refine t_mv rfl rfl ?_
 refine t_rd rfl (rd_neq rfl rfl) ?_
 refine rwt_n ?_
 obtain ⟨hb1, q2⟩ | ⟨hb1, q2⟩ := oi h <;> clear h
 ·refine cw_t rfl hb1 (cw_sr (t_as rfl rfl (rwt_n ?_)))
  refine cw_ret ?_
  refine qr_then ?_
  obtain rfl := os q2
  exact ret1 rfl rfl ⟨rfl, (hm0.pick [] (by decide) rfl)⟩
 ·refine cw_f rfl hb1 (cw_skip (qn_then (cw_seq (cw_sr (t_as rfl rfl ?_)))))
  refine rwt_n (cw_block ?_)
  obtain ⟨r47, hit48, q49⟩ := ob q2; clear q2
  refine cw_loop2 (I := fun q envq wq => Sub [(0, (Value.string (bs a0))), (1, (Value.int .i64 a1)), (5, (Value.int .i64 q))] envq ∧ Mem w No [] wq) (X := fun eq envq wq => (∃ p50, r47 = (Sum.inl p50) ∧ eq = .ret ∧ retQ Tryz.prog 25 Tryz.f104 (fun u w' => u = (Value.bool p50) ∧ Mem w No [] w') .ret envq wq) ∨ (∃ p51, r47 = (Sum.inr p51) ∧ eq = .exit 0 ∧ Sub [] envq ∧ Mem w No [] wq)) hit48 ⟨(by repeat (first | exact Sub.nil _ | refine Sub.cons rfl ?_)), (hm0.pick [] (by decide) rfl)⟩ ?_ ?_
  ·rintro i40 x42 env43 w44 hf45 hr46 ⟨hs_, hm_⟩
   have hs_ : Sub [(0, (Value.string (bs a0))), (1, (Value.int .i64 a1)), (5, (Value.int .i64 i40))] env43 := hs_
   have hm52 : Mem w No [] w44 := hm_
   refine cw_sub hs_ ?_
   clear hs_ hm_ q49
   have h : r02_digits_l1 N a0 a1 i40 = some x42 := hf45
   clear hf45
   refine cw_seq (cw_sr (t_mv rfl rfl (t_mv rfl rfl (t_rd rfl (rd_lss rfl rfl) (rwt_n ?_)))))
   obtain ⟨hb53, q54⟩ | ⟨hb53, q54⟩ := oi h <;> clear h
   ·refine cw_t rfl hb53 (cw_skip (qn_then (cw_seq (cw_block (cw_sr ?_)))))
    refine t_mv rfl rfl (t_mv rfl rfl ?_)
    obtain ⟨x55, h56, q57⟩ := ob q54; clear q54
    refine t_rd rfl (rd_sidx tStr9 rfl rfl h56) ?_
    refine t_rd rfl (rd_lss rfl rfl) (t_mv rfl rfl ?_)
    refine t_rdg rfl rfl rfl rfl (gv_f _) (fun hg58 => (rd_move rfl)) ?_
    refine t_rdg rfl rfl rfl rfl (gv_f _) (fun hg59 => (rd_move rfl)) ?_
    obtain ⟨x61, h62, q63⟩ := ob q57; clear q57
    refine t_rdg rfl rfl rfl rfl (gv_f _) (fun hg60 => (rd_sidx tStr9 (gvx rfl hg60) (gvx rfl hg60) (gO_t h62 hg60))) ?_
    refine t_rdg rfl rfl rfl rfl (gv_f _) (fun hg64 => (rd_gtr (gvx rfl hg64) rfl)) ?_
    refine t_rd rfl (rd_or rfl (fun hc65 => (gvx rfl (bnotIt hc65)))) ?_
    refine rwt_n ?_
    obtain ⟨hb66, q67⟩ | ⟨hb66, q67⟩ := oi q63 <;> clear q63
    ·refine cw_t rfl hb66 (cw_sr (t_as rfl rfl (rwt_n ?_)))
     refine cw_ret ?_
     refine qr_block (qr_then (qr_then ?_))
     obtain rfl := hr46 _ (os q67)
     refine .inl (⟨_, rfl, ⟨rfl, ?_⟩⟩)
     exact ret1 rfl rfl ⟨rfl, (hm52.pick [] (by decide) rfl)⟩
    ·refine cw_f rfl hb66 (cw_skip ?_)
     refine qn_block (qn_then ?_)
     refine cw_region ?_
     refine t_mv rfl rfl ?_
     obtain ⟨x68, h69, q70⟩ := ob q67; clear q67
     refine t_rd rfl (rd_add64 h69 rfl rfl) (t_as rfl rfl (rwt_n ?_))
     refine ⟨_, (os q70), (by repeat (first | exact Sub.nil _ | refine Sub.cons rfl ?_)), (hm52.pick [] (by decide) rfl)⟩
   ·refine cw_f rfl hb53 ?_
    refine cw_exit ?_
    refine qx_then (qx_then ?_)
    obtain rfl := hr46 _ (os q54)
    exact .inr (⟨_, rfl, ⟨rfl, (by repeat (first | exact Sub.nil _ | refine Sub.cons rfl ?_)), (hm52.pick [] (by decide) rfl)⟩⟩)
  ·skip
   intro e env71 w72 hX73
   rcases hX73 with hX73 | hX73
   ·obtain ⟨p75, rfl, hX73⟩ := hX73
    obtain ⟨rfl, hq77⟩ := hX73
    exact qr_block (qr_then ((by have e := os q49; subst e; exact hq77)))
   ·obtain ⟨p78, rfl, hX73⟩ := hX73
    obtain ⟨rfl, hs79, hm80⟩ := hX73
    refine qx_same (qn_then ?_)
    refine cw_sub hs79 ?_
    refine cw_sr (t_as rfl rfl (rwt_n ?_))
    refine cw_ret ?_
    obtain rfl := os q49
    exact ret1 rfl rfl ⟨rfl, (hm80.pick [] (by decide) rfl)⟩

theorem r02_sum_ok {N : Nat} {a0 : List UInt8} {a1 : Int} {res : Int} (h : r02_sum N a0 a1 = some res) {w : World}   :
  CallsR Tryz.prog 105 [(Value.string (bs a0)), (Value.int .i64 a1)] w (fun u w' => u = (Value.int .i64 res) ∧ Mem w No [] w') := by
 unfold r02_sum at h
 refine fn_ok Tryz.func105 rfl rfl rfl ?_
 have hm0 := Mem.nil w
 refine cw_sr (t_as rfl rfl (rwt_n (cw_sr (t_as rfl rfl (rwt_n (cw_seq ?_))))))
 refine cw_sr (t_as rfl rfl (rwt_n (cw_block ?_)))
 obtain ⟨r84, hit85, q86⟩ := ob h; clear h
 refine cw_loop2 (I := fun q envq wq => Sub [(0, (Value.string (bs a0))), (1, (Value.int .i64 a1)), (5, (Value.int .i64 q.1)), (6, (Value.int .i64 q.2))] envq ∧ Mem w No [] wq) (X := fun eq envq wq => eq = .exit 0 ∧ Sub [(5, (Value.int .i64 r84))] envq ∧ Mem w No [] wq) hit85 ⟨(by repeat (first | exact Sub.nil _ | refine Sub.cons rfl ?_)), (hm0.pick [] (by decide) rfl)⟩ ?_ ?_
 ·rintro ⟨i76, i77⟩ x79 env80 w81 hf82 hr83 ⟨hs_, hm_⟩
  have hs_ : Sub [(0, (Value.string (bs a0))), (1, (Value.int .i64 a1)), (5, (Value.int .i64 i76)), (6, (Value.int .i64 i77))] env80 := hs_
  have hm87 : Mem w No [] w81 := hm_
  refine cw_sub hs_ ?_
  clear hs_ hm_ q86
  have h : r02_sum_l1 N a0 a1 i76 i77 = some x79 := hf82
  clear hf82
  refine cw_seq (cw_sr (t_mv rfl rfl (t_mv rfl rfl (t_rd rfl (rd_lss rfl rfl) (rwt_n ?_)))))
  obtain ⟨hb88, q89⟩ | ⟨hb88, q89⟩ := oi h <;> clear h
  ·refine cw_t rfl hb88 (cw_skip (qn_then (cw_seq (cw_block (cw_sr ?_)))))
   refine t_mv rfl rfl (t_mv rfl rfl ?_)
   obtain ⟨x90, h91, q92⟩ := ob q89; clear q89
   refine t_rd rfl (rd_sidx tStr9 rfl rfl h91) ?_
   refine t_rd rfl (rd_sub_u8x rfl rfl) ?_
   obtain ⟨x93, h94, q95⟩ := ob q92; clear q92
   refine t_rd rfl (rd_cv64 tH5 tI3 h94 rfl) ?_
   refine t_as rfl rfl (rwt_n (cw_seq (cw_sr (t_mv rfl rfl ?_))))
   refine t_rd rfl (rd_rem rfl rfl (by decide)) ?_
   refine t_rd rfl (rd_eql rfl rfl) ?_
   refine rwt_n ?_
   obtain ⟨hb96, q97⟩ | ⟨hb96, q97⟩ := oi q95 <;> clear q95
   ·refine cw_t rfl hb96 (cw_sr (t_mv rfl rfl ?_))
    obtain ⟨x98, h99, q100⟩ := ob q97; clear q97
    refine t_rd rfl (rd_mul64 h99 rfl rfl) ?_
    refine t_as rfl rfl (rwt_n (cw_sr (t_mv rfl rfl ?_)))
    refine t_rd rfl (rd_gtr rfl rfl) ?_
    refine rwt_n ?_
    obtain ⟨hb101, q102⟩ | ⟨hb101, q102⟩ := oi q100 <;> clear q100
    ·refine cw_t rfl hb101 ?_
     refine cw_region ?_
     refine t_mv rfl rfl ?_
     obtain ⟨x103, h104, q105⟩ := ob q102; clear q102
     refine t_rd rfl (rd_sub64 h104 rfl rfl) ?_
     refine t_as rfl rfl (rwt_n ?_)
     refine cw_region ?_
     refine t_mv rfl rfl (t_mv rfl rfl ?_)
     obtain ⟨x106, h107, q108⟩ := ob q105; clear q105
     refine t_rd rfl (rd_add64 h107 rfl rfl) (t_as rfl rfl ?_)
     refine rwt_nil ?_
     refine qn_block (qn_then ?_)
     refine cw_region ?_
     refine t_mv rfl rfl ?_
     obtain ⟨x109, h110, q111⟩ := ob q108; clear q108
     refine t_rd rfl (rd_add64 h110 rfl rfl) (t_as rfl rfl (rwt_n ?_))
     refine ⟨_, (os q111), (by repeat (first | exact Sub.nil _ | refine Sub.cons rfl ?_)), (hm87.pick [] (by decide) rfl)⟩
    ·refine cw_f rfl hb101 (cw_skip (qn_then ?_))
     refine cw_region ?_
     refine t_mv rfl rfl (t_mv rfl rfl ?_)
     obtain ⟨x112, h113, q114⟩ := ob q102; clear q102
     refine t_rd rfl (rd_add64 h113 rfl rfl) (t_as rfl rfl ?_)
     refine rwt_nil ?_
     refine qn_block (qn_then ?_)
     refine cw_region ?_
     refine t_mv rfl rfl ?_
     obtain ⟨x115, h116, q117⟩ := ob q114; clear q114
     refine t_rd rfl (rd_add64 h116 rfl rfl) (t_as rfl rfl (rwt_n ?_))
     refine ⟨_, (os q117), (by repeat (first | exact Sub.nil _ | refine Sub.cons rfl ?_)), (hm87.pick [] (by decide) rfl)⟩
   ·refine cw_f rfl hb96 (cw_skip (qn_then ?_))
    refine cw_region ?_
    refine t_mv rfl rfl (t_mv rfl rfl ?_)
    obtain ⟨x118, h119, q120⟩ := ob q97; clear q97
    refine t_rd rfl (rd_add64 h119 rfl rfl) (t_as rfl rfl ?_)
    refine rwt_nil ?_
    refine qn_block (qn_then ?_)
    refine cw_region ?_
    refine t_mv rfl rfl ?_
    obtain ⟨x121, h122, q123⟩ := ob q120; clear q120
    refine t_rd rfl (rd_add64 h122 rfl rfl) (t_as rfl rfl (rwt_n ?_))
    refine ⟨_, (os q123), (by repeat (first | exact Sub.nil _ | refine Sub.cons rfl ?_)), (hm87.pick [] (by decide) rfl)⟩
  ·refine cw_f rfl hb88 ?_
   refine cw_exit ?_
   refine qx_then (qx_then ?_)
   obtain rfl := hr83 _ (os q89)
   exact ⟨rfl, (by repeat (first | exact Sub.nil _ | refine Sub.cons rfl ?_)), (hm87.pick [] (by decide) rfl)⟩
 ·skip
  intro e env124 w125 hX126
  obtain ⟨rfl, hs127, hm128⟩ := hX126
  refine qx_same (qn_then ?_)
  refine cw_sub hs127 ?_
  refine cw_sr (t_mv rfl rfl (t_as rfl rfl (rwt_n ?_)))
  refine cw_ret ?_
  obtain rfl := os q86
  exact ret1 rfl rfl ⟨rfl, (hm128.pick [] (by decide) rfl)⟩

theorem r02_Digit_ok {N : Nat} {a0 : List UInt8} {res : Int × Int} (h : r02_Digit N a0 = some res) {w : World}   :
  CallsR Tryz.prog 94 [(Value.string (bs a0))] w (fun u w' => u = (Value.tuple #[(Value.int .i64 res.1), (Value.int .i64 res.2)]) ∧ Mem w No [] w') := by
 unfold r02_Digit at h
 refine fn_ok Tryz.func94 rfl rfl rfl ?_
 have hm0 := Mem.nil w
 refine cw_sr (t_as rfl rfl (t_as rfl rfl (rwt_n (cw_seq (cw_sr ?_)))))
 refine t_mv rfl rfl ?_
 obtain ⟨r1, h2, q3⟩ := ob h; clear h
 refine t_ef rfl (ef_call tf104 rfl (r02_digits_ok h2)) ?_
 rintro _ w5 ⟨e_, hm4⟩
 obtain rfl := e_.symm
 have hm6 := hm0.call hm4
 refine t_rd rfl (rd_not rfl) ?_
 refine rwt_n ?_
 obtain ⟨hb7, q8⟩ | ⟨hb7, q8⟩ := oi q3 <;> clear q3
 ·refine cw_t rfl hb7 (cw_sr (t_as rfl rfl (t_as rfl rfl (rwt_n ?_))))
  refine cw_ret ?_
  refine qr_then ?_
  obtain rfl := os q8
  exact ret2 rfl rfl rfl ⟨rfl, (hm6.pick [] (by decide) rfl)⟩
 ·refine cw_f rfl hb7 (cw_skip (qn_then (cw_sr (t_mv rfl rfl ?_))))
  obtain ⟨r9, h10, q11⟩ := ob q8; clear q8
  refine t_ef rfl (ef_call tf105 rfl (r02_sum_ok h10)) ?_
  rintro _ w13 ⟨e_, hm12⟩
  obtain rfl := e_.symm
  have hm14 := hm6.call hm12
  refine t_rd rfl (rd_rem rfl rfl (by decide)) ?_
  obtain ⟨x15, h16, q17⟩ := ob q11; clear q11
  refine t_rd rfl (rd_sub64 h16 rfl rfl) ?_
  refine t_rd rfl (rd_rem rfl rfl (by decide)) ?_
  refine t_as rfl rfl (t_as rfl rfl (rwt_n ?_))
  refine cw_ret ?_
  obtain rfl := os q17
  exact ret2 rfl rfl rfl ⟨rfl, (hm14.pick [] (by decide) rfl)⟩

theorem Maker_Number_ok {N : Nat} {a0_l : List Int} {a0_n : Int} {a1 : Int} {res : Int × List UInt8} (h : Maker_Number N a0_l a0_n a1 = some res) {w : World} {v0_l : Value} {g0 : Nat} (hv0_l : Sl (Old w (fun k => k = g0)) w v0_l a0_l) (hk0 : (blk g0 83 [v0_l, (Value.int .i64 a0_n)]).φ w) :
  CallsR Tryz.prog 71 [(Value.pointer (some ⟨g0, 0, none⟩)), (Value.int .i64 a1)] w (fun u w' => u = (Value.string (bs res.2)) ∧ Mem w (fun k => k = g0) [blk g0 83 [v0_l, (Value.int .i64 res.1)]] w') := by
 unfold Maker_Number at h
 refine fn_ok Tryz.func71 rfl rfl rfl ?_
 have hm0 := Mem.one hk0
 refine cw_sr (t_as rfl rfl (rwt_n (cw_sr (t_mv rfl rfl ?_))))
 obtain ⟨r58, h59, q60⟩ := ob h; clear h
 refine t_ef rfl (ef_call tf93 rfl (Maker_Digits_ok h59 (hv0_l.to_callT (k := 0) hm0 rfl) (hm0.get (k := 0) rfl))) ?_
 rintro _ w62 ⟨e_, hm61⟩
 obtain rfl := e_.symm
 have hm63 := hm0.callT (k := 0) rfl (fun _ h => h) hm61 (fun _ => Iff.rfl)
 obtain ⟨l64, h65, q66⟩ := ob q60; clear q60
 refine t_ef rfl (ef_bytes hm63 tStr9 tS60.1 tU5 rfl h65) ?_
 intro v67 w69 hm68
 refine t_as rfl rfl (rwt_n (cw_sr (t_mv rfl rfl (t_mv rfl rfl (t_mv rfl rfl (t_mv rfl rfl ?_))))))
 obtain ⟨x70, h71, q72⟩ := ob q66; clear q66
 refine t_rd rfl (rd_quo64 h71 rfl rfl) ?_
 refine t_rd rfl (rd_rem rfl rfl (by decide)) ?_
 obtain ⟨x73, h74, q75⟩ := ob q72; clear q72
 refine t_rd rfl (rd_add64 h74 rfl rfl) ?_
 refine t_rd rfl (rd_cv8 tH3 tI5 rfl) ?_
 refine t_mv rfl rfl ?_
 obtain ⟨x76, h77, q78⟩ := ob q75; clear q75
 refine t_rd rfl (rd_quo64 h77 rfl rfl) ?_
 refine t_rd rfl (rd_rem rfl rfl (by decide)) ?_
 obtain ⟨x79, h80, q81⟩ := ob q78; clear q78
 refine t_rd rfl (rd_add64 h80 rfl rfl) ?_
 refine t_rd rfl (rd_cv8 tH3 tI5 rfl) ?_
 refine t_mv rfl rfl ?_
 refine t_rd rfl (rd_rem rfl rfl (by decide)) ?_
 obtain ⟨x82, h83, q84⟩ := ob q81; clear q81
 refine t_rd rfl (rd_add64 h83 rfl rfl) ?_
 refine t_rd rfl (rd_cv8 tH3 tI5 rfl) ?_
 obtain ⟨x85, h86, q87⟩ := ob q84; clear q84
 refine t_rd rfl (rd_index tS60 rfl rfl (hm68.slz 0 rfl) h86) ?_
 refine t_ef0 (ef_stlZ (k := 0) (off := 0) (x' := (toU8 x73)) hm68 tO5 rfl rfl rfl rfl h86 rfl rfl) ?_
 intro _ w89 hm88
 obtain ⟨x90, h91, q92⟩ := ob q87; clear q87
 refine t_rd rfl (rd_index tS60 rfl rfl (hm88.slz 0 rfl) h91) ?_
 refine t_ef0 (ef_stlZ (k := 0) (off := 0) (x' := (toU8 x79)) hm88 tO5 rfl rfl rfl rfl h91 rfl rfl) ?_
 intro _ w94 hm93
 obtain ⟨x95, h96, q97⟩ := ob q92; clear q92
 refine t_rd rfl (rd_index tS60 rfl rfl (hm93.slz 0 rfl) h96) ?_
 refine t_ef0 (ef_stlZ (k := 0) (off := 0) (x' := (toU8 x82)) hm93 tO5 rfl rfl rfl rfl h96 rfl rfl) ?_
 intro _ w99 hm98
 refine rwt_n (cw_sr (t_mv rfl rfl ?_))
 refine t_ef rfl (Rd.ef (rd_tostr tS60.1 tU5 tStr9 rfl (hm98.slz 0 rfl))) ?_
 rintro _ _ ⟨rfl, rfl⟩
 obtain ⟨r100, h101, q102⟩ := ob q97; clear q97
 refine t_ef rfl (ef_call tf94 rfl (r02_Digit_ok h101)) ?_
 rintro _ w104 ⟨e_, hm103⟩
 obtain rfl := e_.symm
 have hm105 := hm98.call hm103
 refine t_mv rfl rfl ?_
 refine t_rd rfl (rd_extract rfl rfl) ?_
 refine t_rd rfl (rd_extract rfl rfl) ?_
 refine t_as rfl rfl (t_as rfl rfl (rwt_n (cw_sr (t_mv rfl rfl ?_))))
 refine t_ef rfl (Rd.ef (rd_tostr tS60.1 tU5 tStr9 rfl (hm105.slz 0 rfl))) ?_
 rintro _ _ ⟨rfl, rfl⟩
 refine t_mv rfl rfl ?_
 obtain ⟨x106, h107, q108⟩ := ob q102; clear q102
 refine t_rd rfl (rd_add64 h107 rfl rfl) ?_
 refine t_rd rfl (rd_cv8 tH3 tI5 rfl) ?_
 refine t_ef rfl (ef_bslice (l := ([(toU8 x106)] : List UInt8)) hm105 tS60 rfl (cs := #[(Value.int .u8 ((toU8 x106).toNat : Int))]) (by unfold bsl; kernel_rfl) rfl rfl) ?_
 intro v109 w111 hm110
 refine t_ef rfl (Rd.ef (rd_tostr tS60.1 tU5 tStr9 rfl (hm110.sl 0 rfl))) ?_
 rintro _ _ ⟨rfl, rfl⟩
 obtain ⟨l112, h113, q114⟩ := ob q108; clear q108
 refine t_rd rfl (rd_cat h113 rfl rfl) ?_
 refine t_as rfl rfl (rwt_n ?_)
 refine cw_ret ?_
 obtain rfl := os q114
 exact ret1 rfl rfl ⟨rfl, (hm110.pick [2] (by decide) rfl)⟩

theorem Maker_Pick_ok {N : Nat} {a0_l : List Int} {a0_n : Int} {a1 : List Int} {res : Int × Int} (h : Maker_Pick N a0_l a0_n a1 = some res) {w : World} {v0_l : Value} {g0 : Nat} {v1 : Value} (hv0_l : Sl (Old w (fun k => k = g0)) w v0_l a0_l) (hk0 : (blk g0 83 [v0_l, (Value.int .i64 a0_n)]).φ w) (hv1 : Sl (Old w (fun k => k = g0)) w v1 a1) :
  CallsR Tryz.prog 23 [(Value.pointer (some ⟨g0, 0, none⟩)), v1] w (fun u w' => u = (Value.int .i64 res.2) ∧ Mem w (fun k => k = g0) [blk g0 83 [v0_l, (Value.int .i64 res.1)]] w') := by
 unfold Maker_Pick at h
 refine fn_ok Tryz.func23 rfl rfl rfl ?_
 have hm0 := Mem.one hk0
 refine cw_sr (t_as rfl rfl (rwt_n (cw_sr (t_mv rfl rfl (t_mv rfl rfl (t_mv rfl rfl ?_))))))
 refine t_rd rfl (rd_lenS tS22 rfl (hv1.of_old hm0)) ?_
 obtain ⟨r10, h11, q12⟩ := ob h; clear h
 refine t_ef rfl (ef_call tf39 rfl (Maker_Next_ok h11 (hv0_l.to_callT (k := 0) hm0 rfl) (hm0.get (k := 0) rfl))) ?_
 rintro _ w14 ⟨e_, hm13⟩
 obtain rfl := e_.symm
 have hm15 := hm0.callT (k := 0) rfl (fun _ h => h) hm13 (fun _ => Iff.rfl)
 obtain ⟨x16, h17, q18⟩ := ob q12; clear q12
 refine t_rd rfl (rd_index tS22 rfl rfl (hv1.of_old hm15) h17) ?_
 refine t_rd rfl (rd_ld1 tO3 rfl ((hv1.of_old hm15).cells h17) (off := 0) rfl) ?_
 refine t_as rfl rfl (rwt_n ?_)
 refine cw_ret ?_
 obtain rfl := os q18
 exact ret1 rfl rfl ⟨rfl, (hm15.pick [0] (by decide) rfl)⟩

theorem Maker_Name_ok {N : Nat} {a0_l : List Int} {a0_n : Int} {res : Int × List UInt8} (h : Maker_Name N a0_l a0_n = some res) {w : World} {v0_l : Value} {g0 : Nat} (hv0_l : Sl (Old w (fun k => k = g0)) w v0_l a0_l) (hk0 : (blk g0 83 [v0_l, (Value.int .i64 a0_n)]).φ w) :
  CallsR Tryz.prog 72 [(Value.pointer (some ⟨g0, 0, none⟩))] w (fun u w' => u = (Value.string (bs res.2)) ∧ Mem w (fun k => k = g0) [blk g0 83 [v0_l, (Value.int .i64 res.1)]] w') := by
 unfold Maker_Name at h
 refine fn_ok Tryz.func72 rfl rfl rfl ?_
 have hm0 := Mem.one hk0
 refine cw_sr (t_as rfl rfl (rwt_n (cw_sr ?_)))
 refine t_ef rfl (ef_bslice (l := ([(Str.mk ([97] : List UInt8)), (Str.mk ([98] : List UInt8)), (Str.mk ([99] : List UInt8)), (Str.mk ([100] : List UInt8)), (Str.mk ([101] : List UInt8)), (Str.mk ([110, 111, 114, 116, 104] : List UInt8)), (Str.mk ([115, 111, 117, 116, 104] : List UInt8)), (Str.mk ([112, 111, 114, 116, 49] : List UInt8)), (Str.mk ([120, 57] : List UInt8)), (Str.mk ([97, 98, 99, 100, 101, 102, 103, 104, 105, 106, 107, 108] : List UInt8))] : List Str)) hm0 tS65 rfl (cs := #[(Value.string (bs ([97] : List UInt8))), (Value.string (bs ([98] : List UInt8))), (Value.string (bs ([99] : List UInt8))), (Value.string (bs ([100] : List UInt8))), (Value.string (bs ([101] : List UInt8))), (Value.string (bs ([110, 111, 114, 116, 104] : List UInt8))), (Value.string (bs ([115, 111, 117, 116, 104] : List UInt8))), (Value.string (bs ([112, 111, 114, 116, 49] : List UInt8))), (Value.string (bs ([120, 57] : List UInt8))), (Value.string (bs ([97, 98, 99, 100, 101, 102, 103, 104, 105, 106, 107, 108] : List UInt8)))]) (by unfold bsl; kernel_rfl) rfl rfl) ?_
 intro v13 w15 hm14
 refine t_mv rfl rfl ?_
 obtain ⟨r16, h17, q18⟩ := ob h; clear h
 refine t_ef rfl (ef_call tf39 rfl (Maker_Next_ok h17 (hv0_l.to_callT (k := 1) hm14 rfl) (hm14.get (k := 1) rfl))) ?_
 rintro _ w20 ⟨e_, hm19⟩
 obtain rfl := e_.symm
 have hm21 := hm14.callT (k := 1) rfl (fun _ h => h) hm19 (fun _ => Iff.rfl)
 obtain ⟨x22, h23, q24⟩ := ob q18; clear q18
 refine t_rd rfl (rd_index tS65 rfl rfl (hm21.sl 0 rfl) h23) ?_
 refine t_rd rfl (rd_ld1 tO9 rfl ((hm21.sl 0 rfl).cells h23) (off := 0) rfl) ?_
 refine t_as rfl rfl (rwt_n ?_)
 refine cw_ret ?_
 obtain rfl := os q24
 exact ret1 rfl rfl ⟨rfl, (hm21.pick [1] (by decide) rfl)⟩

theorem Maker_Wagon_ok {N : Nat} {a0_l : List Int} {a0_n : Int} {a1 : Int} {res : Int × T_Wagon} (h : Maker_Wagon N a0_l a0_n a1 = some res) {w : World} {v0_l : Value} {g0 : Nat} (hv0_l : Sl (Old w (fun k => k = g0)) w v0_l a0_l) (hk0 : (blk g0 83 [v0_l, (Value.int .i64 a0_n)]).φ w) :
  CallsR Tryz.prog 40 [(Value.pointer (some ⟨g0, 0, none⟩)), (Value.int .i64 a1)] w (fun u w' => u = (Value.agg (Flat.enc res.2).toArray) ∧ Mem w (fun k => k = g0) [blk g0 83 [v0_l, (Value.int .i64 res.1)]] w') := by
 unfold Maker_Wagon at h
 refine fn_ok Tryz.func40 rfl rfl rfl ?_
 have hm0 := Mem.one hk0
 refine cw_sr ?_
 refine t_ef rfl (ef_alloc hm0 tZ51 rfl) ?_
 rintro _ w163 ⟨g161, rfl, hm162⟩
 refine rwt_n (cw_sr (t_mv rfl rfl (t_mv rfl rfl ?_)))
 obtain ⟨r164, h165, q166⟩ := ob h; clear h
 refine t_ef rfl (ef_call tf71 rfl (Maker_Number_ok h165 (hv0_l.to_callT (k := 1) hm162 rfl) (hm162.get (k := 1) rfl))) ?_
 rintro _ w168 ⟨e_, hm167⟩
 obtain rfl := e_.symm
 have hm169 := hm162.callT (k := 1) rfl (fun _ h => h) hm167 (fun _ => Iff.rfl)
 refine t_mv rfl rfl ?_
 refine t_ef rfl (ef_bslice (l := ([80, 120, 142, 199, 262, 400] : List Int)) hm169 tS22 rfl (cs := #[(Value.int .i64 80), (Value.int .i64 120), (Value.int .i64 142), (Value.int .i64 199), (Value.int .i64 262), (Value.int .i64 400)]) (by unfold bsl; kernel_rfl) rfl rfl) ?_
 intro v170 w172 hm171
 obtain ⟨r173, h174, q175⟩ := ob q166; clear q166
 refine t_ef rfl (ef_call tf23 rfl (Maker_Pick_ok h174 (hv0_l.to_callT (k := 2) hm171 rfl) (hm171.get (k := 2) rfl) (hm171.sl_callT 0 2 rfl rfl (by decide)))) ?_
 rintro _ w177 ⟨e_, hm176⟩
 obtain rfl := e_.symm
 have hm178 := hm171.callT (k := 2) rfl (fun _ h => h) hm176 (fun _ => Iff.rfl)
 refine t_mv rfl rfl ?_
 refine t_ef rfl (ef_bslice (l := ([50, 120, 400, 800, 2000] : List Int)) hm178 tS22 rfl (cs := #[(Value.int .i64 50), (Value.int .i64 120), (Value.int .i64 400), (Value.int .i64 800), (Value.int .i64 2000)]) (by unfold bsl; kernel_rfl) rfl rfl) ?_
 intro v179 w181 hm180
 obtain ⟨r182, h183, q184⟩ := ob q175; clear q175
 refine t_ef rfl (ef_call tf23 rfl (Maker_Pick_ok h183 (hv0_l.to_callT (k := 3) hm180 rfl) (hm180.get (k := 3) rfl) (hm180.sl_callT 0 3 rfl rfl (by decide)))) ?_
 rintro _ w186 ⟨e_, hm185⟩
 obtain rfl := e_.symm
 have hm187 := hm180.callT (k := 3) rfl (fun _ h => h) hm185 (fun _ => Iff.rfl)
 refine t_mv rfl rfl ?_
 refine t_ef rfl (ef_bslice (l := ([0, 0, 0, 1, 3, 9] : List Int)) hm187 tS22 rfl (cs := #[(Value.int .i64 0), (Value.int .i64 0), (Value.int .i64 0), (Value.int .i64 1), (Value.int .i64 3), (Value.int .i64 9)]) (by unfold bsl; kernel_rfl) rfl rfl) ?_
 intro v188 w190 hm189
 obtain ⟨r191, h192, q193⟩ := ob q184; clear q184
 refine t_ef rfl (ef_call tf23 rfl (Maker_Pick_ok h192 (hv0_l.to_callT (k := 4) hm189 rfl) (hm189.get (k := 4) rfl) (hm189.sl_callT 0 4 rfl rfl (by decide)))) ?_
 rintro _ w195 ⟨e_, hm194⟩
 obtain rfl := e_.symm
 have hm196 := hm189.callT (k := 4) rfl (fun _ h => h) hm194 (fun _ => Iff.rfl)
 refine t_mv rfl rfl ?_
 obtain ⟨r197, h198, q199⟩ := ob q193; clear q193
 refine t_ef rfl (ef_call tf39 rfl (Maker_Next_ok h198 (hv0_l.to_callT (k := 4) hm196 rfl) (hm196.get (k := 4) rfl))) ?_
 rintro _ w201 ⟨e_, hm200⟩
 obtain rfl := e_.symm
 have hm202 := hm196.callT (k := 4) rfl (fun _ h => h) hm200 (fun _ => Iff.rfl)
 refine t_rd rfl (rd_eql rfl rfl) ?_
 refine t_mv rfl rfl ?_
 obtain ⟨r203, h204, q205⟩ := ob q199; clear q199
 refine t_ef rfl (ef_call tf72 rfl (Maker_Name_ok h204 (hv0_l.to_callT (k := 4) hm202 rfl) (hm202.get (k := 4) rfl))) ?_
 rintro _ w207 ⟨e_, hm206⟩
 obtain rfl := e_.symm
 have hm208 := hm202.callT (k := 4) rfl (fun _ h => h) hm206 (fun _ => Iff.rfl)
 refine t_rd rfl (rd_build (cs := #[(Value.string (bs r164.2)), (Value.int .i64 r173.2), (Value.int .i64 4), (Value.int .i64 r182.2), (Value.int .i64 0), (Value.int .i64 r191.2), (Value.bool (decide (r197.2 = 0))), (Value.string (bs r203.2))]) rfl (by kernel_rfl)) ?_
 refine t_ef rfl (ef_alloc hm208 tZ51 rfl) ?_
 rintro _ w211 ⟨g209, rfl, hm210⟩
 refine t_ef0 (ef_stw (k := 0) hm210 tA51 rfl rfl (oc_cons rfl (oc_cons rfl (oc_cons rfl (oc_cons rfl (oc_cons rfl (oc_cons rfl (oc_cons rfl (oc_cons rfl oc_nil)))))))) rfl rfl rfl) ?_
 intro _ w213 hm212
 refine rwt_n (cw_seq (cw_sr (t_rd rfl (rd_fld tF51_0 rfl) ?_)))
 refine t_rd rfl (rd_ld1 tO9 rfl (hm212.blk 0 rfl) (off := 0) rfl) ?_
 obtain ⟨x214, h215, q216⟩ := ob q205; clear q205
 refine t_rd rfl (rd_sidx tStr9 rfl rfl h215) ?_
 refine rwt_n ?_
 obtain ⟨j242, hit243, q244⟩ := ob q216; clear q216
 refine cw_join (X := fun eq envq wq => eq = .normal ∧ Sub [(0, (Value.pointer (some ⟨g0, 0, none⟩))), (4, (Value.pointer (some ⟨g161, 0, none⟩))), (5, (Value.pointer (some ⟨g209, 0, none⟩)))] envq ∧ Mem w (fun k => k = g0) [blk g209 51 [(Value.string (bs r164.2)), (Value.int .i64 j242.1), (Value.int .i64 j242.2), (Value.int .i64 r182.2), (Value.int .i64 0), (Value.int .i64 r191.2), (Value.bool (decide (r197.2 = 0))), (Value.string (bs r203.2))], blk g161 51 [(Value.string (bs [])), (Value.int .i64 0), (Value.int .i64 0), (Value.int .i64 0), (Value.int .i64 0), (Value.int .i64 0), (Value.bool false), (Value.string (bs []))], blk g0 83 [v0_l, (Value.int .i64 r203.1)]] wq) ?_ ?_
 ·clear q244
  refine cw_block (cw_seq (cw_sr ?_))
  refine t_rd rfl (rd_eql rfl rfl) ?_
  refine t_as rfl rfl (rwt_n ?_)
  obtain ⟨j248, hit249, q250⟩ := ob hit243; clear hit243
  refine cw_join (X := fun eq envq wq => eq = .normal ∧ Sub [(0, (Value.pointer (some ⟨g0, 0, none⟩))), (4, (Value.pointer (some ⟨g161, 0, none⟩))), (5, (Value.pointer (some ⟨g209, 0, none⟩))), (26, (Value.int .u8 (x214.toNat : Int))), (27, (Value.bool j248))] envq ∧ Mem w (fun k => k = g0) [blk g209 51 [(Value.string (bs r164.2)), (Value.int .i64 r173.2), (Value.int .i64 4), (Value.int .i64 r182.2), (Value.int .i64 0), (Value.int .i64 r191.2), (Value.bool (decide (r197.2 = 0))), (Value.string (bs r203.2))], blk g161 51 [(Value.string (bs [])), (Value.int .i64 0), (Value.int .i64 0), (Value.int .i64 0), (Value.int .i64 0), (Value.int .i64 0), (Value.bool false), (Value.string (bs []))], blk g0 83 [v0_l, (Value.int .i64 r203.1)]] wq) ?_ ?_
  ·clear q250
   obtain ⟨hb251, q252⟩ | ⟨hb251, q252⟩ := oi hit249 <;> clear hit249
   ·refine cw_t rfl hb251 (cw_skip ?_)
    obtain rfl := os q252
    exact ⟨rfl, (by repeat (first | exact Sub.nil _ | refine Sub.cons rfl ?_)), (hm212.pick [0, 4, 5] (by decide) rfl)⟩
   ·refine cw_f rfl hb251 ?_
    refine cw_region ?_
    refine t_rd rfl (rd_eql rfl rfl) ?_
    refine t_as rfl rfl ?_
    refine rwt_nil ?_
    obtain rfl := os q252
    exact ⟨rfl, (by repeat (first | exact Sub.nil _ | refine Sub.cons rfl ?_)), (hm212.pick [0, 4, 5] (by decide) rfl)⟩
  ·clear hit249
   intro e env253 w254 hX255
   obtain ⟨rfl, hs256, hm257⟩ := hX255
   refine qn_then ?_
   refine cw_sub hs256 ?_
   obtain ⟨hb258, q259⟩ | ⟨hb258, q259⟩ := oi q250 <;> clear q250
   ·refine cw_t rfl hb258 ?_
    refine cw_region ?_
    refine t_rd rfl (rd_fld tF51_2 rfl) ?_
    refine t_ef0 (ef_st1 (k := 0) (off := 2) hm257 tO3 rfl rfl rfl rfl rfl rfl) ?_
    intro _ w261 hm260
    refine rwt_nil ?_
    refine qn_block ?_
    obtain rfl := os q259
    exact ⟨rfl, (by repeat (first | exact Sub.nil _ | refine Sub.cons rfl ?_)), (hm260.pick [0, 1, 2] (by decide) rfl)⟩
   ·refine cw_f rfl hb258 (cw_sr ?_)
    refine t_rd rfl (rd_eql rfl rfl) ?_
    refine t_as rfl rfl (rwt_n ?_)
    obtain ⟨hb262, q263⟩ | ⟨hb262, q263⟩ := oi q259 <;> clear q259
    ·refine cw_t rfl hb262 (cw_sr (t_rd rfl (rd_fld tF51_2 rfl) ?_))
     refine t_ef0 (ef_st1 (k := 0) (off := 2) hm257 tO3 rfl rfl rfl rfl rfl rfl) ?_
     intro _ w265 hm264
     refine rwt_n ?_
     refine cw_region ?_
     refine t_rd rfl (rd_fld tF51_1 rfl) ?_
     refine t_rd rfl (rd_ld1 tO3 rfl (hm264.blk 0 rfl) (off := 1) rfl) ?_
     refine t_rd rfl (rd_max rfl rfl) ?_
     refine t_rd rfl (rd_fld tF51_1 rfl) ?_
     refine t_ef0 (ef_st1 (k := 0) (off := 1) hm264 tO3 rfl rfl rfl rfl rfl rfl) ?_
     intro _ w267 hm266
     refine rwt_nil ?_
     refine qn_block ?_
     obtain rfl := os q263
     exact ⟨rfl, (by repeat (first | exact Sub.nil _ | refine Sub.cons rfl ?_)), (hm266.pick [0, 1, 2] (by decide) rfl)⟩
    ·refine cw_f rfl hb262 (cw_skip ?_)
     refine qn_block ?_
     obtain rfl := os q263
     exact ⟨rfl, (by repeat (first | exact Sub.nil _ | refine Sub.cons rfl ?_)), (hm257.pick [0, 1, 2] (by decide) rfl)⟩
 ·clear hit243
  intro e env268 w269 hX270
  obtain ⟨rfl, hs271, hm272⟩ := hX270
  refine qn_then ?_
  refine cw_sub hs271 ?_
  refine cw_seq ?_
  obtain ⟨w288, he290⟩ : ∃ q, q = w269.drew := ⟨_, rfl⟩
  have hm289 := hm272.drew; rw [← he290] at hm289
  refine cw_region_s (fun q => (blk g209 51 [(Value.string (bs r164.2)), (Value.int .i64 j242.1), (Value.int .i64 j242.2), (Value.int .i64 r182.2), (Value.int .i64 0), (Value.int .i64 r191.2), (Value.bool (decide (r197.2 = 0))), (Value.string (bs r203.2))]).φ q) (cls [3] [7]) mixed ?_
  rintro _ rfl; rw [← he290]
  refine s_rp (i := 0) rfl (by kernel_rfl) rfl (fun _ => (rd_fld tF51_3 rfl)) ?_
  refine s_rd (i := 1) rfl (by kernel_rfl) rfl (fun w287 hS => (rd_ld1 tO3 rfl (cells_blk hS) (off := 3) rfl)) (hm289.get (k := 0) rfl) ?_
  refine s_rp (i := 2) rfl (by kernel_rfl) rfl (fun _ => (rd_move rfl)) ?_
  obtain ⟨r305, h306, q307⟩ := ob q244; clear q244
  refine s_ef (i := 3) rfl (by kernel_rfl) rfl (ef_call tf39 rfl (Maker_Next_ok h306 (hv0_l.to_callT (k := 2) hm289 rfl) (hm289.get (k := 2) rfl))) (by decide) ?_ ?_
  ·rintro _ w309 ⟨e_, hm308⟩
   obtain rfl := e_.symm
   have hm310 := hm289.callT (k := 2) rfl (fun _ h => h) hm308 (fun _ => Iff.rfl)
   intro _
   exact (hm310.get (k := 0) rfl)
  rintro _ w309 ⟨e_, hm308⟩
  obtain rfl := e_.symm
  have hm310 := hm289.callT (k := 2) rfl (fun _ h => h) hm308 (fun _ => Iff.rfl)
  obtain ⟨x311, h312, q313⟩ := ob q307; clear q307
  refine s_rp (i := 4) rfl (by kernel_rfl) rfl (fun _ => (rd_mul64 h312 rfl rfl)) ?_
  obtain ⟨x314, h315, q316⟩ := ob q313; clear q313
  refine s_rp (i := 5) rfl (by kernel_rfl) rfl (fun _ => (rd_quo64 h315 rfl rfl)) ?_
  refine s_rp (i := 6) rfl (by kernel_rfl) rfl (fun _ => (rd_fld tF51_4 rfl)) ?_
  refine s_ef0 (i := 7) rfl (by kernel_rfl) (ef_st1 (k := 0) (off := 4) hm310 tO3 rfl rfl rfl rfl rfl rfl) (by decide) (fun _ _ _ q => absurd q (by decide)) ?_
  intro _ w318 hm317
  refine s_nil (by kernel_rfl) ?_
  refine qn_then (cw_sr ?_)
  refine t_rd rfl (rd_ld tA51 rfl (hm317.blk 0 rfl) rfl) ?_
  refine t_ef0 (ef_stw (k := 1) hm317 tA51 rfl rfl (oc_cons rfl (oc_cons rfl (oc_cons rfl (oc_cons rfl (oc_cons rfl (oc_cons rfl (oc_cons rfl (oc_cons rfl oc_nil)))))))) rfl rfl rfl) ?_
  intro _ w320 hm319
  refine rwt_n ?_
  refine cw_ret ?_
  obtain rfl := os q316
  exact retL1 (rs := [.cell 4 51]) rfl (.rc rfl tA51 (hm319.blk 1 rfl) rfl .rn) ⟨rfl, (hm319.pick [2] (by decide) rfl)⟩

theorem Maker_Wagons_ok {N : Nat} {a0_l : List Int} {a0_n : Int} {a1 : Int} {res : Int × List T_Wagon} (h : Maker_Wagons N a0_l a0_n a1 = some res) {w : World} {v0_l : Value} {g0 : Nat} (hv0_l : Sl (Old w (fun k => k = g0)) w v0_l a0_l) (hk0 : (blk g0 83 [v0_l, (Value.int .i64 a0_n)]).φ w) :
  CallsR Tryz.prog 14 [(Value.pointer (some ⟨g0, 0, none⟩)), (Value.int .i64 a1)] w (fun u w' => ∃ (y0 : Value), u = y0 ∧ Mem w (fun k => k = g0) [blk g0 83 [v0_l, (Value.int .i64 res.1)], ownL 51 y0 (res.2 : List T_Wagon)] w') := by
 unfold Maker_Wagons at h
 refine fn_ok Tryz.func14 rfl rfl rfl ?_
 have hm0 := Mem.one hk0
 refine cw_sr (t_as rfl rfl (rwt_n (cw_sr (t_as rfl rfl (rwt_n (cw_seq ?_))))))
 refine cw_sr (t_mv rfl rfl (t_mv rfl rfl ?_))
 obtain ⟨x120, h121, q122⟩ := ob h; clear h
 refine t_rd rfl (rd_add64 h121 rfl rfl) ?_
 obtain ⟨r123, h124, q125⟩ := ob q122; clear q122
 refine t_ef rfl (ef_call tf39 rfl (Maker_Next_ok h124 (hv0_l.to_callT (k := 0) hm0 rfl) (hm0.get (k := 0) rfl))) ?_
 rintro _ w127 ⟨e_, hm126⟩
 obtain rfl := e_.symm
 have hm128 := hm0.callT (k := 0) rfl (fun _ h => h) hm126 (fun _ => Iff.rfl)
 refine t_as rfl rfl (rwt_n (cw_block ?_))
 have hm150 := hm128.addNil (α := T_Wagon) 51
 obtain ⟨r210, hit211, q212⟩ := ob q125; clear q125
 refine cw_loop2 (I := fun q envq wq => ∃ (v203 : Value), Sub [(0, (Value.pointer (some ⟨g0, 0, none⟩))), (5, v203), (6, (Value.int .i64 q.1))] envq ∧ Mem w (fun k => k = g0) [ownL 51 v203 (q.2.2 : List T_Wagon), blk g0 83 [v0_l, (Value.int .i64 q.2.1)]] wq) (X := fun eq envq wq => eq = .exit 0 ∧ ∃ (v199 : Value), Sub [(5, v199)] envq ∧ Mem w (fun k => k = g0) [ownL 51 v199 (r210.2 : List T_Wagon), blk g0 83 [v0_l, (Value.int .i64 r210.1)]] wq) hit211 ⟨(Value.slice none 0 0), (by repeat (first | exact Sub.nil _ | refine Sub.cons rfl ?_)), (hm150.pick [0, 1] (by decide) rfl)⟩ ?_ ?_
 ·rintro ⟨i200, i201, l202⟩ x205 env206 w207 hf208 hr209 ⟨v203, hs_, hm_⟩
  have hs_ : Sub [(0, (Value.pointer (some ⟨g0, 0, none⟩))), (5, v203), (6, (Value.int .i64 i200))] env206 := hs_
  have hm213 : Mem w (fun k => k = g0) [ownL 51 v203 (l202 : List T_Wagon), blk g0 83 [v0_l, (Value.int .i64 i201)]] w207 := hm_
  refine cw_sub hs_ ?_
  clear hs_ hm_ q212
  have h : Maker_Wagons_l1 N a0_l i200 i201 l202 = some x205 := hf208
  clear hf208
  refine cw_seq (cw_sr (t_mv rfl rfl ?_))
  refine t_rd rfl (rd_gtr rfl rfl) ?_
  refine rwt_n ?_
  obtain ⟨hb214, q215⟩ | ⟨hb214, q215⟩ := oi h <;> clear h
  ·refine cw_t rfl hb214 (cw_skip (qn_then (cw_seq (cw_block ?_))))
   refine cw_region ?_
   refine t_mv rfl rfl (t_mv rfl rfl (t_mv rfl rfl ?_))
   refine t_rd rfl (rd_lenS tS48 rfl (hm213.sl 0 rfl)) ?_
   obtain ⟨r216, h217, q218⟩ := ob q215; clear q215
   refine t_ef rfl (ef_call tf40 rfl (Maker_Wagon_ok h217 (hv0_l.to_callT (k := 1) hm213 rfl) (hm213.get (k := 1) rfl))) ?_
   rintro _ w220 ⟨e_, hm219⟩
   obtain rfl := e_.symm
   have hm221 := hm213.callT (k := 1) rfl (fun _ h => h) hm219 (fun _ => Iff.rfl)
   refine t_ef rfl (ef_bslice (l := ([r216.2] : List T_Wagon)) hm221 tS48 rfl (cs := #[(Value.string (bs r216.2.Number)), (Value.int .i64 r216.2.Length), (Value.int .i64 r216.2.Axles), (Value.int .i64 r216.2.Mass), (Value.int .i64 r216.2.Brake), (Value.int .i64 r216.2.Goods), (Value.bool r216.2.Gentle), (Value.string (bs r216.2.Dest))]) (by unfold bsl; kernel_rfl) rfl rfl) ?_
   intro v222 w224 hm223
   obtain ⟨l225, h226, q227⟩ := ob q218; clear q218
   refine t_ef rfl (ef_append (k := 1) hm223 tS48 tE51 rfl rfl rfl rfl (hm223.sl 0 rfl) h226) ?_
   intro v228 w230 hm229
   refine t_as rfl rfl ?_
   refine rwt_nil ?_
   refine qn_block (qn_then ?_)
   refine cw_region ?_
   refine t_mv rfl rfl ?_
   obtain ⟨x231, h232, q233⟩ := ob q227; clear q227
   refine t_rd rfl (rd_sub64 h232 rfl rfl) ?_
   refine t_as rfl rfl (rwt_n ?_)
   refine ⟨_, (os q233), v228, (by repeat (first | exact Sub.nil _ | refine Sub.cons rfl ?_)), (hm229.pick [1, 2] (by decide) rfl)⟩
  ·refine cw_f rfl hb214 ?_
   refine cw_exit ?_
   refine qx_then (qx_then ?_)
   obtain rfl := hr209 _ (os q215)
   exact ⟨rfl, v203, (by repeat (first | exact Sub.nil _ | refine Sub.cons rfl ?_)), (hm213.pick [0, 1] (by decide) rfl)⟩
 ·skip
  intro e env234 w235 hX236
  obtain ⟨rfl, v199, hs237, hm238⟩ := hX236
  refine qx_same (qn_then ?_)
  refine cw_sub hs237 ?_
  refine cw_sr (t_mv rfl rfl (t_as rfl rfl (rwt_n ?_)))
  refine cw_ret ?_
  obtain rfl := os q212
  exact ret1 rfl rfl ⟨v199, rfl, (hm238.pick [1, 0] (by decide) rfl)⟩

theorem wagonnumber_digits_ok {N : Nat} {a0 : List UInt8} {a1 : Int} {res : Bool} (h : wagonnumber_digits N a0 a1 = some res) {w : World}   :
  CallsR Tryz.prog 73 [(Value.string (bs a0)), (Value.int .i64 a1)] w (fun u w' => u = (Value.bool res) ∧ Mem w No [] w') := by
 unfold wagonnumber_digits at h
 refine fn_ok Tryz.func73 rfl rfl rfl ?_
 have hm0 := Mem.nil w
 refine cw_sr (t_as rfl rfl (rwt_n (cw_seq (cw_sr (t_as rfl rfl ?_)))))
 refine rwt_n (cw_block ?_)
 obtain ⟨r45, hit46, q47⟩ := ob h; clear h
 refine cw_loop2 (I := fun q envq wq => Sub [(0, (Value.string (bs a0))), (1, (Value.int .i64 a1)), (5, (Value.int .i64 q))] envq ∧ Mem w No [] wq) (X := fun eq envq wq => (∃ p48, r45 = (Sum.inl p48) ∧ eq = .ret ∧ retQ Tryz.prog 26 Tryz.f73 (fun u w' => u = (Value.bool p48) ∧ Mem w No [] w') .ret envq wq) ∨ (∃ p49, r45 = (Sum.inr p49) ∧ eq = .exit 0 ∧ Sub [(0, (Value.string (bs a0))), (1, (Value.int .i64 a1))] envq ∧ Mem w No [] wq)) hit46 ⟨(by repeat (first | exact Sub.nil _ | refine Sub.cons rfl ?_)), (hm0.pick [] (by decide) rfl)⟩ ?_ ?_
 ·rintro i38 x40 env41 w42 hf43 hr44 ⟨hs_, hm_⟩
  have hs_ : Sub [(0, (Value.string (bs a0))), (1, (Value.int .i64 a1)), (5, (Value.int .i64 i38))] env41 := hs_
  have hm50 : Mem w No [] w42 := hm_
  refine cw_sub hs_ ?_
  clear hs_ hm_ q47
  have h : wagonnumber_digits_l1 N a0 i38 = some x40 := hf43
  clear hf43
  refine cw_seq (cw_sr (t_mv rfl rfl (t_mv rfl rfl ?_)))
  refine t_rd rfl (rd_lenst tStr9 rfl) ?_
  refine t_rd rfl (rd_lss rfl rfl) (rwt_n ?_)
  obtain ⟨hb51, q52⟩ | ⟨hb51, q52⟩ := oi h <;> clear h
  ·refine cw_t rfl hb51 (cw_skip (qn_then (cw_seq (cw_block (cw_sr ?_)))))
   refine t_mv rfl rfl (t_mv rfl rfl ?_)
   obtain ⟨x53, h54, q55⟩ := ob q52; clear q52
   refine t_rd rfl (rd_sidx tStr9 rfl rfl h54) ?_
   refine t_rd rfl (rd_lss rfl rfl) (t_mv rfl rfl ?_)
   refine t_rdg rfl rfl rfl rfl (gv_f _) (fun hg56 => (rd_move rfl)) ?_
   refine t_rdg rfl rfl rfl rfl (gv_f _) (fun hg57 => (rd_move rfl)) ?_
   obtain ⟨x59, h60, q61⟩ := ob q55; clear q55
   refine t_rdg rfl rfl rfl rfl (gv_f _) (fun hg58 => (rd_sidx tStr9 (gvx rfl hg58) (gvx rfl hg58) (gO_t h60 hg58))) ?_
   refine t_rdg rfl rfl rfl rfl (gv_f _) (fun hg62 => (rd_gtr (gvx rfl hg62) rfl)) ?_
   refine t_rd rfl (rd_or rfl (fun hc63 => (gvx rfl (bnotIt hc63)))) ?_
   refine rwt_n ?_
   obtain ⟨hb64, q65⟩ | ⟨hb64, q65⟩ := oi q61 <;> clear q61
   ·refine cw_t rfl hb64 (cw_sr (t_as rfl rfl (rwt_n ?_)))
    refine cw_ret ?_
    refine qr_block (qr_then (qr_then ?_))
    obtain rfl := hr44 _ (os q65)
    refine .inl (⟨_, rfl, ⟨rfl, ?_⟩⟩)
    exact ret1 rfl rfl ⟨rfl, (hm50.pick [] (by decide) rfl)⟩
   ·refine cw_f rfl hb64 (cw_skip ?_)
    refine qn_block (qn_then ?_)
    refine cw_region ?_
    refine t_mv rfl rfl ?_
    obtain ⟨x66, h67, q68⟩ := ob q65; clear q65
    refine t_rd rfl (rd_add64 h67 rfl rfl) (t_as rfl rfl (rwt_n ?_))
    refine ⟨_, (os q68), (by repeat (first | exact Sub.nil _ | refine Sub.cons rfl ?_)), (hm50.pick [] (by decide) rfl)⟩
  ·refine cw_f rfl hb51 ?_
   refine cw_exit ?_
   refine qx_then (qx_then ?_)
   obtain rfl := hr44 _ (os q52)
   exact .inr (⟨_, rfl, ⟨rfl, (by repeat (first | exact Sub.nil _ | refine Sub.cons rfl ?_)), (hm50.pick [] (by decide) rfl)⟩⟩)
 ·skip
  intro e env69 w70 hX71
  rcases hX71 with hX71 | hX71
  ·obtain ⟨p73, rfl, hX71⟩ := hX71
   obtain ⟨rfl, hq75⟩ := hX71
   exact qr_block (qr_then ((by have e := os q47; subst e; exact hq75)))
  ·obtain ⟨p76, rfl, hX71⟩ := hX71
   obtain ⟨rfl, hs77, hm78⟩ := hX71
   refine qx_same (qn_then ?_)
   refine cw_sub hs77 ?_
   refine cw_sr (t_mv rfl rfl ?_)
   refine t_rd rfl (rd_lenst tStr9 rfl) ?_
   refine t_mv rfl rfl ?_
   refine t_rd rfl (rd_eql rfl rfl) ?_
   refine t_as rfl rfl (rwt_n ?_)
   refine cw_ret ?_
   obtain rfl := os q47
   exact ret1 rfl rfl ⟨rfl, (hm78.pick [] (by decide) rfl)⟩

theorem wagonnumber_sum_ok {N : Nat} {a0 : List UInt8} {res : Int} (h : wagonnumber_sum N a0 = some res) {w : World}   :
  CallsR Tryz.prog 95 [(Value.string (bs a0))] w (fun u w' => u = (Value.int .i64 res) ∧ Mem w No [] w') := by
 unfold wagonnumber_sum at h
 refine fn_ok Tryz.func95 rfl rfl rfl ?_
 have hm0 := Mem.nil w
 refine cw_sr (t_as rfl rfl (rwt_n (cw_sr (t_as rfl rfl (rwt_n (cw_seq ?_))))))
 refine cw_sr (t_as rfl rfl (rwt_n (cw_block ?_)))
 obtain ⟨r84, hit85, q86⟩ := ob h; clear h
 refine cw_loop2 (I := fun q envq wq => Sub [(0, (Value.string (bs a0))), (3, (Value.int .i64 q.1)), (4, (Value.int .i64 q.2))] envq ∧ Mem w No [] wq) (X := fun eq envq wq => eq = .exit 0 ∧ Sub [(3, (Value.int .i64 r84))] envq ∧ Mem w No [] wq) hit85 ⟨(by repeat (first | exact Sub.nil _ | refine Sub.cons rfl ?_)), (hm0.pick [] (by decide) rfl)⟩ ?_ ?_
 ·rintro ⟨i76, i77⟩ x79 env80 w81 hf82 hr83 ⟨hs_, hm_⟩
  have hs_ : Sub [(0, (Value.string (bs a0))), (3, (Value.int .i64 i76)), (4, (Value.int .i64 i77))] env80 := hs_
  have hm87 : Mem w No [] w81 := hm_
  refine cw_sub hs_ ?_
  clear hs_ hm_ q86
  have h : wagonnumber_sum_l1 N a0 i76 i77 = some x79 := hf82
  clear hf82
  refine cw_seq (cw_sr (t_mv rfl rfl (t_mv rfl rfl ?_)))
  refine t_rd rfl (rd_lenst tStr9 rfl) ?_
  refine t_rd rfl (rd_lss rfl rfl) (rwt_n ?_)
  obtain ⟨hb88, q89⟩ | ⟨hb88, q89⟩ := oi h <;> clear h
  ·refine cw_t rfl hb88 (cw_skip (qn_then (cw_seq (cw_block (cw_sr ?_)))))
   refine t_mv rfl rfl (t_mv rfl rfl ?_)
   obtain ⟨x90, h91, q92⟩ := ob q89; clear q89
   refine t_rd rfl (rd_sidx tStr9 rfl rfl h91) ?_
   refine t_rd rfl (rd_sub_u8x rfl rfl) ?_
   obtain ⟨x93, h94, q95⟩ := ob q92; clear q92
   refine t_rd rfl (rd_cv64 tH5 tI3 h94 rfl) ?_
   refine t_as rfl rfl (rwt_n (cw_seq (cw_sr (t_mv rfl rfl ?_))))
   refine t_rd rfl (rd_rem rfl rfl (by decide)) ?_
   refine t_rd rfl (rd_eql rfl rfl) ?_
   refine rwt_n ?_
   obtain ⟨hb96, q97⟩ | ⟨hb96, q97⟩ := oi q95 <;> clear q95
   ·refine cw_t rfl hb96 (cw_sr (t_mv rfl rfl ?_))
    obtain ⟨x98, h99, q100⟩ := ob q97; clear q97
    refine t_rd rfl (rd_mul64 h99 rfl rfl) ?_
    refine t_as rfl rfl (rwt_n (cw_sr (t_mv rfl rfl ?_)))
    refine t_rd rfl (rd_gtr rfl rfl) ?_
    refine rwt_n ?_
    obtain ⟨hb101, q102⟩ | ⟨hb101, q102⟩ := oi q100 <;> clear q100
    ·refine cw_t rfl hb101 ?_
     refine cw_region ?_
     refine t_mv rfl rfl ?_
     obtain ⟨x103, h104, q105⟩ := ob q102; clear q102
     refine t_rd rfl (rd_sub64 h104 rfl rfl) ?_
     refine t_as rfl rfl (rwt_n ?_)
     refine cw_region ?_
     refine t_mv rfl rfl (t_mv rfl rfl ?_)
     obtain ⟨x106, h107, q108⟩ := ob q105; clear q105
     refine t_rd rfl (rd_add64 h107 rfl rfl) (t_as rfl rfl ?_)
     refine rwt_nil ?_
     refine qn_block (qn_then ?_)
     refine cw_region ?_
     refine t_mv rfl rfl ?_
     obtain ⟨x109, h110, q111⟩ := ob q108; clear q108
     refine t_rd rfl (rd_add64 h110 rfl rfl) (t_as rfl rfl (rwt_n ?_))
     refine ⟨_, (os q111), (by repeat (first | exact Sub.nil _ | refine Sub.cons rfl ?_)), (hm87.pick [] (by decide) rfl)⟩
    ·refine cw_f rfl hb101 (cw_skip (qn_then ?_))
     refine cw_region ?_
     refine t_mv rfl rfl (t_mv rfl rfl ?_)
     obtain ⟨x112, h113, q114⟩ := ob q102; clear q102
     refine t_rd rfl (rd_add64 h113 rfl rfl) (t_as rfl rfl ?_)
     refine rwt_nil ?_
     refine qn_block (qn_then ?_)
     refine cw_region ?_
     refine t_mv rfl rfl ?_
     obtain ⟨x115, h116, q117⟩ := ob q114; clear q114
     refine t_rd rfl (rd_add64 h116 rfl rfl) (t_as rfl rfl (rwt_n ?_))
     refine ⟨_, (os q117), (by repeat (first | exact Sub.nil _ | refine Sub.cons rfl ?_)), (hm87.pick [] (by decide) rfl)⟩
   ·refine cw_f rfl hb96 (cw_skip (qn_then ?_))
    refine cw_region ?_
    refine t_mv rfl rfl (t_mv rfl rfl ?_)
    obtain ⟨x118, h119, q120⟩ := ob q97; clear q97
    refine t_rd rfl (rd_add64 h119 rfl rfl) (t_as rfl rfl ?_)
    refine rwt_nil ?_
    refine qn_block (qn_then ?_)
    refine cw_region ?_
    refine t_mv rfl rfl ?_
    obtain ⟨x121, h122, q123⟩ := ob q120; clear q120
    refine t_rd rfl (rd_add64 h122 rfl rfl) (t_as rfl rfl (rwt_n ?_))
    refine ⟨_, (os q123), (by repeat (first | exact Sub.nil _ | refine Sub.cons rfl ?_)), (hm87.pick [] (by decide) rfl)⟩
  ·refine cw_f rfl hb88 ?_
   refine cw_exit ?_
   refine qx_then (qx_then ?_)
   obtain rfl := hr83 _ (os q89)
   exact ⟨rfl, (by repeat (first | exact Sub.nil _ | refine Sub.cons rfl ?_)), (hm87.pick [] (by decide) rfl)⟩
 ·skip
  intro e env124 w125 hX126
  obtain ⟨rfl, hs127, hm128⟩ := hX126
  refine qx_same (qn_then ?_)
  refine cw_sub hs127 ?_
  refine cw_sr (t_mv rfl rfl (t_as rfl rfl (rwt_n ?_)))
  refine cw_ret ?_
  obtain rfl := os q86
  exact ret1 rfl rfl ⟨rfl, (hm128.pick [] (by decide) rfl)⟩

theorem wagonnumber_check_ok {N : Nat} {a0 : List UInt8} {res : Int} (h : wagonnumber_check N a0 = some res) {w : World}   :
  CallsR Tryz.prog 74 [(Value.string (bs a0))] w (fun u w' => u = (Value.int .i64 res) ∧ Mem w No [] w') := by
 unfold wagonnumber_check at h
 refine fn_ok Tryz.func74 rfl rfl rfl ?_
 have hm0 := Mem.nil w
 refine cw_sr (t_as rfl rfl (rwt_n (cw_sr (t_mv rfl rfl ?_))))
 obtain ⟨r1, h2, q3⟩ := ob h; clear h
 refine t_ef rfl (ef_call tf95 rfl (wagonnumber_sum_ok h2)) ?_
 rintro _ w5 ⟨e_, hm4⟩
 obtain rfl := e_.symm
 have hm6 := hm0.call hm4
 refine t_rd rfl (rd_rem rfl rfl (by decide)) ?_
 obtain ⟨x7, h8, q9⟩ := ob q3; clear q3
 refine t_rd rfl (rd_sub64 h8 rfl rfl) ?_
 refine t_rd rfl (rd_rem rfl rfl (by decide)) ?_
 refine t_as rfl rfl (rwt_n ?_)
 refine cw_ret ?_
 obtain rfl := os q9
 exact ret1 rfl rfl ⟨rfl, (hm6.pick [] (by decide) rfl)⟩

theorem wagonnumber_Valid_ok {N : Nat} {a0 : List UInt8} {res : Int} (h : wagonnumber_Valid N a0 = some res) {w : World}   :
  CallsR Tryz.prog 41 [(Value.string (bs a0))] w (fun u w' => u = (Value.int .i64 res) ∧ Mem w No [] w') := by
 unfold wagonnumber_Valid at h
 refine fn_ok Tryz.func41 rfl rfl rfl ?_
 have hm0 := Mem.nil w
 refine cw_sr (t_as rfl rfl (rwt_n (cw_seq (cw_sr (t_mv rfl rfl ?_)))))
 obtain ⟨r1, h2, q3⟩ := ob h; clear h
 refine t_ef rfl (ef_call tf73 rfl (wagonnumber_digits_ok h2)) ?_
 rintro _ w5 ⟨e_, hm4⟩
 obtain rfl := e_.symm
 have hm6 := hm0.call hm4
 refine t_rd rfl (rd_not rfl) ?_
 refine rwt_n ?_
 obtain ⟨hb7, q8⟩ | ⟨hb7, q8⟩ := oi q3 <;> clear q3
 ·refine cw_t rfl hb7 (cw_sr (t_as rfl rfl (rwt_n ?_)))
  refine cw_ret ?_
  refine qr_then ?_
  obtain rfl := os q8
  exact ret1 rfl rfl ⟨rfl, (hm6.pick [] (by decide) rfl)⟩
 ·refine cw_f rfl hb7 (cw_skip (qn_then (cw_seq (cw_seq ?_))))
  obtain ⟨w25, he27⟩ : ∃ q, q = w5.drew := ⟨_, rfl⟩
  have hm26 := hm6.drew; rw [← he27] at hm26
  refine cw_region_s (fun q => q = w25) (cls [] [6]) mixed ?_
  rintro _ rfl; rw [← he27]
  refine s_rp (i := 0) rfl (by kernel_rfl) rfl (fun _ => (rd_move rfl)) ?_
  obtain ⟨x28, h29, q30⟩ := ob q8; clear q8
  refine s_rp (i := 1) rfl (by kernel_rfl) rfl (fun _ => (rd_sidx tStr9 rfl rfl h29)) ?_
  refine s_rp (i := 2) rfl (by kernel_rfl) rfl (fun _ => (rd_sub_u8x rfl rfl)) ?_
  obtain ⟨x31, h32, q33⟩ := ob q30; clear q30
  refine s_rp (i := 3) rfl (by kernel_rfl) rfl (fun _ => (rd_cv64 tH5 tI3 h32 rfl)) ?_
  refine s_rp (i := 4) rfl (by kernel_rfl) rfl (fun _ => (rd_move rfl)) ?_
  obtain ⟨l34, h35, q36⟩ := ob q33; clear q33
  refine s_rp (i := 5) rfl (by kernel_rfl) rfl (fun _ => (rd_sstH tStr9 rfl rfl h35)) ?_
  obtain ⟨r37, h38, q39⟩ := ob q36; clear q36
  refine s_ef (i := 6) rfl (by kernel_rfl) rfl (ef_call tf74 rfl (wagonnumber_check_ok h38)) (by decide) (fun _ _ _ q => absurd q (by decide)) ?_
  rintro _ w41 ⟨e_, hm40⟩
  obtain rfl := e_.symm
  have hm42 := hm26.call hm40
  refine s_rp (i := 7) rfl (by kernel_rfl) rfl (fun _ => (rd_neq rfl rfl)) ?_
  refine s_nil (by kernel_rfl) ?_
  refine qn_then ?_
  obtain ⟨hb43, q44⟩ | ⟨hb43, q44⟩ := oi q39 <;> clear q39
  ·refine cw_t rfl hb43 (cw_sr (t_as rfl rfl (rwt_n ?_)))
   refine cw_ret ?_
   refine qr_then ?_
   obtain rfl := os q44
   exact ret1 rfl rfl ⟨rfl, (hm42.pick [] (by decide) rfl)⟩
  ·refine cw_f rfl hb43 (cw_skip (qn_then (cw_sr (t_as rfl rfl (rwt_n ?_)))))
   refine cw_ret ?_
   obtain rfl := os q44
   exact ret1 rfl rfl ⟨rfl, (hm42.pick [] (by decide) rfl)⟩

theorem wagonnumber_Kind_ok {N : Nat} {a0 : List UInt8} {res : Int × Int} (h : wagonnumber_Kind N a0 = some res) {w : World}   :
  CallsR Tryz.prog 15 [(Value.string (bs a0))] w (fun u w' => u = (Value.tuple #[(Value.int .i64 res.1), (Value.int .i64 res.2)]) ∧ Mem w No [] w') := by
 unfold wagonnumber_Kind at h
 refine fn_ok Tryz.func15 rfl rfl rfl ?_
 have hm0 := Mem.nil w
 refine cw_sr (t_as rfl rfl (t_as rfl rfl (rwt_n (cw_seq (cw_sr ?_)))))
 refine t_mv rfl rfl ?_
 obtain ⟨r1, h2, q3⟩ := ob h; clear h
 refine t_ef rfl (ef_call tf41 rfl (wagonnumber_Valid_ok h2)) ?_
 rintro _ w5 ⟨e_, hm4⟩
 obtain rfl := e_.symm
 have hm6 := hm0.call hm4
 refine t_as rfl rfl (rwt_n (cw_sr (t_mv rfl rfl ?_)))
 refine t_rd rfl (rd_neq rfl rfl) ?_
 refine rwt_n ?_
 obtain ⟨hb7, q8⟩ | ⟨hb7, q8⟩ := oi q3 <;> clear q3
 ·refine cw_t rfl hb7 (cw_sr (t_mv rfl rfl (t_as rfl rfl (t_as rfl rfl (rwt_n ?_)))))
  refine cw_ret ?_
  refine qr_then ?_
  obtain rfl := os q8
  exact ret2 rfl rfl rfl ⟨rfl, (hm6.pick [] (by decide) rfl)⟩
 ·refine cw_f rfl hb7 (cw_skip (qn_then (cw_seq (cw_sr (t_mv rfl rfl ?_)))))
  obtain ⟨x9, h10, q11⟩ := ob q8; clear q8
  refine t_rd rfl (rd_sidx tStr9 rfl rfl h10) ?_
  refine rwt_n (cw_block (cw_seq (cw_sr ?_)))
  refine t_rd rfl (rd_eql rfl rfl) ?_
  refine t_as rfl rfl (rwt_n ?_)
  obtain ⟨j15, hit16, q17⟩ := ob q11; clear q11
  refine cw_join (X := fun eq envq wq => eq = .normal ∧ Sub [(11, (Value.int .u8 (x9.toNat : Int))), (12, (Value.bool j15))] envq ∧ Mem w No [] wq) ?_ ?_
  ·clear q17
   obtain ⟨hb18, q19⟩ | ⟨hb18, q19⟩ := oi hit16 <;> clear hit16
   ·refine cw_t rfl hb18 (cw_skip ?_)
    obtain rfl := os q19
    exact ⟨rfl, (by repeat (first | exact Sub.nil _ | refine Sub.cons rfl ?_)), (hm6.pick [] (by decide) rfl)⟩
   ·refine cw_f rfl hb18 ?_
    refine cw_region ?_
    refine t_rd rfl (rd_eql rfl rfl) ?_
    refine t_as rfl rfl ?_
    refine rwt_nil ?_
    obtain rfl := os q19
    exact ⟨rfl, (by repeat (first | exact Sub.nil _ | refine Sub.cons rfl ?_)), (hm6.pick [] (by decide) rfl)⟩
  ·clear hit16
   intro e env20 w21 hX22
   obtain ⟨rfl, hs23, hm24⟩ := hX22
   refine qn_then ?_
   refine cw_sub hs23 ?_
   obtain ⟨hb25, q26⟩ | ⟨hb25, q26⟩ := oi q17 <;> clear q17
   ·refine cw_t rfl hb25 (cw_sr (t_as rfl rfl (t_as rfl rfl (rwt_n ?_))))
    refine cw_ret ?_
    refine qr_block (qr_then ?_)
    obtain rfl := os q26
    exact ret2 rfl rfl rfl ⟨rfl, (hm24.pick [] (by decide) rfl)⟩
   ·refine cw_f rfl hb25 (cw_seq (cw_sr ?_))
    refine t_rd rfl (rd_eql rfl rfl) ?_
    refine t_as rfl rfl (rwt_n ?_)
    obtain ⟨j30, hit31, q32⟩ := ob q26; clear q26
    refine cw_join (X := fun eq envq wq => eq = .normal ∧ Sub [(11, (Value.int .u8 (x9.toNat : Int))), (15, (Value.bool j30))] envq ∧ Mem w No [] wq) ?_ ?_
    ·clear q32
     obtain ⟨hb33, q34⟩ | ⟨hb33, q34⟩ := oi hit31 <;> clear hit31
     ·refine cw_t rfl hb33 (cw_skip ?_)
      obtain rfl := os q34
      exact ⟨rfl, (by repeat (first | exact Sub.nil _ | refine Sub.cons rfl ?_)), (hm24.pick [] (by decide) rfl)⟩
     ·refine cw_f rfl hb33 ?_
      refine cw_region ?_
      refine t_rd rfl (rd_eql rfl rfl) ?_
      refine t_as rfl rfl ?_
      refine rwt_nil ?_
      obtain rfl := os q34
      exact ⟨rfl, (by repeat (first | exact Sub.nil _ | refine Sub.cons rfl ?_)), (hm24.pick [] (by decide) rfl)⟩
    ·clear hit31
     intro e env35 w36 hX37
     obtain ⟨rfl, hs38, hm39⟩ := hX37
     refine qn_then ?_
     refine cw_sub hs38 ?_
     obtain ⟨hb40, q41⟩ | ⟨hb40, q41⟩ := oi q32 <;> clear q32
     ·refine cw_t rfl hb40 (cw_sr (t_as rfl rfl (t_as rfl rfl (rwt_n ?_))))
      refine cw_ret ?_
      refine qr_block (qr_then ?_)
      obtain rfl := os q41
      exact ret2 rfl rfl rfl ⟨rfl, (hm39.pick [] (by decide) rfl)⟩
     ·refine cw_f rfl hb40 (cw_sr ?_)
      refine t_rd rfl (rd_eql rfl rfl) ?_
      refine t_as rfl rfl (rwt_n ?_)
      obtain ⟨hb42, q43⟩ | ⟨hb42, q43⟩ := oi q41 <;> clear q41
      ·refine cw_t rfl hb42 (cw_sr (t_as rfl rfl (t_as rfl rfl (rwt_n ?_))))
       refine cw_ret ?_
       refine qr_block (qr_then ?_)
       obtain rfl := os q43
       exact ret2 rfl rfl rfl ⟨rfl, (hm39.pick [] (by decide) rfl)⟩
      ·refine cw_f rfl hb42 (cw_skip ?_)
       refine qn_block (qn_then ?_)
       refine cw_sr (t_as rfl rfl (t_as rfl rfl (rwt_n ?_)))
       refine cw_ret ?_
       obtain rfl := os q43
       exact ret2 rfl rfl rfl ⟨rfl, (hm39.pick [] (by decide) rfl)⟩

theorem consist_axles_ok {N : Nat} {a0 : Int} {res : Int} (h : consist_axles N a0 = some res) {w : World}   :
  CallsR Tryz.prog 76 [(Value.int .i64 a0)] w (fun u w' => u = (Value.int .i64 res) ∧ Mem w No [] w') := by
 unfold consist_axles at h
 refine fn_ok Tryz.func76 rfl rfl rfl ?_
 have hm0 := Mem.nil w
 refine cw_sr (t_as rfl rfl (rwt_n (cw_seq (cw_sr (t_mv rfl rfl ?_)))))
 refine rwt_n (cw_block (cw_sr ?_))
 refine t_rd rfl (rd_eql rfl rfl) ?_
 refine t_as rfl rfl (rwt_n ?_)
 obtain ⟨hb1, q2⟩ | ⟨hb1, q2⟩ := oi h <;> clear h
 ·refine cw_t rfl hb1 (cw_sr (t_as rfl rfl (rwt_n ?_)))
  refine cw_ret ?_
  refine qr_block (qr_then ?_)
  obtain rfl := os q2
  exact ret1 rfl rfl ⟨rfl, (hm0.pick [] (by decide) rfl)⟩
 ·refine cw_f rfl hb1 (cw_sr ?_)
  refine t_rd rfl (rd_eql rfl rfl) ?_
  refine t_as rfl rfl (rwt_n ?_)
  obtain ⟨hb3, q4⟩ | ⟨hb3, q4⟩ := oi q2 <;> clear q2
  ·refine cw_t rfl hb3 (cw_sr (t_as rfl rfl (rwt_n ?_)))
   refine cw_ret ?_
   refine qr_block (qr_then ?_)
   obtain rfl := os q4
   exact ret1 rfl rfl ⟨rfl, (hm0.pick [] (by decide) rfl)⟩
  ·refine cw_f rfl hb3 (cw_skip ?_)
   refine qn_block (qn_then ?_)
   refine cw_sr (t_as rfl rfl (rwt_n ?_))
   refine cw_ret ?_
   obtain rfl := os q4
   exact ret1 rfl rfl ⟨rfl, (hm0.pick [] (by decide) rfl)⟩

theorem consist_name_ok {N : Nat} {a0 : List UInt8} {res : Bool} (h : consist_name N a0 = some res) {w : World}   :
  CallsR Tryz.prog 77 [(Value.string (bs a0))] w (fun u w' => u = (Value.bool res) ∧ Mem w No [] w') := by
 unfold consist_name at h
 refine fn_ok Tryz.func77 rfl rfl rfl ?_
 have hm0 := Mem.nil w
 refine cw_sr (t_as rfl rfl (rwt_n (cw_seq (cw_sr (t_as rfl rfl ?_)))))
 refine rwt_n (cw_block ?_)
 obtain ⟨r51, hit52, q53⟩ := ob h; clear h
 refine cw_loop2 (I := fun q envq wq => Sub [(0, (Value.string (bs a0))), (3, (Value.int .i64 q))] envq ∧ Mem w No [] wq) (X := fun eq envq wq => (∃ p54, r51 = (Sum.inl p54) ∧ eq = .ret ∧ retQ Tryz.prog 36 Tryz.f77 (fun u w' => u = (Value.bool p54) ∧ Mem w No [] w') .ret envq wq) ∨ (∃ p55, r51 = (Sum.inr p55) ∧ eq = .exit 0 ∧ Sub [(0, (Value.string (bs a0)))] envq ∧ Mem w No [] wq)) hit52 ⟨(by repeat (first | exact Sub.nil _ | refine Sub.cons rfl ?_)), (hm0.pick [] (by decide) rfl)⟩ ?_ ?_
 ·rintro i44 x46 env47 w48 hf49 hr50 ⟨hs_, hm_⟩
  have hs_ : Sub [(0, (Value.string (bs a0))), (3, (Value.int .i64 i44))] env47 := hs_
  have hm56 : Mem w No [] w48 := hm_
  refine cw_sub hs_ ?_
  clear hs_ hm_ q53
  have h : consist_name_l1 N a0 i44 = some x46 := hf49
  clear hf49
  refine cw_seq (cw_sr (t_mv rfl rfl (t_mv rfl rfl ?_)))
  refine t_rd rfl (rd_lenst tStr9 rfl) ?_
  refine t_rd rfl (rd_lss rfl rfl) (rwt_n ?_)
  obtain ⟨hb57, q58⟩ | ⟨hb57, q58⟩ := oi h <;> clear h
  ·refine cw_t rfl hb57 (cw_skip (qn_then (cw_seq (cw_block (cw_sr ?_)))))
   refine t_mv rfl rfl (t_mv rfl rfl ?_)
   obtain ⟨x59, h60, q61⟩ := ob q58; clear q58
   refine t_rd rfl (rd_sidx tStr9 rfl rfl h60) ?_
   refine t_as rfl rfl (rwt_n (cw_sr (t_mv rfl rfl (t_rd rfl (rd_lss rfl rfl) (t_mv rfl rfl ?_)))))
   refine t_rdg rfl rfl rfl rfl (gv_f _) (fun hg62 => (rd_move rfl)) ?_
   refine t_rdg rfl rfl rfl rfl (gv_f _) (fun hg63 => (rd_gtr (gvx rfl hg63) rfl)) ?_
   refine t_rd rfl (rd_or rfl (fun hc64 => (gvx rfl (bnotIt hc64)))) ?_
   refine t_mv rfl rfl ?_
   refine t_rdg rfl rfl rfl rfl (gv_t _) (fun hg65 => (rd_move rfl)) ?_
   refine t_rdg rfl rfl rfl rfl (gv_t _) (fun hg66 => (rd_lss (gvx rfl hg66) rfl)) ?_
   refine t_rdg rfl rfl rfl rfl (gv_t _) (fun hg67 => (rd_move (gvx rfl hg67))) ?_
   refine t_rdg rfl rfl rfl rfl (gv_nf _ _) (fun hg68 => (rd_move rfl)) ?_
   refine t_rdg rfl rfl rfl rfl (gv_nf _ _) (fun hg69 => (rd_gtr (gvx rfl hg69) rfl)) ?_
   refine t_rdg rfl rfl rfl rfl (gv_t _) (fun hg70 => (rd_or (gvx rfl hg70) (fun hc71 => (gvx rfl (band hg70 (bnotIt hc71)))))) ?_
   refine t_rd rfl (rd_and rfl (fun hc72 => (gvx rfl hc72))) ?_
   refine rwt_n ?_
   obtain ⟨hb73, q74⟩ | ⟨hb73, q74⟩ := oi q61 <;> clear q61
   ·refine cw_t rfl hb73 (cw_sr (t_as rfl rfl (rwt_n ?_)))
    refine cw_ret ?_
    refine qr_block (qr_then (qr_then ?_))
    obtain rfl := hr50 _ (os q74)
    refine .inl (⟨_, rfl, ⟨rfl, ?_⟩⟩)
    exact ret1 rfl rfl ⟨rfl, (hm56.pick [] (by decide) rfl)⟩
   ·refine cw_f rfl hb73 (cw_skip ?_)
    refine qn_block (qn_then ?_)
    refine cw_region ?_
    refine t_mv rfl rfl ?_
    obtain ⟨x75, h76, q77⟩ := ob q74; clear q74
    refine t_rd rfl (rd_add64 h76 rfl rfl) (t_as rfl rfl (rwt_n ?_))
    refine ⟨_, (os q77), (by repeat (first | exact Sub.nil _ | refine Sub.cons rfl ?_)), (hm56.pick [] (by decide) rfl)⟩
  ·refine cw_f rfl hb57 ?_
   refine cw_exit ?_
   refine qx_then (qx_then ?_)
   obtain rfl := hr50 _ (os q58)
   exact .inr (⟨_, rfl, ⟨rfl, (by repeat (first | exact Sub.nil _ | refine Sub.cons rfl ?_)), (hm56.pick [] (by decide) rfl)⟩⟩)
 ·skip
  intro e env78 w79 hX80
  rcases hX80 with hX80 | hX80
  ·obtain ⟨p82, rfl, hX80⟩ := hX80
   obtain ⟨rfl, hq84⟩ := hX80
   exact qr_block (qr_then ((by have e := os q53; subst e; exact hq84)))
  ·obtain ⟨p85, rfl, hX80⟩ := hX80
   obtain ⟨rfl, hs86, hm87⟩ := hX80
   refine qx_same (qn_then ?_)
   refine cw_sub hs86 ?_
   refine cw_sr (t_mv rfl rfl ?_)
   refine t_rd rfl (rd_lenst tStr9 rfl) ?_
   refine t_rd rfl (rd_gtr rfl rfl) ?_
   refine t_mv rfl rfl ?_
   refine t_rdg rfl rfl rfl rfl (gv_t _) (fun hg88 => (rd_move rfl)) ?_
   refine t_rdg rfl rfl rfl rfl (gv_t _) (fun hg89 => (rd_lenst tStr9 (gvx rfl hg89))) ?_
   refine t_rdg rfl rfl rfl rfl (gv_t _) (fun hg90 => (rd_leq (gvx rfl hg90) rfl)) ?_
   refine t_rd rfl (rd_and rfl (fun hc91 => (gvx rfl hc91))) ?_
   refine t_as rfl rfl (rwt_n ?_)
   refine cw_ret ?_
   obtain rfl := os q53
   exact ret1 rfl rfl ⟨rfl, (hm87.pick [] (by decide) rfl)⟩

theorem consist_Valid_ok {N : Nat} {a0 : T_Wagon} {res : Int} (h : consist_Valid N a0 = some res) {w : World}   :
  CallsR Tryz.prog 52 [(Value.agg (Flat.enc a0).toArray)] w (fun u w' => u = (Value.int .i64 res) ∧ Mem w No [] w') := by
 unfold consist_Valid at h
 refine fn_ok Tryz.func52 rfl rfl rfl ?_
 have hm0 := Mem.nil w
 refine cw_sr ?_
 refine t_ef rfl (ef_box hm0 rfl rfl) ?_
 rintro _ w3 ⟨g1, rfl, hm2⟩
 refine t_as rfl rfl (rwt_n (cw_sr (t_rd rfl (rd_fld tF51_0 rfl) ?_)))
 refine t_rd rfl (rd_ld1 tO9 rfl (hm2.blk 0 rfl) (off := 0) rfl) ?_
 obtain ⟨r4, h5, q6⟩ := ob h; clear h
 refine t_ef rfl (ef_call tf15 rfl (wagonnumber_Kind_ok h5)) ?_
 rintro _ w8 ⟨e_, hm7⟩
 obtain rfl := e_.symm
 have hm9 := hm2.call hm7
 refine t_mv rfl rfl ?_
 refine t_rd rfl (rd_extract rfl rfl) ?_
 refine t_rd rfl (rd_extract rfl rfl) ?_
 refine t_as rfl rfl (t_as rfl rfl (rwt_n (cw_seq (cw_sr (t_mv rfl rfl ?_)))))
 refine t_rd rfl (rd_neq rfl rfl) ?_
 refine rwt_n ?_
 obtain ⟨hb10, q11⟩ | ⟨hb10, q11⟩ := oi q6 <;> clear q6
 ·refine cw_t rfl hb10 (cw_sr (t_mv rfl rfl (t_as rfl rfl (rwt_n ?_))))
  refine cw_ret ?_
  refine qr_then ?_
  obtain rfl := os q11
  exact ret1 rfl rfl ⟨rfl, (hm9.pick [] (by decide) rfl)⟩
 ·refine cw_f rfl hb10 (cw_skip (qn_then (cw_sr (t_as rfl rfl (rwt_n ?_)))))
  refine cw_seq (cw_sr (t_mv rfl rfl ?_))
  refine t_rd rfl (rd_eql rfl rfl) ?_
  refine rwt_n ?_
  obtain ⟨j15, hit16, q17⟩ := ob q11; clear q11
  refine cw_join (X := fun eq envq wq => eq = .normal ∧ Sub [(1, (Value.pointer (some ⟨g1, 0, none⟩))), (3, (Value.int .i64 r4.1)), (5, (Value.int .i64 j15))] envq ∧ Mem w No [blk g1 51 [(Value.string (bs a0.Number)), (Value.int .i64 a0.Length), (Value.int .i64 a0.Axles), (Value.int .i64 a0.Mass), (Value.int .i64 a0.Brake), (Value.int .i64 a0.Goods), (Value.bool a0.Gentle), (Value.string (bs a0.Dest))]] wq) ?_ ?_
  ·clear q17
   obtain ⟨hb18, q19⟩ | ⟨hb18, q19⟩ := oi hit16 <;> clear hit16
   ·refine cw_t rfl hb18 ?_
    refine cw_region ?_
    refine t_as rfl rfl ?_
    refine rwt_nil ?_
    obtain rfl := os q19
    exact ⟨rfl, (by repeat (first | exact Sub.nil _ | refine Sub.cons rfl ?_)), (hm9.pick [0] (by decide) rfl)⟩
   ·refine cw_f rfl hb18 (cw_skip ?_)
    obtain rfl := os q19
    exact ⟨rfl, (by repeat (first | exact Sub.nil _ | refine Sub.cons rfl ?_)), (hm9.pick [0] (by decide) rfl)⟩
  ·clear hit16
   intro e env20 w21 hX22
   obtain ⟨rfl, hs23, hm24⟩ := hX22
   refine qn_then ?_
   refine cw_sub hs23 ?_
   refine cw_seq (cw_block (cw_seq ?_))
   obtain ⟨w32, he34⟩ : ∃ q, q = w21.drew := ⟨_, rfl⟩
   have hm33 := hm24.drew; rw [← he34] at hm33
   refine cw_region_s (fun q => (blk g1 51 [(Value.string (bs a0.Number)), (Value.int .i64 a0.Length), (Value.int .i64 a0.Axles), (Value.int .i64 a0.Mass), (Value.int .i64 a0.Brake), (Value.int .i64 a0.Goods), (Value.bool a0.Gentle), (Value.string (bs a0.Dest))]).φ q) (cls [3] []) mixed ?_
   rintro _ rfl; rw [← he34]
   refine s_rp (i := 0) rfl (by kernel_rfl) rfl (fun _ => (rd_fld tF51_2 rfl)) ?_
   refine s_rd (i := 1) rfl (by kernel_rfl) rfl (fun w31 hS => (rd_ld1 tO3 rfl (cells_blk hS) (off := 2) rfl)) (hm33.get (k := 0) rfl) ?_
   refine s_rp (i := 2) rfl (by kernel_rfl) rfl (fun _ => (rd_move rfl)) ?_
   obtain ⟨r41, h42, q43⟩ := ob q17; clear q17
   refine s_ef (i := 3) rfl (by kernel_rfl) rfl (ef_call tf76 rfl (consist_axles_ok h42)) (by decide) ?_ ?_
   ·rintro _ w45 ⟨e_, hm44⟩
    obtain rfl := e_.symm
    have hm46 := hm33.call hm44
    intro _
    exact (hm46.get (k := 0) rfl)
   rintro _ w45 ⟨e_, hm44⟩
   obtain rfl := e_.symm
   have hm46 := hm33.call hm44
   refine s_rp (i := 4) rfl (by kernel_rfl) rfl (fun _ => (rd_neq rfl rfl)) ?_
   refine s_rp (i := 5) rfl (by kernel_rfl) rfl (fun _ => (rd_assign rfl)) ?_
   refine s_nil (by kernel_rfl) ?_
   refine qn_then ?_
   obtain ⟨hb47, q48⟩ | ⟨hb47, q48⟩ := oi q43 <;> clear q43
   ·refine cw_t rfl hb47 (cw_sr (t_as rfl rfl (rwt_n ?_)))
    refine cw_ret ?_
    refine qr_block (qr_then ?_)
    obtain rfl := os q48
    exact ret1 rfl rfl ⟨rfl, (hm46.pick [] (by decide) rfl)⟩
   ·refine cw_f rfl hb47 (cw_sr (t_rd rfl (rd_fld tF51_1 rfl) ?_))
    refine t_rd rfl (rd_ld1 tO3 rfl (hm46.blk 0 rfl) (off := 1) rfl) ?_
    refine t_mv rfl rfl (t_rd rfl (rd_lss rfl rfl) (t_mv rfl rfl ?_))
    refine t_rdg rfl rfl rfl rfl (gv_f _) (fun hg49 => (rd_fld tF51_1 rfl)) ?_
    refine t_rdg rfl rfl rfl rfl (gv_f _) (fun hg50 => (rd_ld1 tO3 (gvx rfl hg50) (hm46.blk 0 rfl) (off := 1) rfl)) ?_
    refine t_rdg rfl rfl rfl rfl (gv_f _) (fun hg51 => (rd_gtr (gvx rfl hg51) rfl)) ?_
    refine t_rd rfl (rd_or rfl (fun hc52 => (gvx rfl (bnotIt hc52)))) ?_
    refine t_mv rfl rfl ?_
    refine t_rdg rfl rfl rfl rfl (gv_f _) (fun hg53 => (rd_fld tF51_3 rfl)) ?_
    refine t_rdg rfl rfl rfl rfl (gv_f _) (fun hg54 => (rd_ld1 tO3 (gvx rfl hg54) (hm46.blk 0 rfl) (off := 3) rfl)) ?_
    refine t_rdg rfl rfl rfl rfl (gv_f _) (fun hg55 => (rd_lss (gvx rfl hg55) rfl)) ?_
    refine t_rd rfl (rd_or rfl (fun hc56 => (gvx rfl (bnotIt hc56)))) ?_
    refine t_mv rfl rfl ?_
    refine t_rdg rfl rfl rfl rfl (gv_f _) (fun hg57 => (rd_fld tF51_3 rfl)) ?_
    refine t_rdg rfl rfl rfl rfl (gv_f _) (fun hg58 => (rd_ld1 tO3 (gvx rfl hg58) (hm46.blk 0 rfl) (off := 3) rfl)) ?_
    refine t_rdg rfl rfl rfl rfl (gv_f _) (fun hg59 => (rd_gtr (gvx rfl hg59) rfl)) ?_
    refine t_rd rfl (rd_or rfl (fun hc60 => (gvx rfl (bnotIt hc60)))) ?_
    refine t_as rfl rfl (rwt_n ?_)
    obtain ⟨hb61, q62⟩ | ⟨hb61, q62⟩ := oi q48 <;> clear q48
    ·refine cw_t rfl hb61 (cw_sr (t_as rfl rfl (rwt_n ?_)))
     refine cw_ret ?_
     refine qr_block (qr_then ?_)
     obtain rfl := os q62
     exact ret1 rfl rfl ⟨rfl, (hm46.pick [] (by decide) rfl)⟩
    ·refine cw_f rfl hb61 (cw_sr (t_rd rfl (rd_fld tF51_4 rfl) ?_))
     refine t_rd rfl (rd_ld1 tO3 rfl (hm46.blk 0 rfl) (off := 4) rfl) ?_
     refine t_rd rfl (rd_lss rfl rfl) (t_mv rfl rfl ?_)
     refine t_rdg rfl rfl rfl rfl (gv_f _) (fun hg63 => (rd_fld tF51_4 rfl)) ?_
     refine t_rdg rfl rfl rfl rfl (gv_f _) (fun hg64 => (rd_ld1 tO3 (gvx rfl hg64) (hm46.blk 0 rfl) (off := 4) rfl)) ?_
     refine t_rdg rfl rfl rfl rfl (gv_f _) (fun hg65 => (rd_fld tF51_3 rfl)) ?_
     refine t_rdg rfl rfl rfl rfl (gv_f _) (fun hg66 => (rd_ld1 tO3 (gvx rfl hg66) (hm46.blk 0 rfl) (off := 3) rfl)) ?_
     refine t_rdg rfl rfl rfl rfl (gv_f _) (fun hg67 => (rd_gtr (gvx rfl hg67) (gvx rfl hg67))) ?_
     refine t_rd rfl (rd_or rfl (fun hc68 => (gvx rfl (bnotIt hc68)))) ?_
     refine t_mv rfl rfl ?_
     refine t_rdg rfl rfl rfl rfl (gv_f _) (fun hg69 => (rd_fld tF51_5 rfl)) ?_
     refine t_rdg rfl rfl rfl rfl (gv_f _) (fun hg70 => (rd_ld1 tO3 (gvx rfl hg70) (hm46.blk 0 rfl) (off := 5) rfl)) ?_
     refine t_rdg rfl rfl rfl rfl (gv_f _) (fun hg71 => (rd_lss (gvx rfl hg71) rfl)) ?_
     refine t_rd rfl (rd_or rfl (fun hc72 => (gvx rfl (bnotIt hc72)))) ?_
     refine t_mv rfl rfl ?_
     refine t_rdg rfl rfl rfl rfl (gv_f _) (fun hg73 => (rd_fld tF51_5 rfl)) ?_
     refine t_rdg rfl rfl rfl rfl (gv_f _) (fun hg74 => (rd_ld1 tO3 (gvx rfl hg74) (hm46.blk 0 rfl) (off := 5) rfl)) ?_
     refine t_rdg rfl rfl rfl rfl (gv_f _) (fun hg75 => (rd_gtr (gvx rfl hg75) rfl)) ?_
     refine t_rd rfl (rd_or rfl (fun hc76 => (gvx rfl (bnotIt hc76)))) ?_
     refine t_as rfl rfl (rwt_n ?_)
     obtain ⟨hb77, q78⟩ | ⟨hb77, q78⟩ := oi q62 <;> clear q62
     ·refine cw_t rfl hb77 (cw_sr (t_as rfl rfl (rwt_n ?_)))
      refine cw_ret ?_
      refine qr_block (qr_then ?_)
      obtain rfl := os q78
      exact ret1 rfl rfl ⟨rfl, (hm46.pick [] (by decide) rfl)⟩
     ·refine cw_f rfl hb77 (cw_sr (t_rd rfl (rd_fld tF51_7 rfl) ?_))
      refine t_rd rfl (rd_ld1 tO9 rfl (hm46.blk 0 rfl) (off := 7) rfl) ?_
      obtain ⟨r79, h80, q81⟩ := ob q78; clear q78
      refine t_ef rfl (ef_call tf77 rfl (consist_name_ok h80)) ?_
      rintro _ w83 ⟨e_, hm82⟩
      obtain rfl := e_.symm
      have hm84 := hm46.call hm82
      refine t_rd rfl (rd_not rfl) ?_
      refine t_as rfl rfl (rwt_n ?_)
      obtain ⟨hb85, q86⟩ | ⟨hb85, q86⟩ := oi q81 <;> clear q81
      ·refine cw_t rfl hb85 (cw_sr (t_as rfl rfl (rwt_n ?_)))
       refine cw_ret ?_
       refine qr_block (qr_then ?_)
       obtain rfl := os q86
       exact ret1 rfl rfl ⟨rfl, (hm84.pick [] (by decide) rfl)⟩
      ·refine cw_f rfl hb85 (cw_skip ?_)
       refine qn_block (qn_then ?_)
       refine cw_sr (t_as rfl rfl (rwt_n ?_))
       refine cw_ret ?_
       obtain rfl := os q86
       exact ret1 rfl rfl ⟨rfl, (hm84.pick [] (by decide) rfl)⟩

theorem consist_check_ok {N : Nat} {a0 : List T_Wagon} {res : Int} (h : consist_check N a0 = some res) {w : World} {v0 : Value} (hv0 : Sl (Old w No) w v0 a0) :
  CallsR Tryz.prog 46 [v0] w (fun u w' => u = (Value.int .i64 res) ∧ Mem w No [] w') := by
 unfold consist_check at h
 refine fn_ok Tryz.func46 rfl rfl rfl ?_
 have hm0 := Mem.nil w
 refine cw_sr (t_as rfl rfl (rwt_n (cw_seq (cw_sr (t_mv rfl rfl ?_)))))
 refine t_rd rfl (rd_lenS tS48 rfl (hv0.of_old hm0)) ?_
 refine t_rd rfl (rd_gtr rfl rfl) ?_
 refine rwt_n ?_
 obtain ⟨hb1, q2⟩ | ⟨hb1, q2⟩ := oi h <;> clear h
 ·refine cw_t rfl hb1 (cw_sr (t_as rfl rfl (rwt_n ?_)))
  refine cw_ret ?_
  refine qr_then ?_
  obtain rfl := os q2
  exact ret1 rfl rfl ⟨rfl, (hm0.pick [] (by decide) rfl)⟩
 ·refine cw_f rfl hb1 (cw_skip (qn_then (cw_sr ?_)))
  refine t_ef rfl (ef_makeMapS hm0 Bool) ?_
  rintro _ w5 ⟨g3, rfl, hm4⟩
  refine t_as rfl rfl (rwt_n (cw_seq (cw_sr (t_mv rfl rfl ?_))))
  refine t_rd rfl (rd_lenS tS48 rfl (hv0.of_old hm4)) ?_
  refine t_mv rfl rfl (rwt_n (cw_block ?_))
  obtain ⟨r66, hit67, q68⟩ := ob q2; clear q2
  refine cw_loop2 (I := fun q envq wq => Sub [(3, (Value.map (some g3))), (11, v0), (12, (Value.int .i64 (List.length a0 : Int))), (13, (Value.int .i64 q.1))] envq ∧ Mem w No [mapS g3 (q.2 : List (List UInt8 × Bool))] wq) (X := fun eq envq wq => (∃ p69, r66 = (Sum.inl p69) ∧ eq = .ret ∧ retQ Tryz.prog 30 Tryz.f46 (fun u w' => u = (Value.int .i64 p69) ∧ Mem w No [] w') .ret envq wq) ∨ (∃ p70, r66 = (Sum.inr p70) ∧ eq = .exit 0 ∧ Sub [] envq ∧ Mem w No [] wq)) hit67 ⟨(by repeat (first | exact Sub.nil _ | refine Sub.cons rfl ?_)), (hm4.pick [0] (by decide) rfl)⟩ ?_ ?_
  ·rintro ⟨i58, m59⟩ x61 env62 w63 hf64 hr65 ⟨hs_, hm_⟩
   have hs_ : Sub [(3, (Value.map (some g3))), (11, v0), (12, (Value.int .i64 (List.length a0 : Int))), (13, (Value.int .i64 i58))] env62 := hs_
   have hm71 : Mem w No [mapS g3 (m59 : List (List UInt8 × Bool))] w63 := hm_
   refine cw_sub hs_ ?_
   clear hs_ hm_ q68
   have h : consist_check_l1 N a0 i58 m59 = some x61 := hf64
   clear hf64
   refine cw_sr (t_rd rfl (rd_lss rfl rfl) (rwt_n (cw_seq ?_)))
   obtain ⟨hb72, q73⟩ | ⟨hb72, q73⟩ := oi h <;> clear h
   ·refine cw_t rfl hb72 (cw_skip (qn_then (cw_seq (cw_block (cw_sr ?_)))))
    obtain ⟨x74, h75, q76⟩ := ob q73; clear q73
    refine t_rd rfl (rd_index tS48 rfl rfl (hv0.of_old hm71) h75) ?_
    refine t_rd rfl (rd_ld tA51 rfl ((hv0.of_old hm71).cells h75) rfl) ?_
    refine t_ef rfl (ef_alloc hm71 tZ51 rfl) ?_
    rintro _ w79 ⟨g77, rfl, hm78⟩
    refine t_ef0 (ef_stw (k := 0) hm78 tA51 rfl rfl (oc_cons rfl (oc_cons rfl (oc_cons rfl (oc_cons rfl (oc_cons rfl (oc_cons rfl (oc_cons rfl (oc_cons rfl oc_nil)))))))) rfl rfl rfl) ?_
    intro _ w81 hm80
    refine rwt_n (cw_seq (cw_sr ?_))
    refine t_rd rfl (rd_ld tA51 rfl (hm80.blk 0 rfl) rfl) ?_
    obtain ⟨r82, h83, q84⟩ := ob q76; clear q76
    refine t_ef rfl (ef_call tf52 rfl (consist_Valid_ok h83)) ?_
    rintro _ w86 ⟨e_, hm85⟩
    obtain rfl := e_.symm
    have hm87 := hm80.call hm85
    refine t_as rfl rfl (rwt_n (cw_sr (t_mv rfl rfl ?_)))
    refine t_rd rfl (rd_neq rfl rfl) ?_
    refine rwt_n ?_
    obtain ⟨hb88, q89⟩ | ⟨hb88, q89⟩ := oi q84 <;> clear q84
    ·refine cw_t rfl hb88 (cw_sr (t_mv rfl rfl (t_as rfl rfl (rwt_n ?_))))
     refine cw_ret ?_
     refine qr_then (qr_block (qr_then (qr_then ?_)))
     obtain rfl := hr65 _ (os q89)
     refine .inl (⟨_, rfl, ⟨rfl, ?_⟩⟩)
     exact ret1 rfl rfl ⟨rfl, (hm87.pick [] (by decide) rfl)⟩
    ·refine cw_f rfl hb88 (cw_skip (qn_then (cw_seq (cw_sr (t_mv rfl rfl ?_)))))
     refine t_rd rfl (rd_fld tF51_0 rfl) ?_
     refine t_rd rfl (rd_ld1 tO9 rfl (hm87.blk 0 rfl) (off := 0) rfl) ?_
     refine t_rd rfl (mvB (o := (sget m59 x74.Number)) ▸ rd_lookupS tM146 (hm87.get (k := 1) rfl) rfl rfl) ?_
     refine rwt_n ?_
     obtain ⟨hb90, q91⟩ | ⟨hb90, q91⟩ := oi q89 <;> clear q89
     ·refine cw_t rfl hb90 (cw_sr (t_as rfl rfl (rwt_n ?_)))
      refine cw_ret ?_
      refine qr_then (qr_block (qr_then (qr_then ?_)))
      obtain rfl := hr65 _ (os q91)
      refine .inl (⟨_, rfl, ⟨rfl, ?_⟩⟩)
      exact ret1 rfl rfl ⟨rfl, (hm87.pick [] (by decide) rfl)⟩
     ·refine cw_f rfl hb90 (cw_skip (qn_then ?_))
      refine cw_region ?_
      refine t_mv rfl rfl (t_rd rfl (rd_fld tF51_0 rfl) ?_)
      refine t_rd rfl (rd_ld1 tO9 rfl (hm87.blk 0 rfl) (off := 0) rfl) ?_
      refine t_ef0 (ef_mapUpdateS (kq := 1) hm87 tM146 rfl (true : Bool) rfl rfl rfl) ?_
      intro _ w93 hm92
      refine rwt_nil ?_
      refine qn_block (qn_then ?_)
      refine cw_region ?_
      obtain ⟨x94, h95, q96⟩ := ob q91; clear q91
      refine t_rd rfl (rd_add64 h95 rfl rfl) (t_mv rfl rfl (rwt_n ?_))
      refine ⟨_, (os q96), (by repeat (first | exact Sub.nil _ | refine Sub.cons rfl ?_)), (hm92.pick [1] (by decide) rfl)⟩
   ·refine cw_f rfl hb72 ?_
    refine cw_exit ?_
    refine qx_then (qx_then ?_)
    obtain rfl := hr65 _ (os q73)
    exact .inr (⟨_, rfl, ⟨rfl, (by repeat (first | exact Sub.nil _ | refine Sub.cons rfl ?_)), (hm71.pick [] (by decide) rfl)⟩⟩)
  ·skip
   intro e env97 w98 hX99
   rcases hX99 with hX99 | hX99
   ·obtain ⟨p101, rfl, hX99⟩ := hX99
    obtain ⟨rfl, hq103⟩ := hX99
    exact qr_block (qr_then ((by have e := os q68; subst e; exact hq103)))
   ·obtain ⟨p104, rfl, hX99⟩ := hX99
    obtain ⟨rfl, hs105, hm106⟩ := hX99
    refine qx_same (qn_then ?_)
    refine cw_sub hs105 ?_
    refine cw_sr (t_as rfl rfl (rwt_n ?_))
    refine cw_ret ?_
    obtain rfl := os q68
    exact ret1 rfl rfl ⟨rfl, (hm106.pick [] (by decide) rfl)⟩

theorem consist_two_ok {N : Nat} {a0 : List UInt8} {a1 : Int} {res : List UInt8} (h : consist_two N a0 a1 = some res) {w0 w : World} {T : Nat → Prop} {L : List Chunk} {k : Nat} {v0 : Value} (hm0 : Mem w0 T L w) (hk : L[k]? = some (ownL 5 v0 a0)) :
  CallsR Tryz.prog 47 [v0, .int .i64 a1] w (fun u w' => ∃ (y0 : Value), u = y0 ∧ Mem w0 T (L.set k (ownL 5 y0 (res : List UInt8))) w') := by
 unfold consist_two at h
 refine fn_ok Tryz.func47 rfl rfl rfl ?_
 refine cw_sr (t_as rfl rfl (rwt_n (cw_sr (t_mv rfl rfl (t_mv rfl rfl ?_)))))
 obtain ⟨x1, h1, q1⟩ := ob h; clear h
 refine t_rd rfl (rd_shr_i64 h1 rfl rfl) ?_
 refine t_rd rfl (rd_cv8 tH3 tI5 rfl) ?_
 refine t_mv rfl rfl ?_
 refine t_rd rfl (rd_cv8 tH3 tI5 rfl) ?_
 refine t_ef rfl (ef_bslice (l := ([(toU8 x1), (toU8 a1)] : List UInt8)) hm0 tS60 rfl (cs := #[(Value.int .u8 ((toU8 x1).toNat : Int)), (Value.int .u8 ((toU8 a1).toNat : Int))]) (by unfold bsl; kernel_rfl) rfl rfl) ?_
 intro v2 w2 hm2
 refine t_ef rfl (ef_append (k := k + 1) hm2 tS60 tE5 rfl hk rfl rfl (hm2.sl 0 rfl) q1) ?_
 intro v3 w3 hm3
 refine t_as rfl rfl (rwt_n ?_)
 refine cw_ret ?_
 exact ret1 rfl rfl ⟨v3, rfl, Mem.tail (c := ownL 5 v2 ([(toU8 x1), (toU8 a1)] : List UInt8)) hm3⟩

theorem consist_Check_ok {N : Nat} {a0 : List UInt8} {res : Int} (h : consist_Check N a0 = some res) {w : World} {v0 : Value} (hv0 : Sl (Old w No) w v0 a0) :
  CallsR Tryz.prog 48 [v0] w (fun u w' => u = (Value.int .i64 res) ∧ Mem w No [] w') := by
 unfold consist_Check at h
 refine fn_ok Tryz.func48 rfl rfl rfl ?_
 have hm0 := Mem.nil w
 refine cw_sr (t_as rfl rfl (rwt_n (cw_sr (t_as rfl rfl (rwt_n (cw_seq ?_))))))
 refine cw_sr (t_mv rfl rfl ?_)
 refine t_rd rfl (rd_lenS tS60 rfl (hv0.of_old hm0)) ?_
 refine t_mv rfl rfl (rwt_n (cw_block ?_))
 obtain ⟨r46, hit47, q48⟩ := ob h; clear h
 refine cw_loop2 (I := fun q envq wq => Sub [(3, (Value.int .i64 q.1)), (6, v0), (7, (Value.int .i64 (List.length a0 : Int))), (8, (Value.int .i64 q.2))] envq ∧ Mem w No [] wq) (X := fun eq envq wq => eq = .exit 0 ∧ Sub [(3, (Value.int .i64 r46))] envq ∧ Mem w No [] wq) hit47 ⟨(by repeat (first | exact Sub.nil _ | refine Sub.cons rfl ?_)), (hm0.pick [] (by decide) rfl)⟩ ?_ ?_
 ·rintro ⟨i38, i39⟩ x41 env42 w43 hf44 hr45 ⟨hs_, hm_⟩
  have hs_ : Sub [(3, (Value.int .i64 i38)), (6, v0), (7, (Value.int .i64 (List.length a0 : Int))), (8, (Value.int .i64 i39))] env42 := hs_
  have hm49 : Mem w No [] w43 := hm_
  refine cw_sub hs_ ?_
  clear hs_ hm_ q48
  have h : consist_Check_l1 N a0 i38 i39 = some x41 := hf44
  clear hf44
  refine cw_sr (t_rd rfl (rd_lss rfl rfl) (rwt_n (cw_seq ?_)))
  obtain ⟨hb50, q51⟩ | ⟨hb50, q51⟩ := oi h <;> clear h
  ·refine cw_t rfl hb50 (cw_skip (qn_then (cw_seq (cw_block (cw_sr ?_)))))
   refine t_mv rfl rfl ?_
   obtain ⟨x52, h53, q54⟩ := ob q51; clear q51
   refine t_rd rfl (rd_index tS60 rfl rfl (hv0.of_old hm49) h53) ?_
   refine t_rd rfl (rd_ld1 tO5 rfl ((hv0.of_old hm49).cells h53) (off := 0) rfl) ?_
   refine t_as rfl rfl (t_as rfl rfl (rwt_n ?_))
   refine cw_region ?_
   refine t_mv rfl rfl (t_mv rfl rfl ?_)
   obtain ⟨x55, h56, q57⟩ := ob q54; clear q54
   refine t_rd rfl (rd_add64 h56 rfl rfl) ?_
   refine t_rd rfl (rd_rem rfl rfl (by decide)) ?_
   refine t_mv rfl rfl ?_
   obtain ⟨x58, h59, q60⟩ := ob q57; clear q57
   refine t_rd rfl (rd_cv64 tH5 tI3 h59 rfl) ?_
   obtain ⟨x61, h62, q63⟩ := ob q60; clear q60
   refine t_rd rfl (rd_mul64 h62 rfl rfl) ?_
   obtain ⟨x64, h65, q66⟩ := ob q63; clear q63
   refine t_rd rfl (rd_add64 h65 rfl rfl) ?_
   refine t_rd rfl (rd_rem rfl rfl (by decide)) ?_
   refine t_as rfl rfl ?_
   refine rwt_nil ?_
   refine qn_block (qn_then ?_)
   refine cw_region ?_
   refine t_rd rfl (rd_add64 h56 rfl rfl) (t_mv rfl rfl (rwt_n ?_))
   refine ⟨_, (os q66), (by repeat (first | exact Sub.nil _ | refine Sub.cons rfl ?_)), (hm49.pick [] (by decide) rfl)⟩
  ·refine cw_f rfl hb50 ?_
   refine cw_exit ?_
   refine qx_then (qx_then ?_)
   obtain rfl := hr45 _ (os q51)
   exact ⟨rfl, (by repeat (first | exact Sub.nil _ | refine Sub.cons rfl ?_)), (hm49.pick [] (by decide) rfl)⟩
 ·skip
  intro e env67 w68 hX69
  obtain ⟨rfl, hs70, hm71⟩ := hX69
  refine qx_same (qn_then ?_)
  refine cw_sub hs70 ?_
  refine cw_sr (t_mv rfl rfl (t_as rfl rfl (rwt_n ?_)))
  refine cw_ret ?_
  obtain rfl := os q48
  exact ret1 rfl rfl ⟨rfl, (hm71.pick [] (by decide) rfl)⟩

theorem consist_Encode_ok {N : Nat} {a0 : List T_Wagon} {res : List UInt8 × Int} (h : consist_Encode N a0 = some res) {w : World} {v0 : Value} (hv0 : Sl (Old w No) w v0 a0) :
  CallsR Tryz.prog 19 [v0] w (fun u w' => ∃ (y0 : Value), u = (Value.tuple #[y0, (Value.int .i64 res.2)]) ∧ Mem w No [ownL 5 y0 (res.1 : List UInt8)] w') := by
 unfold consist_Encode at h
 refine fn_ok Tryz.func19 rfl rfl rfl ?_
 have hm0 := Mem.nil w
 refine cw_sr (t_as rfl rfl (t_as rfl rfl (rwt_n (cw_seq (cw_sr ?_)))))
 refine t_mv rfl rfl ?_
 obtain ⟨r1, h2, q3⟩ := ob h; clear h
 refine t_ef rfl (ef_call tf46 rfl (consist_check_ok h2 (hv0.to_call hm0))) ?_
 rintro _ w5 ⟨e_, hm4⟩
 obtain rfl := e_.symm
 have hm6 := hm0.call hm4
 refine t_as rfl rfl (rwt_n (cw_sr (t_mv rfl rfl ?_)))
 refine t_rd rfl (rd_neq rfl rfl) ?_
 refine rwt_n ?_
 obtain ⟨hb7, q8⟩ | ⟨hb7, q8⟩ := oi q3 <;> clear q3
 ·refine cw_t rfl hb7 (cw_sr (t_mv rfl rfl (t_as rfl rfl (t_as rfl rfl (rwt_n ?_)))))
  refine cw_ret ?_
  refine qr_then ?_
  obtain rfl := os q8
  have hm9 := hm6.addNil (α := UInt8) 5
  exact ret2 rfl rfl rfl ⟨(Value.slice none 0 0), rfl, (hm9.pick [0] (by decide) rfl)⟩
 ·refine cw_f rfl hb7 (cw_skip (qn_then (cw_sr (t_mv rfl rfl ?_))))
  refine t_rd rfl (rd_lenS tS48 rfl (hv0.of_old hm6)) ?_
  refine t_rd rfl (rd_cv8 tH3 tI5 rfl) ?_
  refine t_ef rfl (ef_bslice (l := ([(toU8 (List.length a0 : Int))] : List UInt8)) hm6 tS60 rfl (cs := #[(Value.int .u8 ((toU8 (List.length a0 : Int)).toNat : Int))]) (by unfold bsl; kernel_rfl) rfl rfl) ?_
  intro v10 w12 hm11
  refine t_as rfl rfl (rwt_n (cw_seq (cw_sr (t_mv rfl rfl ?_))))
  refine t_rd rfl (rd_lenS tS48 rfl (hv0.of_old hm11)) ?_
  refine t_mv rfl rfl (rwt_n (cw_block ?_))
  obtain ⟨r821, hit822, q823⟩ := ob q8; clear q8
  refine cw_loop2 (I := fun q envq wq => ∃ (v814 : Value), Sub [(5, v814), (19, v0), (20, (Value.int .i64 (List.length a0 : Int))), (21, (Value.int .i64 q.1))] envq ∧ Mem w No [ownL 5 v814 (q.2 : List UInt8)] wq) (X := fun eq envq wq => eq = .exit 0 ∧ ∃ (v811 : Value), Sub [(5, v811)] envq ∧ Mem w No [ownL 5 v811 (r821 : List UInt8)] wq) hit822 ⟨v10, (by repeat (first | exact Sub.nil _ | refine Sub.cons rfl ?_)), (hm11.pick [0] (by decide) rfl)⟩ ?_ ?_
  ·rintro ⟨i812, l813⟩ x816 env817 w818 hf819 hr820 ⟨v814, hs_, hm_⟩
   have hs_ : Sub [(5, v814), (19, v0), (20, (Value.int .i64 (List.length a0 : Int))), (21, (Value.int .i64 i812))] env817 := hs_
   have hm824 : Mem w No [ownL 5 v814 (l813 : List UInt8)] w818 := hm_
   refine cw_sub hs_ ?_
   clear hs_ hm_ q823
   have h : consist_Encode_l3 N a0 i812 l813 = some x816 := hf819
   clear hf819
   refine cw_sr (t_rd rfl (rd_lss rfl rfl) (rwt_n (cw_seq ?_)))
   obtain ⟨hb825, q826⟩ | ⟨hb825, q826⟩ := oi h <;> clear h
   ·refine cw_t rfl hb825 (cw_skip (qn_then (cw_seq (cw_block (cw_sr ?_)))))
    obtain ⟨x827, h828, q829⟩ := ob q826; clear q826
    refine t_rd rfl (rd_index tS48 rfl rfl (hv0.of_old hm824) h828) ?_
    refine t_rd rfl (rd_ld tA51 rfl ((hv0.of_old hm824).cells h828) rfl) ?_
    refine t_ef rfl (ef_alloc hm824 tZ51 rfl) ?_
    rintro _ w832 ⟨g830, rfl, hm831⟩
    refine t_ef0 (ef_stw (k := 0) hm831 tA51 rfl rfl (oc_cons rfl (oc_cons rfl (oc_cons rfl (oc_cons rfl (oc_cons rfl (oc_cons rfl (oc_cons rfl (oc_cons rfl oc_nil)))))))) rfl rfl rfl) ?_
    intro _ w834 hm833
    refine rwt_n (cw_seq (cw_sr (t_as rfl rfl (rwt_n (cw_block ?_)))))
    obtain ⟨r951, hit952, q953⟩ := ob q829; clear q829
    refine cw_loop2 (I := fun q envq wq => ∃ (v944 : Value), Sub [(5, v944), (7, (Value.pointer (some ⟨g830, 0, none⟩))), (8, (Value.int .i64 q.1)), (19, v0), (20, (Value.int .i64 (List.length a0 : Int))), (21, (Value.int .i64 i812))] envq ∧ Mem w No [blk g830 51 [(Value.string (bs x827.Number)), (Value.int .i64 x827.Length), (Value.int .i64 x827.Axles), (Value.int .i64 x827.Mass), (Value.int .i64 x827.Brake), (Value.int .i64 x827.Goods), (Value.bool x827.Gentle), (Value.string (bs x827.Dest))], ownL 5 v944 (q.2 : List UInt8)] wq) (X := fun eq envq wq => eq = .exit 2 ∧ ∃ (v941 : Value), Sub [(5, v941), (7, (Value.pointer (some ⟨g830, 0, none⟩))), (19, v0), (20, (Value.int .i64 (List.length a0 : Int))), (21, (Value.int .i64 i812))] envq ∧ Mem w No [blk g830 51 [(Value.string (bs x827.Number)), (Value.int .i64 x827.Length), (Value.int .i64 x827.Axles), (Value.int .i64 x827.Mass), (Value.int .i64 x827.Brake), (Value.int .i64 x827.Goods), (Value.bool x827.Gentle), (Value.string (bs x827.Dest))], ownL 5 v941 (r951 : List UInt8)] wq) hit952 ⟨v814, (by repeat (first | exact Sub.nil _ | refine Sub.cons rfl ?_)), (hm833.pick [0, 1] (by decide) rfl)⟩ ?_ ?_
    ·rintro ⟨i942, l943⟩ x946 env947 w948 hf949 hr950 ⟨v944, hs_, hm_⟩
     have hs_ : Sub [(5, v944), (7, (Value.pointer (some ⟨g830, 0, none⟩))), (8, (Value.int .i64 i942)), (19, v0), (20, (Value.int .i64 (List.length a0 : Int))), (21, (Value.int .i64 i812))] env947 := hs_
     have hm954 : Mem w No [blk g830 51 [(Value.string (bs x827.Number)), (Value.int .i64 x827.Length), (Value.int .i64 x827.Axles), (Value.int .i64 x827.Mass), (Value.int .i64 x827.Brake), (Value.int .i64 x827.Goods), (Value.bool x827.Gentle), (Value.string (bs x827.Dest))], ownL 5 v944 (l943 : List UInt8)] w948 := hm_
     refine cw_sub hs_ ?_
     clear hs_ hm_ q953
     have h : consist_Encode_l4 N x827 i942 l943 = some x946 := hf949
     clear hf949
     refine cw_seq (cw_sr (t_mv rfl rfl (t_rd rfl (rd_lss rfl rfl) (rwt_n ?_))))
     obtain ⟨hb955, q956⟩ | ⟨hb955, q956⟩ := oi h <;> clear h
     ·refine cw_t rfl hb955 (cw_skip (qn_then (cw_seq (cw_block ?_))))
      obtain ⟨w979, he981⟩ : ∃ q, q = w948.drew := ⟨_, rfl⟩
      have hm980 := hm954.drew; rw [← he981] at hm980
      refine cw_region_s (fun q => q = w979) (cls [] [14, 15]) mixed ?_
      rintro _ rfl; rw [← he981]
      refine s_rp (i := 0) rfl (by kernel_rfl) rfl (fun _ => (rd_move rfl)) ?_
      refine s_rp (i := 1) rfl (by kernel_rfl) rfl (fun _ => (rd_fld tF51_0 rfl)) ?_
      refine s_rd (i := 2) rfl (by kernel_rfl) rfl (fun _ hS => by rw [hS]; exact (rd_ld1 tO9 rfl (hm980.blk 0 rfl) (off := 0) rfl)) rfl ?_
      refine s_rp (i := 3) rfl (by kernel_rfl) rfl (fun _ => (rd_move rfl)) ?_
      obtain ⟨x982, h983, q984⟩ := ob q956; clear q956
      refine s_rp (i := 4) rfl (by kernel_rfl) rfl (fun _ => (rd_sidx tStr9 rfl rfl h983)) ?_
      refine s_rp (i := 5) rfl (by kernel_rfl) rfl (fun _ => (rd_sub_u8x rfl rfl)) ?_
      obtain ⟨x985, h986, q987⟩ := ob q984; clear q984
      refine s_rp (i := 6) rfl (by kernel_rfl) rfl (fun _ => (rd_shl_u8 h986 rfl rfl)) ?_
      refine s_rp (i := 7) rfl (by kernel_rfl) rfl (fun _ => (rd_fld tF51_0 rfl)) ?_
      refine s_rd (i := 8) rfl (by kernel_rfl) rfl (fun _ hS => by rw [hS]; exact (rd_ld1 tO9 rfl (hm980.blk 0 rfl) (off := 0) rfl)) rfl ?_
      refine s_rp (i := 9) rfl (by kernel_rfl) rfl (fun _ => (rd_move rfl)) ?_
      obtain ⟨x988, h989, q990⟩ := ob q987; clear q987
      refine s_rp (i := 10) rfl (by kernel_rfl) rfl (fun _ => (rd_add64 h989 rfl rfl)) ?_
      obtain ⟨x991, h992, q993⟩ := ob q990; clear q990
      refine s_rp (i := 11) rfl (by kernel_rfl) rfl (fun _ => (rd_sidx tStr9 rfl rfl h992)) ?_
      refine s_rp (i := 12) rfl (by kernel_rfl) rfl (fun _ => (rd_sub_u8x rfl rfl)) ?_
      refine s_rp (i := 13) rfl (by kernel_rfl) rfl (fun _ => (rd_or8 rfl rfl)) ?_
      refine s_ef (i := 14) rfl (by kernel_rfl) rfl (ef_bslice (l := ([(x985 ||| (toU8 ((x991.toNat : Int) - 48)))] : List UInt8)) hm980 tS60 rfl (cs := #[(Value.int .u8 ((x985 ||| (toU8 ((x991.toNat : Int) - 48))).toNat : Int))]) (by unfold bsl; kernel_rfl) rfl rfl) (by decide) (fun _ _ _ q => absurd q (by decide)) ?_
      intro v994 w996 hm995
      obtain ⟨l997, h998, q999⟩ := ob q993; clear q993
      refine s_ef (i := 15) rfl (by kernel_rfl) rfl (ef_append (k := 2) hm995 tS60 tE5 rfl rfl rfl rfl (hm995.sl 0 rfl) h998) (by decide) (fun _ _ _ q => absurd q (by decide)) ?_
      intro v1000 w1002 hm1001
      refine s_rp (i := 16) rfl (by kernel_rfl) rfl (fun _ => (rd_assign rfl)) ?_
      refine s_nil (by kernel_rfl) ?_
      refine qn_block (qn_then ?_)
      refine cw_region ?_
      refine t_mv rfl rfl ?_
      obtain ⟨x1003, h1004, q1005⟩ := ob q999; clear q999
      refine t_rd rfl (rd_add64 h1004 rfl rfl) (t_as rfl rfl (rwt_n ?_))
      refine ⟨_, (os q1005), v1000, (by repeat (first | exact Sub.nil _ | refine Sub.cons rfl ?_)), (hm1001.pick [1, 2] (by decide) rfl)⟩
     ·refine cw_f rfl hb955 ?_
      refine cw_exit ?_
      refine qx_then (qx_then ?_)
      obtain rfl := hr950 _ (os q956)
      exact ⟨rfl, v944, (by repeat (first | exact Sub.nil _ | refine Sub.cons rfl ?_)), (hm954.pick [0, 1] (by decide) rfl)⟩
    ·skip
     intro e env1006 w1007 hX1008
     obtain ⟨rfl, v941, hs1009, hm1010⟩ := hX1008
     refine qx_same (qn_then ?_)
     refine cw_sub hs1009 ?_
     refine cw_seq ?_
     obtain ⟨j1075, hit1076, q1077⟩ := ob q953; clear q953
     refine cw_join (X := fun eq envq wq => eq = .normal ∧ ∃ (v1074 : Value), Sub [(5, v1074), (7, (Value.pointer (some ⟨g830, 0, none⟩))), (19, v0), (20, (Value.int .i64 (List.length a0 : Int))), (21, (Value.int .i64 i812))] envq ∧ Mem w No [blk g830 51 [(Value.string (bs x827.Number)), (Value.int .i64 x827.Length), (Value.int .i64 x827.Axles), (Value.int .i64 x827.Mass), (Value.int .i64 x827.Brake), (Value.int .i64 x827.Goods), (Value.bool x827.Gentle), (Value.string (bs x827.Dest))], ownL 5 v1074 (j1075 : List UInt8)] wq) ?_ ?_
     ·clear q1077
      obtain ⟨w1094, he1096⟩ : ∃ q, q = w1007.drew := ⟨_, rfl⟩
      have hm1095 := hm1010.drew; rw [← he1096] at hm1095
      refine cw_region_s (fun q => (blk g830 51 [(Value.string (bs x827.Number)), (Value.int .i64 x827.Length), (Value.int .i64 x827.Axles), (Value.int .i64 x827.Mass), (Value.int .i64 x827.Brake), (Value.int .i64 x827.Goods), (Value.bool x827.Gentle), (Value.string (bs x827.Dest))]).φ q) (cls [3, 7] [8]) mixed ?_
      rintro _ rfl; rw [← he1096]
      refine s_rp (i := 0) rfl (by kernel_rfl) rfl (fun _ => (rd_move rfl)) ?_
      refine s_rp (i := 1) rfl (by kernel_rfl) rfl (fun _ => (rd_fld tF51_1 rfl)) ?_
      refine s_rd (i := 2) rfl (by kernel_rfl) rfl (fun w1093 hS => (rd_ld1 tO3 rfl (cells_blk hS) (off := 1) rfl)) (hm1095.get (k := 0) rfl) ?_
      refine s_rp (i := 4) rfl (by kernel_rfl) rfl (fun _ => (rd_fld tF51_2 rfl)) ?_
      refine s_rd (i := 5) rfl (by kernel_rfl) rfl (fun w1093 hS => (rd_ld1 tO3 rfl (cells_blk hS) (off := 2) rfl)) (hm1095.get (k := 0) rfl) ?_
      refine s_rp (i := 6) rfl (by kernel_rfl) rfl (fun _ => (rd_cv8 tH3 tI5 rfl)) ?_
      refine s_br2 (i := 3) (j := 7) (by kernel_rfl) ?_ ?_
      ·skip
       obtain ⟨l1112, h1113, q1114⟩ := ob hit1076; clear hit1076
       refine e_ef (i := 3) rfl rfl (ef_call tf47 rfl (consist_two_ok h1113 (k := 1) hm1095 rfl)) (by decide) ?_ ?_
       ·rintro v1115 w1117 ⟨_, rfl, hm1116⟩
        intro _
        exact (hm1116.get (k := 0) rfl)
       rintro v1115 w1117 ⟨_, rfl, hm1116⟩
       refine s_ef (i := 7) rfl (by kernel_rfl) rfl (ef_bslice (l := ([(toU8 x827.Axles)] : List UInt8)) hm1116 tS60 rfl (cs := #[(Value.int .u8 ((toU8 x827.Axles).toNat : Int))]) (by unfold bsl; kernel_rfl) rfl rfl) (by decide) ?_ ?_
       ·intro v1118 w1120 hm1119
        intro _
        exact (hm1119.get (k := 1) rfl)
       intro v1118 w1120 hm1119
       obtain ⟨l1121, h1122, q1123⟩ := ob q1114; clear q1114
       refine s_ef (i := 8) rfl (by kernel_rfl) rfl (ef_append (k := 2) hm1119 tS60 tE5 rfl rfl rfl rfl (hm1119.sl 0 rfl) h1122) (by decide) (fun _ _ _ q => absurd q (by decide)) ?_
       intro v1124 w1126 hm1125
       refine s_rp (i := 9) rfl (by kernel_rfl) rfl (fun _ => (rd_assign rfl)) ?_
       refine s_nil (by kernel_rfl) ?_
       obtain rfl := os q1123
       exact ⟨rfl, v1124, (by repeat (first | exact Sub.nil _ | refine Sub.cons rfl ?_)), (hm1125.pick [1, 2] (by decide) rfl)⟩
      ·skip
       refine e_ef (i := 7) rfl rfl (ef_bslice (l := ([(toU8 x827.Axles)] : List UInt8)) hm1095 tS60 rfl (cs := #[(Value.int .u8 ((toU8 x827.Axles).toNat : Int))]) (by unfold bsl; kernel_rfl) rfl rfl) (by decide) ?_ ?_
       ·intro v1127 w1129 hm1128
        intro _
        exact (hm1128.get (k := 1) rfl)
       intro v1127 w1129 hm1128
       obtain ⟨l1112, h1130, q1131⟩ := ob hit1076; clear hit1076
       refine s_ef (i := 3) rfl (by kernel_rfl) rfl (ef_call tf47 rfl (consist_two_ok h1130 (k := 2) hm1128 rfl)) (by decide) ?_ ?_
       ·rintro v1132 w1134 ⟨_, rfl, hm1133⟩
        intro _
        exact (hm1133.get (k := 1) rfl)
       rintro v1132 w1134 ⟨_, rfl, hm1133⟩
       obtain ⟨l1121, h1135, q1136⟩ := ob q1131; clear q1131
       refine s_ef (i := 8) rfl (by kernel_rfl) rfl (ef_append (k := 2) hm1133 tS60 tE5 rfl rfl rfl rfl (hm1133.sl 0 rfl) h1135) (by decide) (fun _ _ _ q => absurd q (by decide)) ?_
       intro v1137 w1139 hm1138
       refine s_rp (i := 9) rfl (by kernel_rfl) rfl (fun _ => (rd_assign rfl)) ?_
       refine s_nil (by kernel_rfl) ?_
       obtain rfl := os q1136
       exact ⟨rfl, v1137, (by repeat (first | exact Sub.nil _ | refine Sub.cons rfl ?_)), (hm1138.pick [1, 2] (by decide) rfl)⟩
     ·clear hit1076
      intro e env1140 w1141 hX1142
      obtain ⟨rfl, v1074, hs1143, hm1144⟩ := hX1142
      refine qn_then ?_
      refine cw_sub hs1143 ?_
      refine cw_seq ?_
      obtain ⟨w1158, he1160⟩ : ∃ q, q = w1141.drew := ⟨_, rfl⟩
      have hm1159 := hm1144.drew; rw [← he1160] at hm1159
      refine cw_region_s (fun q => (blk g830 51 [(Value.string (bs x827.Number)), (Value.int .i64 x827.Length), (Value.int .i64 x827.Axles), (Value.int .i64 x827.Mass), (Value.int .i64 x827.Brake), (Value.int .i64 x827.Goods), (Value.bool x827.Gentle), (Value.string (bs x827.Dest))]).φ q) (cls [3] [6]) mixed ?_
      rintro _ rfl; rw [← he1160]
      refine s_rp (i := 0) rfl (by kernel_rfl) rfl (fun _ => (rd_move rfl)) ?_
      refine s_rp (i := 1) rfl (by kernel_rfl) rfl (fun _ => (rd_fld tF51_3 rfl)) ?_
      refine s_rd (i := 2) rfl (by kernel_rfl) rfl (fun w1157 hS => (rd_ld1 tO3 rfl (cells_blk hS) (off := 3) rfl)) (hm1159.get (k := 0) rfl) ?_
      refine s_rp (i := 4) rfl (by kernel_rfl) rfl (fun _ => (rd_fld tF51_4 rfl)) ?_
      refine s_rd (i := 5) rfl (by kernel_rfl) rfl (fun w1157 hS => (rd_ld1 tO3 rfl (cells_blk hS) (off := 4) rfl)) (hm1159.get (k := 0) rfl) ?_
      obtain ⟨l1173, h1174, q1175⟩ := ob q1077; clear q1077
      refine s_ef (i := 3) rfl (by kernel_rfl) rfl (ef_call tf47 rfl (consist_two_ok h1174 (k := 1) hm1159 rfl)) (by decide) ?_ ?_
      ·rintro v1176 w1178 ⟨_, rfl, hm1177⟩
       intro _
       exact (hm1177.get (k := 0) rfl)
      rintro v1176 w1178 ⟨_, rfl, hm1177⟩
      obtain ⟨l1179, h1180, q1181⟩ := ob q1175; clear q1175
      refine s_ef (i := 6) rfl (by kernel_rfl) rfl (ef_call tf47 rfl (consist_two_ok h1180 (k := 1) hm1177 rfl)) (by decide) (fun _ _ _ q => absurd q (by decide)) ?_
      rintro v1182 w1184 ⟨_, rfl, hm1183⟩
      refine s_rp (i := 7) rfl (by kernel_rfl) rfl (fun _ => (rd_assign rfl)) ?_
      refine s_nil (by kernel_rfl) ?_
      refine qn_then (cw_sr (t_rd rfl (rd_fld tF51_5 rfl) ?_))
      refine t_rd rfl (rd_ld1 tO3 rfl (hm1183.blk 0 rfl) (off := 5) rfl) ?_
      refine t_as rfl rfl (rwt_n (cw_seq (cw_sr (t_rd rfl (rd_fld tF51_6 rfl) ?_))))
      refine t_rd rfl (rd_ld1 tO4 rfl (hm1183.blk 0 rfl) (off := 6) rfl) ?_
      refine rwt_n ?_
      obtain ⟨j1191, hit1192, q1193⟩ := ob q1181; clear q1181
      refine cw_join (X := fun eq envq wq => eq = .normal ∧ Sub [(5, v1182), (7, (Value.pointer (some ⟨g830, 0, none⟩))), (9, (Value.int .i64 j1191)), (19, v0), (20, (Value.int .i64 (List.length a0 : Int))), (21, (Value.int .i64 i812))] envq ∧ Mem w No [blk g830 51 [(Value.string (bs x827.Number)), (Value.int .i64 x827.Length), (Value.int .i64 x827.Axles), (Value.int .i64 x827.Mass), (Value.int .i64 x827.Brake), (Value.int .i64 x827.Goods), (Value.bool x827.Gentle), (Value.string (bs x827.Dest))], ownL 5 v1182 (l1179 : List UInt8)] wq) ?_ ?_
      ·clear q1193
       obtain ⟨hb1194, q1195⟩ | ⟨hb1194, q1195⟩ := oi hit1192 <;> clear hit1192
       ·refine cw_t rfl hb1194 ?_
        refine cw_region ?_
        refine t_mv rfl rfl ?_
        obtain ⟨x1196, h1197, q1198⟩ := ob q1195; clear q1195
        refine t_rd rfl (rd_add64 h1197 rfl rfl) (t_as rfl rfl ?_)
        refine rwt_nil ?_
        obtain rfl := os q1198
        exact ⟨rfl, (by repeat (first | exact Sub.nil _ | refine Sub.cons rfl ?_)), (hm1183.pick [0, 1] (by decide) rfl)⟩
       ·refine cw_f rfl hb1194 (cw_skip ?_)
        obtain rfl := os q1195
        exact ⟨rfl, (by repeat (first | exact Sub.nil _ | refine Sub.cons rfl ?_)), (hm1183.pick [0, 1] (by decide) rfl)⟩
      ·clear hit1192
       intro e env1199 w1200 hX1201
       obtain ⟨rfl, hs1202, hm1203⟩ := hX1201
       refine qn_then ?_
       refine cw_sub hs1202 ?_
       refine cw_sr (t_mv rfl rfl (t_mv rfl rfl ?_))
       refine t_rd rfl (rd_cv8 tH3 tI5 rfl) ?_
       refine t_rd rfl (rd_fld tF51_7 rfl) ?_
       refine t_rd rfl (rd_ld1 tO9 rfl (hm1203.blk 0 rfl) (off := 7) rfl) ?_
       refine t_rd rfl (rd_lenst tStr9 rfl) ?_
       refine t_rd rfl (rd_cv8 tH3 tI5 rfl) ?_
       refine t_ef rfl (ef_bslice (l := ([(toU8 j1191), (toU8 (List.length x827.Dest : Int))] : List UInt8)) hm1203 tS60 rfl (cs := #[(Value.int .u8 ((toU8 j1191).toNat : Int)), (Value.int .u8 ((toU8 (List.length x827.Dest : Int)).toNat : Int))]) (by unfold bsl; kernel_rfl) rfl rfl) ?_
       intro v1204 w1206 hm1205
       obtain ⟨l1207, h1208, q1209⟩ := ob q1193; clear q1193
       refine t_ef rfl (ef_append (k := 2) hm1205 tS60 tE5 rfl rfl rfl rfl (hm1205.sl 0 rfl) h1208) ?_
       intro v1210 w1212 hm1211
       refine t_as rfl rfl (rwt_n ?_)
       refine cw_region ?_
       refine t_mv rfl rfl (t_rd rfl (rd_fld tF51_7 rfl) ?_)
       refine t_rd rfl (rd_ld1 tO9 rfl (hm1211.blk 1 rfl) (off := 7) rfl) ?_
       obtain ⟨l1213, h1214, q1215⟩ := ob q1209; clear q1209
       refine t_ef rfl (ef_appendS (k := 2) hm1211 tS60 tStr9 tE5 rfl rfl rfl h1214 (app_ne h1208 (by simp))) ?_
       intro v1216 w1218 hm1217
       refine t_as rfl rfl ?_
       refine rwt_nil ?_
       refine qn_block (qn_then ?_)
       refine cw_region ?_
       obtain ⟨x1219, h1220, q1221⟩ := ob q1215; clear q1215
       refine t_rd rfl (rd_add64 h1220 rfl rfl) (t_mv rfl rfl (rwt_n ?_))
       refine ⟨_, (os q1221), v1216, (by repeat (first | exact Sub.nil _ | refine Sub.cons rfl ?_)), (hm1217.pick [2] (by decide) rfl)⟩
   ·refine cw_f rfl hb825 ?_
    refine cw_exit ?_
    refine qx_then (qx_then ?_)
    obtain rfl := hr820 _ (os q826)
    exact ⟨rfl, v814, (by repeat (first | exact Sub.nil _ | refine Sub.cons rfl ?_)), (hm824.pick [0] (by decide) rfl)⟩
  ·skip
   intro e env1222 w1223 hX1224
   obtain ⟨rfl, v811, hs1225, hm1226⟩ := hX1224
   refine qx_same (qn_then ?_)
   refine cw_sub hs1225 ?_
   refine cw_sr (t_mv rfl rfl (t_mv rfl rfl ?_))
   obtain ⟨r1227, h1228, q1229⟩ := ob q823; clear q823
   refine t_ef rfl (ef_call tf48 rfl (consist_Check_ok h1228 (hm1226.sl_call 0 rfl))) ?_
   rintro _ w1231 ⟨e_, hm1230⟩
   obtain rfl := e_.symm
   have hm1232 := hm1226.call hm1230
   obtain ⟨l1233, h1234, q1235⟩ := ob q1229; clear q1229
   refine t_ef rfl (ef_call tf47 rfl (consist_two_ok h1234 (k := 0) hm1232 rfl)) ?_
   rintro v1236 w1238 ⟨_, rfl, hm1237⟩
   refine t_as rfl rfl (t_as rfl rfl (rwt_n ?_))
   refine cw_ret ?_
   obtain rfl := os q1235
   exact ret2 rfl rfl rfl ⟨v1236, rfl, (hm1237.pick [0] (by decide) rfl)⟩

theorem consist_end_ok {N : Nat} {a0 : List UInt8} {res : Int × Bool} (h : consist_end N a0 = some res) {w : World} {v0 : Value} (hv0 : Sl (Old w No) w v0 a0) :
  CallsR Tryz.prog 49 [v0] w (fun u w' => u = (Value.tuple #[(Value.int .i64 res.1), (Value.bool res.2)]) ∧ Mem w No [] w') := by
 unfold consist_end at h
 refine fn_ok Tryz.func49 rfl rfl rfl ?_
 have hm0 := Mem.nil w
 refine cw_sr (t_as rfl rfl (t_as rfl rfl (rwt_n (cw_seq (cw_sr ?_)))))
 refine t_mv rfl rfl ?_
 refine t_rd rfl (rd_lenS tS60 rfl (hv0.of_old hm0)) ?_
 refine t_rd rfl (rd_eql rfl rfl) ?_
 refine rwt_n ?_
 obtain ⟨hb1, q2⟩ | ⟨hb1, q2⟩ := oi h <;> clear h
 ·refine cw_t rfl hb1 (cw_sr (t_as rfl rfl (t_as rfl rfl (rwt_n ?_))))
  refine cw_ret ?_
  refine qr_then ?_
  obtain rfl := os q2
  exact ret2 rfl rfl rfl ⟨rfl, (hm0.pick [] (by decide) rfl)⟩
 ·refine cw_f rfl hb1 (cw_skip (qn_then (cw_sr (t_as rfl rfl (rwt_n ?_)))))
  refine cw_seq (cw_sr (t_as rfl rfl (rwt_n (cw_block ?_))))
  obtain ⟨r70, hit71, q72⟩ := ob q2; clear q2
  refine cw_loop2 (I := fun q envq wq => Sub [(0, v0), (4, (Value.int .i64 q.1)), (5, (Value.int .i64 q.2))] envq ∧ Mem w No [] wq) (X := fun eq envq wq => (∃ p73, r70 = (Sum.inl p73) ∧ eq = .ret ∧ retQ Tryz.prog 38 Tryz.f49 (fun u w' => u = (Value.tuple #[(Value.int .i64 p73.1), (Value.bool p73.2)]) ∧ Mem w No [] w') .ret envq wq) ∨ (∃ p74, r70 = (Sum.inr p74) ∧ eq = .exit 0 ∧ Sub [(0, v0), (4, (Value.int .i64 p74))] envq ∧ Mem w No [] wq)) hit71 ⟨(by repeat (first | exact Sub.nil _ | refine Sub.cons rfl ?_)), (hm0.pick [] (by decide) rfl)⟩ ?_ ?_
  ·rintro ⟨i62, i63⟩ x65 env66 w67 hf68 hr69 ⟨hs_, hm_⟩
   have hs_ : Sub [(0, v0), (4, (Value.int .i64 i62)), (5, (Value.int .i64 i63))] env66 := hs_
   have hm75 : Mem w No [] w67 := hm_
   refine cw_sub hs_ ?_
   clear hs_ hm_ q72
   have h : consist_end_l1 N a0 i62 i63 = some x65 := hf68
   clear hf68
   refine cw_seq (cw_sr (t_mv rfl rfl (t_mv rfl rfl ?_)))
   obtain ⟨x76, h77, q78⟩ := ob h; clear h
   refine t_rd rfl (rd_index tS60 rfl rfl (hv0.of_old hm75) h77) ?_
   refine t_rd rfl (rd_ld1 tO5 rfl ((hv0.of_old hm75).cells h77) (off := 0) rfl) ?_
   obtain ⟨x79, h80, q81⟩ := ob q78; clear q78
   refine t_rd rfl (rd_cv64 tH5 tI3 h80 rfl) ?_
   refine t_rd rfl (rd_lss rfl rfl) (rwt_n ?_)
   obtain ⟨hb82, q83⟩ | ⟨hb82, q83⟩ := oi q81 <;> clear q81
   ·refine cw_t rfl hb82 (cw_skip (qn_then (cw_seq (cw_block (cw_sr ?_)))))
    refine t_mv rfl rfl ?_
    obtain ⟨x84, h85, q86⟩ := ob q83; clear q83
    refine t_rd rfl (rd_add64 h85 rfl rfl) (t_as rfl rfl (rwt_n (cw_seq (cw_sr (t_mv rfl rfl ?_)))))
    refine t_mv rfl rfl ?_
    refine t_rd rfl (rd_lenS tS60 rfl (hv0.of_old hm75)) ?_
    refine t_rd rfl (rd_gtr rfl rfl) ?_
    refine rwt_n ?_
    obtain ⟨hb87, q88⟩ | ⟨hb87, q88⟩ := oi q86 <;> clear q86
    ·refine cw_t rfl hb87 (cw_sr (t_as rfl rfl (t_as rfl rfl (rwt_n ?_))))
     refine cw_ret ?_
     refine qr_then (qr_block (qr_then (qr_then ?_)))
     obtain rfl := hr69 _ (os q88)
     refine .inl (⟨_, rfl, ⟨rfl, ?_⟩⟩)
     exact ret2 rfl rfl rfl ⟨rfl, (hm75.pick [] (by decide) rfl)⟩
    ·refine cw_f rfl hb87 (cw_skip (qn_then ?_))
     refine cw_region ?_
     refine t_mv rfl rfl (t_mv rfl rfl (t_mv rfl rfl ?_))
     obtain ⟨x89, h90, q91⟩ := ob q88; clear q88
     refine t_rd rfl (rd_sub64 h90 rfl rfl) ?_
     obtain ⟨x92, h93, q94⟩ := ob q91; clear q91
     refine t_rd rfl (rd_index tS60 rfl rfl (hv0.of_old hm75) h93) ?_
     refine t_rd rfl (rd_ld1 tO5 rfl ((hv0.of_old hm75).cells h93) (off := 0) rfl) ?_
     obtain ⟨x95, h96, q97⟩ := ob q94; clear q94
     refine t_rd rfl (rd_cv64 tH5 tI3 h96 rfl) ?_
     obtain ⟨x98, h99, q100⟩ := ob q97; clear q97
     refine t_rd rfl (rd_add64 h99 rfl rfl) (t_as rfl rfl ?_)
     refine rwt_nil ?_
     refine qn_block (qn_then ?_)
     refine cw_region ?_
     refine t_mv rfl rfl ?_
     obtain ⟨x101, h102, q103⟩ := ob q100; clear q100
     refine t_rd rfl (rd_add64 h102 rfl rfl) (t_as rfl rfl (rwt_n ?_))
     refine ⟨_, (os q103), (by repeat (first | exact Sub.nil _ | refine Sub.cons rfl ?_)), (hm75.pick [] (by decide) rfl)⟩
   ·refine cw_f rfl hb82 ?_
    refine cw_exit ?_
    refine qx_then (qx_then ?_)
    obtain rfl := hr69 _ (os q83)
    exact .inr (⟨_, rfl, ⟨rfl, (by repeat (first | exact Sub.nil _ | refine Sub.cons rfl ?_)), (hm75.pick [] (by decide) rfl)⟩⟩)
  ·skip
   intro e env104 w105 hX106
   rcases hX106 with hX106 | hX106
   ·obtain ⟨p108, rfl, hX106⟩ := hX106
    obtain ⟨rfl, hq110⟩ := hX106
    exact qr_block (qr_then ((by have e := os q72; subst e; exact hq110)))
   ·obtain ⟨p111, rfl, hX106⟩ := hX106
    obtain ⟨rfl, hs112, hm113⟩ := hX106
    refine qx_same (qn_then ?_)
    refine cw_sub hs112 ?_
    refine cw_sr (t_mv rfl rfl ?_)
    obtain ⟨x114, h115, q116⟩ := ob q72; clear q72
    refine t_rd rfl (rd_add64 h115 rfl rfl) (t_mv rfl rfl (t_rd rfl (rd_add64 h115 rfl rfl) (t_mv rfl rfl ?_)))
    refine t_rd rfl (rd_lenS tS60 rfl (hv0.of_old hm113)) ?_
    refine t_rd rfl (rd_leq rfl rfl) ?_
    refine t_as rfl rfl (t_as rfl rfl (rwt_n ?_))
    refine cw_ret ?_
    obtain rfl := os q116
    exact ret2 rfl rfl rfl ⟨rfl, (hm113.pick [] (by decide) rfl)⟩

theorem reader_one_ok {N : Nat} {a0_b : List UInt8} {a0_at_ : Int} {res : Int × Int} (h : reader_one N a0_b a0_at_ = some res) {w : World} {v0_b : Value} {g0 : Nat} (hv0_b : Sl (Old w (fun k => k = g0)) w v0_b a0_b) (hk0 : (blk g0 114 [v0_b, (Value.int .i64 a0_at_)]).φ w) :
  CallsR Tryz.prog 75 [(Value.pointer (some ⟨g0, 0, none⟩))] w (fun u w' => u = (Value.int .i64 res.2) ∧ Mem w (fun k => k = g0) [blk g0 114 [v0_b, (Value.int .i64 res.1)]] w') := by
 unfold reader_one at h
 refine fn_ok Tryz.func75 rfl rfl rfl ?_
 have hm0 := Mem.one hk0
 refine cw_sr (t_as rfl rfl (rwt_n (cw_sr (t_mv rfl rfl ?_))))
 refine t_rd rfl (rd_nilCheck rfl) ?_
 refine t_rd rfl (rd_fld tF114_1 rfl) ?_
 refine t_rd rfl (rd_ld1 tO3 rfl (hm0.blk 0 rfl) (off := 1) rfl) ?_
 obtain ⟨x28, h29, q30⟩ := ob h; clear h
 refine t_rd rfl (rd_add64 h29 rfl rfl) ?_
 refine t_rd rfl (rd_nilCheck rfl) ?_
 refine t_rd rfl (rd_fld tF114_1 rfl) ?_
 refine t_ef0 (ef_st1 (k := 0) (off := 1) hm0 tO3 rfl rfl rfl rfl rfl rfl) ?_
 intro _ w32 hm31
 refine rwt_n (cw_seq ?_)
 obtain ⟨w43, he45⟩ : ∃ q, q = w32.drew := ⟨_, rfl⟩
 have hm44 := hm31.drew; rw [← he45] at hm44
 refine cw_region_s (fun q => q = w43) (cls [] []) mixed ?_
 rintro _ rfl; rw [← he45]
 refine s_rp (i := 0) rfl (by kernel_rfl) rfl (fun _ => (rd_move rfl)) ?_
 refine s_rp (i := 1) rfl (by kernel_rfl) rfl (fun _ => (rd_nilCheck rfl)) ?_
 refine s_rp (i := 2) rfl (by kernel_rfl) rfl (fun _ => (rd_fld tF114_0 rfl)) ?_
 refine s_rd (i := 3) rfl (by kernel_rfl) rfl (fun _ hS => by rw [hS]; exact (rd_ld1 tO60 rfl (hm44.blk 0 rfl) (off := 0) rfl)) rfl ?_
 refine s_rp (i := 4) rfl (by kernel_rfl) rfl (fun _ => (rd_move rfl)) ?_
 refine s_rp (i := 5) rfl (by kernel_rfl) rfl (fun _ => (rd_nilCheck rfl)) ?_
 refine s_rp (i := 6) rfl (by kernel_rfl) rfl (fun _ => (rd_fld tF114_1 rfl)) ?_
 refine s_rd (i := 7) rfl (by kernel_rfl) rfl (fun _ hS => by rw [hS]; exact (rd_ld1 tO3 rfl (hm44.blk 0 rfl) (off := 1) rfl)) rfl ?_
 obtain ⟨x46, h47, q48⟩ := ob q30; clear q30
 refine s_rp (i := 8) rfl (by kernel_rfl) rfl (fun _ => (rd_sub64 h47 rfl rfl)) ?_
 obtain ⟨x49, h50, q51⟩ := ob q48; clear q48
 refine s_rp (i := 9) rfl (by kernel_rfl) rfl (fun _ => (rd_index tS60 rfl rfl (hv0_b.of_old hm44) h50)) ?_
 refine s_rd (i := 10) rfl (by kernel_rfl) rfl (fun _ hS => by rw [hS]; exact (rd_ld1 tO5 rfl ((hv0_b.of_old hm44).cells h50) (off := 0) rfl)) rfl ?_
 obtain ⟨x52, h53, q54⟩ := ob q51; clear q51
 refine s_rp (i := 11) rfl (by kernel_rfl) rfl (fun _ => (rd_cv64 tH5 tI3 h53 rfl)) ?_
 refine s_rp (i := 12) rfl (by kernel_rfl) rfl (fun _ => (rd_assign rfl)) ?_
 refine s_nil (by kernel_rfl) ?_
 refine qn_then ?_
 refine cw_ret ?_
 obtain rfl := os q54
 exact ret1 rfl rfl ⟨rfl, (hm44.pick [0] (by decide) rfl)⟩

theorem reader_two_ok {N : Nat} {a0_b : List UInt8} {a0_at_ : Int} {res : Int × Int} (h : reader_two N a0_b a0_at_ = some res) {w : World} {v0_b : Value} {g0 : Nat} (hv0_b : Sl (Old w (fun k => k = g0)) w v0_b a0_b) (hk0 : (blk g0 114 [v0_b, (Value.int .i64 a0_at_)]).φ w) :
  CallsR Tryz.prog 50 [(Value.pointer (some ⟨g0, 0, none⟩))] w (fun u w' => u = (Value.int .i64 res.2) ∧ Mem w (fun k => k = g0) [blk g0 114 [v0_b, (Value.int .i64 res.1)]] w') := by
 unfold reader_two at h
 refine fn_ok Tryz.func50 rfl rfl rfl ?_
 have hm0 := Mem.one hk0
 refine cw_sr (t_as rfl rfl (rwt_n (cw_sr (t_mv rfl rfl ?_))))
 obtain ⟨r19, h20, q21⟩ := ob h; clear h
 refine t_ef rfl (ef_call tf75 rfl (reader_one_ok h20 (hv0_b.to_callT (k := 0) hm0 rfl) (hm0.get (k := 0) rfl))) ?_
 rintro _ w23 ⟨e_, hm22⟩
 obtain rfl := e_.symm
 have hm24 := hm0.callT (k := 0) rfl (fun _ h => h) hm22 (fun _ => Iff.rfl)
 refine t_as rfl rfl (rwt_n (cw_sr (t_mv rfl rfl ?_)))
 obtain ⟨x25, h26, q27⟩ := ob q21; clear q21
 refine t_rd rfl (rd_shl_i64 h26 rfl rfl) ?_
 refine t_mv rfl rfl ?_
 obtain ⟨r28, h29, q30⟩ := ob q27; clear q27
 refine t_ef rfl (ef_call tf75 rfl (reader_one_ok h29 (hv0_b.to_callT (k := 0) hm24 rfl) (hm24.get (k := 0) rfl))) ?_
 rintro _ w32 ⟨e_, hm31⟩
 obtain rfl := e_.symm
 have hm33 := hm24.callT (k := 0) rfl (fun _ h => h) hm31 (fun _ => Iff.rfl)
 obtain ⟨x34, h35, q36⟩ := ob q30; clear q30
 refine t_rd rfl (rd_bits_or_i64 h35 rfl rfl) ?_
 refine t_as rfl rfl (rwt_n ?_)
 refine cw_ret ?_
 obtain rfl := os q36
 exact ret1 rfl rfl ⟨rfl, (hm33.pick [0] (by decide) rfl)⟩

set_option maxHeartbeats 4000000 in
theorem reader_wagon_ok {N : Nat} {a0_b : List UInt8} {a0_at_ : Int} {res : Int × T_Wagon × Bool} (h : reader_wagon N a0_b a0_at_ = some res) {w : World} {v0_b : Value} {g0 : Nat} (hv0_b : Sl (Old w (fun k => k = g0)) w v0_b a0_b) (hk0 : (blk g0 114 [v0_b, (Value.int .i64 a0_at_)]).φ w) :
  CallsR Tryz.prog 51 [(Value.pointer (some ⟨g0, 0, none⟩))] w (fun u w' => u = (Value.tuple #[(Value.agg (Flat.enc res.2.1).toArray), (Value.bool res.2.2)]) ∧ Mem w (fun k => k = g0) [blk g0 114 [v0_b, (Value.int .i64 res.1)]] w') := by
 unfold reader_wagon at h
 refine fn_ok Tryz.func51 rfl rfl rfl ?_
 have hm0 := Mem.one hk0
 refine cw_sr ?_
 refine t_ef rfl (ef_alloc hm0 tZ51 rfl) ?_
 rintro _ w308 ⟨g306, rfl, hm307⟩
 refine t_as rfl rfl (rwt_n (cw_sr ?_))
 refine t_ef rfl (ef_alloc hm307 tZ51 rfl) ?_
 rintro _ w311 ⟨g309, rfl, hm310⟩
 refine rwt_n (cw_sr (t_as rfl rfl (rwt_n (cw_sr (t_as rfl rfl (rwt_n (cw_seq ?_)))))))
 refine cw_sr (t_as rfl rfl (rwt_n (cw_block ?_)))
 have hm359 := hm310.addNil (α := UInt8) 5
 obtain ⟨r475, hit476, q477⟩ := ob h; clear h
 refine cw_loop2 (I := fun q envq wq => ∃ (v468 : Value), Sub [(0, (Value.pointer (some ⟨g0, 0, none⟩))), (2, (Value.pointer (some ⟨g306, 0, none⟩))), (4, (Value.pointer (some ⟨g309, 0, none⟩))), (5, v468), (6, (Value.bool q.1)), (7, (Value.int .i64 q.2.1))] envq ∧ Mem w (fun k => k = g0) [ownL 5 v468 (q.2.2.2 : List UInt8), blk g309 51 [(Value.string (bs [])), (Value.int .i64 0), (Value.int .i64 0), (Value.int .i64 0), (Value.int .i64 0), (Value.int .i64 0), (Value.bool false), (Value.string (bs []))], blk g306 51 [(Value.string (bs [])), (Value.int .i64 0), (Value.int .i64 0), (Value.int .i64 0), (Value.int .i64 0), (Value.int .i64 0), (Value.bool false), (Value.string (bs []))], blk g0 114 [v0_b, (Value.int .i64 q.2.2.1)]] wq) (X := fun eq envq wq => eq = .exit 0 ∧ ∃ (v463 : Value), Sub [(0, (Value.pointer (some ⟨g0, 0, none⟩))), (2, (Value.pointer (some ⟨g306, 0, none⟩))), (4, (Value.pointer (some ⟨g309, 0, none⟩))), (5, v463), (6, (Value.bool r475.1))] envq ∧ Mem w (fun k => k = g0) [ownL 5 v463 (r475.2.2 : List UInt8), blk g309 51 [(Value.string (bs [])), (Value.int .i64 0), (Value.int .i64 0), (Value.int .i64 0), (Value.int .i64 0), (Value.int .i64 0), (Value.bool false), (Value.string (bs []))], blk g306 51 [(Value.string (bs [])), (Value.int .i64 0), (Value.int .i64 0), (Value.int .i64 0), (Value.int .i64 0), (Value.int .i64 0), (Value.bool false), (Value.string (bs []))], blk g0 114 [v0_b, (Value.int .i64 r475.2.1)]] wq) hit476 ⟨(Value.slice none 0 0), (by repeat (first | exact Sub.nil _ | refine Sub.cons rfl ?_)), (hm359.pick [0, 1, 2, 3] (by decide) rfl)⟩ ?_ ?_
 ·rintro ⟨b464, i465, i466, l467⟩ x470 env471 w472 hf473 hr474 ⟨v468, hs_, hm_⟩
  have hs_ : Sub [(0, (Value.pointer (some ⟨g0, 0, none⟩))), (2, (Value.pointer (some ⟨g306, 0, none⟩))), (4, (Value.pointer (some ⟨g309, 0, none⟩))), (5, v468), (6, (Value.bool b464)), (7, (Value.int .i64 i465))] env471 := hs_
  have hm478 : Mem w (fun k => k = g0) [ownL 5 v468 (l467 : List UInt8), blk g309 51 [(Value.string (bs [])), (Value.int .i64 0), (Value.int .i64 0), (Value.int .i64 0), (Value.int .i64 0), (Value.int .i64 0), (Value.bool false), (Value.string (bs []))], blk g306 51 [(Value.string (bs [])), (Value.int .i64 0), (Value.int .i64 0), (Value.int .i64 0), (Value.int .i64 0), (Value.int .i64 0), (Value.bool false), (Value.string (bs []))], blk g0 114 [v0_b, (Value.int .i64 i466)]] w472 := hm_
  refine cw_sub hs_ ?_
  clear hs_ hm_ q477
  have h : reader_wagon_l1 N a0_b b464 i465 i466 l467 = some x470 := hf473
  clear hf473
  refine cw_seq (cw_sr (t_mv rfl rfl (t_rd rfl (rd_lss rfl rfl) (rwt_n ?_))))
  obtain ⟨hb479, q480⟩ | ⟨hb479, q480⟩ := oi h <;> clear h
  ·refine cw_t rfl hb479 (cw_skip (qn_then (cw_seq (cw_block (cw_sr ?_)))))
   refine t_mv rfl rfl ?_
   obtain ⟨r481, h482, q483⟩ := ob q480; clear q480
   refine t_ef rfl (ef_call tf75 rfl (reader_one_ok h482 (hv0_b.to_callT (k := 3) hm478 rfl) (hm478.get (k := 3) rfl))) ?_
   rintro _ w485 ⟨e_, hm484⟩
   obtain rfl := e_.symm
   have hm486 := hm478.callT (k := 3) rfl (fun _ h => h) hm484 (fun _ => Iff.rfl)
   refine t_as rfl rfl (rwt_n (cw_sr (t_mv rfl rfl (t_mv rfl rfl ?_))))
   refine t_rdg rfl rfl rfl rfl (gv_t _) (fun hg487 => (rd_move rfl)) ?_
   obtain ⟨x489, h490, q491⟩ := ob q483; clear q483
   refine t_rdg rfl rfl rfl rfl (gv_t _) (fun hg488 => (rd_shr_i64 (gO_t h490 hg488) (gvx rfl hg488) rfl)) ?_
   refine t_rdg rfl rfl rfl rfl (gv_t _) (fun hg492 => (rd_leq (gvx rfl hg492) rfl)) ?_
   refine t_rd rfl (rd_and rfl (fun hc493 => (gvx rfl hc493))) ?_
   refine t_mv rfl rfl ?_
   refine t_rdg rfl rfl rfl rfl (gv_t _) (fun hg494 => (rd_move rfl)) ?_
   obtain ⟨x496, h497, q498⟩ := ob q491; clear q491
   refine t_rdg rfl rfl rfl rfl (gv_t _) (fun hg495 => (rd_bits_and_i64 (gO_t h497 hg495) (gvx rfl hg495) rfl)) ?_
   refine t_rdg rfl rfl rfl rfl (gv_t _) (fun hg499 => (rd_leq (gvx rfl hg499) rfl)) ?_
   refine t_rd rfl (rd_and rfl (fun hc500 => (gvx rfl hc500))) ?_
   refine t_as rfl rfl (rwt_n ?_)
   refine cw_region ?_
   refine t_mv rfl rfl (t_mv rfl rfl ?_)
   obtain ⟨x501, h502, q503⟩ := ob q498; clear q498
   refine t_rd rfl (rd_shr_i64 h502 rfl rfl) ?_
   obtain ⟨x504, h505, q506⟩ := ob q503; clear q503
   refine t_rd rfl (rd_add64 h505 rfl rfl) ?_
   refine t_rd rfl (rd_cv8 tH3 tI5 rfl) ?_
   refine t_mv rfl rfl ?_
   obtain ⟨x507, h508, q509⟩ := ob q506; clear q506
   refine t_rd rfl (rd_bits_and_i64 h508 rfl rfl) ?_
   obtain ⟨x510, h511, q512⟩ := ob q509; clear q509
   refine t_rd rfl (rd_add64 h511 rfl rfl) ?_
   refine t_rd rfl (rd_cv8 tH3 tI5 rfl) ?_
   refine t_ef rfl (ef_bslice (l := ([(toU8 x504), (toU8 x510)] : List UInt8)) hm486 tS60 rfl (cs := #[(Value.int .u8 ((toU8 x504).toNat : Int)), (Value.int .u8 ((toU8 x510).toNat : Int))]) (by unfold bsl; kernel_rfl) rfl rfl) ?_
   intro v513 w515 hm514
   obtain ⟨l516, h517, q518⟩ := ob q512; clear q512
   refine t_ef rfl (ef_append (k := 1) hm514 tS60 tE5 rfl rfl rfl rfl (hm514.sl 0 rfl) h517) ?_
   intro v519 w521 hm520
   refine t_as rfl rfl ?_
   refine rwt_nil ?_
   refine qn_block (qn_then ?_)
   refine cw_region ?_
   refine t_mv rfl rfl ?_
   obtain ⟨x522, h523, q524⟩ := ob q518; clear q518
   refine t_rd rfl (rd_add64 h523 rfl rfl) (t_as rfl rfl (rwt_n ?_))
   refine ⟨_, (os q524), v519, (by repeat (first | exact Sub.nil _ | refine Sub.cons rfl ?_)), (hm520.pick [1, 2, 3, 4] (by decide) rfl)⟩
  ·refine cw_f rfl hb479 ?_
   refine cw_exit ?_
   refine qx_then (qx_then ?_)
   obtain rfl := hr474 _ (os q480)
   exact ⟨rfl, v468, (by repeat (first | exact Sub.nil _ | refine Sub.cons rfl ?_)), (hm478.pick [0, 1, 2, 3] (by decide) rfl)⟩
 ·skip
  intro e env525 w526 hX527
  obtain ⟨rfl, v463, hs528, hm529⟩ := hX527
  refine qx_same (qn_then ?_)
  refine cw_sub hs528 ?_
  refine cw_sr (t_mv rfl rfl ?_)
  refine t_ef rfl (Rd.ef (rd_tostr tS60.1 tU5 tStr9 rfl (hm529.sl 0 rfl))) ?_
  rintro _ _ ⟨rfl, rfl⟩
  refine t_rd rfl (rd_fld tF51_0 rfl) ?_
  refine t_ef0 (ef_st1 (k := 1) (off := 0) hm529 tO9 rfl rfl rfl rfl rfl rfl) ?_
  intro _ w531 hm530
  refine rwt_n (cw_sr (t_mv rfl rfl ?_))
  obtain ⟨r532, h533, q534⟩ := ob q477; clear q477
  refine t_ef rfl (ef_call tf50 rfl (reader_two_ok h533 (hv0_b.to_callT (k := 3) hm530 rfl) (hm530.get (k := 3) rfl))) ?_
  rintro _ w536 ⟨e_, hm535⟩
  obtain rfl := e_.symm
  have hm537 := hm530.callT (k := 3) rfl (fun _ h => h) hm535 (fun _ => Iff.rfl)
  refine t_rd rfl (rd_fld tF51_1 rfl) ?_
  refine t_ef0 (ef_st1 (k := 1) (off := 1) hm537 tO3 rfl rfl rfl rfl rfl rfl) ?_
  intro _ w539 hm538
  refine rwt_n (cw_sr (t_mv rfl rfl ?_))
  obtain ⟨r540, h541, q542⟩ := ob q534; clear q534
  refine t_ef rfl (ef_call tf75 rfl (reader_one_ok h541 (hv0_b.to_callT (k := 3) hm538 rfl) (hm538.get (k := 3) rfl))) ?_
  rintro _ w544 ⟨e_, hm543⟩
  obtain rfl := e_.symm
  have hm545 := hm538.callT (k := 3) rfl (fun _ h => h) hm543 (fun _ => Iff.rfl)
  refine t_rd rfl (rd_fld tF51_2 rfl) ?_
  refine t_ef0 (ef_st1 (k := 1) (off := 2) hm545 tO3 rfl rfl rfl rfl rfl rfl) ?_
  intro _ w547 hm546
  refine rwt_n (cw_sr (t_mv rfl rfl ?_))
  obtain ⟨r548, h549, q550⟩ := ob q542; clear q542
  refine t_ef rfl (ef_call tf50 rfl (reader_two_ok h549 (hv0_b.to_callT (k := 3) hm546 rfl) (hm546.get (k := 3) rfl))) ?_
  rintro _ w552 ⟨e_, hm551⟩
  obtain rfl := e_.symm
  have hm553 := hm546.callT (k := 3) rfl (fun _ h => h) hm551 (fun _ => Iff.rfl)
  refine t_rd rfl (rd_fld tF51_3 rfl) ?_
  refine t_ef0 (ef_st1 (k := 1) (off := 3) hm553 tO3 rfl rfl rfl rfl rfl rfl) ?_
  intro _ w555 hm554
  refine rwt_n (cw_sr (t_mv rfl rfl ?_))
  obtain ⟨r556, h557, q558⟩ := ob q550; clear q550
  refine t_ef rfl (ef_call tf50 rfl (reader_two_ok h557 (hv0_b.to_callT (k := 3) hm554 rfl) (hm554.get (k := 3) rfl))) ?_
  rintro _ w560 ⟨e_, hm559⟩
  obtain rfl := e_.symm
  have hm561 := hm554.callT (k := 3) rfl (fun _ h => h) hm559 (fun _ => Iff.rfl)
  refine t_rd rfl (rd_fld tF51_4 rfl) ?_
  refine t_ef0 (ef_st1 (k := 1) (off := 4) hm561 tO3 rfl rfl rfl rfl rfl rfl) ?_
  intro _ w563 hm562
  refine rwt_n (cw_sr (t_mv rfl rfl ?_))
  obtain ⟨r564, h565, q566⟩ := ob q558; clear q558
  refine t_ef rfl (ef_call tf75 rfl (reader_one_ok h565 (hv0_b.to_callT (k := 3) hm562 rfl) (hm562.get (k := 3) rfl))) ?_
  rintro _ w568 ⟨e_, hm567⟩
  obtain rfl := e_.symm
  have hm569 := hm562.callT (k := 3) rfl (fun _ h => h) hm567 (fun _ => Iff.rfl)
  refine t_as rfl rfl (rwt_n (cw_sr (t_mv rfl rfl ?_)))
  refine t_rd rfl (rd_rem rfl rfl (by decide)) ?_
  refine t_mv rfl rfl ?_
  refine t_rd rfl (rd_geq rfl rfl) ?_
  refine t_rd rfl (rd_fld tF51_5 rfl) ?_
  refine t_ef0 (ef_st1 (k := 1) (off := 5) hm569 tO3 rfl rfl rfl rfl rfl rfl) ?_
  intro _ w571 hm570
  refine t_rd rfl (rd_fld tF51_6 rfl) ?_
  refine t_ef0 (ef_st1 (k := 1) (off := 6) hm570 tO4 rfl rfl rfl rfl rfl rfl) ?_
  intro _ w573 hm572
  refine rwt_n (cw_sr (t_mv rfl rfl (t_mv rfl rfl ?_)))
  refine t_rdg rfl rfl rfl rfl (gv_t _) (fun hg574 => (rd_move rfl)) ?_
  refine t_rdg rfl rfl rfl rfl (gv_t _) (fun hg575 => (rd_leq (gvx rfl hg575) rfl)) ?_
  refine t_rd rfl (rd_and rfl (fun hc576 => (gvx rfl hc576))) ?_
  refine t_mv rfl rfl ?_
  refine t_rdg rfl rfl rfl rfl (gv_t _) (fun hg577 => (rd_fld tF51_5 rfl)) ?_
  refine t_rdg rfl rfl rfl rfl (gv_t _) (fun hg578 => (rd_ld1 tO3 (gvx rfl hg578) (hm572.blk 1 rfl) (off := 5) rfl)) ?_
  refine t_rdg rfl rfl rfl rfl (gv_t _) (fun hg579 => (rd_leq (gvx rfl hg579) rfl)) ?_
  refine t_rd rfl (rd_and rfl (fun hc580 => (gvx rfl hc580))) ?_
  refine t_as rfl rfl (rwt_n (cw_sr (t_mv rfl rfl ?_)))
  obtain ⟨r581, h582, q583⟩ := ob q566; clear q566
  refine t_ef rfl (ef_call tf75 rfl (reader_one_ok h582 (hv0_b.to_callT (k := 3) hm572 rfl) (hm572.get (k := 3) rfl))) ?_
  rintro _ w585 ⟨e_, hm584⟩
  obtain rfl := e_.symm
  have hm586 := hm572.callT (k := 3) rfl (fun _ h => h) hm584 (fun _ => Iff.rfl)
  refine t_as rfl rfl (rwt_n (cw_seq ?_))
  obtain ⟨w596, he598⟩ : ∃ q, q = w585.drew := ⟨_, rfl⟩
  have hm597 := hm586.drew; rw [← he598] at hm597
  refine cw_region_s (fun q => q = w596) (cls [] [15, 17]) mixed ?_
  rintro _ rfl; rw [← he598]
  refine s_rp (i := 0) rfl (by kernel_rfl) rfl (fun _ => (rd_move rfl)) ?_
  refine s_rp (i := 1) rfl (by kernel_rfl) rfl (fun _ => (rd_nilCheck rfl)) ?_
  refine s_rp (i := 2) rfl (by kernel_rfl) rfl (fun _ => (rd_fld tF114_0 rfl)) ?_
  refine s_rd (i := 3) rfl (by kernel_rfl) rfl (fun _ hS => by rw [hS]; exact (rd_ld1 tO60 rfl (hm597.blk 3 rfl) (off := 0) rfl)) rfl ?_
  refine s_rp (i := 4) rfl (by kernel_rfl) rfl (fun _ => (rd_move rfl)) ?_
  refine s_rp (i := 5) rfl (by kernel_rfl) rfl (fun _ => (rd_nilCheck rfl)) ?_
  refine s_rp (i := 6) rfl (by kernel_rfl) rfl (fun _ => (rd_fld tF114_1 rfl)) ?_
  refine s_rd (i := 7) rfl (by kernel_rfl) rfl (fun _ hS => by rw [hS]; exact (rd_ld1 tO3 rfl (hm597.blk 3 rfl) (off := 1) rfl)) rfl ?_
  refine s_rp (i := 8) rfl (by kernel_rfl) rfl (fun _ => (rd_move rfl)) ?_
  refine s_rp (i := 9) rfl (by kernel_rfl) rfl (fun _ => (rd_nilCheck rfl)) ?_
  refine s_rp (i := 10) rfl (by kernel_rfl) rfl (fun _ => (rd_fld tF114_1 rfl)) ?_
  refine s_rd (i := 11) rfl (by kernel_rfl) rfl (fun _ hS => by rw [hS]; exact (rd_ld1 tO3 rfl (hm597.blk 3 rfl) (off := 1) rfl)) rfl ?_
  refine s_rp (i := 12) rfl (by kernel_rfl) rfl (fun _ => (rd_move rfl)) ?_
  obtain ⟨x599, h600, q601⟩ := ob q583; clear q583
  refine s_rp (i := 13) rfl (by kernel_rfl) rfl (fun _ => (rd_add64 h600 rfl rfl)) ?_
  obtain ⟨l602, h603, q604⟩ := ob q601; clear q601
  refine s_rp (i := 14) rfl (by kernel_rfl) rfl (fun _ => (rd_slcLH tS60 rfl rfl rfl (hv0_b.of_old hm597) h603)) ?_
  refine s_ef (i := 15) rfl (by kernel_rfl) rfl (Rd.ef (rd_tostr tS60.1 tU5 tStr9 rfl ((hv0_b.of_old hm597).sub h603))) (by decide) (fun _ _ _ q => absurd q (by decide)) ?_
  rintro _ _ ⟨rfl, rfl⟩
  refine s_rp (i := 16) rfl (by kernel_rfl) rfl (fun _ => (rd_fld tF51_7 rfl)) ?_
  refine s_ef0 (i := 17) rfl (by kernel_rfl) (ef_st1 (k := 1) (off := 7) hm597 tO9 rfl rfl rfl rfl rfl rfl) (by decide) (fun _ _ _ q => absurd q (by decide)) ?_
  intro _ w606 hm605
  refine s_nil (by kernel_rfl) ?_
  refine qn_then (cw_sr (t_mv rfl rfl ?_))
  refine t_rd rfl (rd_nilCheck rfl) ?_
  refine t_rd rfl (rd_fld tF114_1 rfl) ?_
  refine t_rd rfl (rd_ld1 tO3 rfl (hm605.blk 3 rfl) (off := 1) rfl) ?_
  refine t_mv rfl rfl (t_rd rfl (rd_add64 h600 rfl rfl) ?_)
  refine t_rd rfl (rd_nilCheck rfl) ?_
  refine t_rd rfl (rd_fld tF114_1 rfl) ?_
  refine t_ef0 (ef_st1 (k := 3) (off := 1) hm605 tO3 rfl rfl rfl rfl rfl rfl) ?_
  intro _ w608 hm607
  refine rwt_n (cw_sr ?_)
  refine t_rd rfl (rd_ld tA51 rfl (hm607.blk 1 rfl) rfl) ?_
  refine t_mv rfl rfl ?_
  refine t_ef0 (ef_stw (k := 2) hm607 tA51 rfl rfl (oc_cons rfl (oc_cons rfl (oc_cons rfl (oc_cons rfl (oc_cons rfl (oc_cons rfl (oc_cons rfl (oc_cons rfl oc_nil)))))))) rfl rfl rfl) ?_
  intro _ w610 hm609
  refine t_as rfl rfl (rwt_n ?_)
  refine cw_ret ?_
  obtain rfl := os q604
  exact retLn (rs := [.cell 2 51, .tmp 3]) rfl (.rc rfl tA51 (hm609.blk 2 rfl) rfl (.rt rfl .rn)) rfl ⟨rfl, (hm609.pick [3] (by decide) rfl)⟩

theorem consist_Decode_ok {N : Nat} {a0 : List UInt8} {res : List T_Wagon × Int} (h : consist_Decode N a0 = some res) {w : World} {v0 : Value} (hv0 : Sl (Old w No) w v0 a0) :
  CallsR Tryz.prog 20 [v0] w (fun u w' => ∃ (y0 : Value), u = (Value.tuple #[y0, (Value.int .i64 res.2)]) ∧ Mem w No [ownL 51 y0 (res.1 : List T_Wagon)] w') := by
 unfold consist_Decode at h
 refine fn_ok Tryz.func20 rfl rfl rfl ?_
 have hm0 := Mem.nil w
 refine cw_sr (t_as rfl rfl (t_as rfl rfl (rwt_n (cw_sr (t_mv rfl rfl ?_)))))
 obtain ⟨r1, h2, q3⟩ := ob h; clear h
 refine t_ef rfl (ef_call tf49 rfl (consist_end_ok h2 (hv0.to_call hm0))) ?_
 rintro _ w5 ⟨e_, hm4⟩
 obtain rfl := e_.symm
 have hm6 := hm0.call hm4
 refine t_mv rfl rfl ?_
 refine t_rd rfl (rd_extract rfl rfl) ?_
 refine t_rd rfl (rd_extract rfl rfl) ?_
 refine t_as rfl rfl (t_as rfl rfl (rwt_n (cw_seq (cw_block (cw_sr ?_)))))
 refine t_mv rfl rfl ?_
 refine t_rd rfl (rd_not rfl) ?_
 refine t_as rfl rfl (rwt_n ?_)
 obtain ⟨hb7, q8⟩ | ⟨hb7, q8⟩ := oi q3 <;> clear q3
 ·refine cw_t rfl hb7 (cw_sr (t_as rfl rfl (t_as rfl rfl (rwt_n ?_))))
  refine cw_ret ?_
  refine qr_block (qr_then ?_)
  obtain rfl := os q8
  have hm9 := hm6.addNil (α := T_Wagon) 51
  exact ret2 rfl rfl rfl ⟨(Value.slice none 0 0), rfl, (hm9.pick [0] (by decide) rfl)⟩
 ·refine cw_f rfl hb7 (cw_sr (t_mv rfl rfl (t_mv rfl rfl ?_)))
  refine t_rd rfl (rd_lenS tS60 rfl (hv0.of_old hm6)) ?_
  refine t_rd rfl (rd_lss rfl rfl) (t_as rfl rfl (rwt_n ?_))
  obtain ⟨hb10, q11⟩ | ⟨hb10, q11⟩ := oi q8 <;> clear q8
  ·refine cw_t rfl hb10 (cw_sr (t_as rfl rfl (t_as rfl rfl (rwt_n ?_))))
   refine cw_ret ?_
   refine qr_block (qr_then ?_)
   obtain rfl := os q11
   have hm12 := hm6.addNil (α := T_Wagon) 51
   exact ret2 rfl rfl rfl ⟨(Value.slice none 0 0), rfl, (hm12.pick [0] (by decide) rfl)⟩
  ·refine cw_f rfl hb10 (cw_skip ?_)
   refine qn_block (qn_then ?_)
   refine cw_sr (t_mv rfl rfl (t_mv rfl rfl ?_))
   obtain ⟨x13, h14, q15⟩ := ob q11; clear q11
   refine t_rd rfl (rd_sub64 h14 rfl rfl) ?_
   refine t_rd rfl (rd_build (cs := #[v0, (Value.int .i64 x13)]) rfl (by obtain ⟨_, _, e⟩ := ((hv0.of_old hm6)).val; rw [e]; clear e; kernel_rfl)) ?_
   refine t_ef rfl (ef_box hm6 rfl rfl) ?_
   rintro _ w18 ⟨g16, rfl, hm17⟩
   refine t_as rfl rfl (rwt_n (cw_seq (cw_seq ?_)))
   obtain ⟨w35, he37⟩ : ∃ q, q = w18.drew := ⟨_, rfl⟩
   have hm36 := hm17.drew; rw [← he37] at hm36
   refine cw_region_s (fun q => q = w35) (cls [] [1, 6]) mixed ?_
   rintro _ rfl; rw [← he37]
   refine s_rp (i := 0) rfl (by kernel_rfl) rfl (fun _ => (rd_move rfl)) ?_
   refine s_rp (i := 2) rfl (by kernel_rfl) rfl (fun _ => (rd_move rfl)) ?_
   refine s_rp (i := 3) rfl (by kernel_rfl) rfl (fun _ => (rd_move rfl)) ?_
   refine s_rp (i := 4) rfl (by kernel_rfl) rfl (fun _ => (rd_sub64 h14 rfl rfl)) ?_
   obtain ⟨l38, h39, q40⟩ := ob q15; clear q15
   refine s_rp (i := 5) rfl (by kernel_rfl) rfl (fun _ => (rd_slcH tS60 rfl rfl (hv0.of_old hm36) h39)) ?_
   obtain ⟨r41, h42, q43⟩ := ob q40; clear q40
   refine s_ef (i := 1) rfl (by kernel_rfl) rfl (ef_call tf50 rfl (reader_two_ok h42 (hv0.to_callT (k := 0) hm36 rfl) (hm36.get (k := 0) rfl))) (by decide) (fun _ _ _ q => absurd q (by decide)) ?_
   rintro _ w45 ⟨e_, hm44⟩
   obtain rfl := e_.symm
   have hm46 := hm36.callT (k := 0) rfl (fun _ h => h) hm44 (fun _ => Iff.rfl)
   obtain ⟨r47, h48, q49⟩ := ob q43; clear q43
   refine s_ef (i := 6) rfl (by kernel_rfl) rfl (ef_call tf48 rfl (consist_Check_ok h48 ((hv0.to_call hm46).sub h39))) (by decide) (fun _ _ _ q => absurd q (by decide)) ?_
   rintro _ w51 ⟨e_, hm50⟩
   obtain rfl := e_.symm
   have hm52 := hm46.call hm50
   refine s_rp (i := 7) rfl (by kernel_rfl) rfl (fun _ => (rd_neq rfl rfl)) ?_
   refine s_nil (by kernel_rfl) ?_
   refine qn_then ?_
   obtain ⟨hb53, q54⟩ | ⟨hb53, q54⟩ := oi q49 <;> clear q49
   ·refine cw_t rfl hb53 (cw_sr (t_as rfl rfl (t_as rfl rfl (rwt_n ?_))))
    refine cw_ret ?_
    refine qr_then ?_
    obtain rfl := os q54
    have hm55 := hm52.addNil (α := T_Wagon) 51
    exact ret2 rfl rfl rfl ⟨(Value.slice none 0 0), rfl, (hm55.pick [0] (by decide) rfl)⟩
   ·refine cw_f rfl hb53 (cw_skip (qn_then (cw_sr (t_mv rfl rfl ?_))))
    refine t_rd rfl (rd_nilCheck rfl) ?_
    refine t_rd rfl (rd_fld tF114_1 rfl) ?_
    refine t_ef0 (ef_st1 (k := 0) (off := 1) hm52 tO3 rfl rfl rfl rfl rfl rfl) ?_
    intro _ w57 hm56
    refine rwt_n (cw_sr (t_as rfl rfl (rwt_n (cw_sr (t_as rfl rfl (rwt_n (cw_seq ?_)))))))
    refine cw_sr (t_as rfl rfl (rwt_n (cw_block ?_)))
    have hm92 := hm56.addNil (α := T_Wagon) 51
    obtain ⟨r181, hit182, q183⟩ := ob q54; clear q54
    refine cw_loop2 (I := fun q envq wq => ∃ (v174 : Value), Sub [(0, v0), (6, (Value.pointer (some ⟨g16, 0, none⟩))), (7, v174), (8, (Value.bool q.1)), (9, (Value.int .i64 q.2.1))] envq ∧ Mem w No [ownL 51 v174 (q.2.2.2 : List T_Wagon), blk g16 114 [v0, (Value.int .i64 q.2.2.1)]] wq) (X := fun eq envq wq => eq = .exit 1 ∧ ∃ (v169 : Value), Sub [(7, v169), (8, (Value.bool r181.1))] envq ∧ Mem w No [ownL 51 v169 (r181.2 : List T_Wagon)] wq) hit182 ⟨(Value.slice none 0 0), (by repeat (first | exact Sub.nil _ | refine Sub.cons rfl ?_)), (hm92.pick [0, 1] (by decide) rfl)⟩ ?_ ?_
    ·rintro ⟨b170, i171, i172, l173⟩ x176 env177 w178 hf179 hr180 ⟨v174, hs_, hm_⟩
     have hs_ : Sub [(0, v0), (6, (Value.pointer (some ⟨g16, 0, none⟩))), (7, v174), (8, (Value.bool b170)), (9, (Value.int .i64 i171))] env177 := hs_
     have hm184 : Mem w No [ownL 51 v174 (l173 : List T_Wagon), blk g16 114 [v0, (Value.int .i64 i172)]] w178 := hm_
     refine cw_sub hs_ ?_
     clear hs_ hm_ q183
     have h : consist_Decode_l1 N a0 b170 i171 i172 l173 = some x176 := hf179
     clear hf179
     refine cw_seq (cw_sr (t_mv rfl rfl (t_mv rfl rfl ?_)))
     obtain ⟨x185, h186, q187⟩ := ob h; clear h
     refine t_rd rfl (rd_index tS60 rfl rfl (hv0.of_old hm184) h186) ?_
     refine t_rd rfl (rd_ld1 tO5 rfl ((hv0.of_old hm184).cells h186) (off := 0) rfl) ?_
     obtain ⟨x188, h189, q190⟩ := ob q187; clear q187
     refine t_rd rfl (rd_cv64 tH5 tI3 h189 rfl) ?_
     refine t_rd rfl (rd_lss rfl rfl) (rwt_n ?_)
     obtain ⟨hb191, q192⟩ | ⟨hb191, q192⟩ := oi q190 <;> clear q190
     ·refine cw_t rfl hb191 (cw_skip (qn_then (cw_seq (cw_block (cw_sr ?_)))))
      refine t_mv rfl rfl ?_
      obtain ⟨r193, h194, q195⟩ := ob q192; clear q192
      refine t_ef rfl (ef_call tf51 rfl (reader_wagon_ok h194 (hv0.to_callT (k := 1) hm184 rfl) (hm184.get (k := 1) rfl))) ?_
      rintro _ w197 ⟨e_, hm196⟩
      obtain rfl := e_.symm
      have hm198 := hm184.callT (k := 1) rfl (fun _ h => h) hm196 (fun _ => Iff.rfl)
      refine t_mv rfl rfl ?_
      refine t_rd rfl (rd_extract rfl rfl) ?_
      refine t_rd rfl (rd_extract rfl rfl) ?_
      refine t_ef rfl (ef_alloc hm198 tZ51 rfl) ?_
      rintro _ w201 ⟨g199, rfl, hm200⟩
      refine t_ef0 (ef_stw (k := 0) hm200 tA51 rfl rfl (oc_cons rfl (oc_cons rfl (oc_cons rfl (oc_cons rfl (oc_cons rfl (oc_cons rfl (oc_cons rfl (oc_cons rfl oc_nil)))))))) rfl rfl rfl) ?_
      intro _ w203 hm202
      refine t_as rfl rfl (rwt_n (cw_sr (t_mv rfl rfl (t_mv rfl rfl ?_))))
      refine t_rdg rfl rfl rfl rfl (gv_t _) (fun hg204 => (rd_move rfl)) ?_
      refine t_rd rfl (rd_and rfl (fun hc205 => (gvx rfl hc205))) ?_
      refine t_as rfl rfl (rwt_n ?_)
      refine cw_region ?_
      refine t_mv rfl rfl ?_
      refine t_rd rfl (rd_ld tA51 rfl (hm202.blk 0 rfl) rfl) ?_
      refine t_ef rfl (ef_bslice (l := ([(T_Wagon.mk r193.2.1.Number r193.2.1.Length r193.2.1.Axles r193.2.1.Mass r193.2.1.Brake r193.2.1.Goods r193.2.1.Gentle r193.2.1.Dest)] : List T_Wagon)) hm202 tS48 rfl (cs := #[(Value.string (bs r193.2.1.Number)), (Value.int .i64 r193.2.1.Length), (Value.int .i64 r193.2.1.Axles), (Value.int .i64 r193.2.1.Mass), (Value.int .i64 r193.2.1.Brake), (Value.int .i64 r193.2.1.Goods), (Value.bool r193.2.1.Gentle), (Value.string (bs r193.2.1.Dest))]) (by unfold bsl; kernel_rfl) rfl rfl) ?_
      intro v206 w208 hm207
      obtain ⟨l209, h210, q211⟩ := ob q195; clear q195
      refine t_ef rfl (ef_append (k := 2) hm207 tS48 tE51 rfl rfl rfl rfl (hm207.sl 0 rfl) h210) ?_
      intro v212 w214 hm213
      refine t_as rfl rfl ?_
      refine rwt_nil ?_
      refine qn_block (qn_then ?_)
      refine cw_region ?_
      refine t_mv rfl rfl ?_
      obtain ⟨x215, h216, q217⟩ := ob q211; clear q211
      refine t_rd rfl (rd_add64 h216 rfl rfl) (t_as rfl rfl (rwt_n ?_))
      refine ⟨_, (os q217), v212, (by repeat (first | exact Sub.nil _ | refine Sub.cons rfl ?_)), (hm213.pick [2, 3] (by decide) rfl)⟩
     ·refine cw_f rfl hb191 ?_
      refine cw_exit ?_
      refine qx_then (qx_then ?_)
      obtain rfl := hr180 _ (os q192)
      exact ⟨rfl, v174, (by repeat (first | exact Sub.nil _ | refine Sub.cons rfl ?_)), (hm184.pick [0] (by decide) rfl)⟩
    ·skip
     intro e env218 w219 hX220
     obtain ⟨rfl, v169, hs221, hm222⟩ := hX220
     refine qx_same (qn_then ?_)
     refine cw_sub hs221 ?_
     refine cw_seq (cw_sr (t_mv rfl rfl ?_))
     refine t_rd rfl (rd_not rfl) ?_
     refine rwt_n ?_
     obtain ⟨hb223, q224⟩ | ⟨hb223, q224⟩ := oi q183 <;> clear q183
     ·refine cw_t rfl hb223 (cw_sr (t_as rfl rfl (t_as rfl rfl (rwt_n ?_))))
      refine cw_ret ?_
      refine qr_then ?_
      obtain rfl := os q224
      have hm225 := hm222.addNil (α := T_Wagon) 51
      exact ret2 rfl rfl rfl ⟨(Value.slice none 0 0), rfl, (hm225.pick [0] (by decide) rfl)⟩
     ·refine cw_f rfl hb223 (cw_skip (qn_then (cw_seq (cw_sr (t_mv rfl rfl ?_)))))
      obtain ⟨r226, h227, q228⟩ := ob q224; clear q224
      refine t_ef rfl (ef_call tf46 rfl (consist_check_ok h227 (hm222.sl_call 0 rfl))) ?_
      rintro _ w230 ⟨e_, hm229⟩
      obtain rfl := e_.symm
      have hm231 := hm222.call hm229
      refine t_as rfl rfl (rwt_n (cw_sr (t_mv rfl rfl ?_)))
      refine t_rd rfl (rd_neq rfl rfl) ?_
      refine rwt_n ?_
      obtain ⟨hb232, q233⟩ | ⟨hb232, q233⟩ := oi q228 <;> clear q228
      ·refine cw_t rfl hb232 (cw_sr (t_mv rfl rfl (t_as rfl rfl (t_as rfl rfl (rwt_n ?_)))))
       refine cw_ret ?_
       refine qr_then ?_
       obtain rfl := os q233
       have hm234 := hm231.addNil (α := T_Wagon) 51
       exact ret2 rfl rfl rfl ⟨(Value.slice none 0 0), rfl, (hm234.pick [0] (by decide) rfl)⟩
      ·refine cw_f rfl hb232 (cw_skip (qn_then (cw_sr (t_mv rfl rfl (t_as rfl rfl ?_)))))
       refine t_as rfl rfl (rwt_n ?_)
       refine cw_ret ?_
       obtain rfl := os q233
       exact ret2 rfl rfl rfl ⟨v169, rfl, (hm231.pick [0] (by decide) rfl)⟩

theorem g_slices_Index_string_string_ok {N : Nat} {a0 : List Str} {a1 : List UInt8} {res : Int} (h : g_slices_Index_string_string N a0 a1 = some res) {w : World} {v0 : Value} (hv0 : Sl (Old w No) w v0 a0) :
  CallsR Tryz.prog 78 [v0, (Value.string (bs a1))] w (fun u w' => u = (Value.int .i64 res) ∧ Mem w No [] w') := by
 unfold g_slices_Index_string_string at h
 refine fn_ok Tryz.func78 rfl rfl rfl ?_
 have hm0 := Mem.nil w
 refine cw_sr (t_as rfl rfl (rwt_n (cw_seq (cw_sr (t_mv rfl rfl ?_)))))
 refine t_rd rfl (rd_lenS tS65 rfl (hv0.of_old hm0)) ?_
 refine t_mv rfl rfl (rwt_n (cw_block ?_))
 obtain ⟨r29, hit30, q31⟩ := ob h; clear h
 refine cw_loop2 (I := fun q envq wq => Sub [(0, v0), (1, (Value.string (bs a1))), (7, (Value.int .i64 (List.length a0 : Int))), (8, (Value.int .i64 q))] envq ∧ Mem w No [] wq) (X := fun eq envq wq => (∃ p32, r29 = (Sum.inl p32) ∧ eq = .ret ∧ retQ Tryz.prog 19 Tryz.f78 (fun u w' => u = (Value.int .i64 p32) ∧ Mem w No [] w') .ret envq wq) ∨ (∃ p33, r29 = (Sum.inr p33) ∧ eq = .exit 0 ∧ Sub [] envq ∧ Mem w No [] wq)) hit30 ⟨(by repeat (first | exact Sub.nil _ | refine Sub.cons rfl ?_)), (hm0.pick [] (by decide) rfl)⟩ ?_ ?_
 ·rintro i22 x24 env25 w26 hf27 hr28 ⟨hs_, hm_⟩
  have hs_ : Sub [(0, v0), (1, (Value.string (bs a1))), (7, (Value.int .i64 (List.length a0 : Int))), (8, (Value.int .i64 i22))] env25 := hs_
  have hm34 : Mem w No [] w26 := hm_
  refine cw_sub hs_ ?_
  clear hs_ hm_ q31
  have h : g_slices_Index_string_string_l1 N a0 a1 i22 = some x24 := hf27
  clear hf27
  refine cw_sr (t_rd rfl (rd_lss rfl rfl) (rwt_n (cw_seq ?_)))
  obtain ⟨hb35, q36⟩ | ⟨hb35, q36⟩ := oi h <;> clear h
  ·refine cw_t rfl hb35 (cw_skip (qn_then (cw_seq (cw_block (cw_sr ?_)))))
   refine t_mv rfl rfl (t_as rfl rfl (rwt_n (cw_sr (t_mv rfl rfl (t_mv rfl rfl (t_mv rfl rfl ?_))))))
   obtain ⟨x37, h38, q39⟩ := ob q36; clear q36
   refine t_rd rfl (rd_index tS65 rfl rfl (hv0.of_old hm34) h38) ?_
   refine t_rd rfl (rd_ld1 tO9 rfl ((hv0.of_old hm34).cells h38) (off := 0) rfl) ?_
   refine t_rd rfl (rd_eqst (a := a1) (b := x37.s) rfl rfl) ?_
   refine rwt_n ?_
   obtain ⟨hb40, q41⟩ | ⟨hb40, q41⟩ := oi q39 <;> clear q39
   ·refine cw_t rfl hb40 (cw_sr (t_mv rfl rfl (t_as rfl rfl (rwt_n ?_))))
    refine cw_ret ?_
    refine qr_block (qr_then (qr_then ?_))
    obtain rfl := hr28 _ (os q41)
    refine .inl (⟨_, rfl, ⟨rfl, ?_⟩⟩)
    exact ret1 rfl rfl ⟨rfl, (hm34.pick [] (by decide) rfl)⟩
   ·refine cw_f rfl hb40 (cw_skip ?_)
    refine qn_block (qn_then ?_)
    refine cw_region ?_
    obtain ⟨x42, h43, q44⟩ := ob q41; clear q41
    refine t_rd rfl (rd_add64 h43 rfl rfl) (t_mv rfl rfl (rwt_n ?_))
    refine ⟨_, (os q44), (by repeat (first | exact Sub.nil _ | refine Sub.cons rfl ?_)), (hm34.pick [] (by decide) rfl)⟩
  ·refine cw_f rfl hb35 ?_
   refine cw_exit ?_
   refine qx_then (qx_then ?_)
   obtain rfl := hr28 _ (os q36)
   exact .inr (⟨_, rfl, ⟨rfl, (by repeat (first | exact Sub.nil _ | refine Sub.cons rfl ?_)), (hm34.pick [] (by decide) rfl)⟩⟩)
 ·skip
  intro e env45 w46 hX47
  rcases hX47 with hX47 | hX47
  ·obtain ⟨p49, rfl, hX47⟩ := hX47
   obtain ⟨rfl, hq51⟩ := hX47
   exact qr_block (qr_then ((by have e := os q31; subst e; exact hq51)))
  ·obtain ⟨p52, rfl, hX47⟩ := hX47
   obtain ⟨rfl, hs53, hm54⟩ := hX47
   refine qx_same (qn_then ?_)
   refine cw_sub hs53 ?_
   refine cw_sr (t_as rfl rfl (rwt_n ?_))
   refine cw_ret ?_
   obtain rfl := os q31
   exact ret1 rfl rfl ⟨rfl, (hm54.pick [] (by decide) rfl)⟩

theorem planner_find_ok {N : Nat} {a0 : List (List Str)} {a1 : List UInt8} {res : Int × Int × Bool} (h : planner_find N a0 a1 = some res) {w : World} {v0 : Value} (hv0 : Sl (Old w No) w v0 a0) :
  CallsR Tryz.prog 53 [v0, (Value.string (bs a1))] w (fun u w' => u = (Value.tuple #[(Value.int .i64 res.1), (Value.int .i64 res.2.1), (Value.bool res.2.2)]) ∧ Mem w No [] w') := by
 unfold planner_find at h
 refine fn_ok Tryz.func53 rfl rfl rfl ?_
 obtain ⟨zs_a0, hn0⟩ := hv0.nest
 have hm0 := Mem.nil w
 refine cw_sr (t_as rfl rfl (t_as rfl rfl (t_as rfl rfl (rwt_n (cw_seq ?_)))))
 refine cw_sr (t_mv rfl rfl ?_)
 refine t_rd rfl (rd_lenS tS68 rfl ((hn0.of_old hm0).sl)) ?_
 refine t_mv rfl rfl (rwt_n (cw_block ?_))
 obtain ⟨r55, hit56, q57⟩ := ob h; clear h
 refine cw_loop2 (I := fun q envq wq => Sub [(1, (Value.string (bs a1))), (10, v0), (11, (Value.int .i64 (List.length a0 : Int))), (12, (Value.int .i64 q))] envq ∧ Mem w No [] wq) (X := fun eq envq wq => (∃ p58, r55 = (Sum.inl p58) ∧ eq = .ret ∧ retQ Tryz.prog 26 Tryz.f53 (fun u w' => u = (Value.tuple #[(Value.int .i64 p58.1), (Value.int .i64 p58.2.1), (Value.bool p58.2.2)]) ∧ Mem w No [] w') .ret envq wq) ∨ (∃ p59, r55 = (Sum.inr p59) ∧ eq = .exit 0 ∧ Sub [] envq ∧ Mem w No [] wq)) hit56 ⟨(by repeat (first | exact Sub.nil _ | refine Sub.cons rfl ?_)), (hm0.pick [] (by decide) rfl)⟩ ?_ ?_
 ·rintro i48 x50 env51 w52 hf53 hr54 ⟨hs_, hm_⟩
  have hs_ : Sub [(1, (Value.string (bs a1))), (10, v0), (11, (Value.int .i64 (List.length a0 : Int))), (12, (Value.int .i64 i48))] env51 := hs_
  have hm60 : Mem w No [] w52 := hm_
  refine cw_sub hs_ ?_
  clear hs_ hm_ q57
  have h : planner_find_l1 N a0 a1 i48 = some x50 := hf53
  clear hf53
  refine cw_sr (t_rd rfl (rd_lss rfl rfl) (rwt_n (cw_seq ?_)))
  obtain ⟨hb61, q62⟩ | ⟨hb61, q62⟩ := oi h <;> clear h
  ·refine cw_t rfl hb61 (cw_skip (qn_then (cw_seq (cw_block (cw_sr ?_)))))
   refine t_mv rfl rfl ?_
   obtain ⟨x63, h64, q65⟩ := ob q62; clear q62
   refine t_rd rfl (rd_index tS68 rfl rfl ((hn0.of_old hm60).sl) h64) ?_
   obtain ⟨zd66, hz67⟩ := (hn0.of_old hm60).row h64
   refine t_rd rfl (rd_ld tA67 rfl ((hn0.of_old hm60).cells hz67) rfl) ?_
   refine t_ef rfl (ef_alloc hm60 tZ67 rfl) ?_
   rintro _ w70 ⟨g68, rfl, hm69⟩
   refine t_as rfl rfl ?_
   refine t_ef0 (ef_stw (k := 0) hm69 tA67 rfl rfl (oc_cons (sl_one ((hn0.of_old hm69).get hz67 h64)) oc_nil) rfl rfl rfl) ?_
   intro _ w72 hm71
   refine rwt_n (cw_sr (t_rd rfl (rd_fld tF67_0 rfl) ?_))
   refine t_rd rfl (rd_ld1 tO65 rfl (hm71.blk 0 rfl) (off := 0) rfl) ?_
   refine t_mv rfl rfl ?_
   obtain ⟨r73, h74, q75⟩ := ob q65; clear q65
   refine t_ef rfl (ef_call tf78 rfl (g_slices_Index_string_string_ok h74 ((hn0.to_call hm71).get hz67 h64))) ?_
   rintro _ w77 ⟨e_, hm76⟩
   obtain rfl := e_.symm
   have hm78 := hm71.call hm76
   refine t_as rfl rfl (rwt_n (cw_sr (t_mv rfl rfl ?_)))
   refine t_rd rfl (rd_geq rfl rfl) ?_
   refine rwt_n ?_
   obtain ⟨hb79, q80⟩ | ⟨hb79, q80⟩ := oi q75 <;> clear q75
   ·refine cw_t rfl hb79 (cw_sr (t_mv rfl rfl (t_mv rfl rfl (t_as rfl rfl (t_as rfl rfl ?_)))))
    refine t_as rfl rfl (rwt_n ?_)
    refine cw_ret ?_
    refine qr_block (qr_then (qr_then ?_))
    obtain rfl := hr54 _ (os q80)
    refine .inl (⟨_, rfl, ⟨rfl, ?_⟩⟩)
    exact ret3 rfl rfl rfl rfl ⟨rfl, (hm78.pick [] (by decide) rfl)⟩
   ·refine cw_f rfl hb79 (cw_skip ?_)
    refine qn_block (qn_then ?_)
    refine cw_region ?_
    obtain ⟨x81, h82, q83⟩ := ob q80; clear q80
    refine t_rd rfl (rd_add64 h82 rfl rfl) (t_mv rfl rfl (rwt_n ?_))
    refine ⟨_, (os q83), (by repeat (first | exact Sub.nil _ | refine Sub.cons rfl ?_)), (hm78.pick [] (by decide) rfl)⟩
  ·refine cw_f rfl hb61 ?_
   refine cw_exit ?_
   refine qx_then (qx_then ?_)
   obtain rfl := hr54 _ (os q62)
   exact .inr (⟨_, rfl, ⟨rfl, (by repeat (first | exact Sub.nil _ | refine Sub.cons rfl ?_)), (hm60.pick [] (by decide) rfl)⟩⟩)
 ·skip
  intro e env84 w85 hX86
  rcases hX86 with hX86 | hX86
  ·obtain ⟨p88, rfl, hX86⟩ := hX86
   obtain ⟨rfl, hq90⟩ := hX86
   exact qr_block (qr_then ((by have e := os q57; subst e; exact hq90)))
  ·obtain ⟨p91, rfl, hX86⟩ := hX86
   obtain ⟨rfl, hs92, hm93⟩ := hX86
   refine qx_same (qn_then ?_)
   refine cw_sub hs92 ?_
   refine cw_sr (t_as rfl rfl (t_as rfl rfl (t_as rfl rfl (rwt_n ?_))))
   refine cw_ret ?_
   obtain rfl := os q57
   exact ret3 rfl rfl rfl rfl ⟨rfl, (hm93.pick [] (by decide) rfl)⟩

end Go.Proofs.YtlpkbkbjohhleaaGreat
