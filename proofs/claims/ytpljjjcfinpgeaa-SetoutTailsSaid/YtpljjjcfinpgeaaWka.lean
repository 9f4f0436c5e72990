/- Each call computes what its mirror does; written by a program of mine (gowalk.py). -/
import Derived.Test.YtpljjjcfinpgeaaTy
namespace Go.Proofs.Ytpljjjcfinpgeaa
open Go.Gv Go.RowKit
set_option linter.unusedVariables false
set_option maxRecDepth 100000

theorem humpgen_New_ok {N : Nat} {a0 : List Int} {res : Int} (h : humpgen_New N a0 = some res) {w : World} {v0 : Value} (hv0 : Sl (Old w No) w v0 a0) :
    CallsR Try.prog 7 [v0] w (fun u w' => ∃ gr : Nat, u = (Value.pointer (some ⟨gr, 0, none⟩)) ∧ Mem w No [blk gr 43 [v0, (Value.int .i64 res)]] w') := by
  unfold humpgen_New at h
  refine fn_ok Try.func7 rfl rfl rfl ?_
  have hm0 := Mem.nil w
  refine cw_seq ?_
  refine cw_region ?_
  refine t_rd rfl (rd_assign rfl) ?_
  refine rwt_nil ?_
  refine qn_then ?_
  refine cw_seq ?_
  refine cw_region ?_
  refine t_rd rfl (rd_move rfl) ?_
  refine t_rd rfl (rd_build (cs := #[v0, (Value.int .i64 0)]) rfl (by obtain ⟨_, _, e⟩ := ((hv0.of_old hm0)).val; rw [e]; clear e; kernel_rfl)) ?_
  refine t_ef rfl (ef_box hm0 rfl rfl) ?_
  rintro _ w6 ⟨g4, rfl, hm5⟩
  refine t_rd rfl (rd_assign rfl) ?_
  refine rwt_nil ?_
  refine qn_then ?_
  refine cw_ret ?_
  obtain rfl := os h
  exact ret1 rfl rfl ⟨g4, rfl, (hm5.pick [0] (by decide) rfl)⟩

theorem Maker_Next_ok {N : Nat} {a0_l : List Int} {a0_n : Int} {a1 : Int} {res : Int × Int} (h : Maker_Next N a0_l a0_n a1 = some res) {w : World} {v0_l : Value} {g0 : Nat} (hv0_l : Sl (Old w (fun k => k = g0)) w v0_l a0_l) (hk0 : (blk g0 43 [v0_l, (Value.int .i64 a0_n)]).φ w) :
    CallsR Try.prog 15 [(Value.pointer (some ⟨g0, 0, none⟩)), (Value.int .i64 a1)] w (fun u w' => u = (Value.int .i64 res.2) ∧ Mem w (fun k => k = g0) [blk g0 43 [v0_l, (Value.int .i64 res.1)]] w') := by
  unfold Maker_Next at h
  refine fn_ok Try.func15 rfl rfl rfl ?_
  have hm0 := Mem.one hk0
  refine cw_seq ?_
  refine cw_region ?_
  refine t_rd rfl (rd_assign rfl) ?_
  refine rwt_nil ?_
  refine qn_then ?_
  refine cw_seq ?_
  refine cw_region ?_
  refine t_rd rfl (rd_assign rfl) ?_
  refine rwt_nil ?_
  refine qn_then ?_
  refine cw_seq ?_
  refine cw_seq ?_
  refine cw_region ?_
  refine t_rd rfl (rd_move rfl) ?_
  refine t_rd rfl (rd_nilCheck rfl) ?_
  refine t_rd rfl (rd_fld tF43_0 rfl) ?_
  refine t_rd rfl (rd_ld1 tO22 rfl (hm0.blk 0 rfl) (off := 0) rfl) ?_
  refine t_rd rfl (rd_lenS tS22 rfl (hv0_l.of_old hm0)) ?_
  refine t_rd rfl (rd_gtr rfl rfl) ?_
  refine rwt_nil ?_
  refine qn_then ?_
  obtain ⟨j69, hit70, q71⟩ := ob h; clear h
  refine cw_join (X := fun eq envq wq => eq = .normal ∧ Sub [(0, (Value.pointer (some ⟨g0, 0, none⟩))), (1, (Value.int .i64 a1)), (5, (Value.int .i64 j69))] envq ∧ Mem w (fun k => k = g0) [blk g0 43 [v0_l, (Value.int .i64 a0_n)]] wq) ?_ ?_
  · clear q71
    obtain ⟨hb72, q73⟩ | ⟨hb72, q73⟩ := oi hit70 <;> clear hit70
    · refine cw_t rfl hb72 ?_
      obtain ⟨w75, he77⟩ : ∃ q, q = w.drew := ⟨_, rfl⟩
      have hm76 := hm0.drew; rw [← he77] at hm76
      refine cw_region_s (fun q => q = w75) (cls [] []) mixed ?_
      rintro _ rfl; rw [← he77]
      refine s_rp (i := 0) rfl (by kernel_rfl) rfl (fun _ => (rd_move rfl)) ?_
      refine s_rp (i := 1) rfl (by kernel_rfl) rfl (fun _ => (rd_nilCheck rfl)) ?_
      refine s_rp (i := 2) rfl (by kernel_rfl) rfl (fun _ => (rd_fld tF43_0 rfl)) ?_
      refine s_rd (i := 3) rfl (by kernel_rfl) rfl (fun _ hS => by rw [hS]; exact (rd_ld1 tO22 rfl (hm76.blk 0 rfl) (off := 0) rfl)) rfl ?_
      refine s_rp (i := 4) rfl (by kernel_rfl) rfl (fun _ => (rd_move rfl)) ?_
      refine s_rp (i := 5) rfl (by kernel_rfl) rfl (fun _ => (rd_nilCheck rfl)) ?_
      refine s_rp (i := 6) rfl (by kernel_rfl) rfl (fun _ => (rd_fld tF43_1 rfl)) ?_
      refine s_rd (i := 7) rfl (by kernel_rfl) rfl (fun _ hS => by rw [hS]; exact (rd_ld1 tO3 rfl (hm76.blk 0 rfl) (off := 1) rfl)) rfl ?_
      refine s_rp (i := 8) rfl (by kernel_rfl) rfl (fun _ => (rd_move rfl)) ?_
      refine s_rp (i := 9) rfl (by kernel_rfl) rfl (fun _ => (rd_nilCheck rfl)) ?_
      refine s_rp (i := 10) rfl (by kernel_rfl) rfl (fun _ => (rd_fld tF43_0 rfl)) ?_
      refine s_rd (i := 11) rfl (by kernel_rfl) rfl (fun _ hS => by rw [hS]; exact (rd_ld1 tO22 rfl (hm76.blk 0 rfl) (off := 0) rfl)) rfl ?_
      refine s_rp (i := 12) rfl (by kernel_rfl) rfl (fun _ => (rd_lenS tS22 rfl (hv0_l.of_old hm76))) ?_
      obtain ⟨x78, h79, q80⟩ := ob q73; clear q73
      refine s_rp (i := 13) rfl (by kernel_rfl) rfl (fun _ => (rd_rem64 h79 rfl rfl)) ?_
      obtain ⟨x81, h82, q83⟩ := ob q80; clear q80
      refine s_rp (i := 14) rfl (by kernel_rfl) rfl (fun _ => (rd_index tS22 rfl rfl (hv0_l.of_old hm76) h82)) ?_
      refine s_rd (i := 15) rfl (by kernel_rfl) rfl (fun _ hS => by rw [hS]; exact (rd_ld1 tO3 rfl ((hv0_l.of_old hm76).cells h82) (off := 0) rfl)) rfl ?_
      refine s_rp (i := 16) rfl (by kernel_rfl) rfl (fun _ => (rd_move rfl)) ?_
      refine s_rp (i := 17) rfl (by kernel_rfl) rfl (fun _ => (rd_nilCheck rfl)) ?_
      refine s_rp (i := 18) rfl (by kernel_rfl) rfl (fun _ => (rd_fld tF43_1 rfl)) ?_
      refine s_rd (i := 19) rfl (by kernel_rfl) rfl (fun _ hS => by rw [hS]; exact (rd_ld1 tO3 rfl (hm76.blk 0 rfl) (off := 1) rfl)) rfl ?_
      refine s_rp (i := 20) rfl (by kernel_rfl) rfl (fun _ => (rd_move rfl)) ?_
      refine s_rp (i := 21) rfl (by kernel_rfl) rfl (fun _ => (rd_nilCheck rfl)) ?_
      refine s_rp (i := 22) rfl (by kernel_rfl) rfl (fun _ => (rd_fld tF43_0 rfl)) ?_
      refine s_rd (i := 23) rfl (by kernel_rfl) rfl (fun _ hS => by rw [hS]; exact (rd_ld1 tO22 rfl (hm76.blk 0 rfl) (off := 0) rfl)) rfl ?_
      refine s_rp (i := 24) rfl (by kernel_rfl) rfl (fun _ => (rd_lenS tS22 rfl (hv0_l.of_old hm76))) ?_
      obtain ⟨x84, h85, q86⟩ := ob q83; clear q83
      refine s_rp (i := 25) rfl (by kernel_rfl) rfl (fun _ => (rd_quo64 h85 rfl rfl)) ?_
      refine s_rp (i := 26) rfl (by kernel_rfl) rfl (fun _ => (rd_mulw rfl rfl)) ?_
      refine s_rp (i := 27) rfl (by kernel_rfl) rfl (fun _ => (rd_addw rfl rfl)) ?_
      refine s_rp (i := 28) rfl (by kernel_rfl) rfl (fun _ => (rd_assign rfl)) ?_
      refine s_nil (by kernel_rfl) ?_
      obtain rfl := os q86
      exact ⟨rfl, (by repeat (first | exact Sub.nil _ | refine Sub.cons rfl ?_)), (hm76.pick [0] (by decide) rfl)⟩
    · refine cw_f rfl hb72 ?_
      refine cw_skip ?_
      obtain rfl := os q73
      exact ⟨rfl, (by repeat (first | exact Sub.nil _ | refine Sub.cons rfl ?_)), (hm0.pick [0] (by decide) rfl)⟩
  · clear hit70
    intro e env87 w88 hX89
    obtain ⟨rfl, hs90, hm91⟩ := hX89
    refine qn_then ?_
    refine cw_sub hs90 ?_
    refine cw_seq ?_
    refine cw_region ?_
    refine t_rd rfl (rd_move rfl) ?_
    refine t_rd rfl (rd_nilCheck rfl) ?_
    refine t_rd rfl (rd_fld tF43_1 rfl) ?_
    refine t_rd rfl (rd_ld1 tO3 rfl (hm91.blk 0 rfl) (off := 1) rfl) ?_
    obtain ⟨x92, h93, q94⟩ := ob q71; clear q71
    refine t_rd rfl (rd_add64 h93 rfl rfl) ?_
    refine t_rd rfl (rd_nilCheck rfl) ?_
    refine t_rd rfl (rd_fld tF43_1 rfl) ?_
    refine t_ef0 (ef_st1 (k := 0) (off := 1) hm91 tO3 rfl rfl rfl rfl rfl rfl) ?_
    intro _ w96 hm95
    refine rwt_nil ?_
    refine qn_then ?_
    refine cw_seq ?_
    refine cw_region ?_
    refine t_rd rfl (rd_move rfl) ?_
    refine t_rd rfl (rd_move rfl) ?_
    obtain ⟨x97, h98, q99⟩ := ob q94; clear q94
    refine t_rd rfl (rd_rem64 h98 rfl rfl) ?_
    refine t_rd rfl (rd_assign rfl) ?_
    refine rwt_nil ?_
    refine qn_then ?_
    refine cw_seq ?_
    refine cw_seq ?_
    refine cw_region ?_
    refine t_rd rfl (rd_move rfl) ?_
    refine t_rd rfl (rd_lss rfl rfl) ?_
    refine rwt_nil ?_
    refine qn_then ?_
    obtain ⟨hb100, q101⟩ | ⟨hb100, q101⟩ := oi q99 <;> clear q99
    · refine cw_t rfl hb100 ?_
      refine cw_region ?_
      refine t_rd rfl (rd_move rfl) ?_
      refine t_rd rfl (rd_move rfl) ?_
      obtain ⟨x102, h103, q104⟩ := ob q101; clear q101
      refine t_rd rfl (rd_add64 h103 rfl rfl) ?_
      refine t_rd rfl (rd_assign rfl) ?_
      refine rwt_nil ?_
      refine qn_then ?_
      refine cw_seq ?_
      refine cw_region ?_
      refine t_rd rfl (rd_move rfl) ?_
      refine t_rd rfl (rd_assign rfl) ?_
      refine rwt_nil ?_
      refine qn_then ?_
      refine cw_ret ?_
      obtain rfl := os q104
      exact ret1 rfl rfl ⟨rfl, (hm95.pick [0] (by decide) rfl)⟩
    · refine cw_f rfl hb100 ?_
      refine cw_skip ?_
      refine qn_then ?_
      refine cw_seq ?_
      refine cw_region ?_
      refine t_rd rfl (rd_move rfl) ?_
      refine t_rd rfl (rd_assign rfl) ?_
      refine rwt_nil ?_
      refine qn_then ?_
      refine cw_ret ?_
      obtain rfl := os q101
      exact ret1 rfl rfl ⟨rfl, (hm95.pick [0] (by decide) rfl)⟩

theorem law34_train_ok {N : Nat} {a0_l : List Int} {a0_n : Int} {a1 : Int} {res : Int × List Int} (h : law34_train N a0_l a0_n a1 = some res) {w : World} {v0_l : Value} {g0 : Nat} (hv0_l : Sl (Old w (fun k => k = g0)) w v0_l a0_l) (hk0 : (blk g0 43 [v0_l, (Value.int .i64 a0_n)]).φ w) :
    CallsR Try.prog 8 [(Value.pointer (some ⟨g0, 0, none⟩)), (Value.int .i64 a1)] w (fun u w' => ∃ (y0 : Value), u = y0 ∧ Mem w (fun k => k = g0) [blk g0 43 [v0_l, (Value.int .i64 res.1)], ownL 3 y0 (res.2 : List Int)] w') := by
  unfold law34_train at h
  refine fn_ok Try.func8 rfl rfl rfl ?_
  have hm0 := Mem.one hk0
  refine cw_seq ?_
  refine cw_region ?_
  refine t_rd rfl (rd_assign rfl) ?_
  refine rwt_nil ?_
  refine qn_then ?_
  refine cw_seq ?_
  refine cw_region ?_
  refine t_rd rfl (rd_assign rfl) ?_
  refine rwt_nil ?_
  refine qn_then ?_
  refine cw_seq ?_
  refine cw_region ?_
  refine t_rd rfl (rd_move rfl) ?_
  obtain ⟨r129, h130, q131⟩ := ob h; clear h
  refine t_ef rfl (ef_call tf15 rfl (Maker_Next_ok h130 (hv0_l.to_callT (k := 0) hm0 rfl) (hm0.get (k := 0) rfl))) ?_
  rintro _ w133 ⟨e_, hm132⟩
  obtain rfl := e_.symm
  have hm134 := hm0.callT (k := 0) rfl (fun _ h => h) hm132 (fun _ => Iff.rfl)
  obtain ⟨x135, h136, q137⟩ := ob q131; clear q131
  refine t_rd rfl (rd_add64 h136 rfl rfl) ?_
  refine t_rd rfl (rd_assign rfl) ?_
  refine rwt_nil ?_
  refine qn_then ?_
  refine cw_seq ?_
  refine cw_seq ?_
  refine cw_region ?_
  refine t_rd rfl (rd_move rfl) ?_
  refine t_rd rfl (rd_move rfl) ?_
  obtain ⟨x138, h139, q140⟩ := ob q137; clear q137
  refine t_rd rfl (rd_add64 h139 rfl rfl) ?_
  obtain ⟨r141, h142, q143⟩ := ob q140; clear q140
  refine t_ef rfl (ef_call tf15 rfl (Maker_Next_ok h142 (hv0_l.to_callT (k := 0) hm134 rfl) (hm134.get (k := 0) rfl))) ?_
  rintro _ w145 ⟨e_, hm144⟩
  obtain rfl := e_.symm
  have hm146 := hm134.callT (k := 0) rfl (fun _ h => h) hm144 (fun _ => Iff.rfl)
  refine t_rd rfl (rd_assign rfl) ?_
  refine rwt_nil ?_
  refine qn_then ?_
  refine cw_block ?_
  have hm168 := hm146.addNil (α := Int) 3
  obtain ⟨r228, hit229, q230⟩ := ob q143; clear q143
  refine cw_loop2 (I := fun q envq wq => ∃ (v221 : Value), Sub [(0, (Value.pointer (some ⟨g0, 0, none⟩))), (5, v221), (6, (Value.int .i64 x135)), (7, (Value.int .i64 q.1))] envq ∧ Mem w (fun k => k = g0) [ownL 3 v221 (q.2.2 : List Int), blk g0 43 [v0_l, (Value.int .i64 q.2.1)]] wq) (X := fun eq envq wq => eq = .exit 0 ∧ ∃ (v217 : Value), Sub [(5, v217)] envq ∧ Mem w (fun k => k = g0) [ownL 3 v217 (r228.2 : List Int), blk g0 43 [v0_l, (Value.int .i64 r228.1)]] wq) hit229 ⟨(Value.slice none 0 0), (by repeat (first | exact Sub.nil _ | refine Sub.cons rfl ?_)), (hm168.pick [0, 1] (by decide) rfl)⟩ ?_ ?_
  · rintro ⟨i218, i219, l220⟩ x223 env224 w225 hf226 hr227 ⟨v221, hs_, hm_⟩
    have hs_ : Sub [(0, (Value.pointer (some ⟨g0, 0, none⟩))), (5, v221), (6, (Value.int .i64 x135)), (7, (Value.int .i64 i218))] env224 := hs_
    have hm231 : Mem w (fun k => k = g0) [ownL 3 v221 (l220 : List Int), blk g0 43 [v0_l, (Value.int .i64 i219)]] w225 := hm_
    refine cw_sub hs_ ?_
    clear hs_ hm_ q230
    have h : law34_train_l1 N a0_l x135 i218 i219 l220 = some x223 := hf226
    clear hf226
    refine cw_seq ?_
    refine cw_seq ?_
    refine cw_region ?_
    refine t_rd rfl (rd_move rfl) ?_
    refine t_rd rfl (rd_gtr rfl rfl) ?_
    refine rwt_nil ?_
    refine qn_then ?_
    obtain ⟨hb232, q233⟩ | ⟨hb232, q233⟩ := oi h <;> clear h
    · refine cw_t rfl hb232 ?_
      refine cw_skip ?_
      refine qn_then ?_
      refine cw_seq ?_
      refine cw_block ?_
      refine cw_region ?_
      refine t_rd rfl (rd_move rfl) ?_
      refine t_rd rfl (rd_move rfl) ?_
      refine t_rd rfl (rd_move rfl) ?_
      obtain ⟨r234, h235, q236⟩ := ob q233; clear q233
      refine t_ef rfl (ef_call tf15 rfl (Maker_Next_ok h235 (hv0_l.to_callT (k := 1) hm231 rfl) (hm231.get (k := 1) rfl))) ?_
      rintro _ w238 ⟨e_, hm237⟩
      obtain rfl := e_.symm
      have hm239 := hm231.callT (k := 1) rfl (fun _ h => h) hm237 (fun _ => Iff.rfl)
      refine t_ef rfl (ef_bslice (l := ([r234.2] : List Int)) hm239 tS22 rfl (cs := #[(Value.int .i64 r234.2)]) (by unfold bsl; kernel_rfl) rfl rfl) ?_
      intro v240 w242 hm241
      obtain ⟨l243, h244, q245⟩ := ob q236; clear q236
      refine t_ef rfl (ef_append (k := 1) hm241 tS22 tE3 rfl rfl rfl rfl (hm241.sl 0 rfl) h244) ?_
      intro v246 w248 hm247
      refine t_rd rfl (rd_assign rfl) ?_
      refine rwt_nil ?_
      refine qn_block (qn_then ?_)
      refine cw_region ?_
      refine t_rd rfl (rd_move rfl) ?_
      obtain ⟨x249, h250, q251⟩ := ob q245; clear q245
      refine t_rd rfl (rd_sub64 h250 rfl rfl) ?_
      refine t_rd rfl (rd_assign rfl) ?_
      refine rwt_nil ?_
      refine qn_then ?_
      refine ⟨_, (os q251), v246, (by repeat (first | exact Sub.nil _ | refine Sub.cons rfl ?_)), (hm247.pick [1, 2] (by decide) rfl)⟩
    · refine cw_f rfl hb232 ?_
      refine cw_exit ?_
      refine qx_then (qx_then ?_)
      obtain rfl := hr227 _ (os q233)
      exact ⟨rfl, v221, (by repeat (first | exact Sub.nil _ | refine Sub.cons rfl ?_)), (hm231.pick [0, 1] (by decide) rfl)⟩
  · skip
    intro e env252 w253 hX254
    obtain ⟨rfl, v217, hs255, hm256⟩ := hX254
    refine qx_same (qn_then ?_)
    refine cw_sub hs255 ?_
    refine cw_seq ?_
    refine cw_region ?_
    refine t_rd rfl (rd_move rfl) ?_
    refine t_rd rfl (rd_assign rfl) ?_
    refine rwt_nil ?_
    refine qn_then ?_
    refine cw_ret ?_
    obtain rfl := os q230
    exact ret1 rfl rfl ⟨v217, rfl, (hm256.pick [1, 0] (by decide) rfl)⟩

theorem setout_check_ok {N : Nat} {a0 : List Int} {a1 : Int} {res : Int} (h : setout_check N a0 a1 = some res) {w : World} {v0 : Value} (hv0 : Sl (Old w No) w v0 a0) :
    CallsR Try.prog 16 [v0, (Value.int .i64 a1)] w (fun u w' => u = (Value.int .i64 res) ∧ Mem w No [] w') := by
  unfold setout_check at h
  refine fn_ok Try.func16 rfl rfl rfl ?_
  have hm0 := Mem.nil w
  refine cw_seq ?_
  refine cw_region ?_
  refine t_rd rfl (rd_assign rfl) ?_
  refine rwt_nil ?_
  refine qn_then ?_
  refine cw_seq ?_
  refine cw_seq ?_
  refine cw_region ?_
  refine t_rd rfl (rd_move rfl) ?_
  refine t_rd rfl (rd_lenS tS22 rfl (hv0.of_old hm0)) ?_
  refine t_rd rfl (rd_gtr rfl rfl) ?_
  refine rwt_nil ?_
  refine qn_then ?_
  obtain ⟨hb1, q2⟩ | ⟨hb1, q2⟩ := oi h <;> clear h
  · refine cw_t rfl hb1 ?_
    refine cw_seq ?_
    refine cw_region ?_
    refine t_rd rfl (rd_assign rfl) ?_
    refine rwt_nil ?_
    refine qn_then ?_
    refine cw_ret ?_
    refine qr_then ?_
    obtain rfl := os q2
    exact ret1 rfl rfl ⟨rfl, (hm0.pick [] (by decide) rfl)⟩
  · refine cw_f rfl hb1 ?_
    refine cw_skip ?_
    refine qn_then ?_
    refine cw_seq ?_
    refine cw_seq ?_
    refine cw_region ?_
    refine t_rd rfl (rd_move rfl) ?_
    refine t_rd rfl (rd_lenS tS22 rfl (hv0.of_old hm0)) ?_
    refine t_rd rfl (rd_move rfl) ?_
    refine rwt_nil ?_
    refine qn_then ?_
    refine cw_block ?_
    obtain ⟨r39, hit40, q41⟩ := ob q2; clear q2
    refine cw_loop2 (I := fun q envq wq => Sub [(1, (Value.int .i64 a1)), (10, v0), (11, (Value.int .i64 (List.length a0 : Int))), (12, (Value.int .i64 q))] envq ∧ Mem w No [] wq) (X := fun eq envq wq => (∃ p42, r39 = (Sum.inl p42) ∧ eq = .ret ∧ retQ Try.prog 24 Try.f16 (fun u w' => u = (Value.int .i64 p42) ∧ Mem w No [] w') .ret envq wq) ∨ (∃ p43, r39 = (Sum.inr p43) ∧ eq = .exit 0 ∧ Sub [] envq ∧ Mem w No [] wq)) hit40 ⟨(by repeat (first | exact Sub.nil _ | refine Sub.cons rfl ?_)), (hm0.pick [] (by decide) rfl)⟩ ?_ ?_
    · rintro i32 x34 env35 w36 hf37 hr38 ⟨hs_, hm_⟩
      have hs_ : Sub [(1, (Value.int .i64 a1)), (10, v0), (11, (Value.int .i64 (List.length a0 : Int))), (12, (Value.int .i64 i32))] env35 := hs_
      have hm44 : Mem w No [] w36 := hm_
      refine cw_sub hs_ ?_
      clear hs_ hm_ q41
      have h : setout_check_l1 N a0 a1 i32 = some x34 := hf37
      clear hf37
      refine cw_seq ?_
      refine cw_region ?_
      refine t_rd rfl (rd_lss rfl rfl) ?_
      refine rwt_nil ?_
      refine qn_then ?_
      refine cw_seq ?_
      obtain ⟨hb45, q46⟩ | ⟨hb45, q46⟩ := oi h <;> clear h
      · refine cw_t rfl hb45 ?_
        refine cw_skip ?_
        refine qn_then ?_
        refine cw_seq ?_
        refine cw_block ?_
        refine cw_seq ?_
        refine cw_region ?_
        obtain ⟨x47, h48, q49⟩ := ob q46; clear q46
        refine t_rd rfl (rd_index tS22 rfl rfl (hv0.of_old hm44) h48) ?_
        refine t_rd rfl (rd_ld1 tO3 rfl ((hv0.of_old hm44).cells h48) (off := 0) rfl) ?_
        refine t_rd rfl (rd_assign rfl) ?_
        refine rwt_nil ?_
        refine qn_then ?_
        refine cw_seq ?_
        refine cw_region ?_
        refine t_rd rfl (rd_move rfl) ?_
        refine t_rd rfl (rd_lss rfl rfl) ?_
        refine t_rd rfl (rd_move rfl) ?_
        refine t_rdg rfl rfl rfl rfl (gv_f _) (fun hg50 => (rd_move rfl)) ?_
        refine t_rdg rfl rfl rfl rfl (gv_f _) (fun hg51 => (rd_move rfl)) ?_
        refine t_rdg rfl rfl rfl rfl (gv_f _) (fun hg52 => (rd_geq (gvx rfl hg52) (gvx rfl hg52))) ?_
        refine t_rd rfl (rd_or rfl (fun hc53 => (gvx rfl (bnotIt hc53)))) ?_
        refine rwt_nil ?_
        refine qn_then ?_
        obtain ⟨hb54, q55⟩ | ⟨hb54, q55⟩ := oi q49 <;> clear q49
        · refine cw_t rfl hb54 ?_
          refine cw_seq ?_
          refine cw_region ?_
          refine t_rd rfl (rd_assign rfl) ?_
          refine rwt_nil ?_
          refine qn_then ?_
          refine cw_ret ?_
          refine qr_block (qr_then (qr_then ?_))
          obtain rfl := hr38 _ (os q55)
          refine .inl (⟨_, rfl, ⟨rfl, ?_⟩⟩)
          exact ret1 rfl rfl ⟨rfl, (hm44.pick [] (by decide) rfl)⟩
        · refine cw_f rfl hb54 ?_
          refine cw_skip ?_
          refine qn_block (qn_then ?_)
          refine cw_region ?_
          obtain ⟨x56, h57, q58⟩ := ob q55; clear q55
          refine t_rd rfl (rd_add64 h57 rfl rfl) ?_
          refine t_rd rfl (rd_move rfl) ?_
          refine rwt_nil ?_
          refine qn_then ?_
          refine ⟨_, (os q58), (by repeat (first | exact Sub.nil _ | refine Sub.cons rfl ?_)), (hm44.pick [] (by decide) rfl)⟩
      · refine cw_f rfl hb45 ?_
        refine cw_exit ?_
        refine qx_then (qx_then ?_)
        obtain rfl := hr38 _ (os q46)
        exact .inr (⟨_, rfl, ⟨rfl, (by repeat (first | exact Sub.nil _ | refine Sub.cons rfl ?_)), (hm44.pick [] (by decide) rfl)⟩⟩)
    · skip
      intro e env59 w60 hX61
      rcases hX61 with hX61 | hX61
      · obtain ⟨p63, rfl, hX61⟩ := hX61
        obtain ⟨rfl, hq65⟩ := hX61
        exact qr_block (qr_then ((by have e := os q41; subst e; exact hq65)))
      · obtain ⟨p66, rfl, hX61⟩ := hX61
        obtain ⟨rfl, hs67, hm68⟩ := hX61
        refine qx_same (qn_then ?_)
        refine cw_sub hs67 ?_
        refine cw_seq ?_
        refine cw_region ?_
        refine t_rd rfl (rd_assign rfl) ?_
        refine rwt_nil ?_
        refine qn_then ?_
        refine cw_ret ?_
        obtain rfl := os q41
        exact ret1 rfl rfl ⟨rfl, (hm68.pick [] (by decide) rfl)⟩

theorem setout_plan_ok {N : Nat} {a0 : List Int} {a1 : Int} {res : List T_SetOut} (h : setout_plan N a0 a1 = some res) {w : World} {v0 : Value} (hv0 : Sl (Old w No) w v0 a0) :
    CallsR Try.prog 17 [v0, (Value.int .i64 a1)] w (fun u w' => ∃ (y0 : Value), u = y0 ∧ Mem w No [ownL 31 y0 (res : List T_SetOut)] w') := by
  unfold setout_plan at h
  refine fn_ok Try.func17 rfl rfl rfl ?_
  have hm0 := Mem.nil w
  refine cw_seq ?_
  refine cw_region ?_
  refine t_rd rfl (rd_assign rfl) ?_
  refine rwt_nil ?_
  refine qn_then ?_
  refine cw_seq ?_
  refine cw_region ?_
  refine t_rd rfl (rd_assign rfl) ?_
  refine rwt_nil ?_
  refine qn_then ?_
  refine cw_seq ?_
  refine cw_region ?_
  refine t_rd rfl (rd_move rfl) ?_
  refine t_rd rfl (rd_assign rfl) ?_
  refine rwt_nil ?_
  refine qn_then ?_
  refine cw_seq ?_
  refine cw_seq ?_
  refine cw_region ?_
  refine t_rd rfl (rd_move rfl) ?_
  refine t_rd rfl (rd_move rfl) ?_
  refine rwt_nil ?_
  refine qn_then ?_
  refine cw_block ?_
  have hm264 := hm0.addNil (α := T_SetOut) 31
  have hm265 := hm264.addMix hv0
  obtain ⟨r811, hit812, q813⟩ := ob h; clear h
  refine cw_loop2 (I := fun q envq wq => ∃ (tb804 : Bool) (v803 : Value) (v801 : Value), Sub [(5, v801), (6, v803), (13, (Value.int .i64 a1)), (14, (Value.int .i64 q.1))] envq ∧ Mem w No [mixL w No tb804 v803 (q.2.2 : List Int), ownL 31 v801 (q.2.1 : List T_SetOut)] wq) (X := fun eq envq wq => eq = .exit 0 ∧ ∃ (v798 : Value), Sub [(5, v798)] envq ∧ Mem w No [ownL 31 v798 (r811 : List T_SetOut)] wq) hit812 ⟨false, v0, (Value.slice none 0 0), (by repeat (first | exact Sub.nil _ | refine Sub.cons rfl ?_)), (hm265.pick [0, 1] (by decide) rfl)⟩ ?_ ?_
  · rintro ⟨i799, l800, l802⟩ x806 env807 w808 hf809 hr810 ⟨tb804, v803, v801, hs_, hm_⟩
    have hs_ : Sub [(5, v801), (6, v803), (13, (Value.int .i64 a1)), (14, (Value.int .i64 i799))] env807 := hs_
    have hm814 : Mem w No [mixL w No tb804 v803 (l802 : List Int), ownL 31 v801 (l800 : List T_SetOut)] w808 := hm_
    refine cw_sub hs_ ?_
    clear hs_ hm_ q813
    have h : setout_plan_l4 N a1 i799 l800 l802 = some x806 := hf809
    clear hf809
    refine cw_seq ?_
    refine cw_region ?_
    refine t_rd rfl (rd_lss rfl rfl) ?_
    refine rwt_nil ?_
    refine qn_then ?_
    refine cw_seq ?_
    obtain ⟨hb815, q816⟩ | ⟨hb815, q816⟩ := oi h <;> clear h
    · refine cw_t rfl hb815 ?_
      refine cw_skip ?_
      refine qn_then ?_
      refine cw_seq ?_
      refine cw_block ?_
      refine cw_seq ?_
      refine cw_region ?_
      refine t_rd rfl (rd_move rfl) ?_
      refine t_rd rfl (rd_assign rfl) ?_
      refine rwt_nil ?_
      refine qn_then ?_
      refine cw_seq ?_
      refine cw_region ?_
      refine t_rd rfl (rd_move rfl) ?_
      refine t_rd rfl (rd_build (cs := #[(Value.int .i64 i799), (Value.int .i64 0), (Value.int .i64 0)]) rfl (by kernel_rfl)) ?_
      refine t_ef rfl (ef_alloc hm814 tZ31 rfl) ?_
      rintro _ w819 ⟨g817, rfl, hm818⟩
      refine t_ef0 (ef_stw (k := 0) hm818 tA31 rfl rfl (oc_cons rfl (oc_cons rfl (oc_cons rfl oc_nil))) rfl rfl rfl) ?_
      intro _ w821 hm820
      refine rwt_nil ?_
      refine qn_then ?_
      refine cw_seq ?_
      refine cw_region ?_
      refine t_rd rfl (rd_assign rfl) ?_
      refine rwt_nil ?_
      refine qn_then ?_
      refine cw_seq ?_
      refine cw_seq ?_
      refine cw_region ?_
      refine t_rd rfl (rd_move rfl) ?_
      refine t_rd rfl (rd_lenS tS22 rfl (hm820.mix_call 1 rfl)) ?_
      refine t_rd rfl (rd_move rfl) ?_
      refine rwt_nil ?_
      refine qn_then ?_
      refine cw_block ?_
      have hm874 := hm820.addNil (α := Int) 3
      obtain ⟨r1000, hit1001, q1002⟩ := ob q816; clear q816
      refine cw_loop2 (I := fun q envq wq => ∃ (v993 : Value), Sub [(5, v801), (6, v803), (7, (Value.int .i64 i799)), (8, (Value.pointer (some ⟨g817, 0, none⟩))), (9, v993), (13, (Value.int .i64 a1)), (14, (Value.int .i64 i799)), (19, v803), (20, (Value.int .i64 (List.length l802 : Int))), (21, (Value.int .i64 q.1))] envq ∧ Mem w No [ownL 3 v993 (q.2.2.2 : List Int), blk g817 31 [(Value.int .i64 i799), (Value.int .i64 q.2.1), (Value.int .i64 q.2.2.1)], mixL w No tb804 v803 (l802 : List Int), ownL 31 v801 (l800 : List T_SetOut)] wq) (X := fun eq envq wq => eq = .exit 2 ∧ ∃ (v988 : Value), Sub [(5, v801), (8, (Value.pointer (some ⟨g817, 0, none⟩))), (9, v988), (13, (Value.int .i64 a1)), (14, (Value.int .i64 i799))] envq ∧ Mem w No [ownL 3 v988 (r1000.2.2 : List Int), blk g817 31 [(Value.int .i64 i799), (Value.int .i64 r1000.1), (Value.int .i64 r1000.2.1)], ownL 31 v801 (l800 : List T_SetOut)] wq) hit1001 ⟨(Value.slice none 0 0), (by repeat (first | exact Sub.nil _ | refine Sub.cons rfl ?_)), (hm874.pick [0, 1, 2, 3] (by decide) rfl)⟩ ?_ ?_
      · rintro ⟨i989, i990, i991, l992⟩ x995 env996 w997 hf998 hr999 ⟨v993, hs_, hm_⟩
        have hs_ : Sub [(5, v801), (6, v803), (7, (Value.int .i64 i799)), (8, (Value.pointer (some ⟨g817, 0, none⟩))), (9, v993), (13, (Value.int .i64 a1)), (14, (Value.int .i64 i799)), (19, v803), (20, (Value.int .i64 (List.length l802 : Int))), (21, (Value.int .i64 i989))] env996 := hs_
        have hm1003 : Mem w No [ownL 3 v993 (l992 : List Int), blk g817 31 [(Value.int .i64 i799), (Value.int .i64 i990), (Value.int .i64 i991)], mixL w No tb804 v803 (l802 : List Int), ownL 31 v801 (l800 : List T_SetOut)] w997 := hm_
        refine cw_sub hs_ ?_
        clear hs_ hm_ q1002
        have h : setout_plan_l5 N i799 l802 i989 i990 i991 l992 = some x995 := hf998
        clear hf998
        refine cw_seq ?_
        refine cw_region ?_
        refine t_rd rfl (rd_lss rfl rfl) ?_
        refine rwt_nil ?_
        refine qn_then ?_
        refine cw_seq ?_
        obtain ⟨hb1004, q1005⟩ | ⟨hb1004, q1005⟩ := oi h <;> clear h
        · refine cw_t rfl hb1004 ?_
          refine cw_skip ?_
          refine qn_then ?_
          refine cw_seq ?_
          refine cw_block ?_
          refine cw_seq ?_
          refine cw_region ?_
          refine t_rd rfl (rd_move rfl) ?_
          obtain ⟨x1006, h1007, q1008⟩ := ob q1005; clear q1005
          refine t_rd rfl (rd_index tS22 rfl rfl (hm1003.mix_call 2 rfl) h1007) ?_
          refine t_rd rfl (rd_ld1 tO3 rfl ((hm1003.mix_call 2 rfl).cells h1007) (off := 0) rfl) ?_
          refine t_rd rfl (rd_assign rfl) ?_
          refine t_rd rfl (rd_assign rfl) ?_
          refine rwt_nil ?_
          refine qn_then ?_
          refine cw_seq ?_
          refine cw_seq ?_
          refine cw_region ?_
          refine t_rd rfl (rd_move rfl) ?_
          refine t_rd rfl (rd_move rfl) ?_
          refine t_rd rfl (rd_neq rfl rfl) ?_
          refine rwt_nil ?_
          refine qn_then ?_
          obtain ⟨hb1009, q1010⟩ | ⟨hb1009, q1010⟩ := oi q1008 <;> clear q1008
          · refine cw_t rfl hb1009 ?_
            refine cw_seq ?_
            refine cw_region ?_
            refine t_rd rfl (rd_move rfl) ?_
            refine t_rd rfl (rd_move rfl) ?_
            refine t_ef rfl (ef_bslice (l := ([x1006] : List Int)) hm1003 tS22 rfl (cs := #[(Value.int .i64 x1006)]) (by unfold bsl; kernel_rfl) rfl rfl) ?_
            intro v1011 w1013 hm1012
            obtain ⟨l1014, h1015, q1016⟩ := ob q1010; clear q1010
            refine t_ef rfl (ef_append (k := 1) hm1012 tS22 tE3 rfl rfl rfl rfl (hm1012.sl 0 rfl) h1015) ?_
            intro v1017 w1019 hm1018
            refine t_rd rfl (rd_assign rfl) ?_
            refine rwt_nil ?_
            refine qn_then ?_
            refine cw_exit ?_
            refine qx_then (qx_same (qn_then ?_))
            refine cw_region ?_
            obtain ⟨x1020, h1021, q1022⟩ := ob q1016; clear q1016
            refine t_rd rfl (rd_add64 h1021 rfl rfl) ?_
            refine t_rd rfl (rd_move rfl) ?_
            refine rwt_nil ?_
            refine qn_then ?_
            refine ⟨_, (os q1022), v1017, (by repeat (first | exact Sub.nil _ | refine Sub.cons rfl ?_)), (hm1018.pick [1, 2, 3, 4] (by decide) rfl)⟩
          · refine cw_f rfl hb1009 ?_
            refine cw_skip ?_
            refine qn_then ?_
            refine cw_seq ?_
            refine cw_region ?_
            refine t_rd rfl (rd_fld tF31_1 rfl) ?_
            refine t_rd rfl (rd_ld1 tO3 rfl (hm1003.blk 1 rfl) (off := 1) rfl) ?_
            obtain ⟨x1023, h1024, q1025⟩ := ob q1010; clear q1010
            refine t_rd rfl (rd_add64 h1024 rfl rfl) ?_
            refine t_rd rfl (rd_fld tF31_1 rfl) ?_
            refine t_ef0 (ef_st1 (k := 1) (off := 1) hm1003 tO3 rfl rfl rfl rfl rfl rfl) ?_
            intro _ w1027 hm1026
            refine rwt_nil ?_
            refine qn_then ?_
            refine cw_seq ?_
            refine cw_region ?_
            refine t_rd rfl (rd_move rfl) ?_
            refine t_rd rfl (rd_eql rfl rfl) ?_
            refine t_rd rfl (rd_move rfl) ?_
            refine t_rdg rfl rfl rfl rfl (gv_f _) (fun hg1028 => (rd_move rfl)) ?_
            refine t_rdg rfl rfl rfl rfl (gv_f _) (fun hg1029 => (rd_move rfl)) ?_
            obtain ⟨x1031, h1032, q1033⟩ := ob q1025; clear q1025
            refine t_rdg rfl rfl rfl rfl (gv_f _) (fun hg1030 => (rd_sub64 (gO_t h1032 hg1030) (gvx rfl hg1030) rfl)) ?_
            obtain ⟨x1035, h1036, q1037⟩ := ob q1033; clear q1033
            refine t_rdg rfl rfl rfl rfl (gv_f _) (fun hg1034 => (rd_index tS22 (gvx rfl hg1034) (gvx rfl hg1034) (hm1026.mix_call 2 rfl) (gO_t h1036 hg1034))) ?_
            refine t_rdg rfl rfl rfl rfl (gv_f _) (fun hg1038 => (rd_ld1 tO3 (gvx rfl hg1038) ((hm1026.mix_call 2 rfl).cells (gO_t h1036 hg1038)) (off := 0) rfl)) ?_
            refine t_rdg rfl rfl rfl rfl (gv_f _) (fun hg1039 => (rd_move rfl)) ?_
            refine t_rdg rfl rfl rfl rfl (gv_f _) (fun hg1040 => (rd_neq (gvx rfl hg1040) (gvx rfl hg1040))) ?_
            refine t_rd rfl (rd_or rfl (fun hc1041 => (gvx rfl (bnotIt hc1041)))) ?_
            refine rwt_nil ?_
            refine qn_then ?_
            obtain ⟨hb1042, q1043⟩ | ⟨hb1042, q1043⟩ := oi q1037 <;> clear q1037
            · refine cw_t rfl hb1042 ?_
              refine cw_region ?_
              refine t_rd rfl (rd_fld tF31_2 rfl) ?_
              refine t_rd rfl (rd_ld1 tO3 rfl (hm1026.blk 1 rfl) (off := 2) rfl) ?_
              obtain ⟨x1044, h1045, q1046⟩ := ob q1043; clear q1043
              refine t_rd rfl (rd_add64 h1045 rfl rfl) ?_
              refine t_rd rfl (rd_fld tF31_2 rfl) ?_
              refine t_ef0 (ef_st1 (k := 1) (off := 2) hm1026 tO3 rfl rfl rfl rfl rfl rfl) ?_
              intro _ w1048 hm1047
              refine rwt_nil ?_
              refine qn_block (qn_then ?_)
              refine cw_region ?_
              obtain ⟨x1049, h1050, q1051⟩ := ob q1046; clear q1046
              refine t_rd rfl (rd_add64 h1050 rfl rfl) ?_
              refine t_rd rfl (rd_move rfl) ?_
              refine rwt_nil ?_
              refine qn_then ?_
              refine ⟨_, (os q1051), v993, (by repeat (first | exact Sub.nil _ | refine Sub.cons rfl ?_)), (hm1047.pick [0, 1, 2, 3] (by decide) rfl)⟩
            · refine cw_f rfl hb1042 ?_
              refine cw_skip ?_
              refine qn_block (qn_then ?_)
              refine cw_region ?_
              obtain ⟨x1052, h1053, q1054⟩ := ob q1043; clear q1043
              refine t_rd rfl (rd_add64 h1053 rfl rfl) ?_
              refine t_rd rfl (rd_move rfl) ?_
              refine rwt_nil ?_
              refine qn_then ?_
              refine ⟨_, (os q1054), v993, (by repeat (first | exact Sub.nil _ | refine Sub.cons rfl ?_)), (hm1026.pick [0, 1, 2, 3] (by decide) rfl)⟩
        · refine cw_f rfl hb1004 ?_
          refine cw_exit ?_
          refine qx_then (qx_then ?_)
          obtain rfl := hr999 _ (os q1005)
          exact ⟨rfl, v993, (by repeat (first | exact Sub.nil _ | refine Sub.cons rfl ?_)), (hm1003.pick [0, 1, 3] (by decide) rfl)⟩
      · skip
        intro e env1055 w1056 hX1057
        obtain ⟨rfl, v988, hs1058, hm1059⟩ := hX1057
        refine qx_same (qn_then ?_)
        refine cw_sub hs1058 ?_
        refine cw_seq ?_
        refine cw_seq ?_
        refine cw_region ?_
        refine t_rd rfl (rd_fld tF31_1 rfl) ?_
        refine t_rd rfl (rd_ld1 tO3 rfl (hm1059.blk 1 rfl) (off := 1) rfl) ?_
        refine t_rd rfl (rd_gtr rfl rfl) ?_
        refine rwt_nil ?_
        refine qn_then ?_
        obtain ⟨hb1060, q1061⟩ | ⟨hb1060, q1061⟩ := oi q1002 <;> clear q1002
        · refine cw_t rfl hb1060 ?_
          refine cw_region ?_
          refine t_rd rfl (rd_move rfl) ?_
          refine t_rd rfl (rd_ld tA31 rfl (hm1059.blk 1 rfl) rfl) ?_
          refine t_ef rfl (ef_bslice (l := ([(T_SetOut.mk i799 r1000.1 r1000.2.1)] : List T_SetOut)) hm1059 tS26 rfl (cs := #[(Value.int .i64 i799), (Value.int .i64 r1000.1), (Value.int .i64 r1000.2.1)]) (by unfold bsl; kernel_rfl) rfl rfl) ?_
          intro v1062 w1064 hm1063
          obtain ⟨l1065, h1066, q1067⟩ := ob q1061; clear q1061
          refine t_ef rfl (ef_append (k := 3) hm1063 tS26 tE31 rfl rfl rfl rfl (hm1063.sl 0 rfl) h1066) ?_
          intro v1068 w1070 hm1069
          refine t_rd rfl (rd_assign rfl) ?_
          refine rwt_nil ?_
          refine qn_then ?_
          refine cw_region ?_
          refine t_rd rfl (rd_move rfl) ?_
          refine t_rd rfl (rd_assign rfl) ?_
          refine rwt_nil ?_
          refine qn_block (qn_then ?_)
          refine cw_region ?_
          obtain ⟨x1071, h1072, q1073⟩ := ob q1067; clear q1067
          refine t_rd rfl (rd_add64 h1072 rfl rfl) ?_
          refine t_rd rfl (rd_move rfl) ?_
          refine rwt_nil ?_
          refine qn_then ?_
          have hm1074 := hm1069.ownMix (k := 1) rfl
          refine ⟨_, (os q1073), true, v988, v1068, (by repeat (first | exact Sub.nil _ | refine Sub.cons rfl ?_)), (hm1074.pick [1, 3] (by decide) rfl)⟩
        · refine cw_f rfl hb1060 ?_
          refine cw_skip ?_
          refine qn_then ?_
          refine cw_region ?_
          refine t_rd rfl (rd_move rfl) ?_
          refine t_rd rfl (rd_assign rfl) ?_
          refine rwt_nil ?_
          refine qn_block (qn_then ?_)
          refine cw_region ?_
          obtain ⟨x1075, h1076, q1077⟩ := ob q1061; clear q1061
          refine t_rd rfl (rd_add64 h1076 rfl rfl) ?_
          refine t_rd rfl (rd_move rfl) ?_
          refine rwt_nil ?_
          refine qn_then ?_
          have hm1078 := hm1059.ownMix (k := 0) rfl
          refine ⟨_, (os q1077), true, v988, v801, (by repeat (first | exact Sub.nil _ | refine Sub.cons rfl ?_)), (hm1078.pick [0, 2] (by decide) rfl)⟩
    · refine cw_f rfl hb815 ?_
      refine cw_exit ?_
      refine qx_then (qx_then ?_)
      obtain rfl := hr810 _ (os q816)
      exact ⟨rfl, v801, (by repeat (first | exact Sub.nil _ | refine Sub.cons rfl ?_)), (hm814.pick [1] (by decide) rfl)⟩
  · skip
    intro e env1079 w1080 hX1081
    obtain ⟨rfl, v798, hs1082, hm1083⟩ := hX1081
    refine qx_same (qn_then ?_)
    refine cw_sub hs1082 ?_
    refine cw_seq ?_
    refine cw_region ?_
    refine t_rd rfl (rd_move rfl) ?_
    refine t_rd rfl (rd_assign rfl) ?_
    refine rwt_nil ?_
    refine qn_then ?_
    refine cw_ret ?_
    obtain rfl := os q813
    exact ret1 rfl rfl ⟨v798, rfl, (hm1083.pick [0] (by decide) rfl)⟩

theorem setout_Plan_ok {N : Nat} {a0 : List Int} {a1 : Int} {res : List T_SetOut × Int} (h : setout_Plan N a0 a1 = some res) {w : World} {v0 : Value} (hv0 : Sl (Old w No) w v0 a0) :
    CallsR Try.prog 9 [v0, (Value.int .i64 a1)] w (fun u w' => ∃ (y0 : Value), u = (Value.tuple #[y0, (Value.int .i64 res.2)]) ∧ Mem w No [ownL 31 y0 (res.1 : List T_SetOut)] w') := by
  unfold setout_Plan at h
  refine fn_ok Try.func9 rfl rfl rfl ?_
  have hm0 := Mem.nil w
  refine cw_seq ?_
  refine cw_region ?_
  refine t_rd rfl (rd_assign rfl) ?_
  refine t_rd rfl (rd_assign rfl) ?_
  refine rwt_nil ?_
  refine qn_then ?_
  refine cw_seq ?_
  refine cw_seq ?_
  refine cw_region ?_
  refine t_rd rfl (rd_move rfl) ?_
  refine t_rd rfl (rd_lss rfl rfl) ?_
  refine t_rd rfl (rd_move rfl) ?_
  refine t_rdg rfl rfl rfl rfl (gv_f _) (fun hg1 => (rd_move rfl)) ?_
  refine t_rdg rfl rfl rfl rfl (gv_f _) (fun hg2 => (rd_gtr (gvx rfl hg2) rfl)) ?_
  refine t_rd rfl (rd_or rfl (fun hc3 => (gvx rfl (bnotIt hc3)))) ?_
  refine rwt_nil ?_
  refine qn_then ?_
  obtain ⟨hb4, q5⟩ | ⟨hb4, q5⟩ := oi h <;> clear h
  · refine cw_t rfl hb4 ?_
    refine cw_seq ?_
    refine cw_region ?_
    refine t_rd rfl (rd_assign rfl) ?_
    refine t_rd rfl (rd_assign rfl) ?_
    refine rwt_nil ?_
    refine qn_then ?_
    refine cw_ret ?_
    refine qr_then ?_
    obtain rfl := os q5
    have hm6 := hm0.addNil (α := T_SetOut) 31
    exact ret2 rfl rfl rfl ⟨(Value.slice none 0 0), rfl, (hm6.pick [0] (by decide) rfl)⟩
  · refine cw_f rfl hb4 ?_
    refine cw_skip ?_
    refine qn_then ?_
    refine cw_seq ?_
    refine cw_seq ?_
    refine cw_region ?_
    refine t_rd rfl (rd_move rfl) ?_
    refine t_rd rfl (rd_move rfl) ?_
    obtain ⟨r7, h8, q9⟩ := ob q5; clear q5
    refine t_ef rfl (ef_call tf16 rfl (setout_check_ok h8 (hv0.to_call hm0))) ?_
    rintro _ w11 ⟨e_, hm10⟩
    obtain rfl := e_.symm
    have hm12 := hm0.call hm10
    refine t_rd rfl (rd_assign rfl) ?_
    refine rwt_nil ?_
    refine qn_then ?_
    refine cw_seq ?_
    refine cw_region ?_
    refine t_rd rfl (rd_move rfl) ?_
    refine t_rd rfl (rd_neq rfl rfl) ?_
    refine rwt_nil ?_
    refine qn_then ?_
    obtain ⟨hb13, q14⟩ | ⟨hb13, q14⟩ := oi q9 <;> clear q9
    · refine cw_t rfl hb13 ?_
      refine cw_seq ?_
      refine cw_region ?_
      refine t_rd rfl (rd_move rfl) ?_
      refine t_rd rfl (rd_assign rfl) ?_
      refine t_rd rfl (rd_assign rfl) ?_
      refine rwt_nil ?_
      refine qn_then ?_
      refine cw_ret ?_
      refine qr_then ?_
      obtain rfl := os q14
      have hm15 := hm12.addNil (α := T_SetOut) 31
      exact ret2 rfl rfl rfl ⟨(Value.slice none 0 0), rfl, (hm15.pick [0] (by decide) rfl)⟩
    · refine cw_f rfl hb13 ?_
      refine cw_skip ?_
      refine qn_then ?_
      refine cw_seq ?_
      refine cw_region ?_
      refine t_rd rfl (rd_move rfl) ?_
      refine t_rd rfl (rd_move rfl) ?_
      obtain ⟨r16, h17, q18⟩ := ob q14; clear q14
      refine t_ef rfl (ef_call tf17 rfl (setout_plan_ok h17 (hv0.to_call hm12))) ?_
      rintro _ w21 ⟨v19, e_, hm20⟩
      obtain rfl := e_.symm
      have hm22 := hm12.call hm20
      refine t_rd rfl (rd_assign rfl) ?_
      refine t_rd rfl (rd_assign rfl) ?_
      refine rwt_nil ?_
      refine qn_then ?_
      refine cw_ret ?_
      obtain rfl := os q18
      exact ret2 rfl rfl rfl ⟨v19, rfl, (hm22.pick [0] (by decide) rfl)⟩

theorem setout_Best_1_ok {N : Nat} {a0 : Int} {a1 : Int} {a2 : List (List Int)} {res : Int} (h : setout_Best_1 N a0 a1 a2 = some res) {w : World} {v2 : Value} (hv2 : Sl (Old w No) w v2 a2) :
    CallsR Try.prog 24 [(Value.int .i64 a0), (Value.int .i64 a1), (Value.pointer (some ⟨pB v2, pO v2, none⟩))] w (fun u w' => u = (Value.int .i64 res) ∧ Mem w No [] w') := by
  unfold setout_Best_1 at h
  refine fn_ok Try.func24 rfl rfl rfl ?_
  obtain ⟨zs_a2, hn2⟩ := hv2.nest
  have hm0 := Mem.nil w
  obtain ⟨x1, h2, q3⟩ := ob h; clear h
  refine cw_seq ?_
  refine cw_region ?_
  refine t_rd rfl (rd_assign rfl) ?_
  refine rwt_nil ?_
  refine qn_then ?_
  refine cw_seq ?_
  obtain ⟨w5, he7⟩ : ∃ q, q = w.drew := ⟨_, rfl⟩
  have hm6 := hm0.drew; rw [← he7] at hm6
  refine cw_region_s (fun q => q = w5) (cls [] []) mixed ?_
  rintro _ rfl; rw [← he7]
  obtain ⟨zd8, hz9⟩ := (hn2.of_old hm6).row h2
  refine s_rd (i := 0) rfl (by kernel_rfl) rfl (fun _ hS => by rw [hS]; exact (rd_ld1 tO22 rfl ((hn2.of_old hm6).cells hz9) (off := 0) rfl)) rfl ?_
  refine s_rp (i := 1) rfl (by kernel_rfl) rfl (fun _ => (rd_move rfl)) ?_
  obtain ⟨x10, h11, q12⟩ := ob q3; clear q3
  refine s_rp (i := 2) rfl (by kernel_rfl) rfl (fun _ => (rd_index tS22 rfl rfl ((hn2.of_old hm6).get hz9 h2) h11)) ?_
  refine s_rd (i := 3) rfl (by kernel_rfl) rfl (fun _ hS => by rw [hS]; exact (rd_ld1 tO3 rfl (((hn2.of_old hm6).get hz9 h2).cells h11) (off := 0) rfl)) rfl ?_
  obtain ⟨zd13, hz14⟩ := (hn2.of_old hm6).row h2
  refine s_rd (i := 4) rfl (by kernel_rfl) rfl (fun _ hS => by rw [hS]; exact (rd_ld1 tO22 rfl ((hn2.of_old hm6).cells hz14) (off := 0) rfl)) rfl ?_
  refine s_rp (i := 5) rfl (by kernel_rfl) rfl (fun _ => (rd_move rfl)) ?_
  obtain ⟨x15, h16, q17⟩ := ob q12; clear q12
  refine s_rp (i := 6) rfl (by kernel_rfl) rfl (fun _ => (rd_index tS22 rfl rfl ((hn2.of_old hm6).get hz14 h2) h16)) ?_
  refine s_rd (i := 7) rfl (by kernel_rfl) rfl (fun _ hS => by rw [hS]; exact (rd_ld1 tO3 rfl (((hn2.of_old hm6).get hz14 h2).cells h16) (off := 0) rfl)) rfl ?_
  obtain ⟨x18, h19, q20⟩ := ob q17; clear q17
  refine s_rp (i := 8) rfl (by kernel_rfl) rfl (fun _ => (rd_sub64 h19 rfl rfl)) ?_
  refine s_rp (i := 9) rfl (by kernel_rfl) rfl (fun _ => (rd_assign rfl)) ?_
  refine s_nil (by kernel_rfl) ?_
  refine qn_then ?_
  refine cw_ret ?_
  obtain rfl := os q20
  exact ret1 rfl rfl ⟨rfl, (hm6.pick [] (by decide) rfl)⟩

theorem g_slices_insertionSortCmpFunc_int_ok {N : Nat} {a0 : List Int} {a1 : Int} {a2 : Int} {a3 : List (List Int)} {res : List Int} (h : g_slices_insertionSortCmpFunc_int N a0 a1 a2 a3 = some res) {w : World} {v0 : Value} {v3 : Value} (hk0 : (ownL 3 v0 (a0 : List Int)).φ w) (hv3 : Sl (Old w (ownL 3 v0 (a0 : List Int)).D) w v3 a3) :
    CallsR Try.prog 29 [v0, (Value.int .i64 a1), (Value.int .i64 a2), (Value.func (.func 24) #[] #[(Value.pointer (some ⟨pB v3, pO v3, none⟩))])] w (fun u w' => u = (Value.tuple #[]) ∧ Mem w (ownL 3 v0 (a0 : List Int)).D [ownL 3 v0 (res : List Int)] w') := by
  unfold g_slices_insertionSortCmpFunc_int at h
  refine fn_ok Try.func29 rfl rfl rfl ?_
  obtain ⟨zs_a3, hn3⟩ := hv3.nest
  have hm0 := Mem.one hk0
  refine cw_seq ?_
  refine cw_region ?_
  refine t_rd rfl (rd_move rfl) ?_
  obtain ⟨x1, h2, q3⟩ := ob h; clear h
  refine t_rd rfl (rd_add64 h2 rfl rfl) ?_
  refine t_rd rfl (rd_assign rfl) ?_
  refine rwt_nil ?_
  refine qn_then ?_
  refine cw_block ?_
  obtain ⟨r443, hit444, q445⟩ := ob q3; clear q3
  refine cw_loop2 (I := fun q envq wq => Sub [(0, v0), (1, (Value.int .i64 a1)), (2, (Value.int .i64 a2)), (3, (Value.func (.func 24) #[] #[(Value.pointer (some ⟨pB v3, pO v3, none⟩))])), (8, (Value.int .i64 q.1))] envq ∧ Mem w (ownL 3 v0 (a0 : List Int)).D [ownL 3 v0 (q.2 : List Int)] wq) (X := fun eq envq wq => eq = .exit 0 ∧ Sub [] envq ∧ Mem w (ownL 3 v0 (a0 : List Int)).D [ownL 3 v0 (r443 : List Int)] wq) hit444 ⟨(by repeat (first | exact Sub.nil _ | refine Sub.cons rfl ?_)), (hm0.pick [0] (by decide) rfl)⟩ ?_ ?_
  · rintro ⟨i435, l436⟩ x438 env439 w440 hf441 hr442 ⟨hs_, hm_⟩
    have hs_ : Sub [(0, v0), (1, (Value.int .i64 a1)), (2, (Value.int .i64 a2)), (3, (Value.func (.func 24) #[] #[(Value.pointer (some ⟨pB v3, pO v3, none⟩))])), (8, (Value.int .i64 i435))] env439 := hs_
    have hm446 : Mem w (ownL 3 v0 (a0 : List Int)).D [ownL 3 v0 (l436 : List Int)] w440 := hm_
    refine cw_sub hs_ ?_
    clear hs_ hm_ q445
    have h : g_slices_insertionSortCmpFunc_int_l3 N a1 a2 a3 i435 l436 = some x438 := hf441
    clear hf441
    refine cw_seq ?_
    refine cw_seq ?_
    refine cw_region ?_
    refine t_rd rfl (rd_move rfl) ?_
    refine t_rd rfl (rd_move rfl) ?_
    refine t_rd rfl (rd_lss rfl rfl) ?_
    refine rwt_nil ?_
    refine qn_then ?_
    obtain ⟨hb447, q448⟩ | ⟨hb447, q448⟩ := oi h <;> clear h
    · refine cw_t rfl hb447 ?_
      refine cw_skip ?_
      refine qn_then ?_
      refine cw_seq ?_
      refine cw_block ?_
      refine cw_seq ?_
      refine cw_region ?_
      refine t_rd rfl (rd_move rfl) ?_
      refine t_rd rfl (rd_assign rfl) ?_
      refine rwt_nil ?_
      refine qn_then ?_
      refine cw_block ?_
      obtain ⟨r586, hit587, q588⟩ := ob q448; clear q448
      refine cw_loop2 (I := fun q envq wq => Sub [(0, v0), (1, (Value.int .i64 a1)), (2, (Value.int .i64 a2)), (3, (Value.func (.func 24) #[] #[(Value.pointer (some ⟨pB v3, pO v3, none⟩))])), (8, (Value.int .i64 i435)), (9, (Value.int .i64 q.1))] envq ∧ Mem w (ownL 3 v0 (a0 : List Int)).D [ownL 3 v0 (q.2 : List Int)] wq) (X := fun eq envq wq => eq = .exit 2 ∧ Sub [(0, v0), (1, (Value.int .i64 a1)), (2, (Value.int .i64 a2)), (3, (Value.func (.func 24) #[] #[(Value.pointer (some ⟨pB v3, pO v3, none⟩))])), (8, (Value.int .i64 i435))] envq ∧ Mem w (ownL 3 v0 (a0 : List Int)).D [ownL 3 v0 (r586 : List Int)] wq) hit587 ⟨(by repeat (first | exact Sub.nil _ | refine Sub.cons rfl ?_)), (hm446.pick [0] (by decide) rfl)⟩ ?_ ?_
      · rintro ⟨i578, l579⟩ x581 env582 w583 hf584 hr585 ⟨hs_, hm_⟩
        have hs_ : Sub [(0, v0), (1, (Value.int .i64 a1)), (2, (Value.int .i64 a2)), (3, (Value.func (.func 24) #[] #[(Value.pointer (some ⟨pB v3, pO v3, none⟩))])), (8, (Value.int .i64 i435)), (9, (Value.int .i64 i578))] env582 := hs_
        have hm589 : Mem w (ownL 3 v0 (a0 : List Int)).D [ownL 3 v0 (l579 : List Int)] w583 := hm_
        refine cw_sub hs_ ?_
        clear hs_ hm_ q588
        have h : g_slices_insertionSortCmpFunc_int_l4 N a1 a3 i578 l579 = some x581 := hf584
        clear hf584
        refine cw_seq ?_
        refine cw_seq ?_
        obtain ⟨w591, he593⟩ : ∃ q, q = w583.drew := ⟨_, rfl⟩
        have hm592 := hm589.drew; rw [← he593] at hm592
        refine cw_region_s (fun q => q = w591) (cls [] [14]) mixed ?_
        rintro _ rfl; rw [← he593]
        refine s_rp (i := 0) rfl (by kernel_rfl) rfl (fun _ => (rd_move rfl)) ?_
        refine s_rp (i := 1) rfl (by kernel_rfl) rfl (fun _ => (rd_move rfl)) ?_
        refine s_rp (i := 2) rfl (by kernel_rfl) rfl (fun _ => (rd_gtr rfl rfl)) ?_
        refine s_rp (i := 3) rfl (by kernel_rfl) rfl (fun _ => (rd_move rfl)) ?_
        refine s_rpg (i := 4) rfl (by kernel_rfl) rfl rfl rfl rfl (gv_t _) (fun hg594 _ => (rd_move rfl)) ?_
        refine s_rpg (i := 5) rfl (by kernel_rfl) rfl rfl rfl rfl (gv_t _) (fun hg595 _ => (rd_move rfl)) ?_
        refine s_rpg (i := 6) rfl (by kernel_rfl) rfl rfl rfl rfl (gv_t _) (fun hg596 _ => (rd_move rfl)) ?_
        obtain ⟨x598, h599, q600⟩ := ob h; clear h
        refine s_rpg (i := 7) rfl (by kernel_rfl) rfl rfl rfl rfl (gv_t _) (fun hg597 _ => (rd_index tS22 (gvx rfl hg597) (gvx rfl hg597) (hm592.sl 0 rfl) (gO_t h599 hg597))) ?_
        refine s_rdg (i := 8) rfl (by kernel_rfl) rfl rfl rfl rfl (gv_t _) (fun hg601 => (fun _ hS => by rw [hS]; exact (rd_ld1 tO3 (gvx rfl hg601) ((hm592.sl 0 rfl).cells (gO_t h599 hg601)) (off := 0) rfl))) rfl ?_
        refine s_rpg (i := 9) rfl (by kernel_rfl) rfl rfl rfl rfl (gv_t _) (fun hg602 _ => (rd_move rfl)) ?_
        refine s_rpg (i := 10) rfl (by kernel_rfl) rfl rfl rfl rfl (gv_t _) (fun hg603 _ => (rd_move rfl)) ?_
        obtain ⟨x605, h606, q607⟩ := ob q600; clear q600
        refine s_rpg (i := 11) rfl (by kernel_rfl) rfl rfl rfl rfl (gv_t _) (fun hg604 _ => (rd_sub64 (gO_t h606 hg604) (gvx rfl hg604) rfl)) ?_
        obtain ⟨x609, h610, q611⟩ := ob q607; clear q607
        refine s_rpg (i := 12) rfl (by kernel_rfl) rfl rfl rfl rfl (gv_t _) (fun hg608 _ => (rd_index tS22 (gvx rfl hg608) (gvx rfl hg608) (hm592.sl 0 rfl) (gO_t h610 hg608))) ?_
        refine s_rdg (i := 13) rfl (by kernel_rfl) rfl rfl rfl rfl (gv_t _) (fun hg612 => (fun _ hS => by rw [hS]; exact (rd_ld1 tO3 (gvx rfl hg612) ((hm592.sl 0 rfl).cells (gO_t h610 hg612)) (off := 0) rfl))) rfl ?_
        obtain ⟨r614, h615, q616⟩ := ob q611; clear q611
        refine s_efg (i := 14) rfl (by kernel_rfl) rfl rfl rfl rfl (R := (fun v w' => v = gV (decide (a1 < i578)) (Value.int .i64 r614) ∧ Mem w591 No [] w')) (gv_t _) (fun hg613 => (ef_callv tf24 (gvx rfl hg613) (evc (gvx rfl hg613) (evc (gvx rfl hg613) evn)) (setout_Best_1_ok (gO_t h615 hg613) ((hn3.to_call hm592).sl))).mono (by rintro _ _ ⟨rfl, q⟩; exact ⟨(gV_t hg613).symm, q⟩)) (fun q => ⟨(gV_f q).symm, Mem.nil _⟩) (by decide) (fun _ _ _ q => absurd q (by decide)) ?_
        rintro _ w618 ⟨rfl, hm617⟩
        have hm619 := hm592.call hm617
        refine s_rpg (i := 15) rfl (by kernel_rfl) rfl rfl rfl rfl (gv_t _) (fun hg620 _ => (rd_lss (gvx rfl hg620) rfl)) ?_
        refine s_rp (i := 16) rfl (by kernel_rfl) rfl (fun _ => (rd_and rfl (fun hc621 => (gvx rfl hc621)))) ?_
        refine s_nil (by kernel_rfl) ?_
        refine qn_then ?_
        obtain ⟨hb622, q623⟩ | ⟨hb622, q623⟩ := oi q616 <;> clear q616
        · refine cw_t rfl hb622 ?_
          refine cw_skip ?_
          refine qn_then ?_
          refine cw_seq ?_
          refine cw_block ?_
          obtain ⟨w625, he627⟩ : ∃ q, q = w618.drew := ⟨_, rfl⟩
          have hm626 := hm619.drew; rw [← he627] at hm626
          refine cw_region_s (fun q => q = w625) (cls [] [15, 17]) mixed ?_
          rintro _ rfl; rw [← he627]
          refine s_rp (i := 0) rfl (by kernel_rfl) rfl (fun _ => (rd_move rfl)) ?_
          refine s_rp (i := 1) rfl (by kernel_rfl) rfl (fun _ => (rd_move rfl)) ?_
          refine s_rp (i := 2) rfl (by kernel_rfl) rfl (fun _ => (rd_move rfl)) ?_
          refine s_rp (i := 3) rfl (by kernel_rfl) rfl (fun _ => (rd_move rfl)) ?_
          obtain ⟨x628, h629, q630⟩ := ob q623; clear q623
          refine s_rp (i := 4) rfl (by kernel_rfl) rfl (fun _ => (rd_sub64 h629 rfl rfl)) ?_
          refine s_rp (i := 5) rfl (by kernel_rfl) rfl (fun _ => (rd_move rfl)) ?_
          refine s_rp (i := 6) rfl (by kernel_rfl) rfl (fun _ => (rd_move rfl)) ?_
          obtain ⟨x631, h632, q633⟩ := ob q630; clear q630
          refine s_rp (i := 7) rfl (by kernel_rfl) rfl (fun _ => (rd_sub64 h632 rfl rfl)) ?_
          obtain ⟨x634, h635, q636⟩ := ob q633; clear q633
          refine s_rp (i := 8) rfl (by kernel_rfl) rfl (fun _ => (rd_index tS22 rfl rfl (hm626.sl 0 rfl) h635)) ?_
          refine s_rd (i := 9) rfl (by kernel_rfl) rfl (fun _ hS => by rw [hS]; exact (rd_ld1 tO3 rfl ((hm626.sl 0 rfl).cells h635) (off := 0) rfl)) rfl ?_
          refine s_rp (i := 10) rfl (by kernel_rfl) rfl (fun _ => (rd_move rfl)) ?_
          refine s_rp (i := 11) rfl (by kernel_rfl) rfl (fun _ => (rd_move rfl)) ?_
          obtain ⟨x637, h638, q639⟩ := ob q636; clear q636
          refine s_rp (i := 12) rfl (by kernel_rfl) rfl (fun _ => (rd_index tS22 rfl rfl (hm626.sl 0 rfl) h638)) ?_
          refine s_rd (i := 13) rfl (by kernel_rfl) rfl (fun _ hS => by rw [hS]; exact (rd_ld1 tO3 rfl ((hm626.sl 0 rfl).cells h638) (off := 0) rfl)) rfl ?_
          obtain ⟨x640, h641, q642⟩ := ob q639; clear q639
          refine s_rp (i := 14) rfl (by kernel_rfl) rfl (fun _ => (rd_index tS22 rfl rfl (hm626.sl 0 rfl) h641)) ?_
          refine s_ef0 (i := 15) rfl (by kernel_rfl) (ef_stl (k := 0) (off := 0) (x' := x634) hm626 tO3 rfl rfl rfl rfl h641 rfl rfl) (by decide) (fun _ _ _ q => absurd q (by decide)) ?_
          intro _ w644 hm643
          obtain ⟨x645, h646, q647⟩ := ob q642; clear q642
          refine s_rp (i := 16) rfl (by kernel_rfl) rfl (fun _ => (rd_index tS22 rfl rfl (hm643.sl 0 rfl) h646)) ?_
          refine s_ef0 (i := 17) rfl (by kernel_rfl) (ef_stl (k := 0) (off := 0) (x' := x637) hm643 tO3 rfl rfl rfl rfl h646 rfl rfl) (by decide) (fun _ _ _ q => absurd q (by decide)) ?_
          intro _ w649 hm648
          refine s_nil (by kernel_rfl) ?_
          refine qn_block (qn_then ?_)
          refine cw_region ?_
          refine t_rd rfl (rd_move rfl) ?_
          obtain ⟨x650, h651, q652⟩ := ob q647; clear q647
          refine t_rd rfl (rd_sub64 h651 rfl rfl) ?_
          refine t_rd rfl (rd_assign rfl) ?_
          refine rwt_nil ?_
          refine qn_then ?_
          refine ⟨_, (os q652), (by repeat (first | exact Sub.nil _ | refine Sub.cons rfl ?_)), (hm648.pick [0] (by decide) rfl)⟩
        · refine cw_f rfl hb622 ?_
          refine cw_exit ?_
          refine qx_then (qx_then ?_)
          obtain rfl := hr585 _ (os q623)
          exact ⟨rfl, (by repeat (first | exact Sub.nil _ | refine Sub.cons rfl ?_)), (hm619.pick [0] (by decide) rfl)⟩
      · skip
        intro e env653 w654 hX655
        obtain ⟨rfl, hs656, hm657⟩ := hX655
        refine qx_same (qn_block (qn_then ?_))
        refine cw_sub hs656 ?_
        refine cw_region ?_
        refine t_rd rfl (rd_move rfl) ?_
        obtain ⟨x658, h659, q660⟩ := ob q588; clear q588
        refine t_rd rfl (rd_add64 h659 rfl rfl) ?_
        refine t_rd rfl (rd_assign rfl) ?_
        refine rwt_nil ?_
        refine qn_then ?_
        refine ⟨_, (os q660), (by repeat (first | exact Sub.nil _ | refine Sub.cons rfl ?_)), (hm657.pick [0] (by decide) rfl)⟩
    · refine cw_f rfl hb447 ?_
      refine cw_exit ?_
      refine qx_then (qx_then ?_)
      obtain rfl := hr442 _ (os q448)
      exact ⟨rfl, (by repeat (first | exact Sub.nil _ | refine Sub.cons rfl ?_)), (hm446.pick [0] (by decide) rfl)⟩
  · skip
    intro e env661 w662 hX663
    obtain ⟨rfl, hs664, hm665⟩ := hX663
    refine qx_same ?_
    obtain rfl := os q445
    refine retn ?_
    refine ret_sub hs664 ?_
    exact ret0 rfl ⟨rfl, (hm665.pick [0] (by decide) rfl)⟩

theorem g_slices_swapRangeCmpFunc_int_ok {N : Nat} {a0 : List Int} {a1 : Int} {a2 : Int} {a3 : Int} {a4 : List (List Int)} {res : List Int} (h : g_slices_swapRangeCmpFunc_int N a0 a1 a2 a3 a4 = some res) {w : World} {v0 : Value} {v4 : Value} (hk0 : (ownL 3 v0 (a0 : List Int)).φ w) (hv4 : Sl (Old w (ownL 3 v0 (a0 : List Int)).D) w v4 a4) :
    CallsR Try.prog 32 [v0, (Value.int .i64 a1), (Value.int .i64 a2), (Value.int .i64 a3), (Value.func (.func 24) #[] #[(Value.pointer (some ⟨pB v4, pO v4, none⟩))])] w (fun u w' => u = (Value.tuple #[]) ∧ Mem w (ownL 3 v0 (a0 : List Int)).D [ownL 3 v0 (res : List Int)] w') := by
  unfold g_slices_swapRangeCmpFunc_int at h
  refine fn_ok Try.func32 rfl rfl rfl ?_
  obtain ⟨zs_a4, hn4⟩ := hv4.nest
  have hm0 := Mem.one hk0
  refine cw_seq ?_
  refine cw_region ?_
  refine t_rd rfl (rd_assign rfl) ?_
  refine rwt_nil ?_
  refine qn_then ?_
  refine cw_block ?_
  obtain ⟨r86, hit87, q88⟩ := ob h; clear h
  refine cw_loop2 (I := fun q envq wq => Sub [(0, v0), (1, (Value.int .i64 a1)), (2, (Value.int .i64 a2)), (3, (Value.int .i64 a3)), (10, (Value.int .i64 q.1))] envq ∧ Mem w (ownL 3 v0 (a0 : List Int)).D [ownL 3 v0 (q.2 : List Int)] wq) (X := fun eq envq wq => eq = .exit 0 ∧ Sub [] envq ∧ Mem w (ownL 3 v0 (a0 : List Int)).D [ownL 3 v0 (r86 : List Int)] wq) hit87 ⟨(by repeat (first | exact Sub.nil _ | refine Sub.cons rfl ?_)), (hm0.pick [0] (by decide) rfl)⟩ ?_ ?_
  · rintro ⟨i78, l79⟩ x81 env82 w83 hf84 hr85 ⟨hs_, hm_⟩
    have hs_ : Sub [(0, v0), (1, (Value.int .i64 a1)), (2, (Value.int .i64 a2)), (3, (Value.int .i64 a3)), (10, (Value.int .i64 i78))] env82 := hs_
    have hm89 : Mem w (ownL 3 v0 (a0 : List Int)).D [ownL 3 v0 (l79 : List Int)] w83 := hm_
    refine cw_sub hs_ ?_
    clear hs_ hm_ q88
    have h : g_slices_swapRangeCmpFunc_int_l1 N a1 a2 a3 i78 l79 = some x81 := hf84
    clear hf84
    refine cw_seq ?_
    refine cw_seq ?_
    refine cw_region ?_
    refine t_rd rfl (rd_move rfl) ?_
    refine t_rd rfl (rd_move rfl) ?_
    refine t_rd rfl (rd_lss rfl rfl) ?_
    refine rwt_nil ?_
    refine qn_then ?_
    obtain ⟨hb90, q91⟩ | ⟨hb90, q91⟩ := oi h <;> clear h
    · refine cw_t rfl hb90 ?_
      refine cw_skip ?_
      refine qn_then ?_
      refine cw_seq ?_
      refine cw_block ?_
      obtain ⟨w93, he95⟩ : ∃ q, q = w83.drew := ⟨_, rfl⟩
      have hm94 := hm89.drew; rw [← he95] at hm94
      refine cw_region_s (fun q => q = w93) (cls [] [21, 23]) mixed ?_
      rintro _ rfl; rw [← he95]
      refine s_rp (i := 0) rfl (by kernel_rfl) rfl (fun _ => (rd_move rfl)) ?_
      refine s_rp (i := 1) rfl (by kernel_rfl) rfl (fun _ => (rd_move rfl)) ?_
      refine s_rp (i := 2) rfl (by kernel_rfl) rfl (fun _ => (rd_move rfl)) ?_
      obtain ⟨x96, h97, q98⟩ := ob q91; clear q91
      refine s_rp (i := 3) rfl (by kernel_rfl) rfl (fun _ => (rd_add64 h97 rfl rfl)) ?_
      refine s_rp (i := 4) rfl (by kernel_rfl) rfl (fun _ => (rd_move rfl)) ?_
      refine s_rp (i := 5) rfl (by kernel_rfl) rfl (fun _ => (rd_move rfl)) ?_
      refine s_rp (i := 6) rfl (by kernel_rfl) rfl (fun _ => (rd_move rfl)) ?_
      obtain ⟨x99, h100, q101⟩ := ob q98; clear q98
      refine s_rp (i := 7) rfl (by kernel_rfl) rfl (fun _ => (rd_add64 h100 rfl rfl)) ?_
      refine s_rp (i := 8) rfl (by kernel_rfl) rfl (fun _ => (rd_move rfl)) ?_
      refine s_rp (i := 9) rfl (by kernel_rfl) rfl (fun _ => (rd_move rfl)) ?_
      refine s_rp (i := 10) rfl (by kernel_rfl) rfl (fun _ => (rd_move rfl)) ?_
      obtain ⟨x102, h103, q104⟩ := ob q101; clear q101
      refine s_rp (i := 11) rfl (by kernel_rfl) rfl (fun _ => (rd_add64 h103 rfl rfl)) ?_
      obtain ⟨x105, h106, q107⟩ := ob q104; clear q104
      refine s_rp (i := 12) rfl (by kernel_rfl) rfl (fun _ => (rd_index tS22 rfl rfl (hm94.sl 0 rfl) h106)) ?_
      refine s_rd (i := 13) rfl (by kernel_rfl) rfl (fun _ hS => by rw [hS]; exact (rd_ld1 tO3 rfl ((hm94.sl 0 rfl).cells h106) (off := 0) rfl)) rfl ?_
      refine s_rp (i := 14) rfl (by kernel_rfl) rfl (fun _ => (rd_move rfl)) ?_
      refine s_rp (i := 15) rfl (by kernel_rfl) rfl (fun _ => (rd_move rfl)) ?_
      refine s_rp (i := 16) rfl (by kernel_rfl) rfl (fun _ => (rd_move rfl)) ?_
      obtain ⟨x108, h109, q110⟩ := ob q107; clear q107
      refine s_rp (i := 17) rfl (by kernel_rfl) rfl (fun _ => (rd_add64 h109 rfl rfl)) ?_
      obtain ⟨x111, h112, q113⟩ := ob q110; clear q110
      refine s_rp (i := 18) rfl (by kernel_rfl) rfl (fun _ => (rd_index tS22 rfl rfl (hm94.sl 0 rfl) h112)) ?_
      refine s_rd (i := 19) rfl (by kernel_rfl) rfl (fun _ hS => by rw [hS]; exact (rd_ld1 tO3 rfl ((hm94.sl 0 rfl).cells h112) (off := 0) rfl)) rfl ?_
      obtain ⟨x114, h115, q116⟩ := ob q113; clear q113
      refine s_rp (i := 20) rfl (by kernel_rfl) rfl (fun _ => (rd_index tS22 rfl rfl (hm94.sl 0 rfl) h115)) ?_
      refine s_ef0 (i := 21) rfl (by kernel_rfl) (ef_stl (k := 0) (off := 0) (x' := x105) hm94 tO3 rfl rfl rfl rfl h115 rfl rfl) (by decide) (fun _ _ _ q => absurd q (by decide)) ?_
      intro _ w118 hm117
      obtain ⟨x119, h120, q121⟩ := ob q116; clear q116
      refine s_rp (i := 22) rfl (by kernel_rfl) rfl (fun _ => (rd_index tS22 rfl rfl (hm117.sl 0 rfl) h120)) ?_
      refine s_ef0 (i := 23) rfl (by kernel_rfl) (ef_stl (k := 0) (off := 0) (x' := x111) hm117 tO3 rfl rfl rfl rfl h120 rfl rfl) (by decide) (fun _ _ _ q => absurd q (by decide)) ?_
      intro _ w123 hm122
      refine s_nil (by kernel_rfl) ?_
      refine qn_block (qn_then ?_)
      refine cw_region ?_
      refine t_rd rfl (rd_move rfl) ?_
      obtain ⟨x124, h125, q126⟩ := ob q121; clear q121
      refine t_rd rfl (rd_add64 h125 rfl rfl) ?_
      refine t_rd rfl (rd_assign rfl) ?_
      refine rwt_nil ?_
      refine qn_then ?_
      refine ⟨_, (os q126), (by repeat (first | exact Sub.nil _ | refine Sub.cons rfl ?_)), (hm122.pick [0] (by decide) rfl)⟩
    · refine cw_f rfl hb90 ?_
      refine cw_exit ?_
      refine qx_then (qx_then ?_)
      obtain rfl := hr85 _ (os q91)
      exact ⟨rfl, (by repeat (first | exact Sub.nil _ | refine Sub.cons rfl ?_)), (hm89.pick [0] (by decide) rfl)⟩
  · skip
    intro e env127 w128 hX129
    obtain ⟨rfl, hs130, hm131⟩ := hX129
    refine qx_same ?_
    obtain rfl := os q88
    refine retn ?_
    refine ret_sub hs130 ?_
    exact ret0 rfl ⟨rfl, (hm131.pick [0] (by decide) rfl)⟩

theorem g_slices_rotateCmpFunc_int_ok {N : Nat} {a0 : List Int} {a1 : Int} {a2 : Int} {a3 : Int} {a4 : List (List Int)} {res : List Int} (h : g_slices_rotateCmpFunc_int N a0 a1 a2 a3 a4 = some res) {w : World} {v0 : Value} {v4 : Value} (hk0 : (ownL 3 v0 (a0 : List Int)).φ w) (hv4 : Sl (Old w (ownL 3 v0 (a0 : List Int)).D) w v4 a4) :
    CallsR Try.prog 31 [v0, (Value.int .i64 a1), (Value.int .i64 a2), (Value.int .i64 a3), (Value.func (.func 24) #[] #[(Value.pointer (some ⟨pB v4, pO v4, none⟩))])] w (fun u w' => u = (Value.tuple #[]) ∧ Mem w (ownL 3 v0 (a0 : List Int)).D [ownL 3 v0 (res : List Int)] w') := by
  unfold g_slices_rotateCmpFunc_int at h
  refine fn_ok Try.func31 rfl rfl rfl ?_
  obtain ⟨zs_a4, hn4⟩ := hv4.nest
  have hm0 := Mem.one hk0
  refine cw_seq ?_
  refine cw_region ?_
  refine t_rd rfl (rd_move rfl) ?_
  refine t_rd rfl (rd_move rfl) ?_
  obtain ⟨x1, h2, q3⟩ := ob h; clear h
  refine t_rd rfl (rd_sub64 h2 rfl rfl) ?_
  refine t_rd rfl (rd_assign rfl) ?_
  refine rwt_nil ?_
  refine qn_then ?_
  refine cw_seq ?_
  refine cw_region ?_
  refine t_rd rfl (rd_move rfl) ?_
  refine t_rd rfl (rd_move rfl) ?_
  obtain ⟨x4, h5, q6⟩ := ob q3; clear q3
  refine t_rd rfl (rd_sub64 h5 rfl rfl) ?_
  refine t_rd rfl (rd_assign rfl) ?_
  refine rwt_nil ?_
  refine qn_then ?_
  refine cw_seq ?_
  refine cw_block ?_
  obtain ⟨r89, hit90, q91⟩ := ob q6; clear q6
  refine cw_loop2 (I := fun q envq wq => Sub [(0, v0), (2, (Value.int .i64 a2)), (4, (Value.func (.func 24) #[] #[(Value.pointer (some ⟨pB v4, pO v4, none⟩))])), (10, (Value.int .i64 q.1)), (11, (Value.int .i64 q.2.1))] envq ∧ Mem w (ownL 3 v0 (a0 : List Int)).D [ownL 3 v0 (q.2.2 : List Int)] wq) (X := fun eq envq wq => eq = .exit 0 ∧ Sub [(0, v0), (2, (Value.int .i64 a2)), (4, (Value.func (.func 24) #[] #[(Value.pointer (some ⟨pB v4, pO v4, none⟩))])), (10, (Value.int .i64 r89.1))] envq ∧ Mem w (ownL 3 v0 (a0 : List Int)).D [ownL 3 v0 (r89.2 : List Int)] wq) hit90 ⟨(by repeat (first | exact Sub.nil _ | refine Sub.cons rfl ?_)), (hm0.pick [0] (by decide) rfl)⟩ ?_ ?_
  · rintro ⟨i80, i81, l82⟩ x84 env85 w86 hf87 hr88 ⟨hs_, hm_⟩
    have hs_ : Sub [(0, v0), (2, (Value.int .i64 a2)), (4, (Value.func (.func 24) #[] #[(Value.pointer (some ⟨pB v4, pO v4, none⟩))])), (10, (Value.int .i64 i80)), (11, (Value.int .i64 i81))] env85 := hs_
    have hm92 : Mem w (ownL 3 v0 (a0 : List Int)).D [ownL 3 v0 (l82 : List Int)] w86 := hm_
    refine cw_sub hs_ ?_
    clear hs_ hm_ q91
    have h : g_slices_rotateCmpFunc_int_l1 N a2 a4 i80 i81 l82 = some x84 := hf87
    clear hf87
    refine cw_seq ?_
    refine cw_seq ?_
    refine cw_region ?_
    refine t_rd rfl (rd_move rfl) ?_
    refine t_rd rfl (rd_move rfl) ?_
    refine t_rd rfl (rd_neq rfl rfl) ?_
    refine rwt_nil ?_
    refine qn_then ?_
    obtain ⟨hb93, q94⟩ | ⟨hb93, q94⟩ := oi h <;> clear h
    · refine cw_t rfl hb93 ?_
      refine cw_skip ?_
      refine qn_then ?_
      refine cw_block ?_
      refine cw_seq ?_
      refine cw_region ?_
      refine t_rd rfl (rd_move rfl) ?_
      refine t_rd rfl (rd_move rfl) ?_
      refine t_rd rfl (rd_gtr rfl rfl) ?_
      refine rwt_nil ?_
      refine qn_then ?_
      obtain ⟨hb95, q96⟩ | ⟨hb95, q96⟩ := oi q94 <;> clear q94
      · refine cw_t rfl hb95 ?_
        refine cw_seq ?_
        refine cw_region ?_
        refine t_rd rfl (rd_move rfl) ?_
        refine t_rd rfl (rd_move rfl) ?_
        refine t_rd rfl (rd_move rfl) ?_
        obtain ⟨x97, h98, q99⟩ := ob q96; clear q96
        refine t_rd rfl (rd_sub64 h98 rfl rfl) ?_
        refine t_rd rfl (rd_move rfl) ?_
        refine t_rd rfl (rd_move rfl) ?_
        refine t_rd rfl (rd_move rfl) ?_
        obtain ⟨r100, h101, q102⟩ := ob q99; clear q99
        refine t_ef rfl (ef_call tf32 rfl (g_slices_swapRangeCmpFunc_int_ok h101 (hm92.get (k := 0) rfl) ((hn4.to_callT (k := 0) hm92 rfl).sl))) ?_
        rintro _ w104 ⟨e_, hm103⟩
        obtain rfl := e_.symm
        have hm105 := hm92.callT (k := 0) rfl (fun _ h => h) hm103 (fun _ => Iff.rfl)
        refine rwt_nil ?_
        refine qn_then ?_
        refine cw_region ?_
        refine t_rd rfl (rd_move rfl) ?_
        refine t_rd rfl (rd_move rfl) ?_
        obtain ⟨x106, h107, q108⟩ := ob q102; clear q102
        refine t_rd rfl (rd_sub64 h107 rfl rfl) ?_
        refine t_rd rfl (rd_assign rfl) ?_
        refine rwt_nil ?_
        refine qn_block (qn_then ?_)
        refine ⟨_, (os q108), (by repeat (first | exact Sub.nil _ | refine Sub.cons rfl ?_)), (hm105.pick [0] (by decide) rfl)⟩
      · refine cw_f rfl hb95 ?_
        refine cw_seq ?_
        refine cw_region ?_
        refine t_rd rfl (rd_move rfl) ?_
        refine t_rd rfl (rd_move rfl) ?_
        refine t_rd rfl (rd_move rfl) ?_
        obtain ⟨x109, h110, q111⟩ := ob q96; clear q96
        refine t_rd rfl (rd_sub64 h110 rfl rfl) ?_
        refine t_rd rfl (rd_move rfl) ?_
        refine t_rd rfl (rd_move rfl) ?_
        obtain ⟨x112, h113, q114⟩ := ob q111; clear q111
        refine t_rd rfl (rd_add64 h113 rfl rfl) ?_
        refine t_rd rfl (rd_move rfl) ?_
        obtain ⟨x115, h116, q117⟩ := ob q114; clear q114
        refine t_rd rfl (rd_sub64 h116 rfl rfl) ?_
        refine t_rd rfl (rd_move rfl) ?_
        refine t_rd rfl (rd_move rfl) ?_
        obtain ⟨r118, h119, q120⟩ := ob q117; clear q117
        refine t_ef rfl (ef_call tf32 rfl (g_slices_swapRangeCmpFunc_int_ok h119 (hm92.get (k := 0) rfl) ((hn4.to_callT (k := 0) hm92 rfl).sl))) ?_
        rintro _ w122 ⟨e_, hm121⟩
        obtain rfl := e_.symm
        have hm123 := hm92.callT (k := 0) rfl (fun _ h => h) hm121 (fun _ => Iff.rfl)
        refine rwt_nil ?_
        refine qn_then ?_
        refine cw_region ?_
        refine t_rd rfl (rd_move rfl) ?_
        refine t_rd rfl (rd_move rfl) ?_
        obtain ⟨x124, h125, q126⟩ := ob q120; clear q120
        refine t_rd rfl (rd_sub64 h125 rfl rfl) ?_
        refine t_rd rfl (rd_assign rfl) ?_
        refine rwt_nil ?_
        refine qn_block (qn_then ?_)
        refine ⟨_, (os q126), (by repeat (first | exact Sub.nil _ | refine Sub.cons rfl ?_)), (hm123.pick [0] (by decide) rfl)⟩
    · refine cw_f rfl hb93 ?_
      refine cw_exit ?_
      refine qx_then (qx_then ?_)
      obtain rfl := hr88 _ (os q94)
      exact ⟨rfl, (by repeat (first | exact Sub.nil _ | refine Sub.cons rfl ?_)), (hm92.pick [0] (by decide) rfl)⟩
  · skip
    intro e env127 w128 hX129
    obtain ⟨rfl, hs130, hm131⟩ := hX129
    refine qx_same (qn_then ?_)
    refine cw_sub hs130 ?_
    refine cw_region ?_
    refine t_rd rfl (rd_move rfl) ?_
    refine t_rd rfl (rd_move rfl) ?_
    refine t_rd rfl (rd_move rfl) ?_
    obtain ⟨x132, h133, q134⟩ := ob q91; clear q91
    refine t_rd rfl (rd_sub64 h133 rfl rfl) ?_
    refine t_rd rfl (rd_move rfl) ?_
    refine t_rd rfl (rd_move rfl) ?_
    refine t_rd rfl (rd_move rfl) ?_
    obtain ⟨r135, h136, q137⟩ := ob q134; clear q134
    refine t_ef rfl (ef_call tf32 rfl (g_slices_swapRangeCmpFunc_int_ok h136 (hm131.get (k := 0) rfl) ((hn4.to_callT (k := 0) hm131 rfl).sl))) ?_
    rintro _ w139 ⟨e_, hm138⟩
    obtain rfl := e_.symm
    have hm140 := hm131.callT (k := 0) rfl (fun _ h => h) hm138 (fun _ => Iff.rfl)
    refine rwt_nil ?_
    obtain rfl := os q137
    refine retn ?_
    exact ret0 rfl ⟨rfl, (hm140.pick [0] (by decide) rfl)⟩

theorem g_slices_symMergeCmpFunc_int_r_ok {N : Nat} (M : Nat) : ∀ {a0 : List Int} {a1 : Int} {a2 : Int} {a3 : Int} {a4 : List (List Int)} {res : List Int} (h : g_slices_symMergeCmpFunc_int_r N M a0 a1 a2 a3 a4 = some res) {w : World} {v0 : Value} {v4 : Value} (hk0 : (ownL 3 v0 (a0 : List Int)).φ w) (hv4 : Sl (Old w (ownL 3 v0 (a0 : List Int)).D) w v4 a4),
    CallsR Try.prog 30 [v0, (Value.int .i64 a1), (Value.int .i64 a2), (Value.int .i64 a3), (Value.func (.func 24) #[] #[(Value.pointer (some ⟨pB v4, pO v4, none⟩))])] w (fun u w' => u = (Value.tuple #[]) ∧ Mem w (ownL 3 v0 (a0 : List Int)).D [ownL 3 v0 (res : List Int)] w') := by
  induction M with
  | zero =>
    intro a0 a1 a2 a3 a4 res h
    rw [g_slices_symMergeCmpFunc_int_r] at h
    cases h
  | succ M ih =>
  intro a0 a1 a2 a3 a4 res h w v0 v4 hk0 hv4
  rw [g_slices_symMergeCmpFunc_int_r] at h
  refine fn_ok Try.func30 rfl rfl rfl ?_
  obtain ⟨zs_a4, hn4⟩ := hv4.nest
  have hm0 := Mem.one hk0
  refine cw_seq ?_
  refine cw_seq ?_
  refine cw_region ?_
  refine t_rd rfl (rd_move rfl) ?_
  refine t_rd rfl (rd_move rfl) ?_
  obtain ⟨x1, h2, q3⟩ := ob h; clear h
  refine t_rd rfl (rd_sub64 h2 rfl rfl) ?_
  refine t_rd rfl (rd_eql rfl rfl) ?_
  refine rwt_nil ?_
  refine qn_then ?_
  obtain ⟨hb4, q5⟩ | ⟨hb4, q5⟩ := oi q3 <;> clear q3
  · refine cw_t rfl hb4 ?_
    refine cw_seq ?_
    refine cw_region ?_
    refine t_rd rfl (rd_move rfl) ?_
    refine t_rd rfl (rd_assign rfl) ?_
    refine rwt_nil ?_
    refine qn_then ?_
    refine cw_seq ?_
    refine cw_region ?_
    refine t_rd rfl (rd_move rfl) ?_
    refine t_rd rfl (rd_assign rfl) ?_
    refine rwt_nil ?_
    refine qn_then ?_
    refine cw_seq ?_
    refine cw_block ?_
    obtain ⟨r81, hit82, q83⟩ := ob q5; clear q5
    refine cw_loop2 (I := fun q envq wq => Sub [(0, v0), (1, (Value.int .i64 a1)), (4, (Value.func (.func 24) #[] #[(Value.pointer (some ⟨pB v4, pO v4, none⟩))])), (10, (Value.int .i64 q.1)), (11, (Value.int .i64 q.2))] envq ∧ Mem w (ownL 3 v0 (a0 : List Int)).D [ownL 3 v0 (a0 : List Int)] wq) (X := fun eq envq wq => eq = .exit 0 ∧ Sub [(0, v0), (1, (Value.int .i64 a1)), (10, (Value.int .i64 r81))] envq ∧ Mem w (ownL 3 v0 (a0 : List Int)).D [ownL 3 v0 (a0 : List Int)] wq) hit82 ⟨(by repeat (first | exact Sub.nil _ | refine Sub.cons rfl ?_)), (hm0.pick [0] (by decide) rfl)⟩ ?_ ?_
    · rintro ⟨i73, i74⟩ x76 env77 w78 hf79 hr80 ⟨hs_, hm_⟩
      have hs_ : Sub [(0, v0), (1, (Value.int .i64 a1)), (4, (Value.func (.func 24) #[] #[(Value.pointer (some ⟨pB v4, pO v4, none⟩))])), (10, (Value.int .i64 i73)), (11, (Value.int .i64 i74))] env77 := hs_
      have hm84 : Mem w (ownL 3 v0 (a0 : List Int)).D [ownL 3 v0 (a0 : List Int)] w78 := hm_
      refine cw_sub hs_ ?_
      clear hs_ hm_ q83
      have h : g_slices_symMergeCmpFunc_int_l1 N a0 a1 a4 i73 i74 = some x76 := hf79
      clear hf79
      refine cw_seq ?_
      refine cw_seq ?_
      refine cw_region ?_
      refine t_rd rfl (rd_move rfl) ?_
      refine t_rd rfl (rd_move rfl) ?_
      refine t_rd rfl (rd_lss rfl rfl) ?_
      refine rwt_nil ?_
      refine qn_then ?_
      obtain ⟨hb85, q86⟩ | ⟨hb85, q86⟩ := oi h <;> clear h
      · refine cw_t rfl hb85 ?_
        refine cw_skip ?_
        refine qn_then ?_
        refine cw_block ?_
        refine cw_seq ?_
        refine cw_region ?_
        refine t_rd rfl (rd_move rfl) ?_
        refine t_rd rfl (rd_move rfl) ?_
        obtain ⟨x87, h88, q89⟩ := ob q86; clear q86
        refine t_rd rfl (rd_add64 h88 rfl rfl) ?_
        refine t_rd rfl (rd_cvu64 tH3 tI57 rfl) ?_
        obtain ⟨x90, h91, q92⟩ := ob q89; clear q89
        refine t_rd rfl (rd_shr_u64 h91 rfl rfl) ?_
        obtain ⟨x93, h94, q95⟩ := ob q92; clear q92
        refine t_rd rfl (rd_cv64 tH57 tI3 h94 rfl) ?_
        refine t_rd rfl (rd_assign rfl) ?_
        refine rwt_nil ?_
        refine qn_then ?_
        refine cw_seq ?_
        obtain ⟨w97, he99⟩ : ∃ q, q = w78.drew := ⟨_, rfl⟩
        have hm98 := hm84.drew; rw [← he99] at hm98
        refine cw_region_s (fun q => q = w97) (cls [] [9]) mixed ?_
        rintro _ rfl; rw [← he99]
        refine s_rp (i := 0) rfl (by kernel_rfl) rfl (fun _ => (rd_move rfl)) ?_
        refine s_rp (i := 1) rfl (by kernel_rfl) rfl (fun _ => (rd_move rfl)) ?_
        refine s_rp (i := 2) rfl (by kernel_rfl) rfl (fun _ => (rd_move rfl)) ?_
        obtain ⟨x100, h101, q102⟩ := ob q95; clear q95
        refine s_rp (i := 3) rfl (by kernel_rfl) rfl (fun _ => (rd_index tS22 rfl rfl (hm98.sl 0 rfl) h101)) ?_
        refine s_rd (i := 4) rfl (by kernel_rfl) rfl (fun _ hS => by rw [hS]; exact (rd_ld1 tO3 rfl ((hm98.sl 0 rfl).cells h101) (off := 0) rfl)) rfl ?_
        refine s_rp (i := 5) rfl (by kernel_rfl) rfl (fun _ => (rd_move rfl)) ?_
        refine s_rp (i := 6) rfl (by kernel_rfl) rfl (fun _ => (rd_move rfl)) ?_
        obtain ⟨x103, h104, q105⟩ := ob q102; clear q102
        refine s_rp (i := 7) rfl (by kernel_rfl) rfl (fun _ => (rd_index tS22 rfl rfl (hm98.sl 0 rfl) h104)) ?_
        refine s_rd (i := 8) rfl (by kernel_rfl) rfl (fun _ hS => by rw [hS]; exact (rd_ld1 tO3 rfl ((hm98.sl 0 rfl).cells h104) (off := 0) rfl)) rfl ?_
        obtain ⟨r106, h107, q108⟩ := ob q105; clear q105
        refine s_ef (i := 9) rfl (by kernel_rfl) rfl (ef_callv tf24 rfl rfl (setout_Best_1_ok h107 ((hn4.to_call hm98).sl))) (by decide) (fun _ _ _ q => absurd q (by decide)) ?_
        rintro _ w110 ⟨e_, hm109⟩
        obtain rfl := e_.symm
        have hm111 := hm98.call hm109
        refine s_rp (i := 10) rfl (by kernel_rfl) rfl (fun _ => (rd_lss rfl rfl)) ?_
        refine s_nil (by kernel_rfl) ?_
        refine qn_then ?_
        obtain ⟨hb112, q113⟩ | ⟨hb112, q113⟩ := oi q108 <;> clear q108
        · refine cw_t rfl hb112 ?_
          refine cw_region ?_
          refine t_rd rfl (rd_move rfl) ?_
          obtain ⟨x114, h115, q116⟩ := ob q113; clear q113
          refine t_rd rfl (rd_add64 h115 rfl rfl) ?_
          refine t_rd rfl (rd_assign rfl) ?_
          refine rwt_nil ?_
          refine qn_block (qn_then ?_)
          refine ⟨_, (os q116), (by repeat (first | exact Sub.nil _ | refine Sub.cons rfl ?_)), (hm111.pick [0] (by decide) rfl)⟩
        · refine cw_f rfl hb112 ?_
          refine cw_region ?_
          refine t_rd rfl (rd_move rfl) ?_
          refine t_rd rfl (rd_assign rfl) ?_
          refine rwt_nil ?_
          refine qn_block (qn_then ?_)
          refine ⟨_, (os q113), (by repeat (first | exact Sub.nil _ | refine Sub.cons rfl ?_)), (hm111.pick [0] (by decide) rfl)⟩
      · refine cw_f rfl hb85 ?_
        refine cw_exit ?_
        refine qx_then (qx_then ?_)
        obtain rfl := hr80 _ (os q86)
        exact ⟨rfl, (by repeat (first | exact Sub.nil _ | refine Sub.cons rfl ?_)), (hm84.pick [0] (by decide) rfl)⟩
    · skip
      intro e env117 w118 hX119
      obtain ⟨rfl, hs120, hm121⟩ := hX119
      refine qx_same (qn_then ?_)
      refine cw_sub hs120 ?_
      refine cw_seq ?_
      refine cw_seq ?_
      refine cw_region ?_
      refine t_rd rfl (rd_move rfl) ?_
      refine t_rd rfl (rd_assign rfl) ?_
      refine rwt_nil ?_
      refine qn_then ?_
      refine cw_block ?_
      obtain ⟨r201, hit202, q203⟩ := ob q83; clear q83
      refine cw_loop2 (I := fun q envq wq => Sub [(0, v0), (10, (Value.int .i64 r81)), (13, (Value.int .i64 q.1))] envq ∧ Mem w (ownL 3 v0 (a0 : List Int)).D [ownL 3 v0 (q.2 : List Int)] wq) (X := fun eq envq wq => eq = .exit 2 ∧ Sub [] envq ∧ Mem w (ownL 3 v0 (a0 : List Int)).D [ownL 3 v0 (r201 : List Int)] wq) hit202 ⟨(by repeat (first | exact Sub.nil _ | refine Sub.cons rfl ?_)), (hm121.pick [0] (by decide) rfl)⟩ ?_ ?_
      · rintro ⟨i193, l194⟩ x196 env197 w198 hf199 hr200 ⟨hs_, hm_⟩
        have hs_ : Sub [(0, v0), (10, (Value.int .i64 r81)), (13, (Value.int .i64 i193))] env197 := hs_
        have hm204 : Mem w (ownL 3 v0 (a0 : List Int)).D [ownL 3 v0 (l194 : List Int)] w198 := hm_
        refine cw_sub hs_ ?_
        clear hs_ hm_ q203
        have h : g_slices_symMergeCmpFunc_int_l2 N r81 i193 l194 = some x196 := hf199
        clear hf199
        refine cw_seq ?_
        refine cw_seq ?_
        refine cw_region ?_
        refine t_rd rfl (rd_move rfl) ?_
        refine t_rd rfl (rd_move rfl) ?_
        obtain ⟨x205, h206, q207⟩ := ob h; clear h
        refine t_rd rfl (rd_sub64 h206 rfl rfl) ?_
        refine t_rd rfl (rd_lss rfl rfl) ?_
        refine rwt_nil ?_
        refine qn_then ?_
        obtain ⟨hb208, q209⟩ | ⟨hb208, q209⟩ := oi q207 <;> clear q207
        · refine cw_t rfl hb208 ?_
          refine cw_skip ?_
          refine qn_then ?_
          refine cw_seq ?_
          refine cw_block ?_
          obtain ⟨w211, he213⟩ : ∃ q, q = w198.drew := ⟨_, rfl⟩
          have hm212 := hm204.drew; rw [← he213] at hm212
          refine cw_region_s (fun q => q = w211) (cls [] [15, 17]) mixed ?_
          rintro _ rfl; rw [← he213]
          refine s_rp (i := 0) rfl (by kernel_rfl) rfl (fun _ => (rd_move rfl)) ?_
          refine s_rp (i := 1) rfl (by kernel_rfl) rfl (fun _ => (rd_move rfl)) ?_
          refine s_rp (i := 2) rfl (by kernel_rfl) rfl (fun _ => (rd_move rfl)) ?_
          refine s_rp (i := 3) rfl (by kernel_rfl) rfl (fun _ => (rd_move rfl)) ?_
          obtain ⟨x214, h215, q216⟩ := ob q209; clear q209
          refine s_rp (i := 4) rfl (by kernel_rfl) rfl (fun _ => (rd_add64 h215 rfl rfl)) ?_
          refine s_rp (i := 5) rfl (by kernel_rfl) rfl (fun _ => (rd_move rfl)) ?_
          refine s_rp (i := 6) rfl (by kernel_rfl) rfl (fun _ => (rd_move rfl)) ?_
          obtain ⟨x217, h218, q219⟩ := ob q216; clear q216
          refine s_rp (i := 7) rfl (by kernel_rfl) rfl (fun _ => (rd_add64 h218 rfl rfl)) ?_
          obtain ⟨x220, h221, q222⟩ := ob q219; clear q219
          refine s_rp (i := 8) rfl (by kernel_rfl) rfl (fun _ => (rd_index tS22 rfl rfl (hm212.sl 0 rfl) h221)) ?_
          refine s_rd (i := 9) rfl (by kernel_rfl) rfl (fun _ hS => by rw [hS]; exact (rd_ld1 tO3 rfl ((hm212.sl 0 rfl).cells h221) (off := 0) rfl)) rfl ?_
          refine s_rp (i := 10) rfl (by kernel_rfl) rfl (fun _ => (rd_move rfl)) ?_
          refine s_rp (i := 11) rfl (by kernel_rfl) rfl (fun _ => (rd_move rfl)) ?_
          obtain ⟨x223, h224, q225⟩ := ob q222; clear q222
          refine s_rp (i := 12) rfl (by kernel_rfl) rfl (fun _ => (rd_index tS22 rfl rfl (hm212.sl 0 rfl) h224)) ?_
          refine s_rd (i := 13) rfl (by kernel_rfl) rfl (fun _ hS => by rw [hS]; exact (rd_ld1 tO3 rfl ((hm212.sl 0 rfl).cells h224) (off := 0) rfl)) rfl ?_
          obtain ⟨x226, h227, q228⟩ := ob q225; clear q225
          refine s_rp (i := 14) rfl (by kernel_rfl) rfl (fun _ => (rd_index tS22 rfl rfl (hm212.sl 0 rfl) h227)) ?_
          refine s_ef0 (i := 15) rfl (by kernel_rfl) (ef_stl (k := 0) (off := 0) (x' := x220) hm212 tO3 rfl rfl rfl rfl h227 rfl rfl) (by decide) (fun _ _ _ q => absurd q (by decide)) ?_
          intro _ w230 hm229
          obtain ⟨x231, h232, q233⟩ := ob q228; clear q228
          refine s_rp (i := 16) rfl (by kernel_rfl) rfl (fun _ => (rd_index tS22 rfl rfl (hm229.sl 0 rfl) h232)) ?_
          refine s_ef0 (i := 17) rfl (by kernel_rfl) (ef_stl (k := 0) (off := 0) (x' := x223) hm229 tO3 rfl rfl rfl rfl h232 rfl rfl) (by decide) (fun _ _ _ q => absurd q (by decide)) ?_
          intro _ w235 hm234
          refine s_nil (by kernel_rfl) ?_
          refine qn_block (qn_then ?_)
          refine cw_region ?_
          refine t_rd rfl (rd_move rfl) ?_
          obtain ⟨x236, h237, q238⟩ := ob q233; clear q233
          refine t_rd rfl (rd_add64 h237 rfl rfl) ?_
          refine t_rd rfl (rd_assign rfl) ?_
          refine rwt_nil ?_
          refine qn_then ?_
          refine ⟨_, (os q238), (by repeat (first | exact Sub.nil _ | refine Sub.cons rfl ?_)), (hm234.pick [0] (by decide) rfl)⟩
        · refine cw_f rfl hb208 ?_
          refine cw_exit ?_
          refine qx_then (qx_then ?_)
          obtain rfl := hr200 _ (os q209)
          exact ⟨rfl, (by repeat (first | exact Sub.nil _ | refine Sub.cons rfl ?_)), (hm204.pick [0] (by decide) rfl)⟩
      · skip
        intro e env239 w240 hX241
        obtain ⟨rfl, hs242, hm243⟩ := hX241
        refine qx_same (qn_then ?_)
        refine cw_sub hs242 ?_
        refine cw_ret ?_
        refine qr_then ?_
        obtain rfl := os q203
        exact ret0 rfl ⟨rfl, (hm243.pick [0] (by decide) rfl)⟩
  · refine cw_f rfl hb4 ?_
    refine cw_skip ?_
    refine qn_then ?_
    refine cw_seq ?_
    refine cw_seq ?_
    refine cw_region ?_
    refine t_rd rfl (rd_move rfl) ?_
    refine t_rd rfl (rd_move rfl) ?_
    obtain ⟨x244, h245, q246⟩ := ob q5; clear q5
    refine t_rd rfl (rd_sub64 h245 rfl rfl) ?_
    refine t_rd rfl (rd_eql rfl rfl) ?_
    refine rwt_nil ?_
    refine qn_then ?_
    obtain ⟨hb247, q248⟩ | ⟨hb247, q248⟩ := oi q246 <;> clear q246
    · refine cw_t rfl hb247 ?_
      refine cw_seq ?_
      refine cw_region ?_
      refine t_rd rfl (rd_move rfl) ?_
      refine t_rd rfl (rd_assign rfl) ?_
      refine rwt_nil ?_
      refine qn_then ?_
      refine cw_seq ?_
      refine cw_region ?_
      refine t_rd rfl (rd_move rfl) ?_
      refine t_rd rfl (rd_assign rfl) ?_
      refine rwt_nil ?_
      refine qn_then ?_
      refine cw_seq ?_
      refine cw_block ?_
      obtain ⟨r324, hit325, q326⟩ := ob q248; clear q248
      refine cw_loop2 (I := fun q envq wq => Sub [(0, v0), (2, (Value.int .i64 a2)), (4, (Value.func (.func 24) #[] #[(Value.pointer (some ⟨pB v4, pO v4, none⟩))])), (14, (Value.int .i64 q.1)), (15, (Value.int .i64 q.2))] envq ∧ Mem w (ownL 3 v0 (a0 : List Int)).D [ownL 3 v0 (a0 : List Int)] wq) (X := fun eq envq wq => eq = .exit 4 ∧ Sub [(0, v0), (2, (Value.int .i64 a2)), (14, (Value.int .i64 r324))] envq ∧ Mem w (ownL 3 v0 (a0 : List Int)).D [ownL 3 v0 (a0 : List Int)] wq) hit325 ⟨(by repeat (first | exact Sub.nil _ | refine Sub.cons rfl ?_)), (hm0.pick [0] (by decide) rfl)⟩ ?_ ?_
      · rintro ⟨i316, i317⟩ x319 env320 w321 hf322 hr323 ⟨hs_, hm_⟩
        have hs_ : Sub [(0, v0), (2, (Value.int .i64 a2)), (4, (Value.func (.func 24) #[] #[(Value.pointer (some ⟨pB v4, pO v4, none⟩))])), (14, (Value.int .i64 i316)), (15, (Value.int .i64 i317))] env320 := hs_
        have hm327 : Mem w (ownL 3 v0 (a0 : List Int)).D [ownL 3 v0 (a0 : List Int)] w321 := hm_
        refine cw_sub hs_ ?_
        clear hs_ hm_ q326
        have h : g_slices_symMergeCmpFunc_int_l3 N a0 a2 a4 i316 i317 = some x319 := hf322
        clear hf322
        refine cw_seq ?_
        refine cw_seq ?_
        refine cw_region ?_
        refine t_rd rfl (rd_move rfl) ?_
        refine t_rd rfl (rd_move rfl) ?_
        refine t_rd rfl (rd_lss rfl rfl) ?_
        refine rwt_nil ?_
        refine qn_then ?_
        obtain ⟨hb328, q329⟩ | ⟨hb328, q329⟩ := oi h <;> clear h
        · refine cw_t rfl hb328 ?_
          refine cw_skip ?_
          refine qn_then ?_
          refine cw_block ?_
          refine cw_seq ?_
          refine cw_region ?_
          refine t_rd rfl (rd_move rfl) ?_
          refine t_rd rfl (rd_move rfl) ?_
          obtain ⟨x330, h331, q332⟩ := ob q329; clear q329
          refine t_rd rfl (rd_add64 h331 rfl rfl) ?_
          refine t_rd rfl (rd_cvu64 tH3 tI57 rfl) ?_
          obtain ⟨x333, h334, q335⟩ := ob q332; clear q332
          refine t_rd rfl (rd_shr_u64 h334 rfl rfl) ?_
          obtain ⟨x336, h337, q338⟩ := ob q335; clear q335
          refine t_rd rfl (rd_cv64 tH57 tI3 h337 rfl) ?_
          refine t_rd rfl (rd_assign rfl) ?_
          refine rwt_nil ?_
          refine qn_then ?_
          refine cw_seq ?_
          obtain ⟨w340, he342⟩ : ∃ q, q = w321.drew := ⟨_, rfl⟩
          have hm341 := hm327.drew; rw [← he342] at hm341
          refine cw_region_s (fun q => q = w340) (cls [] [9]) mixed ?_
          rintro _ rfl; rw [← he342]
          refine s_rp (i := 0) rfl (by kernel_rfl) rfl (fun _ => (rd_move rfl)) ?_
          refine s_rp (i := 1) rfl (by kernel_rfl) rfl (fun _ => (rd_move rfl)) ?_
          refine s_rp (i := 2) rfl (by kernel_rfl) rfl (fun _ => (rd_move rfl)) ?_
          obtain ⟨x343, h344, q345⟩ := ob q338; clear q338
          refine s_rp (i := 3) rfl (by kernel_rfl) rfl (fun _ => (rd_index tS22 rfl rfl (hm341.sl 0 rfl) h344)) ?_
          refine s_rd (i := 4) rfl (by kernel_rfl) rfl (fun _ hS => by rw [hS]; exact (rd_ld1 tO3 rfl ((hm341.sl 0 rfl).cells h344) (off := 0) rfl)) rfl ?_
          refine s_rp (i := 5) rfl (by kernel_rfl) rfl (fun _ => (rd_move rfl)) ?_
          refine s_rp (i := 6) rfl (by kernel_rfl) rfl (fun _ => (rd_move rfl)) ?_
          obtain ⟨x346, h347, q348⟩ := ob q345; clear q345
          refine s_rp (i := 7) rfl (by kernel_rfl) rfl (fun _ => (rd_index tS22 rfl rfl (hm341.sl 0 rfl) h347)) ?_
          refine s_rd (i := 8) rfl (by kernel_rfl) rfl (fun _ hS => by rw [hS]; exact (rd_ld1 tO3 rfl ((hm341.sl 0 rfl).cells h347) (off := 0) rfl)) rfl ?_
          obtain ⟨r349, h350, q351⟩ := ob q348; clear q348
          refine s_ef (i := 9) rfl (by kernel_rfl) rfl (ef_callv tf24 rfl rfl (setout_Best_1_ok h350 ((hn4.to_call hm341).sl))) (by decide) (fun _ _ _ q => absurd q (by decide)) ?_
          rintro _ w353 ⟨e_, hm352⟩
          obtain rfl := e_.symm
          have hm354 := hm341.call hm352
          refine s_rp (i := 10) rfl (by kernel_rfl) rfl (fun _ => (rd_lss rfl rfl)) ?_
          refine s_rp (i := 11) rfl (by kernel_rfl) rfl (fun _ => (rd_not rfl)) ?_
          refine s_nil (by kernel_rfl) ?_
          refine qn_then ?_
          obtain ⟨hb355, q356⟩ | ⟨hb355, q356⟩ := oi q351 <;> clear q351
          · refine cw_t rfl hb355 ?_
            refine cw_region ?_
            refine t_rd rfl (rd_move rfl) ?_
            obtain ⟨x357, h358, q359⟩ := ob q356; clear q356
            refine t_rd rfl (rd_add64 h358 rfl rfl) ?_
            refine t_rd rfl (rd_assign rfl) ?_
            refine rwt_nil ?_
            refine qn_block (qn_then ?_)
            refine ⟨_, (os q359), (by repeat (first | exact Sub.nil _ | refine Sub.cons rfl ?_)), (hm354.pick [0] (by decide) rfl)⟩
          · refine cw_f rfl hb355 ?_
            refine cw_region ?_
            refine t_rd rfl (rd_move rfl) ?_
            refine t_rd rfl (rd_assign rfl) ?_
            refine rwt_nil ?_
            refine qn_block (qn_then ?_)
            refine ⟨_, (os q356), (by repeat (first | exact Sub.nil _ | refine Sub.cons rfl ?_)), (hm354.pick [0] (by decide) rfl)⟩
        · refine cw_f rfl hb328 ?_
          refine cw_exit ?_
          refine qx_then (qx_then ?_)
          obtain rfl := hr323 _ (os q329)
          exact ⟨rfl, (by repeat (first | exact Sub.nil _ | refine Sub.cons rfl ?_)), (hm327.pick [0] (by decide) rfl)⟩
      · skip
        intro e env360 w361 hX362
        obtain ⟨rfl, hs363, hm364⟩ := hX362
        refine qx_same (qn_then ?_)
        refine cw_sub hs363 ?_
        refine cw_seq ?_
        refine cw_seq ?_
        refine cw_region ?_
        refine t_rd rfl (rd_move rfl) ?_
        refine t_rd rfl (rd_assign rfl) ?_
        refine rwt_nil ?_
        refine qn_then ?_
        refine cw_block ?_
        obtain ⟨r438, hit439, q440⟩ := ob q326; clear q326
        refine cw_loop2 (I := fun q envq wq => Sub [(0, v0), (14, (Value.int .i64 r324)), (17, (Value.int .i64 q.1))] envq ∧ Mem w (ownL 3 v0 (a0 : List Int)).D [ownL 3 v0 (q.2 : List Int)] wq) (X := fun eq envq wq => eq = .exit 6 ∧ Sub [] envq ∧ Mem w (ownL 3 v0 (a0 : List Int)).D [ownL 3 v0 (r438 : List Int)] wq) hit439 ⟨(by repeat (first | exact Sub.nil _ | refine Sub.cons rfl ?_)), (hm364.pick [0] (by decide) rfl)⟩ ?_ ?_
        · rintro ⟨i430, l431⟩ x433 env434 w435 hf436 hr437 ⟨hs_, hm_⟩
          have hs_ : Sub [(0, v0), (14, (Value.int .i64 r324)), (17, (Value.int .i64 i430))] env434 := hs_
          have hm441 : Mem w (ownL 3 v0 (a0 : List Int)).D [ownL 3 v0 (l431 : List Int)] w435 := hm_
          refine cw_sub hs_ ?_
          clear hs_ hm_ q440
          have h : g_slices_symMergeCmpFunc_int_l4 N r324 i430 l431 = some x433 := hf436
          clear hf436
          refine cw_seq ?_
          refine cw_seq ?_
          refine cw_region ?_
          refine t_rd rfl (rd_move rfl) ?_
          refine t_rd rfl (rd_move rfl) ?_
          refine t_rd rfl (rd_gtr rfl rfl) ?_
          refine rwt_nil ?_
          refine qn_then ?_
          obtain ⟨hb442, q443⟩ | ⟨hb442, q443⟩ := oi h <;> clear h
          · refine cw_t rfl hb442 ?_
            refine cw_skip ?_
            refine qn_then ?_
            refine cw_seq ?_
            refine cw_block ?_
            obtain ⟨w445, he447⟩ : ∃ q, q = w435.drew := ⟨_, rfl⟩
            have hm446 := hm441.drew; rw [← he447] at hm446
            refine cw_region_s (fun q => q = w445) (cls [] [15, 17]) mixed ?_
            rintro _ rfl; rw [← he447]
            refine s_rp (i := 0) rfl (by kernel_rfl) rfl (fun _ => (rd_move rfl)) ?_
            refine s_rp (i := 1) rfl (by kernel_rfl) rfl (fun _ => (rd_move rfl)) ?_
            refine s_rp (i := 2) rfl (by kernel_rfl) rfl (fun _ => (rd_move rfl)) ?_
            refine s_rp (i := 3) rfl (by kernel_rfl) rfl (fun _ => (rd_move rfl)) ?_
            obtain ⟨x448, h449, q450⟩ := ob q443; clear q443
            refine s_rp (i := 4) rfl (by kernel_rfl) rfl (fun _ => (rd_sub64 h449 rfl rfl)) ?_
            refine s_rp (i := 5) rfl (by kernel_rfl) rfl (fun _ => (rd_move rfl)) ?_
            refine s_rp (i := 6) rfl (by kernel_rfl) rfl (fun _ => (rd_move rfl)) ?_
            obtain ⟨x451, h452, q453⟩ := ob q450; clear q450
            refine s_rp (i := 7) rfl (by kernel_rfl) rfl (fun _ => (rd_sub64 h452 rfl rfl)) ?_
            obtain ⟨x454, h455, q456⟩ := ob q453; clear q453
            refine s_rp (i := 8) rfl (by kernel_rfl) rfl (fun _ => (rd_index tS22 rfl rfl (hm446.sl 0 rfl) h455)) ?_
            refine s_rd (i := 9) rfl (by kernel_rfl) rfl (fun _ hS => by rw [hS]; exact (rd_ld1 tO3 rfl ((hm446.sl 0 rfl).cells h455) (off := 0) rfl)) rfl ?_
            refine s_rp (i := 10) rfl (by kernel_rfl) rfl (fun _ => (rd_move rfl)) ?_
            refine s_rp (i := 11) rfl (by kernel_rfl) rfl (fun _ => (rd_move rfl)) ?_
            obtain ⟨x457, h458, q459⟩ := ob q456; clear q456
            refine s_rp (i := 12) rfl (by kernel_rfl) rfl (fun _ => (rd_index tS22 rfl rfl (hm446.sl 0 rfl) h458)) ?_
            refine s_rd (i := 13) rfl (by kernel_rfl) rfl (fun _ hS => by rw [hS]; exact (rd_ld1 tO3 rfl ((hm446.sl 0 rfl).cells h458) (off := 0) rfl)) rfl ?_
            obtain ⟨x460, h461, q462⟩ := ob q459; clear q459
            refine s_rp (i := 14) rfl (by kernel_rfl) rfl (fun _ => (rd_index tS22 rfl rfl (hm446.sl 0 rfl) h461)) ?_
            refine s_ef0 (i := 15) rfl (by kernel_rfl) (ef_stl (k := 0) (off := 0) (x' := x454) hm446 tO3 rfl rfl rfl rfl h461 rfl rfl) (by decide) (fun _ _ _ q => absurd q (by decide)) ?_
            intro _ w464 hm463
            obtain ⟨x465, h466, q467⟩ := ob q462; clear q462
            refine s_rp (i := 16) rfl (by kernel_rfl) rfl (fun _ => (rd_index tS22 rfl rfl (hm463.sl 0 rfl) h466)) ?_
            refine s_ef0 (i := 17) rfl (by kernel_rfl) (ef_stl (k := 0) (off := 0) (x' := x457) hm463 tO3 rfl rfl rfl rfl h466 rfl rfl) (by decide) (fun _ _ _ q => absurd q (by decide)) ?_
            intro _ w469 hm468
            refine s_nil (by kernel_rfl) ?_
            refine qn_block (qn_then ?_)
            refine cw_region ?_
            refine t_rd rfl (rd_move rfl) ?_
            obtain ⟨x470, h471, q472⟩ := ob q467; clear q467
            refine t_rd rfl (rd_sub64 h471 rfl rfl) ?_
            refine t_rd rfl (rd_assign rfl) ?_
            refine rwt_nil ?_
            refine qn_then ?_
            refine ⟨_, (os q472), (by repeat (first | exact Sub.nil _ | refine Sub.cons rfl ?_)), (hm468.pick [0] (by decide) rfl)⟩
          · refine cw_f rfl hb442 ?_
            refine cw_exit ?_
            refine qx_then (qx_then ?_)
            obtain rfl := hr437 _ (os q443)
            exact ⟨rfl, (by repeat (first | exact Sub.nil _ | refine Sub.cons rfl ?_)), (hm441.pick [0] (by decide) rfl)⟩
        · skip
          intro e env473 w474 hX475
          obtain ⟨rfl, hs476, hm477⟩ := hX475
          refine qx_same (qn_then ?_)
          refine cw_sub hs476 ?_
          refine cw_ret ?_
          refine qr_then ?_
          obtain rfl := os q440
          exact ret0 rfl ⟨rfl, (hm477.pick [0] (by decide) rfl)⟩
    · refine cw_f rfl hb247 ?_
      refine cw_skip ?_
      refine qn_then ?_
      refine cw_seq ?_
      refine cw_region ?_
      refine t_rd rfl (rd_move rfl) ?_
      refine t_rd rfl (rd_move rfl) ?_
      obtain ⟨x478, h479, q480⟩ := ob q248; clear q248
      refine t_rd rfl (rd_add64 h479 rfl rfl) ?_
      refine t_rd rfl (rd_cvu64 tH3 tI57 rfl) ?_
      obtain ⟨x481, h482, q483⟩ := ob q480; clear q480
      refine t_rd rfl (rd_shr_u64 h482 rfl rfl) ?_
      obtain ⟨x484, h485, q486⟩ := ob q483; clear q483
      refine t_rd rfl (rd_cv64 tH57 tI3 h485 rfl) ?_
      refine t_rd rfl (rd_assign rfl) ?_
      refine rwt_nil ?_
      refine qn_then ?_
      refine cw_seq ?_
      refine cw_region ?_
      refine t_rd rfl (rd_move rfl) ?_
      refine t_rd rfl (rd_move rfl) ?_
      obtain ⟨x487, h488, q489⟩ := ob q486; clear q486
      refine t_rd rfl (rd_add64 h488 rfl rfl) ?_
      refine t_rd rfl (rd_assign rfl) ?_
      refine rwt_nil ?_
      refine qn_then ?_
      refine cw_seq ?_
      refine cw_region ?_
      refine t_rd rfl (rd_assign rfl) ?_
      refine t_rd rfl (rd_assign rfl) ?_
      refine rwt_nil ?_
      refine qn_then ?_
      refine cw_seq ?_
      refine cw_seq ?_
      refine cw_region ?_
      refine t_rd rfl (rd_move rfl) ?_
      refine t_rd rfl (rd_move rfl) ?_
      refine t_rd rfl (rd_gtr rfl rfl) ?_
      refine rwt_nil ?_
      refine qn_then ?_
      obtain ⟨j497, hit498, q499⟩ := ob q489; clear q489
      refine cw_join (X := fun eq envq wq => eq = .normal ∧ Sub [(0, v0), (1, (Value.int .i64 a1)), (2, (Value.int .i64 a2)), (3, (Value.int .i64 a3)), (4, (Value.func (.func 24) #[] #[(Value.pointer (some ⟨pB v4, pO v4, none⟩))])), (18, (Value.int .i64 x484)), (19, (Value.int .i64 x487)), (20, (Value.int .i64 j497.1)), (21, (Value.int .i64 j497.2))] envq ∧ Mem w (ownL 3 v0 (a0 : List Int)).D [ownL 3 v0 (a0 : List Int)] wq) ?_ ?_
      · clear q499
        obtain ⟨hb500, q501⟩ | ⟨hb500, q501⟩ := oi hit498 <;> clear hit498
        · refine cw_t rfl hb500 ?_
          refine cw_seq ?_
          refine cw_region ?_
          refine t_rd rfl (rd_move rfl) ?_
          refine t_rd rfl (rd_move rfl) ?_
          obtain ⟨x502, h503, q504⟩ := ob q501; clear q501
          refine t_rd rfl (rd_sub64 h503 rfl rfl) ?_
          refine t_rd rfl (rd_assign rfl) ?_
          refine rwt_nil ?_
          refine qn_then ?_
          refine cw_region ?_
          refine t_rd rfl (rd_move rfl) ?_
          refine t_rd rfl (rd_assign rfl) ?_
          refine rwt_nil ?_
          obtain rfl := os q504
          exact ⟨rfl, (by repeat (first | exact Sub.nil _ | refine Sub.cons rfl ?_)), (hm0.pick [0] (by decide) rfl)⟩
        · refine cw_f rfl hb500 ?_
          refine cw_seq ?_
          refine cw_region ?_
          refine t_rd rfl (rd_move rfl) ?_
          refine t_rd rfl (rd_assign rfl) ?_
          refine rwt_nil ?_
          refine qn_then ?_
          refine cw_region ?_
          refine t_rd rfl (rd_move rfl) ?_
          refine t_rd rfl (rd_assign rfl) ?_
          refine rwt_nil ?_
          obtain rfl := os q501
          exact ⟨rfl, (by repeat (first | exact Sub.nil _ | refine Sub.cons rfl ?_)), (hm0.pick [0] (by decide) rfl)⟩
      · clear hit498
        intro e env505 w506 hX507
        obtain ⟨rfl, hs508, hm509⟩ := hX507
        refine qn_then ?_
        refine cw_sub hs508 ?_
        refine cw_seq ?_
        refine cw_region ?_
        refine t_rd rfl (rd_move rfl) ?_
        obtain ⟨x510, h511, q512⟩ := ob q499; clear q499
        refine t_rd rfl (rd_sub64 h511 rfl rfl) ?_
        refine t_rd rfl (rd_assign rfl) ?_
        refine rwt_nil ?_
        refine qn_then ?_
        refine cw_seq ?_
        refine cw_block ?_
        obtain ⟨r594, hit595, q596⟩ := ob q512; clear q512
        refine cw_loop2 (I := fun q envq wq => Sub [(0, v0), (1, (Value.int .i64 a1)), (2, (Value.int .i64 a2)), (3, (Value.int .i64 a3)), (4, (Value.func (.func 24) #[] #[(Value.pointer (some ⟨pB v4, pO v4, none⟩))])), (18, (Value.int .i64 x484)), (19, (Value.int .i64 x487)), (20, (Value.int .i64 q.1)), (21, (Value.int .i64 q.2)), (22, (Value.int .i64 x510))] envq ∧ Mem w (ownL 3 v0 (a0 : List Int)).D [ownL 3 v0 (a0 : List Int)] wq) (X := fun eq envq wq => eq = .exit 8 ∧ Sub [(0, v0), (1, (Value.int .i64 a1)), (2, (Value.int .i64 a2)), (3, (Value.int .i64 a3)), (4, (Value.func (.func 24) #[] #[(Value.pointer (some ⟨pB v4, pO v4, none⟩))])), (18, (Value.int .i64 x484)), (19, (Value.int .i64 x487)), (20, (Value.int .i64 r594))] envq ∧ Mem w (ownL 3 v0 (a0 : List Int)).D [ownL 3 v0 (a0 : List Int)] wq) hit595 ⟨(by repeat (first | exact Sub.nil _ | refine Sub.cons rfl ?_)), (hm509.pick [0] (by decide) rfl)⟩ ?_ ?_
        · rintro ⟨i586, i587⟩ x589 env590 w591 hf592 hr593 ⟨hs_, hm_⟩
          have hs_ : Sub [(0, v0), (1, (Value.int .i64 a1)), (2, (Value.int .i64 a2)), (3, (Value.int .i64 a3)), (4, (Value.func (.func 24) #[] #[(Value.pointer (some ⟨pB v4, pO v4, none⟩))])), (18, (Value.int .i64 x484)), (19, (Value.int .i64 x487)), (20, (Value.int .i64 i586)), (21, (Value.int .i64 i587)), (22, (Value.int .i64 x510))] env590 := hs_
          have hm597 : Mem w (ownL 3 v0 (a0 : List Int)).D [ownL 3 v0 (a0 : List Int)] w591 := hm_
          refine cw_sub hs_ ?_
          clear hs_ hm_ q596
          have h : g_slices_symMergeCmpFunc_int_l5 N a0 a4 x510 i586 i587 = some x589 := hf592
          clear hf592
          refine cw_seq ?_
          refine cw_seq ?_
          refine cw_region ?_
          refine t_rd rfl (rd_move rfl) ?_
          refine t_rd rfl (rd_move rfl) ?_
          refine t_rd rfl (rd_lss rfl rfl) ?_
          refine rwt_nil ?_
          refine qn_then ?_
          obtain ⟨hb598, q599⟩ | ⟨hb598, q599⟩ := oi h <;> clear h
          · refine cw_t rfl hb598 ?_
            refine cw_skip ?_
            refine qn_then ?_
            refine cw_block ?_
            refine cw_seq ?_
            refine cw_region ?_
            refine t_rd rfl (rd_move rfl) ?_
            refine t_rd rfl (rd_move rfl) ?_
            obtain ⟨x600, h601, q602⟩ := ob q599; clear q599
            refine t_rd rfl (rd_add64 h601 rfl rfl) ?_
            refine t_rd rfl (rd_cvu64 tH3 tI57 rfl) ?_
            obtain ⟨x603, h604, q605⟩ := ob q602; clear q602
            refine t_rd rfl (rd_shr_u64 h604 rfl rfl) ?_
            obtain ⟨x606, h607, q608⟩ := ob q605; clear q605
            refine t_rd rfl (rd_cv64 tH57 tI3 h607 rfl) ?_
            refine t_rd rfl (rd_assign rfl) ?_
            refine rwt_nil ?_
            refine qn_then ?_
            refine cw_seq ?_
            obtain ⟨w610, he612⟩ : ∃ q, q = w591.drew := ⟨_, rfl⟩
            have hm611 := hm597.drew; rw [← he612] at hm611
            refine cw_region_s (fun q => q = w610) (cls [] [11]) mixed ?_
            rintro _ rfl; rw [← he612]
            refine s_rp (i := 0) rfl (by kernel_rfl) rfl (fun _ => (rd_move rfl)) ?_
            refine s_rp (i := 1) rfl (by kernel_rfl) rfl (fun _ => (rd_move rfl)) ?_
            refine s_rp (i := 2) rfl (by kernel_rfl) rfl (fun _ => (rd_move rfl)) ?_
            refine s_rp (i := 3) rfl (by kernel_rfl) rfl (fun _ => (rd_move rfl)) ?_
            obtain ⟨x613, h614, q615⟩ := ob q608; clear q608
            refine s_rp (i := 4) rfl (by kernel_rfl) rfl (fun _ => (rd_sub64 h614 rfl rfl)) ?_
            obtain ⟨x616, h617, q618⟩ := ob q615; clear q615
            refine s_rp (i := 5) rfl (by kernel_rfl) rfl (fun _ => (rd_index tS22 rfl rfl (hm611.sl 0 rfl) h617)) ?_
            refine s_rd (i := 6) rfl (by kernel_rfl) rfl (fun _ hS => by rw [hS]; exact (rd_ld1 tO3 rfl ((hm611.sl 0 rfl).cells h617) (off := 0) rfl)) rfl ?_
            refine s_rp (i := 7) rfl (by kernel_rfl) rfl (fun _ => (rd_move rfl)) ?_
            refine s_rp (i := 8) rfl (by kernel_rfl) rfl (fun _ => (rd_move rfl)) ?_
            obtain ⟨x619, h620, q621⟩ := ob q618; clear q618
            refine s_rp (i := 9) rfl (by kernel_rfl) rfl (fun _ => (rd_index tS22 rfl rfl (hm611.sl 0 rfl) h620)) ?_
            refine s_rd (i := 10) rfl (by kernel_rfl) rfl (fun _ hS => by rw [hS]; exact (rd_ld1 tO3 rfl ((hm611.sl 0 rfl).cells h620) (off := 0) rfl)) rfl ?_
            obtain ⟨r622, h623, q624⟩ := ob q621; clear q621
            refine s_ef (i := 11) rfl (by kernel_rfl) rfl (ef_callv tf24 rfl rfl (setout_Best_1_ok h623 ((hn4.to_call hm611).sl))) (by decide) (fun _ _ _ q => absurd q (by decide)) ?_
            rintro _ w626 ⟨e_, hm625⟩
            obtain rfl := e_.symm
            have hm627 := hm611.call hm625
            refine s_rp (i := 12) rfl (by kernel_rfl) rfl (fun _ => (rd_lss rfl rfl)) ?_
            refine s_rp (i := 13) rfl (by kernel_rfl) rfl (fun _ => (rd_not rfl)) ?_
            refine s_nil (by kernel_rfl) ?_
            refine qn_then ?_
            obtain ⟨hb628, q629⟩ | ⟨hb628, q629⟩ := oi q624 <;> clear q624
            · refine cw_t rfl hb628 ?_
              refine cw_region ?_
              refine t_rd rfl (rd_move rfl) ?_
              obtain ⟨x630, h631, q632⟩ := ob q629; clear q629
              refine t_rd rfl (rd_add64 h631 rfl rfl) ?_
              refine t_rd rfl (rd_assign rfl) ?_
              refine rwt_nil ?_
              refine qn_block (qn_then ?_)
              refine ⟨_, (os q632), (by repeat (first | exact Sub.nil _ | refine Sub.cons rfl ?_)), (hm627.pick [0] (by decide) rfl)⟩
            · refine cw_f rfl hb628 ?_
              refine cw_region ?_
              refine t_rd rfl (rd_move rfl) ?_
              refine t_rd rfl (rd_assign rfl) ?_
              refine rwt_nil ?_
              refine qn_block (qn_then ?_)
              refine ⟨_, (os q629), (by repeat (first | exact Sub.nil _ | refine Sub.cons rfl ?_)), (hm627.pick [0] (by decide) rfl)⟩
          · refine cw_f rfl hb598 ?_
            refine cw_exit ?_
            refine qx_then (qx_then ?_)
            obtain rfl := hr593 _ (os q599)
            exact ⟨rfl, (by repeat (first | exact Sub.nil _ | refine Sub.cons rfl ?_)), (hm597.pick [0] (by decide) rfl)⟩
        · skip
          intro e env633 w634 hX635
          obtain ⟨rfl, hs636, hm637⟩ := hX635
          refine qx_same (qn_then ?_)
          refine cw_sub hs636 ?_
          refine cw_seq ?_
          refine cw_region ?_
          refine t_rd rfl (rd_move rfl) ?_
          refine t_rd rfl (rd_move rfl) ?_
          obtain ⟨x638, h639, q640⟩ := ob q596; clear q596
          refine t_rd rfl (rd_sub64 h639 rfl rfl) ?_
          refine t_rd rfl (rd_assign rfl) ?_
          refine rwt_nil ?_
          refine qn_then ?_
          refine cw_seq ?_
          refine cw_seq ?_
          refine cw_region ?_
          refine t_rd rfl (rd_move rfl) ?_
          refine t_rd rfl (rd_move rfl) ?_
          refine t_rd rfl (rd_lss rfl rfl) ?_
          refine t_rd rfl (rd_move rfl) ?_
          refine t_rdg rfl rfl rfl rfl (gv_t _) (fun hg641 => (rd_move rfl)) ?_
          refine t_rdg rfl rfl rfl rfl (gv_t _) (fun hg642 => (rd_move rfl)) ?_
          refine t_rdg rfl rfl rfl rfl (gv_t _) (fun hg643 => (rd_lss (gvx rfl hg643) (gvx rfl hg643))) ?_
          refine t_rd rfl (rd_and rfl (fun hc644 => (gvx rfl hc644))) ?_
          refine rwt_nil ?_
          refine qn_then ?_
          obtain ⟨j654, hit655, q656⟩ := ob q640; clear q640
          refine cw_join (X := fun eq envq wq => eq = .normal ∧ Sub [(0, v0), (1, (Value.int .i64 a1)), (3, (Value.int .i64 a3)), (4, (Value.func (.func 24) #[] #[(Value.pointer (some ⟨pB v4, pO v4, none⟩))])), (18, (Value.int .i64 x484)), (20, (Value.int .i64 r594)), (24, (Value.int .i64 x638))] envq ∧ Mem w (ownL 3 v0 (a0 : List Int)).D [ownL 3 v0 (j654 : List Int)] wq) ?_ ?_
          · clear q656
            obtain ⟨hb657, q658⟩ | ⟨hb657, q658⟩ := oi hit655 <;> clear hit655
            · refine cw_t rfl hb657 ?_
              refine cw_region ?_
              refine t_rd rfl (rd_move rfl) ?_
              refine t_rd rfl (rd_move rfl) ?_
              refine t_rd rfl (rd_move rfl) ?_
              refine t_rd rfl (rd_move rfl) ?_
              refine t_rd rfl (rd_move rfl) ?_
              obtain ⟨r659, h660, q661⟩ := ob q658; clear q658
              refine t_ef rfl (ef_call tf31 rfl (g_slices_rotateCmpFunc_int_ok h660 (hm637.get (k := 0) rfl) ((hn4.to_callT (k := 0) hm637 rfl).sl))) ?_
              rintro _ w663 ⟨e_, hm662⟩
              obtain rfl := e_.symm
              have hm664 := hm637.callT (k := 0) rfl (fun _ h => h) hm662 (fun _ => Iff.rfl)
              refine rwt_nil ?_
              obtain rfl := os q661
              exact ⟨rfl, (by repeat (first | exact Sub.nil _ | refine Sub.cons rfl ?_)), (hm664.pick [0] (by decide) rfl)⟩
            · refine cw_f rfl hb657 ?_
              refine cw_skip ?_
              obtain rfl := os q658
              exact ⟨rfl, (by repeat (first | exact Sub.nil _ | refine Sub.cons rfl ?_)), (hm637.pick [0] (by decide) rfl)⟩
          · clear hit655
            intro e env665 w666 hX667
            obtain ⟨rfl, hs668, hm669⟩ := hX667
            refine qn_then ?_
            refine cw_sub hs668 ?_
            refine cw_seq ?_
            refine cw_seq ?_
            refine cw_region ?_
            refine t_rd rfl (rd_move rfl) ?_
            refine t_rd rfl (rd_move rfl) ?_
            refine t_rd rfl (rd_lss rfl rfl) ?_
            refine t_rd rfl (rd_move rfl) ?_
            refine t_rdg rfl rfl rfl rfl (gv_t _) (fun hg670 => (rd_move rfl)) ?_
            refine t_rdg rfl rfl rfl rfl (gv_t _) (fun hg671 => (rd_move rfl)) ?_
            refine t_rdg rfl rfl rfl rfl (gv_t _) (fun hg672 => (rd_lss (gvx rfl hg672) (gvx rfl hg672))) ?_
            refine t_rd rfl (rd_and rfl (fun hc673 => (gvx rfl hc673))) ?_
            refine rwt_nil ?_
            refine qn_then ?_
            obtain ⟨j683, hit684, q685⟩ := ob q656; clear q656
            refine cw_join (X := fun eq envq wq => eq = .normal ∧ Sub [(0, v0), (3, (Value.int .i64 a3)), (4, (Value.func (.func 24) #[] #[(Value.pointer (some ⟨pB v4, pO v4, none⟩))])), (18, (Value.int .i64 x484)), (24, (Value.int .i64 x638))] envq ∧ Mem w (ownL 3 v0 (a0 : List Int)).D [ownL 3 v0 (j683 : List Int)] wq) ?_ ?_
            · clear q685
              obtain ⟨hb686, q687⟩ | ⟨hb686, q687⟩ := oi hit684 <;> clear hit684
              · refine cw_t rfl hb686 ?_
                refine cw_region ?_
                refine t_rd rfl (rd_move rfl) ?_
                refine t_rd rfl (rd_move rfl) ?_
                refine t_rd rfl (rd_move rfl) ?_
                refine t_rd rfl (rd_move rfl) ?_
                refine t_rd rfl (rd_move rfl) ?_
                obtain ⟨r688, h689, q690⟩ := ob q687; clear q687
                refine t_ef rfl (ef_call tf30 rfl (ih h689 (hm669.get (k := 0) rfl) ((hn4.to_callT (k := 0) hm669 rfl).sl))) ?_
                rintro _ w692 ⟨e_, hm691⟩
                obtain rfl := e_.symm
                have hm693 := hm669.callT (k := 0) rfl (fun _ h => h) hm691 (fun _ => Iff.rfl)
                refine rwt_nil ?_
                obtain rfl := os q690
                exact ⟨rfl, (by repeat (first | exact Sub.nil _ | refine Sub.cons rfl ?_)), (hm693.pick [0] (by decide) rfl)⟩
              · refine cw_f rfl hb686 ?_
                refine cw_skip ?_
                obtain rfl := os q687
                exact ⟨rfl, (by repeat (first | exact Sub.nil _ | refine Sub.cons rfl ?_)), (hm669.pick [0] (by decide) rfl)⟩
            · clear hit684
              intro e env694 w695 hX696
              obtain ⟨rfl, hs697, hm698⟩ := hX696
              refine qn_then ?_
              refine cw_sub hs697 ?_
              refine cw_seq ?_
              refine cw_region ?_
              refine t_rd rfl (rd_move rfl) ?_
              refine t_rd rfl (rd_move rfl) ?_
              refine t_rd rfl (rd_lss rfl rfl) ?_
              refine t_rd rfl (rd_move rfl) ?_
              refine t_rdg rfl rfl rfl rfl (gv_t _) (fun hg699 => (rd_move rfl)) ?_
              refine t_rdg rfl rfl rfl rfl (gv_t _) (fun hg700 => (rd_move rfl)) ?_
              refine t_rdg rfl rfl rfl rfl (gv_t _) (fun hg701 => (rd_lss (gvx rfl hg701) (gvx rfl hg701))) ?_
              refine t_rd rfl (rd_and rfl (fun hc702 => (gvx rfl hc702))) ?_
              refine rwt_nil ?_
              refine qn_then ?_
              obtain ⟨hb703, q704⟩ | ⟨hb703, q704⟩ := oi q685 <;> clear q685
              · refine cw_t rfl hb703 ?_
                refine cw_region ?_
                refine t_rd rfl (rd_move rfl) ?_
                refine t_rd rfl (rd_move rfl) ?_
                refine t_rd rfl (rd_move rfl) ?_
                refine t_rd rfl (rd_move rfl) ?_
                refine t_rd rfl (rd_move rfl) ?_
                obtain ⟨r705, h706, q707⟩ := ob q704; clear q704
                refine t_ef rfl (ef_call tf30 rfl (ih h706 (hm698.get (k := 0) rfl) ((hn4.to_callT (k := 0) hm698 rfl).sl))) ?_
                rintro _ w709 ⟨e_, hm708⟩
                obtain rfl := e_.symm
                have hm710 := hm698.callT (k := 0) rfl (fun _ h => h) hm708 (fun _ => Iff.rfl)
                refine rwt_nil ?_
                obtain rfl := os q707
                refine retn ?_
                exact ret0 rfl ⟨rfl, (hm710.pick [0] (by decide) rfl)⟩
              · refine cw_f rfl hb703 ?_
                refine cw_skip ?_
                obtain rfl := os q704
                refine retn ?_
                exact ret0 rfl ⟨rfl, (hm698.pick [0] (by decide) rfl)⟩

theorem g_slices_symMergeCmpFunc_int_ok {N : Nat} {a0 : List Int} {a1 : Int} {a2 : Int} {a3 : Int} {a4 : List (List Int)} {res : List Int} (h : g_slices_symMergeCmpFunc_int N a0 a1 a2 a3 a4 = some res) {w : World} {v0 : Value} {v4 : Value} (hk0 : (ownL 3 v0 (a0 : List Int)).φ w) (hv4 : Sl (Old w (ownL 3 v0 (a0 : List Int)).D) w v4 a4) :
    CallsR Try.prog 30 [v0, (Value.int .i64 a1), (Value.int .i64 a2), (Value.int .i64 a3), (Value.func (.func 24) #[] #[(Value.pointer (some ⟨pB v4, pO v4, none⟩))])] w (fun u w' => u = (Value.tuple #[]) ∧ Mem w (ownL 3 v0 (a0 : List Int)).D [ownL 3 v0 (res : List Int)] w') := g_slices_symMergeCmpFunc_int_r_ok N h hk0 hv4

theorem g_slices_stableCmpFunc_int_ok {N : Nat} {a0 : List Int} {a1 : Int} {a2 : List (List Int)} {res : List Int} (h : g_slices_stableCmpFunc_int N a0 a1 a2 = some res) {w : World} {v0 : Value} {v2 : Value} (hk0 : (ownL 3 v0 (a0 : List Int)).φ w) (hv2 : Sl (Old w (ownL 3 v0 (a0 : List Int)).D) w v2 a2) :
    CallsR Try.prog 28 [v0, (Value.int .i64 a1), (Value.func (.func 24) #[] #[(Value.pointer (some ⟨pB v2, pO v2, none⟩))])] w (fun u w' => u = (Value.tuple #[]) ∧ Mem w (ownL 3 v0 (a0 : List Int)).D [ownL 3 v0 (res : List Int)] w') := by
  unfold g_slices_stableCmpFunc_int at h
  refine fn_ok Try.func28 rfl rfl rfl ?_
  obtain ⟨zs_a2, hn2⟩ := hv2.nest
  have hm0 := Mem.one hk0
  refine cw_seq ?_
  refine cw_region ?_
  refine t_rd rfl (rd_assign rfl) ?_
  refine rwt_nil ?_
  refine qn_then ?_
  refine cw_seq ?_
  refine cw_region ?_
  refine t_rd rfl (rd_move rfl) ?_
  refine t_rd rfl (rd_assign rfl) ?_
  refine t_rd rfl (rd_assign rfl) ?_
  refine rwt_nil ?_
  refine qn_then ?_
  refine cw_seq ?_
  refine cw_block ?_
  obtain ⟨r37, hit38, q39⟩ := ob h; clear h
  refine cw_loop2 (I := fun q envq wq => Sub [(0, v0), (1, (Value.int .i64 a1)), (2, (Value.func (.func 24) #[] #[(Value.pointer (some ⟨pB v2, pO v2, none⟩))])), (6, (Value.int .i64 20)), (7, (Value.int .i64 q.1)), (8, (Value.int .i64 q.2.1))] envq ∧ Mem w (ownL 3 v0 (a0 : List Int)).D [ownL 3 v0 (q.2.2 : List Int)] wq) (X := fun eq envq wq => eq = .exit 0 ∧ Sub [(0, v0), (1, (Value.int .i64 a1)), (2, (Value.func (.func 24) #[] #[(Value.pointer (some ⟨pB v2, pO v2, none⟩))])), (6, (Value.int .i64 20)), (7, (Value.int .i64 r37.1))] envq ∧ Mem w (ownL 3 v0 (a0 : List Int)).D [ownL 3 v0 (r37.2 : List Int)] wq) hit38 ⟨(by repeat (first | exact Sub.nil _ | refine Sub.cons rfl ?_)), (hm0.pick [0] (by decide) rfl)⟩ ?_ ?_
  · rintro ⟨i28, i29, l30⟩ x32 env33 w34 hf35 hr36 ⟨hs_, hm_⟩
    have hs_ : Sub [(0, v0), (1, (Value.int .i64 a1)), (2, (Value.func (.func 24) #[] #[(Value.pointer (some ⟨pB v2, pO v2, none⟩))])), (6, (Value.int .i64 20)), (7, (Value.int .i64 i28)), (8, (Value.int .i64 i29))] env33 := hs_
    have hm40 : Mem w (ownL 3 v0 (a0 : List Int)).D [ownL 3 v0 (l30 : List Int)] w34 := hm_
    refine cw_sub hs_ ?_
    clear hs_ hm_ q39
    have h : g_slices_stableCmpFunc_int_l1 N a1 a2 i28 i29 l30 = some x32 := hf35
    clear hf35
    refine cw_seq ?_
    refine cw_seq ?_
    refine cw_region ?_
    refine t_rd rfl (rd_move rfl) ?_
    refine t_rd rfl (rd_move rfl) ?_
    refine t_rd rfl (rd_leq rfl rfl) ?_
    refine rwt_nil ?_
    refine qn_then ?_
    obtain ⟨hb41, q42⟩ | ⟨hb41, q42⟩ := oi h <;> clear h
    · refine cw_t rfl hb41 ?_
      refine cw_skip ?_
      refine qn_then ?_
      refine cw_block ?_
      refine cw_seq ?_
      refine cw_region ?_
      refine t_rd rfl (rd_move rfl) ?_
      refine t_rd rfl (rd_move rfl) ?_
      refine t_rd rfl (rd_move rfl) ?_
      refine t_rd rfl (rd_move rfl) ?_
      obtain ⟨r43, h44, q45⟩ := ob q42; clear q42
      refine t_ef rfl (ef_call tf29 rfl (g_slices_insertionSortCmpFunc_int_ok h44 (hm40.get (k := 0) rfl) ((hn2.to_callT (k := 0) hm40 rfl).sl))) ?_
      rintro _ w47 ⟨e_, hm46⟩
      obtain rfl := e_.symm
      have hm48 := hm40.callT (k := 0) rfl (fun _ h => h) hm46 (fun _ => Iff.rfl)
      refine rwt_nil ?_
      refine qn_then ?_
      refine cw_seq ?_
      refine cw_region ?_
      refine t_rd rfl (rd_move rfl) ?_
      refine t_rd rfl (rd_assign rfl) ?_
      refine rwt_nil ?_
      refine qn_then ?_
      refine cw_region ?_
      refine t_rd rfl (rd_move rfl) ?_
      refine t_rd rfl (rd_move rfl) ?_
      obtain ⟨x49, h50, q51⟩ := ob q45; clear q45
      refine t_rd rfl (rd_add64 h50 rfl rfl) ?_
      refine t_rd rfl (rd_assign rfl) ?_
      refine rwt_nil ?_
      refine qn_block (qn_then ?_)
      refine ⟨_, (os q51), (by repeat (first | exact Sub.nil _ | refine Sub.cons rfl ?_)), (hm48.pick [0] (by decide) rfl)⟩
    · refine cw_f rfl hb41 ?_
      refine cw_exit ?_
      refine qx_then (qx_then ?_)
      obtain rfl := hr36 _ (os q42)
      exact ⟨rfl, (by repeat (first | exact Sub.nil _ | refine Sub.cons rfl ?_)), (hm40.pick [0] (by decide) rfl)⟩
  · skip
    intro e env52 w53 hX54
    obtain ⟨rfl, hs55, hm56⟩ := hX54
    refine qx_same (qn_then ?_)
    refine cw_sub hs55 ?_
    refine cw_seq ?_
    refine cw_region ?_
    refine t_rd rfl (rd_move rfl) ?_
    refine t_rd rfl (rd_move rfl) ?_
    refine t_rd rfl (rd_move rfl) ?_
    refine t_rd rfl (rd_move rfl) ?_
    obtain ⟨r57, h58, q59⟩ := ob q39; clear q39
    refine t_ef rfl (ef_call tf29 rfl (g_slices_insertionSortCmpFunc_int_ok h58 (hm56.get (k := 0) rfl) ((hn2.to_callT (k := 0) hm56 rfl).sl))) ?_
    rintro _ w61 ⟨e_, hm60⟩
    obtain rfl := e_.symm
    have hm62 := hm56.callT (k := 0) rfl (fun _ h => h) hm60 (fun _ => Iff.rfl)
    refine rwt_nil ?_
    refine qn_then ?_
    refine cw_block ?_
    obtain ⟨r266, hit267, q268⟩ := ob q59; clear q59
    refine cw_loop2 (I := fun q envq wq => Sub [(0, v0), (1, (Value.int .i64 a1)), (2, (Value.func (.func 24) #[] #[(Value.pointer (some ⟨pB v2, pO v2, none⟩))])), (6, (Value.int .i64 q.1))] envq ∧ Mem w (ownL 3 v0 (a0 : List Int)).D [ownL 3 v0 (q.2 : List Int)] wq) (X := fun eq envq wq => eq = .exit 2 ∧ Sub [] envq ∧ Mem w (ownL 3 v0 (a0 : List Int)).D [ownL 3 v0 (r266 : List Int)] wq) hit267 ⟨(by repeat (first | exact Sub.nil _ | refine Sub.cons rfl ?_)), (hm62.pick [0] (by decide) rfl)⟩ ?_ ?_
    · rintro ⟨i258, l259⟩ x261 env262 w263 hf264 hr265 ⟨hs_, hm_⟩
      have hs_ : Sub [(0, v0), (1, (Value.int .i64 a1)), (2, (Value.func (.func 24) #[] #[(Value.pointer (some ⟨pB v2, pO v2, none⟩))])), (6, (Value.int .i64 i258))] env262 := hs_
      have hm269 : Mem w (ownL 3 v0 (a0 : List Int)).D [ownL 3 v0 (l259 : List Int)] w263 := hm_
      refine cw_sub hs_ ?_
      clear hs_ hm_ q268
      have h : g_slices_stableCmpFunc_int_l4 N a1 a2 i258 l259 = some x261 := hf264
      clear hf264
      refine cw_seq ?_
      refine cw_seq ?_
      refine cw_region ?_
      refine t_rd rfl (rd_move rfl) ?_
      refine t_rd rfl (rd_move rfl) ?_
      refine t_rd rfl (rd_lss rfl rfl) ?_
      refine rwt_nil ?_
      refine qn_then ?_
      obtain ⟨hb270, q271⟩ | ⟨hb270, q271⟩ := oi h <;> clear h
      · refine cw_t rfl hb270 ?_
        refine cw_skip ?_
        refine qn_then ?_
        refine cw_block ?_
        refine cw_seq ?_
        refine cw_region ?_
        refine t_rd rfl (rd_move rfl) ?_
        obtain ⟨x272, h273, q274⟩ := ob q271; clear q271
        refine t_rd rfl (rd_mul64 h273 rfl rfl) ?_
        refine t_rd rfl (rd_assign rfl) ?_
        refine t_rd rfl (rd_assign rfl) ?_
        refine rwt_nil ?_
        refine qn_then ?_
        refine cw_seq ?_
        refine cw_block ?_
        obtain ⟨r323, hit324, q325⟩ := ob q274; clear q274
        refine cw_loop2 (I := fun q envq wq => Sub [(0, v0), (1, (Value.int .i64 a1)), (2, (Value.func (.func 24) #[] #[(Value.pointer (some ⟨pB v2, pO v2, none⟩))])), (6, (Value.int .i64 i258)), (7, (Value.int .i64 q.1)), (8, (Value.int .i64 q.2.1))] envq ∧ Mem w (ownL 3 v0 (a0 : List Int)).D [ownL 3 v0 (q.2.2 : List Int)] wq) (X := fun eq envq wq => eq = .exit 4 ∧ Sub [(0, v0), (1, (Value.int .i64 a1)), (2, (Value.func (.func 24) #[] #[(Value.pointer (some ⟨pB v2, pO v2, none⟩))])), (6, (Value.int .i64 i258)), (7, (Value.int .i64 r323.1))] envq ∧ Mem w (ownL 3 v0 (a0 : List Int)).D [ownL 3 v0 (r323.2 : List Int)] wq) hit324 ⟨(by repeat (first | exact Sub.nil _ | refine Sub.cons rfl ?_)), (hm269.pick [0] (by decide) rfl)⟩ ?_ ?_
        · rintro ⟨i314, i315, l316⟩ x318 env319 w320 hf321 hr322 ⟨hs_, hm_⟩
          have hs_ : Sub [(0, v0), (1, (Value.int .i64 a1)), (2, (Value.func (.func 24) #[] #[(Value.pointer (some ⟨pB v2, pO v2, none⟩))])), (6, (Value.int .i64 i258)), (7, (Value.int .i64 i314)), (8, (Value.int .i64 i315))] env319 := hs_
          have hm326 : Mem w (ownL 3 v0 (a0 : List Int)).D [ownL 3 v0 (l316 : List Int)] w320 := hm_
          refine cw_sub hs_ ?_
          clear hs_ hm_ q325
          have h : g_slices_stableCmpFunc_int_l5 N a1 a2 i258 i314 i315 l316 = some x318 := hf321
          clear hf321
          refine cw_seq ?_
          refine cw_seq ?_
          refine cw_region ?_
          refine t_rd rfl (rd_move rfl) ?_
          refine t_rd rfl (rd_move rfl) ?_
          refine t_rd rfl (rd_leq rfl rfl) ?_
          refine rwt_nil ?_
          refine qn_then ?_
          obtain ⟨hb327, q328⟩ | ⟨hb327, q328⟩ := oi h <;> clear h
          · refine cw_t rfl hb327 ?_
            refine cw_skip ?_
            refine qn_then ?_
            refine cw_block ?_
            refine cw_seq ?_
            refine cw_region ?_
            refine t_rd rfl (rd_move rfl) ?_
            refine t_rd rfl (rd_move rfl) ?_
            refine t_rd rfl (rd_move rfl) ?_
            refine t_rd rfl (rd_move rfl) ?_
            obtain ⟨x329, h330, q331⟩ := ob q328; clear q328
            refine t_rd rfl (rd_add64 h330 rfl rfl) ?_
            refine t_rd rfl (rd_move rfl) ?_
            refine t_rd rfl (rd_move rfl) ?_
            obtain ⟨r332, h333, q334⟩ := ob q331; clear q331
            refine t_ef rfl (ef_call tf30 rfl (g_slices_symMergeCmpFunc_int_ok h333 (hm326.get (k := 0) rfl) ((hn2.to_callT (k := 0) hm326 rfl).sl))) ?_
            rintro _ w336 ⟨e_, hm335⟩
            obtain rfl := e_.symm
            have hm337 := hm326.callT (k := 0) rfl (fun _ h => h) hm335 (fun _ => Iff.rfl)
            refine rwt_nil ?_
            refine qn_then ?_
            refine cw_seq ?_
            refine cw_region ?_
            refine t_rd rfl (rd_move rfl) ?_
            refine t_rd rfl (rd_assign rfl) ?_
            refine rwt_nil ?_
            refine qn_then ?_
            refine cw_region ?_
            refine t_rd rfl (rd_move rfl) ?_
            refine t_rd rfl (rd_move rfl) ?_
            obtain ⟨x338, h339, q340⟩ := ob q334; clear q334
            refine t_rd rfl (rd_mul64 h339 rfl rfl) ?_
            obtain ⟨x341, h342, q343⟩ := ob q340; clear q340
            refine t_rd rfl (rd_add64 h342 rfl rfl) ?_
            refine t_rd rfl (rd_assign rfl) ?_
            refine rwt_nil ?_
            refine qn_block (qn_then ?_)
            refine ⟨_, (os q343), (by repeat (first | exact Sub.nil _ | refine Sub.cons rfl ?_)), (hm337.pick [0] (by decide) rfl)⟩
          · refine cw_f rfl hb327 ?_
            refine cw_exit ?_
            refine qx_then (qx_then ?_)
            obtain rfl := hr322 _ (os q328)
            exact ⟨rfl, (by repeat (first | exact Sub.nil _ | refine Sub.cons rfl ?_)), (hm326.pick [0] (by decide) rfl)⟩
        · skip
          intro e env344 w345 hX346
          obtain ⟨rfl, hs347, hm348⟩ := hX346
          refine qx_same (qn_then ?_)
          refine cw_sub hs347 ?_
          refine cw_seq ?_
          refine cw_seq ?_
          refine cw_region ?_
          refine t_rd rfl (rd_move rfl) ?_
          refine t_rd rfl (rd_move rfl) ?_
          obtain ⟨x349, h350, q351⟩ := ob q325; clear q325
          refine t_rd rfl (rd_add64 h350 rfl rfl) ?_
          refine t_rd rfl (rd_assign rfl) ?_
          refine rwt_nil ?_
          refine qn_then ?_
          refine cw_seq ?_
          refine cw_region ?_
          refine t_rd rfl (rd_move rfl) ?_
          refine t_rd rfl (rd_move rfl) ?_
          refine t_rd rfl (rd_lss rfl rfl) ?_
          refine rwt_nil ?_
          refine qn_then ?_
          obtain ⟨hb352, q353⟩ | ⟨hb352, q353⟩ := oi q351 <;> clear q351
          · refine cw_t rfl hb352 ?_
            refine cw_region ?_
            refine t_rd rfl (rd_move rfl) ?_
            refine t_rd rfl (rd_move rfl) ?_
            refine t_rd rfl (rd_move rfl) ?_
            refine t_rd rfl (rd_move rfl) ?_
            refine t_rd rfl (rd_move rfl) ?_
            obtain ⟨r354, h355, q356⟩ := ob q353; clear q353
            refine t_ef rfl (ef_call tf30 rfl (g_slices_symMergeCmpFunc_int_ok h355 (hm348.get (k := 0) rfl) ((hn2.to_callT (k := 0) hm348 rfl).sl))) ?_
            rintro _ w358 ⟨e_, hm357⟩
            obtain rfl := e_.symm
            have hm359 := hm348.callT (k := 0) rfl (fun _ h => h) hm357 (fun _ => Iff.rfl)
            refine rwt_nil ?_
            refine qn_then ?_
            refine cw_region ?_
            refine t_rd rfl (rd_move rfl) ?_
            obtain ⟨x360, h361, q362⟩ := ob q356; clear q356
            refine t_rd rfl (rd_mul64 h361 rfl rfl) ?_
            refine t_rd rfl (rd_assign rfl) ?_
            refine rwt_nil ?_
            refine qn_block (qn_then ?_)
            refine ⟨_, (os q362), (by repeat (first | exact Sub.nil _ | refine Sub.cons rfl ?_)), (hm359.pick [0] (by decide) rfl)⟩
          · refine cw_f rfl hb352 ?_
            refine cw_skip ?_
            refine qn_then ?_
            refine cw_region ?_
            refine t_rd rfl (rd_move rfl) ?_
            obtain ⟨x363, h364, q365⟩ := ob q353; clear q353
            refine t_rd rfl (rd_mul64 h364 rfl rfl) ?_
            refine t_rd rfl (rd_assign rfl) ?_
            refine rwt_nil ?_
            refine qn_block (qn_then ?_)
            refine ⟨_, (os q365), (by repeat (first | exact Sub.nil _ | refine Sub.cons rfl ?_)), (hm348.pick [0] (by decide) rfl)⟩
      · refine cw_f rfl hb270 ?_
        refine cw_exit ?_
        refine qx_then (qx_then ?_)
        obtain rfl := hr265 _ (os q271)
        exact ⟨rfl, (by repeat (first | exact Sub.nil _ | refine Sub.cons rfl ?_)), (hm269.pick [0] (by decide) rfl)⟩
    · skip
      intro e env366 w367 hX368
      obtain ⟨rfl, hs369, hm370⟩ := hX368
      refine qx_same ?_
      obtain rfl := os q268
      refine retn ?_
      refine ret_sub hs369 ?_
      exact ret0 rfl ⟨rfl, (hm370.pick [0] (by decide) rfl)⟩

theorem g_slices_SortStableFunc_int_int_ok {N : Nat} {a0 : List Int} {a1 : List (List Int)} {res : List Int} (h : g_slices_SortStableFunc_int_int N a0 a1 = some res) {w : World} {v0 : Value} {v1 : Value} (hk0 : (ownL 3 v0 (a0 : List Int)).φ w) (hv1 : Sl (Old w (ownL 3 v0 (a0 : List Int)).D) w v1 a1) :
    CallsR Try.prog 23 [v0, (Value.func (.func 24) #[] #[(Value.pointer (some ⟨pB v1, pO v1, none⟩))])] w (fun u w' => u = (Value.tuple #[]) ∧ Mem w (ownL 3 v0 (a0 : List Int)).D [ownL 3 v0 (res : List Int)] w') := by
  unfold g_slices_SortStableFunc_int_int at h
  refine fn_ok Try.func23 rfl rfl rfl ?_
  obtain ⟨zs_a1, hn1⟩ := hv1.nest
  have hm0 := Mem.one hk0
  refine cw_region ?_
  refine t_rd rfl (rd_move rfl) ?_
  refine t_rd rfl (rd_move rfl) ?_
  refine t_rd rfl (rd_lenS tS22 rfl (hm0.sl 0 rfl)) ?_
  refine t_rd rfl (rd_move rfl) ?_
  obtain ⟨r1, h2, q3⟩ := ob h; clear h
  refine t_ef rfl (ef_call tf28 rfl (g_slices_stableCmpFunc_int_ok h2 (hm0.get (k := 0) rfl) ((hn1.to_callT (k := 0) hm0 rfl).sl))) ?_
  rintro _ w5 ⟨e_, hm4⟩
  obtain rfl := e_.symm
  have hm6 := hm0.callT (k := 0) rfl (fun _ h => h) hm4 (fun _ => Iff.rfl)
  refine rwt_nil ?_
  obtain rfl := os q3
  refine retn ?_
  exact ret0 rfl ⟨rfl, (hm6.pick [0] (by decide) rfl)⟩

theorem setout_Best_ok {N : Nat} {a0 : List Int} {res : List Int × Int} (h : setout_Best N a0 = some res) {w : World} {v0 : Value} (hv0 : Sl (Old w No) w v0 a0) :
    CallsR Try.prog 14 [v0] w (fun u w' => ∃ (y0 : Value), u = (Value.tuple #[y0, (Value.int .i64 res.2)]) ∧ Mem w No [ownL 3 y0 (res.1 : List Int)] w') := by
  unfold setout_Best at h
  refine fn_ok Try.func14 rfl rfl rfl ?_
  have hm0 := Mem.nil w
  refine cw_seq ?_
  refine cw_region ?_
  refine t_ef rfl (ef_box hm0 rfl rfl) ?_
  rintro _ w3 ⟨g1, rfl, hm2⟩
  have cb4 : v0.cells.toList = [v0] := by obtain ⟨_, _, e⟩ := ((hv0.of_old hm0)).val; rw [e]; rfl
  simp only [cb4] at hm2
  refine t_rd rfl (rd_assign rfl) ?_
  refine t_rd rfl (rd_assign rfl) ?_
  refine rwt_nil ?_
  refine qn_then ?_
  refine cw_seq ?_
  refine cw_seq ?_
  refine cw_region ?_
  refine t_rd rfl (rd_ld1 tO22 rfl (hm2.blk 0 rfl) (off := 0) rfl) ?_
  obtain ⟨r5, h6, q7⟩ := ob h; clear h
  refine t_ef rfl (ef_call tf16 rfl (setout_check_ok h6 (hv0.to_call hm2))) ?_
  rintro _ w9 ⟨e_, hm8⟩
  obtain rfl := e_.symm
  have hm10 := hm2.call hm8
  refine t_rd rfl (rd_assign rfl) ?_
  refine rwt_nil ?_
  refine qn_then ?_
  refine cw_seq ?_
  refine cw_region ?_
  refine t_rd rfl (rd_move rfl) ?_
  refine t_rd rfl (rd_neq rfl rfl) ?_
  refine rwt_nil ?_
  refine qn_then ?_
  obtain ⟨hb11, q12⟩ | ⟨hb11, q12⟩ := oi q7 <;> clear q7
  · refine cw_t rfl hb11 ?_
    refine cw_seq ?_
    refine cw_region ?_
    refine t_rd rfl (rd_move rfl) ?_
    refine t_rd rfl (rd_assign rfl) ?_
    refine t_rd rfl (rd_assign rfl) ?_
    refine rwt_nil ?_
    refine qn_then ?_
    refine cw_ret ?_
    refine qr_then ?_
    obtain rfl := os q12
    have hm13 := hm10.addNil (α := Int) 3
    exact ret2 rfl rfl rfl ⟨(Value.slice none 0 0), rfl, (hm13.pick [0] (by decide) rfl)⟩
  · refine cw_f rfl hb11 ?_
    refine cw_skip ?_
    refine qn_then ?_
    refine cw_seq ?_
    refine cw_region ?_
    refine t_rd rfl (rd_assign rfl) ?_
    refine rwt_nil ?_
    refine qn_then ?_
    refine cw_seq ?_
    refine cw_seq ?_
    refine cw_region ?_
    refine t_rd rfl (rd_ld1 tO22 rfl (hm10.blk 0 rfl) (off := 0) rfl) ?_
    refine t_rd rfl (rd_lenS tS22 rfl (hv0.of_old hm10)) ?_
    refine t_rd rfl (rd_move rfl) ?_
    refine rwt_nil ?_
    refine qn_then ?_
    refine cw_block ?_
    have hm29 := hm10.addNil (α := Int) 3
    obtain ⟨r73, hit74, q75⟩ := ob q12; clear q12
    refine cw_loop2 (I := fun q envq wq => ∃ (v66 : Value), Sub [(1, (Value.pointer (some ⟨g1, 0, none⟩))), (5, v66), (13, (Value.int .i64 (List.length a0 : Int))), (14, (Value.int .i64 q.1))] envq ∧ Mem w No [ownL 3 v66 (q.2 : List Int), blk g1 22 [v0]] wq) (X := fun eq envq wq => eq = .exit 0 ∧ ∃ (v63 : Value), Sub [(1, (Value.pointer (some ⟨g1, 0, none⟩))), (5, v63)] envq ∧ Mem w No [ownL 3 v63 (r73 : List Int), blk g1 22 [v0]] wq) hit74 ⟨(Value.slice none 0 0), (by repeat (first | exact Sub.nil _ | refine Sub.cons rfl ?_)), (hm29.pick [0, 1] (by decide) rfl)⟩ ?_ ?_
    · rintro ⟨i64, l65⟩ x68 env69 w70 hf71 hr72 ⟨v66, hs_, hm_⟩
      have hs_ : Sub [(1, (Value.pointer (some ⟨g1, 0, none⟩))), (5, v66), (13, (Value.int .i64 (List.length a0 : Int))), (14, (Value.int .i64 i64))] env69 := hs_
      have hm76 : Mem w No [ownL 3 v66 (l65 : List Int), blk g1 22 [v0]] w70 := hm_
      refine cw_sub hs_ ?_
      clear hs_ hm_ q75
      have h : setout_Best_l1 N a0 i64 l65 = some x68 := hf71
      clear hf71
      refine cw_seq ?_
      refine cw_region ?_
      refine t_rd rfl (rd_lss rfl rfl) ?_
      refine rwt_nil ?_
      refine qn_then ?_
      refine cw_seq ?_
      obtain ⟨hb77, q78⟩ | ⟨hb77, q78⟩ := oi h <;> clear h
      · refine cw_t rfl hb77 ?_
        refine cw_skip ?_
        refine qn_then ?_
        refine cw_seq ?_
        refine cw_block ?_
        refine cw_seq ?_
        refine cw_region ?_
        refine t_rd rfl (rd_move rfl) ?_
        refine t_rd rfl (rd_assign rfl) ?_
        refine rwt_nil ?_
        refine qn_then ?_
        refine cw_region ?_
        refine t_rd rfl (rd_move rfl) ?_
        refine t_rd rfl (rd_move rfl) ?_
        refine t_ef rfl (ef_bslice (l := ([i64] : List Int)) hm76 tS22 rfl (cs := #[(Value.int .i64 i64)]) (by unfold bsl; kernel_rfl) rfl rfl) ?_
        intro v79 w81 hm80
        obtain ⟨l82, h83, q84⟩ := ob q78; clear q78
        refine t_ef rfl (ef_append (k := 1) hm80 tS22 tE3 rfl rfl rfl rfl (hm80.sl 0 rfl) h83) ?_
        intro v85 w87 hm86
        refine t_rd rfl (rd_assign rfl) ?_
        refine rwt_nil ?_
        refine qn_block (qn_then ?_)
        refine cw_region ?_
        obtain ⟨x88, h89, q90⟩ := ob q84; clear q84
        refine t_rd rfl (rd_add64 h89 rfl rfl) ?_
        refine t_rd rfl (rd_move rfl) ?_
        refine rwt_nil ?_
        refine qn_then ?_
        refine ⟨_, (os q90), v85, (by repeat (first | exact Sub.nil _ | refine Sub.cons rfl ?_)), (hm86.pick [1, 2] (by decide) rfl)⟩
      · refine cw_f rfl hb77 ?_
        refine cw_exit ?_
        refine qx_then (qx_then ?_)
        obtain rfl := hr72 _ (os q78)
        exact ⟨rfl, v66, (by repeat (first | exact Sub.nil _ | refine Sub.cons rfl ?_)), (hm76.pick [0, 1] (by decide) rfl)⟩
    · skip
      intro e env91 w92 hX93
      obtain ⟨rfl, v63, hs94, hm95⟩ := hX93
      refine qx_same (qn_then ?_)
      refine cw_sub hs94 ?_
      refine cw_seq ?_
      refine cw_region ?_
      refine t_rd rfl (rd_move rfl) ?_
      refine t_rd rfl (rd_makeFunc rfl) ?_
      obtain ⟨r96, h97, q98⟩ := ob q75; clear q75
      refine t_ef rfl (ef_call tf23 rfl (g_slices_SortStableFunc_int_int_ok (v1 := (Value.slice (some ⟨g1, 0, none⟩) 1 1)) h97 (hm95.get (k := 0) rfl) (hm95.box_callT 1 0 rfl rfl (by decide) (hv0.to_callT (k := 0) hm95 rfl)))) ?_
      rintro _ w100 ⟨e_, hm99⟩
      obtain rfl := e_.symm
      have hm101 := hm95.callT (k := 0) rfl (fun _ h => h) hm99 (fun _ => Iff.rfl)
      refine rwt_nil ?_
      refine qn_then ?_
      refine cw_seq ?_
      refine cw_region ?_
      refine t_rd rfl (rd_move rfl) ?_
      refine t_rd rfl (rd_assign rfl) ?_
      refine t_rd rfl (rd_assign rfl) ?_
      refine rwt_nil ?_
      refine qn_then ?_
      refine cw_ret ?_
      obtain rfl := os q98
      exact ret2 rfl rfl rfl ⟨v63, rfl, (hm101.pick [0] (by decide) rfl)⟩

theorem yardgen_SameSetOuts_ok {N : Nat} {a0 : List T_SetOut} {a1 : List T_SetOut} {res : Bool} (h : yardgen_SameSetOuts N a0 a1 = some res) {w : World} {v0 : Value} {v1 : Value} (hv0 : Sl (Old w No) w v0 a0) (hv1 : Sl (Old w No) w v1 a1) :
    CallsR Try.prog 18 [v0, v1] w (fun u w' => u = (Value.bool res) ∧ Mem w No [] w') := by
  unfold yardgen_SameSetOuts at h
  refine fn_ok Try.func18 rfl rfl rfl ?_
  have hm0 := Mem.nil w
  refine cw_seq ?_
  refine cw_region ?_
  refine t_rd rfl (rd_assign rfl) ?_
  refine rwt_nil ?_
  refine qn_then ?_
  refine cw_seq ?_
  refine cw_seq ?_
  refine cw_region ?_
  refine t_rd rfl (rd_move rfl) ?_
  refine t_rd rfl (rd_lenS tS26 rfl (hv0.of_old hm0)) ?_
  refine t_rd rfl (rd_move rfl) ?_
  refine t_rd rfl (rd_lenS tS26 rfl (hv1.of_old hm0)) ?_
  refine t_rd rfl (rd_neq rfl rfl) ?_
  refine rwt_nil ?_
  refine qn_then ?_
  obtain ⟨hb1, q2⟩ | ⟨hb1, q2⟩ := oi h <;> clear h
  · refine cw_t rfl hb1 ?_
    refine cw_seq ?_
    refine cw_region ?_
    refine t_rd rfl (rd_assign rfl) ?_
    refine rwt_nil ?_
    refine qn_then ?_
    refine cw_ret ?_
    refine qr_then ?_
    obtain rfl := os q2
    exact ret1 rfl rfl ⟨rfl, (hm0.pick [] (by decide) rfl)⟩
  · refine cw_f rfl hb1 ?_
    refine cw_skip ?_
    refine qn_then ?_
    refine cw_seq ?_
    refine cw_seq ?_
    refine cw_region ?_
    refine t_rd rfl (rd_assign rfl) ?_
    refine rwt_nil ?_
    refine qn_then ?_
    refine cw_block ?_
    obtain ⟨r45, hit46, q47⟩ := ob q2; clear q2
    refine cw_loop2 (I := fun q envq wq => Sub [(0, v0), (1, v1), (5, (Value.int .i64 q))] envq ∧ Mem w No [] wq) (X := fun eq envq wq => (∃ p48, r45 = (Sum.inl p48) ∧ eq = .ret ∧ retQ Try.prog 26 Try.f18 (fun u w' => u = (Value.bool p48) ∧ Mem w No [] w') .ret envq wq) ∨ (∃ p49, r45 = (Sum.inr p49) ∧ eq = .exit 0 ∧ Sub [] envq ∧ Mem w No [] wq)) hit46 ⟨(by repeat (first | exact Sub.nil _ | refine Sub.cons rfl ?_)), (hm0.pick [] (by decide) rfl)⟩ ?_ ?_
    · rintro i38 x40 env41 w42 hf43 hr44 ⟨hs_, hm_⟩
      have hs_ : Sub [(0, v0), (1, v1), (5, (Value.int .i64 i38))] env41 := hs_
      have hm50 : Mem w No [] w42 := hm_
      refine cw_sub hs_ ?_
      clear hs_ hm_ q47
      have h : yardgen_SameSetOuts_l1 N a0 a1 i38 = some x40 := hf43
      clear hf43
      refine cw_seq ?_
      refine cw_seq ?_
      refine cw_region ?_
      refine t_rd rfl (rd_move rfl) ?_
      refine t_rd rfl (rd_move rfl) ?_
      refine t_rd rfl (rd_lenS tS26 rfl (hv0.of_old hm50)) ?_
      refine t_rd rfl (rd_lss rfl rfl) ?_
      refine rwt_nil ?_
      refine qn_then ?_
      obtain ⟨hb51, q52⟩ | ⟨hb51, q52⟩ := oi h <;> clear h
      · refine cw_t rfl hb51 ?_
        refine cw_skip ?_
        refine qn_then ?_
        refine cw_seq ?_
        refine cw_block ?_
        refine cw_seq ?_
        obtain ⟨w54, he56⟩ : ∃ q, q = w42.drew := ⟨_, rfl⟩
        have hm55 := hm50.drew; rw [← he56] at hm55
        refine cw_region_s (fun q => q = w54) (cls [] []) mixed ?_
        rintro _ rfl; rw [← he56]
        refine s_rp (i := 0) rfl (by kernel_rfl) rfl (fun _ => (rd_move rfl)) ?_
        refine s_rp (i := 1) rfl (by kernel_rfl) rfl (fun _ => (rd_move rfl)) ?_
        obtain ⟨x57, h58, q59⟩ := ob q52; clear q52
        refine s_rp (i := 2) rfl (by kernel_rfl) rfl (fun _ => (rd_index tS26 rfl rfl (hv0.of_old hm55) h58)) ?_
        refine s_rd (i := 3) rfl (by kernel_rfl) rfl (fun _ hS => by rw [hS]; exact (rd_ld tA31 rfl ((hv0.of_old hm55).cells h58) rfl)) rfl ?_
        refine s_rp (i := 4) rfl (by kernel_rfl) rfl (fun _ => (rd_move rfl)) ?_
        refine s_rp (i := 5) rfl (by kernel_rfl) rfl (fun _ => (rd_move rfl)) ?_
        obtain ⟨x60, h61, q62⟩ := ob q59; clear q59
        refine s_rp (i := 6) rfl (by kernel_rfl) rfl (fun _ => (rd_index tS26 rfl rfl (hv1.of_old hm55) h61)) ?_
        refine s_rd (i := 7) rfl (by kernel_rfl) rfl (fun _ hS => by rw [hS]; exact (rd_ld tA31 rfl ((hv1.of_old hm55).cells h61) rfl)) rfl ?_
        refine s_rp (i := 8) rfl (by kernel_rfl) rfl (fun _ => (rd_neqs eqs31 (a := x57) (b := x60) rfl rfl)) ?_
        refine s_nil (by kernel_rfl) ?_
        refine qn_then ?_
        obtain ⟨hb63, q64⟩ | ⟨hb63, q64⟩ := oi q62 <;> clear q62
        · refine cw_t rfl hb63 ?_
          refine cw_seq ?_
          refine cw_region ?_
          refine t_rd rfl (rd_assign rfl) ?_
          refine rwt_nil ?_
          refine qn_then ?_
          refine cw_ret ?_
          refine qr_block (qr_then (qr_then ?_))
          obtain rfl := hr44 _ (os q64)
          refine .inl (⟨_, rfl, ⟨rfl, ?_⟩⟩)
          exact ret1 rfl rfl ⟨rfl, (hm55.pick [] (by decide) rfl)⟩
        · refine cw_f rfl hb63 ?_
          refine cw_skip ?_
          refine qn_block (qn_then ?_)
          refine cw_region ?_
          refine t_rd rfl (rd_move rfl) ?_
          obtain ⟨x65, h66, q67⟩ := ob q64; clear q64
          refine t_rd rfl (rd_add64 h66 rfl rfl) ?_
          refine t_rd rfl (rd_assign rfl) ?_
          refine rwt_nil ?_
          refine qn_then ?_
          refine ⟨_, (os q67), (by repeat (first | exact Sub.nil _ | refine Sub.cons rfl ?_)), (hm55.pick [] (by decide) rfl)⟩
      · refine cw_f rfl hb51 ?_
        refine cw_exit ?_
        refine qx_then (qx_then ?_)
        obtain rfl := hr44 _ (os q52)
        exact .inr (⟨_, rfl, ⟨rfl, (by repeat (first | exact Sub.nil _ | refine Sub.cons rfl ?_)), (hm50.pick [] (by decide) rfl)⟩⟩)
    · skip
      intro e env68 w69 hX70
      rcases hX70 with hX70 | hX70
      · obtain ⟨p72, rfl, hX70⟩ := hX70
        obtain ⟨rfl, hq74⟩ := hX70
        exact qr_block (qr_then ((by have e := os q47; subst e; exact hq74)))
      · obtain ⟨p75, rfl, hX70⟩ := hX70
        obtain ⟨rfl, hs76, hm77⟩ := hX70
        refine qx_same (qn_then ?_)
        refine cw_sub hs76 ?_
        refine cw_seq ?_
        refine cw_region ?_
        refine t_rd rfl (rd_assign rfl) ?_
        refine rwt_nil ?_
        refine qn_then ?_
        refine cw_ret ?_
        obtain rfl := os q47
        exact ret1 rfl rfl ⟨rfl, (hm77.pick [] (by decide) rfl)⟩

theorem humpgen_Ints_ok {N : Nat} {a0 : List Int} {a1 : List Int} {res : Bool} (h : humpgen_Ints N a0 a1 = some res) {w : World} {v0 : Value} {v1 : Value} (hv0 : Sl (Old w No) w v0 a0) (hv1 : Sl (Old w No) w v1 a1) :
    CallsR Try.prog 19 [v0, v1] w (fun u w' => u = (Value.bool res) ∧ Mem w No [] w') := by
  unfold humpgen_Ints at h
  refine fn_ok Try.func19 rfl rfl rfl ?_
  have hm0 := Mem.nil w
  refine cw_seq ?_
  refine cw_region ?_
  refine t_rd rfl (rd_assign rfl) ?_
  refine rwt_nil ?_
  refine qn_then ?_
  refine cw_seq ?_
  refine cw_seq ?_
  refine cw_region ?_
  refine t_rd rfl (rd_move rfl) ?_
  refine t_rd rfl (rd_lenS tS22 rfl (hv0.of_old hm0)) ?_
  refine t_rd rfl (rd_move rfl) ?_
  refine t_rd rfl (rd_lenS tS22 rfl (hv1.of_old hm0)) ?_
  refine t_rd rfl (rd_neq rfl rfl) ?_
  refine rwt_nil ?_
  refine qn_then ?_
  obtain ⟨hb1, q2⟩ | ⟨hb1, q2⟩ := oi h <;> clear h
  · refine cw_t rfl hb1 ?_
    refine cw_seq ?_
    refine cw_region ?_
    refine t_rd rfl (rd_assign rfl) ?_
    refine rwt_nil ?_
    refine qn_then ?_
    refine cw_ret ?_
    refine qr_then ?_
    obtain rfl := os q2
    exact ret1 rfl rfl ⟨rfl, (hm0.pick [] (by decide) rfl)⟩
  · refine cw_f rfl hb1 ?_
    refine cw_skip ?_
    refine qn_then ?_
    refine cw_seq ?_
    refine cw_seq ?_
    refine cw_region ?_
    refine t_rd rfl (rd_assign rfl) ?_
    refine rwt_nil ?_
    refine qn_then ?_
    refine cw_block ?_
    obtain ⟨r45, hit46, q47⟩ := ob q2; clear q2
    refine cw_loop2 (I := fun q envq wq => Sub [(0, v0), (1, v1), (5, (Value.int .i64 q))] envq ∧ Mem w No [] wq) (X := fun eq envq wq => (∃ p48, r45 = (Sum.inl p48) ∧ eq = .ret ∧ retQ Try.prog 26 Try.f19 (fun u w' => u = (Value.bool p48) ∧ Mem w No [] w') .ret envq wq) ∨ (∃ p49, r45 = (Sum.inr p49) ∧ eq = .exit 0 ∧ Sub [] envq ∧ Mem w No [] wq)) hit46 ⟨(by repeat (first | exact Sub.nil _ | refine Sub.cons rfl ?_)), (hm0.pick [] (by decide) rfl)⟩ ?_ ?_
    · rintro i38 x40 env41 w42 hf43 hr44 ⟨hs_, hm_⟩
      have hs_ : Sub [(0, v0), (1, v1), (5, (Value.int .i64 i38))] env41 := hs_
      have hm50 : Mem w No [] w42 := hm_
      refine cw_sub hs_ ?_
      clear hs_ hm_ q47
      have h : humpgen_Ints_l1 N a0 a1 i38 = some x40 := hf43
      clear hf43
      refine cw_seq ?_
      refine cw_seq ?_
      refine cw_region ?_
      refine t_rd rfl (rd_move rfl) ?_
      refine t_rd rfl (rd_move rfl) ?_
      refine t_rd rfl (rd_lenS tS22 rfl (hv0.of_old hm50)) ?_
      refine t_rd rfl (rd_lss rfl rfl) ?_
      refine rwt_nil ?_
      refine qn_then ?_
      obtain ⟨hb51, q52⟩ | ⟨hb51, q52⟩ := oi h <;> clear h
      · refine cw_t rfl hb51 ?_
        refine cw_skip ?_
        refine qn_then ?_
        refine cw_seq ?_
        refine cw_block ?_
        refine cw_seq ?_
        obtain ⟨w54, he56⟩ : ∃ q, q = w42.drew := ⟨_, rfl⟩
        have hm55 := hm50.drew; rw [← he56] at hm55
        refine cw_region_s (fun q => q = w54) (cls [] []) mixed ?_
        rintro _ rfl; rw [← he56]
        refine s_rp (i := 0) rfl (by kernel_rfl) rfl (fun _ => (rd_move rfl)) ?_
        refine s_rp (i := 1) rfl (by kernel_rfl) rfl (fun _ => (rd_move rfl)) ?_
        obtain ⟨x57, h58, q59⟩ := ob q52; clear q52
        refine s_rp (i := 2) rfl (by kernel_rfl) rfl (fun _ => (rd_index tS22 rfl rfl (hv0.of_old hm55) h58)) ?_
        refine s_rd (i := 3) rfl (by kernel_rfl) rfl (fun _ hS => by rw [hS]; exact (rd_ld1 tO3 rfl ((hv0.of_old hm55).cells h58) (off := 0) rfl)) rfl ?_
        refine s_rp (i := 4) rfl (by kernel_rfl) rfl (fun _ => (rd_move rfl)) ?_
        refine s_rp (i := 5) rfl (by kernel_rfl) rfl (fun _ => (rd_move rfl)) ?_
        obtain ⟨x60, h61, q62⟩ := ob q59; clear q59
        refine s_rp (i := 6) rfl (by kernel_rfl) rfl (fun _ => (rd_index tS22 rfl rfl (hv1.of_old hm55) h61)) ?_
        refine s_rd (i := 7) rfl (by kernel_rfl) rfl (fun _ hS => by rw [hS]; exact (rd_ld1 tO3 rfl ((hv1.of_old hm55).cells h61) (off := 0) rfl)) rfl ?_
        refine s_rp (i := 8) rfl (by kernel_rfl) rfl (fun _ => (rd_neq rfl rfl)) ?_
        refine s_nil (by kernel_rfl) ?_
        refine qn_then ?_
        obtain ⟨hb63, q64⟩ | ⟨hb63, q64⟩ := oi q62 <;> clear q62
        · refine cw_t rfl hb63 ?_
          refine cw_seq ?_
          refine cw_region ?_
          refine t_rd rfl (rd_assign rfl) ?_
          refine rwt_nil ?_
          refine qn_then ?_
          refine cw_ret ?_
          refine qr_block (qr_then (qr_then ?_))
          obtain rfl := hr44 _ (os q64)
          refine .inl (⟨_, rfl, ⟨rfl, ?_⟩⟩)
          exact ret1 rfl rfl ⟨rfl, (hm55.pick [] (by decide) rfl)⟩
        · refine cw_f rfl hb63 ?_
          refine cw_skip ?_
          refine qn_block (qn_then ?_)
          refine cw_region ?_
          refine t_rd rfl (rd_move rfl) ?_
          obtain ⟨x65, h66, q67⟩ := ob q64; clear q64
          refine t_rd rfl (rd_add64 h66 rfl rfl) ?_
          refine t_rd rfl (rd_assign rfl) ?_
          refine rwt_nil ?_
          refine qn_then ?_
          refine ⟨_, (os q67), (by repeat (first | exact Sub.nil _ | refine Sub.cons rfl ?_)), (hm55.pick [] (by decide) rfl)⟩
      · refine cw_f rfl hb51 ?_
        refine cw_exit ?_
        refine qx_then (qx_then ?_)
        obtain rfl := hr44 _ (os q52)
        exact .inr (⟨_, rfl, ⟨rfl, (by repeat (first | exact Sub.nil _ | refine Sub.cons rfl ?_)), (hm50.pick [] (by decide) rfl)⟩⟩)
    · skip
      intro e env68 w69 hX70
      rcases hX70 with hX70 | hX70
      · obtain ⟨p72, rfl, hX70⟩ := hX70
        obtain ⟨rfl, hq74⟩ := hX70
        exact qr_block (qr_then ((by have e := os q47; subst e; exact hq74)))
      · obtain ⟨p75, rfl, hX70⟩ := hX70
        obtain ⟨rfl, hs76, hm77⟩ := hX70
        refine qx_same (qn_then ?_)
        refine cw_sub hs76 ?_
        refine cw_seq ?_
        refine cw_region ?_
        refine t_rd rfl (rd_assign rfl) ?_
        refine rwt_nil ?_
        refine qn_then ?_
        refine cw_ret ?_
        obtain rfl := os q47
        exact ret1 rfl rfl ⟨rfl, (hm77.pick [] (by decide) rfl)⟩

theorem law34_sane_ok {N : Nat} {res : Bool} (h : law34_sane N = some res) {w : World}   :
    CallsR Try.prog 10 [] w (fun u w' => u = (Value.bool res) ∧ Mem w No [] w') := by
  unfold law34_sane at h
  refine fn_ok Try.func10 rfl rfl rfl ?_
  have hm0 := Mem.nil w
  refine cw_seq ?_
  refine cw_region ?_
  refine t_rd rfl (rd_assign rfl) ?_
  refine rwt_nil ?_
  refine qn_then ?_
  refine cw_seq ?_
  refine cw_region ?_
  refine t_ef rfl (ef_bslice (l := ([1, 0, 1, 0] : List Int)) hm0 tS22 rfl (cs := #[(Value.int .i64 1), (Value.int .i64 0), (Value.int .i64 1), (Value.int .i64 0)]) (by unfold bsl; kernel_rfl) rfl rfl) ?_
  intro v1 w3 hm2
  obtain ⟨r4, h5, q6⟩ := ob h; clear h
  refine t_ef rfl (ef_call tf9 rfl (setout_Plan_ok h5 (hm2.sl_call 0 rfl))) ?_
  rintro _ w9 ⟨v7, e_, hm8⟩
  obtain rfl := e_.symm
  have hm10 := hm2.call hm8
  refine t_rd rfl (rd_move rfl) ?_
  refine t_rd rfl (rd_extract rfl rfl) ?_
  refine t_rd rfl (rd_extract rfl rfl) ?_
  refine t_rd rfl (rd_assign rfl) ?_
  refine t_rd rfl (rd_assign rfl) ?_
  refine rwt_nil ?_
  refine qn_then ?_
  refine cw_seq ?_
  refine cw_region ?_
  refine t_ef rfl (ef_bslice (l := ([1, 0, 1, 0] : List Int)) hm10 tS22 rfl (cs := #[(Value.int .i64 1), (Value.int .i64 0), (Value.int .i64 1), (Value.int .i64 0)]) (by unfold bsl; kernel_rfl) rfl rfl) ?_
  intro v11 w13 hm12
  obtain ⟨r14, h15, q16⟩ := ob q6; clear q6
  refine t_ef rfl (ef_call tf14 rfl (setout_Best_ok h15 (hm12.sl_call 0 rfl))) ?_
  rintro _ w19 ⟨v17, e_, hm18⟩
  obtain rfl := e_.symm
  have hm20 := hm12.call hm18
  refine t_rd rfl (rd_move rfl) ?_
  refine t_rd rfl (rd_extract rfl rfl) ?_
  refine t_rd rfl (rd_extract rfl rfl) ?_
  refine t_rd rfl (rd_assign rfl) ?_
  refine t_rd rfl (rd_assign rfl) ?_
  refine rwt_nil ?_
  refine qn_then ?_
  refine cw_seq ?_
  refine cw_region ?_
  refine t_rd rfl (rd_move rfl) ?_
  refine t_rd rfl (rd_eql rfl rfl) ?_
  refine t_rd rfl (rd_move rfl) ?_
  refine t_rdg rfl rfl rfl rfl (gv_t _) (fun hg21 => (rd_move rfl)) ?_
  refine t_rdg rfl rfl rfl rfl (gv_t _) (fun hg22 => (rd_build (cs := #[(Value.int .i64 0), (Value.int .i64 2), (Value.int .i64 2)]) rfl (by kernel_rfl))) ?_
  refine t_rdg rfl rfl rfl rfl (gv_t _) (fun hg23 => (rd_build (cs := #[(Value.int .i64 1), (Value.int .i64 2), (Value.int .i64 1)]) rfl (by kernel_rfl))) ?_
  obtain ⟨hb25, q26⟩ | ⟨hb25, q26⟩ := oi q16 <;> clear q16
  · skip
    refine t_efg rfl rfl rfl rfl (gv_t _) (fun _ => (ef_bslice (l := ([(T_SetOut.mk 0 2 2), (T_SetOut.mk 1 2 1)] : List T_SetOut)) hm20 tS26 (epc (gvx rfl hb25) (epc (gvx rfl hb25) epn)) (cs := #[(Value.int .i64 0), (Value.int .i64 2), (Value.int .i64 2), (Value.int .i64 1), (Value.int .i64 2), (Value.int .i64 1)]) (by unfold bsl; kernel_rfl) rfl rfl)) (fun q => bcontra q hb25) ?_
    intro v28 w30 hm29
    obtain ⟨r32, h33, q34⟩ := ob q26; clear q26
    refine t_efg rfl rfl rfl rfl (gv_t _) (fun _ => (ef_call tf18 (evc (gvx rfl hb25) (evc rfl evn)) (yardgen_SameSetOuts_ok h33 (hm29.sl_call 3 rfl) (hm29.sl_call 0 rfl)))) (fun q => bcontra q hb25) ?_
    rintro _ w36 ⟨e_, hm35⟩
    obtain rfl := e_.symm
    have hm37 := hm29.call hm35
    refine t_rd rfl (rd_and rfl (fun hc38 => rfl)) ?_
    refine t_rd rfl (rd_move rfl) ?_
    refine t_rdg rfl rfl rfl rfl (gv_t _) (fun hg39 => (rd_move rfl)) ?_
    refine t_rdg rfl rfl rfl rfl (gv_t _) (fun hg40 => (rd_eql (gvx rfl hg40) rfl)) ?_
    refine t_rd rfl (rd_and rfl (fun hc41 => (gvx rfl hc41))) ?_
    refine t_rd rfl (rd_move rfl) ?_
    refine t_rdg rfl rfl rfl rfl (gv_t _) (fun hg42 => (rd_move rfl)) ?_
    obtain ⟨hb44, q45⟩ | ⟨hb44, q45⟩ := oi q34 <;> clear q34
    · skip
      refine t_efg rfl rfl rfl rfl (gv_t _) (fun _ => (ef_bslice (l := ([0, 2, 1, 3] : List Int)) hm37 tS22 rfl (cs := #[(Value.int .i64 0), (Value.int .i64 2), (Value.int .i64 1), (Value.int .i64 3)]) (by unfold bsl; kernel_rfl) rfl rfl)) (fun q => bcontra q hb44) ?_
      intro v47 w49 hm48
      obtain ⟨r51, h52, q53⟩ := ob q45; clear q45
      refine t_efg rfl rfl rfl rfl (gv_t _) (fun _ => (ef_call tf19 (evc (gvx rfl hb44) (evc rfl evn)) (humpgen_Ints_ok h52 (hm48.sl_call 2 rfl) (hm48.sl_call 0 rfl)))) (fun q => bcontra q hb44) ?_
      rintro _ w55 ⟨e_, hm54⟩
      obtain rfl := e_.symm
      have hm56 := hm48.call hm54
      refine t_rd rfl (rd_and rfl (fun hc57 => rfl)) ?_
      refine t_rd rfl (rd_assign rfl) ?_
      refine rwt_nil ?_
      refine qn_then ?_
      refine cw_ret ?_
      obtain rfl := os q53
      exact ret1 rfl rfl ⟨rfl, (hm56.pick [] (by decide) rfl)⟩
    · skip
      refine t_efg rfl rfl rfl rfl (R := fun v w' => v = undef ∧ w' = w36) (gv_t _) (fun hg58 => bcontra hb44 hg58) (fun _ => ⟨rfl, rfl⟩) ?_
      rintro v_ w_ ⟨e1_, e2_⟩; rw [e1_, e2_]; clear e1_ e2_ v_ w_
      refine t_efg rfl rfl rfl rfl (R := fun v w' => v = undef ∧ w' = w36) (gv_t _) (fun hg59 => bcontra hb44 hg59) (fun _ => ⟨rfl, rfl⟩) ?_
      rintro v_ w_ ⟨e1_, e2_⟩; rw [e1_, e2_]; clear e1_ e2_ v_ w_
      refine t_rd rfl (rd_and (b := false) rfl (fun hc60 => bcontra hb44 hc60)) ?_
      refine t_rd rfl (rd_assign rfl) ?_
      refine rwt_nil ?_
      refine qn_then ?_
      refine cw_ret ?_
      obtain rfl := os q45
      exact ret1 rfl rfl ⟨rfl, (hm37.pick [] (by decide) rfl)⟩
  · skip
    refine t_efg rfl rfl rfl rfl (R := fun v w' => v = undef ∧ w' = w19) (gv_t _) (fun hg61 => bcontra hb25 hg61) (fun _ => ⟨rfl, rfl⟩) ?_
    rintro v_ w_ ⟨e1_, e2_⟩; rw [e1_, e2_]; clear e1_ e2_ v_ w_
    refine t_efg rfl rfl rfl rfl (R := fun v w' => v = undef ∧ w' = w19) (gv_t _) (fun hg62 => bcontra hb25 hg62) (fun _ => ⟨rfl, rfl⟩) ?_
    rintro v_ w_ ⟨e1_, e2_⟩; rw [e1_, e2_]; clear e1_ e2_ v_ w_
    refine t_rd rfl (rd_and (b := false) rfl (fun hc63 => bcontra hb25 hc63)) ?_
    refine t_rd rfl (rd_move rfl) ?_
    refine t_rdg rfl rfl rfl rfl (gv_t _) (v := undef) (fun hg64 => (bcontra (bandF hb25) hg64)) ?_
    refine t_rdg rfl rfl rfl rfl (gv_t _) (v := undef) (fun hg65 => (bcontra (bandF hb25) hg65)) ?_
    refine t_rd rfl (rd_and (b := false) rfl (fun hc66 => bcontra (bandF hb25) hc66)) ?_
    refine t_rd rfl (rd_move rfl) ?_
    refine t_rdg rfl rfl rfl rfl (gv_t _) (v := undef) (fun hg67 => (bcontra (bandF (bandF hb25)) hg67)) ?_
    refine t_efg rfl rfl rfl rfl (R := fun v w' => v = undef ∧ w' = w19) (gv_t _) (fun hg68 => bcontra (bandF (bandF hb25)) hg68) (fun _ => ⟨rfl, rfl⟩) ?_
    rintro v_ w_ ⟨e1_, e2_⟩; rw [e1_, e2_]; clear e1_ e2_ v_ w_
    refine t_efg rfl rfl rfl rfl (R := fun v w' => v = undef ∧ w' = w19) (gv_t _) (fun hg69 => bcontra (bandF (bandF hb25)) hg69) (fun _ => ⟨rfl, rfl⟩) ?_
    rintro v_ w_ ⟨e1_, e2_⟩; rw [e1_, e2_]; clear e1_ e2_ v_ w_
    refine t_rd rfl (rd_and (b := false) rfl (fun hc70 => bcontra (bandF (bandF hb25)) hc70)) ?_
    refine t_rd rfl (rd_assign rfl) ?_
    refine rwt_nil ?_
    refine qn_then ?_
    refine cw_ret ?_
    obtain rfl := os q26
    exact ret1 rfl rfl ⟨rfl, (hm20.pick [] (by decide) rfl)⟩

theorem law34_SetoutTails_ok {N : Nat} {a0 : List Int} {res : Bool} (h : law34_SetoutTails N a0 = some res) {w : World} {v0 : Value} (hv0 : Sl (Old w No) w v0 a0) :
    CallsR Try.prog 3 [v0] w (fun u w' => u = (Value.bool res) ∧ Mem w No [] w') := by
  unfold law34_SetoutTails at h
  refine fn_ok Try.func3 rfl rfl rfl ?_
  have hm0 := Mem.nil w
  refine cw_seq ?_
  refine cw_region ?_
  refine t_rd rfl (rd_assign rfl) ?_
  refine rwt_nil ?_
  refine qn_then ?_
  refine cw_seq ?_
  refine cw_region ?_
  refine t_rd rfl (rd_move rfl) ?_
  obtain ⟨r1, h2, q3⟩ := ob h; clear h
  refine t_ef rfl (ef_call tf7 rfl (humpgen_New_ok h2 (hv0.to_call hm0))) ?_
  rintro _ w6 ⟨g4, e_, hm5⟩
  obtain rfl := e_.symm
  have hm7 := hm0.call hm5
  refine t_rd rfl (rd_assign rfl) ?_
  refine rwt_nil ?_
  refine qn_then ?_
  refine cw_seq ?_
  refine cw_region ?_
  refine t_rd rfl (rd_move rfl) ?_
  obtain ⟨r8, h9, q10⟩ := ob q3; clear q3
  refine t_ef rfl (ef_call tf8 rfl (law34_train_ok h9 (hv0.to_callT (k := 0) hm7 rfl) (hm7.get (k := 0) rfl))) ?_
  rintro _ w13 ⟨v11, e_, hm12⟩
  obtain rfl := e_.symm
  have hm14 := hm7.callT (k := 0) rfl (fun _ h => h) hm12 (fun _ => Iff.rfl)
  refine t_rd rfl (rd_assign rfl) ?_
  refine rwt_nil ?_
  refine qn_then ?_
  refine cw_seq ?_
  refine cw_region ?_
  refine t_rd rfl (rd_move rfl) ?_
  obtain ⟨r15, h16, q17⟩ := ob q10; clear q10
  refine t_ef rfl (ef_call tf9 rfl (setout_Plan_ok h16 (hm14.sl_call 0 rfl))) ?_
  rintro _ w20 ⟨v18, e_, hm19⟩
  obtain rfl := e_.symm
  have hm21 := hm14.call hm19
  refine t_rd rfl (rd_move rfl) ?_
  refine t_rd rfl (rd_extract rfl rfl) ?_
  refine t_rd rfl (rd_extract rfl rfl) ?_
  refine t_rd rfl (rd_assign rfl) ?_
  refine t_rd rfl (rd_assign rfl) ?_
  refine rwt_nil ?_
  refine qn_then ?_
  refine cw_seq ?_
  refine cw_seq ?_
  refine cw_region ?_
  refine t_rd rfl (rd_move rfl) ?_
  refine t_rd rfl (rd_neq rfl rfl) ?_
  refine rwt_nil ?_
  refine qn_then ?_
  obtain ⟨hb22, q23⟩ | ⟨hb22, q23⟩ := oi q17 <;> clear q17
  · refine cw_t rfl hb22 ?_
    refine cw_seq ?_
    refine cw_region ?_
    refine t_rd rfl (rd_assign rfl) ?_
    refine rwt_nil ?_
    refine qn_then ?_
    refine cw_ret ?_
    refine qr_then ?_
    obtain rfl := os q23
    exact ret1 rfl rfl ⟨rfl, (hm21.pick [] (by decide) rfl)⟩
  · refine cw_f rfl hb22 ?_
    refine cw_skip ?_
    refine qn_then ?_
    refine cw_seq ?_
    refine cw_seq ?_
    refine cw_region ?_
    refine t_rd rfl (rd_assign rfl) ?_
    refine rwt_nil ?_
    refine qn_then ?_
    refine cw_block ?_
    obtain ⟨r444, hit445, q446⟩ := ob q23; clear q23
    refine cw_loop2 (I := fun q envq wq => Sub [(4, v11), (5, v18), (7, (Value.int .i64 q))] envq ∧ Mem w No [ownL 31 v18 (r15.1 : List T_SetOut), ownL 3 v11 (r8.2 : List Int)] wq) (X := fun eq envq wq => (∃ p447, r444 = (Sum.inl p447) ∧ eq = .ret ∧ retQ Try.prog 79 Try.f3 (fun u w' => u = (Value.bool p447) ∧ Mem w No [] w') .ret envq wq) ∨ (∃ p448, r444 = (Sum.inr p448) ∧ eq = .exit 0 ∧ Sub [] envq ∧ Mem w No [] wq)) hit445 ⟨(by repeat (first | exact Sub.nil _ | refine Sub.cons rfl ?_)), (hm21.pick [0, 1] (by decide) rfl)⟩ ?_ ?_
    · rintro i437 x439 env440 w441 hf442 hr443 ⟨hs_, hm_⟩
      have hs_ : Sub [(4, v11), (5, v18), (7, (Value.int .i64 i437))] env440 := hs_
      have hm449 : Mem w No [ownL 31 v18 (r15.1 : List T_SetOut), ownL 3 v11 (r8.2 : List Int)] w441 := hm_
      refine cw_sub hs_ ?_
      clear hs_ hm_ q446
      have h : law34_SetoutTails_l5 N r8 r15 i437 = some x439 := hf442
      clear hf442
      refine cw_seq ?_
      refine cw_seq ?_
      refine cw_region ?_
      refine t_rd rfl (rd_move rfl) ?_
      refine t_rd rfl (rd_move rfl) ?_
      refine t_rd rfl (rd_lenS tS26 rfl (hm449.sl 0 rfl)) ?_
      refine t_rd rfl (rd_lss rfl rfl) ?_
      refine rwt_nil ?_
      refine qn_then ?_
      obtain ⟨hb450, q451⟩ | ⟨hb450, q451⟩ := oi h <;> clear h
      · refine cw_t rfl hb450 ?_
        refine cw_skip ?_
        refine qn_then ?_
        refine cw_seq ?_
        refine cw_block ?_
        refine cw_seq ?_
        refine cw_region ?_
        refine t_rd rfl (rd_assign rfl) ?_
        refine t_rd rfl (rd_assign rfl) ?_
        refine t_rd rfl (rd_assign rfl) ?_
        refine rwt_nil ?_
        refine qn_then ?_
        refine cw_seq ?_
        refine cw_seq ?_
        refine cw_region ?_
        refine t_rd rfl (rd_assign rfl) ?_
        refine rwt_nil ?_
        refine qn_then ?_
        refine cw_block ?_
        obtain ⟨r516, hit517, q518⟩ := ob q451; clear q451
        refine cw_loop2 (I := fun q envq wq => Sub [(4, v11), (5, v18), (7, (Value.int .i64 i437)), (8, (Value.int .i64 q.1)), (9, (Value.int .i64 q.2.1)), (10, (Value.bool false)), (11, (Value.int .i64 q.2.2))] envq ∧ Mem w No [ownL 31 v18 (r15.1 : List T_SetOut), ownL 3 v11 (r8.2 : List Int)] wq) (X := fun eq envq wq => eq = .exit 2 ∧ Sub [(4, v11), (5, v18), (7, (Value.int .i64 i437)), (8, (Value.int .i64 r516.1)), (9, (Value.int .i64 r516.2)), (10, (Value.bool false))] envq ∧ Mem w No [ownL 31 v18 (r15.1 : List T_SetOut), ownL 3 v11 (r8.2 : List Int)] wq) hit517 ⟨(by repeat (first | exact Sub.nil _ | refine Sub.cons rfl ?_)), (hm449.pick [0, 1] (by decide) rfl)⟩ ?_ ?_
        · rintro ⟨i507, i508, i509⟩ x511 env512 w513 hf514 hr515 ⟨hs_, hm_⟩
          have hs_ : Sub [(4, v11), (5, v18), (7, (Value.int .i64 i437)), (8, (Value.int .i64 i507)), (9, (Value.int .i64 i508)), (10, (Value.bool false)), (11, (Value.int .i64 i509))] env512 := hs_
          have hm519 : Mem w No [ownL 31 v18 (r15.1 : List T_SetOut), ownL 3 v11 (r8.2 : List Int)] w513 := hm_
          refine cw_sub hs_ ?_
          clear hs_ hm_ q518
          have h : law34_SetoutTails_l6 N r8 r15 i437 i507 i508 i509 = some x511 := hf514
          clear hf514
          refine cw_seq ?_
          refine cw_seq ?_
          refine cw_region ?_
          refine t_rd rfl (rd_move rfl) ?_
          refine t_rd rfl (rd_move rfl) ?_
          refine t_rd rfl (rd_lenS tS22 rfl (hm519.sl 1 rfl)) ?_
          refine t_rd rfl (rd_lss rfl rfl) ?_
          refine rwt_nil ?_
          refine qn_then ?_
          obtain ⟨hb520, q521⟩ | ⟨hb520, q521⟩ := oi h <;> clear h
          · refine cw_t rfl hb520 ?_
            refine cw_skip ?_
            refine qn_then ?_
            refine cw_seq ?_
            refine cw_block ?_
            refine cw_seq ?_
            obtain ⟨w523, he525⟩ : ∃ q, q = w513.drew := ⟨_, rfl⟩
            have hm524 := hm519.drew; rw [← he525] at hm524
            refine cw_region_s (fun q => q = w523) (cls [] []) mixed ?_
            rintro _ rfl; rw [← he525]
            refine s_rp (i := 0) rfl (by kernel_rfl) rfl (fun _ => (rd_move rfl)) ?_
            refine s_rp (i := 1) rfl (by kernel_rfl) rfl (fun _ => (rd_move rfl)) ?_
            obtain ⟨x526, h527, q528⟩ := ob q521; clear q521
            refine s_rp (i := 2) rfl (by kernel_rfl) rfl (fun _ => (rd_index tS22 rfl rfl (hm524.sl 1 rfl) h527)) ?_
            refine s_rd (i := 3) rfl (by kernel_rfl) rfl (fun _ hS => by rw [hS]; exact (rd_ld1 tO3 rfl ((hm524.sl 1 rfl).cells h527) (off := 0) rfl)) rfl ?_
            refine s_rp (i := 4) rfl (by kernel_rfl) rfl (fun _ => (rd_move rfl)) ?_
            refine s_rp (i := 5) rfl (by kernel_rfl) rfl (fun _ => (rd_move rfl)) ?_
            obtain ⟨x529, h530, q531⟩ := ob q528; clear q528
            refine s_rp (i := 6) rfl (by kernel_rfl) rfl (fun _ => (rd_index tS26 rfl rfl (hm524.sl 0 rfl) h530)) ?_
            refine s_rp (i := 7) rfl (by kernel_rfl) rfl (fun _ => (rd_fld tF31_0 rfl)) ?_
            refine s_rd (i := 8) rfl (by kernel_rfl) rfl (fun _ hS => by rw [hS]; exact (rd_ld1 tO3 rfl ((hm524.sl 0 rfl).cells h530) (off := 0) rfl)) rfl ?_
            refine s_rp (i := 9) rfl (by kernel_rfl) rfl (fun _ => (rd_eql rfl rfl)) ?_
            refine s_nil (by kernel_rfl) ?_
            refine qn_then ?_
            obtain ⟨hb532, q533⟩ | ⟨hb532, q533⟩ := oi q531 <;> clear q531
            · refine cw_t rfl hb532 ?_
              refine cw_seq ?_
              refine cw_seq ?_
              refine cw_region ?_
              refine t_rd rfl (rd_move rfl) ?_
              refine t_rd rfl (rd_lss rfl rfl) ?_
              refine rwt_nil ?_
              refine qn_then ?_
              obtain ⟨hb534, q535⟩ | ⟨hb534, q535⟩ := oi q533 <;> clear q533
              · refine cw_t rfl hb534 ?_
                refine cw_region ?_
                refine t_rd rfl (rd_move rfl) ?_
                refine t_rd rfl (rd_assign rfl) ?_
                refine rwt_nil ?_
                refine qn_then ?_
                refine cw_region ?_
                refine t_rd rfl (rd_move rfl) ?_
                refine t_rd rfl (rd_assign rfl) ?_
                refine rwt_nil ?_
                refine qn_block (qn_then ?_)
                refine cw_region ?_
                refine t_rd rfl (rd_move rfl) ?_
                obtain ⟨x536, h537, q538⟩ := ob q535; clear q535
                refine t_rd rfl (rd_add64 h537 rfl rfl) ?_
                refine t_rd rfl (rd_assign rfl) ?_
                refine rwt_nil ?_
                refine qn_then ?_
                refine ⟨_, (os q538), (by repeat (first | exact Sub.nil _ | refine Sub.cons rfl ?_)), (hm524.pick [0, 1] (by decide) rfl)⟩
              · refine cw_f rfl hb534 ?_
                refine cw_skip ?_
                refine qn_then ?_
                refine cw_region ?_
                refine t_rd rfl (rd_move rfl) ?_
                refine t_rd rfl (rd_assign rfl) ?_
                refine rwt_nil ?_
                refine qn_block (qn_then ?_)
                refine cw_region ?_
                refine t_rd rfl (rd_move rfl) ?_
                obtain ⟨x539, h540, q541⟩ := ob q535; clear q535
                refine t_rd rfl (rd_add64 h540 rfl rfl) ?_
                refine t_rd rfl (rd_assign rfl) ?_
                refine rwt_nil ?_
                refine qn_then ?_
                refine ⟨_, (os q541), (by repeat (first | exact Sub.nil _ | refine Sub.cons rfl ?_)), (hm524.pick [0, 1] (by decide) rfl)⟩
            · refine cw_f rfl hb532 ?_
              refine cw_skip ?_
              refine qn_block (qn_then ?_)
              refine cw_region ?_
              refine t_rd rfl (rd_move rfl) ?_
              obtain ⟨x542, h543, q544⟩ := ob q533; clear q533
              refine t_rd rfl (rd_add64 h543 rfl rfl) ?_
              refine t_rd rfl (rd_assign rfl) ?_
              refine rwt_nil ?_
              refine qn_then ?_
              refine ⟨_, (os q544), (by repeat (first | exact Sub.nil _ | refine Sub.cons rfl ?_)), (hm524.pick [0, 1] (by decide) rfl)⟩
          · refine cw_f rfl hb520 ?_
            refine cw_exit ?_
            refine qx_then (qx_then ?_)
            obtain rfl := hr515 _ (os q521)
            exact ⟨rfl, (by repeat (first | exact Sub.nil _ | refine Sub.cons rfl ?_)), (hm519.pick [0, 1] (by decide) rfl)⟩
        · skip
          intro e env545 w546 hX547
          obtain ⟨rfl, hs548, hm549⟩ := hX547
          refine qx_same (qn_then ?_)
          refine cw_sub hs548 ?_
          refine cw_seq ?_
          refine cw_seq ?_
          refine cw_region ?_
          refine t_rd rfl (rd_move rfl) ?_
          refine t_rd rfl (rd_max rfl rfl) ?_
          refine t_rd rfl (rd_assign rfl) ?_
          refine rwt_nil ?_
          refine qn_then ?_
          refine cw_block ?_
          obtain ⟨r613, hit614, q615⟩ := ob q518; clear q518
          refine cw_loop2 (I := fun q envq wq => Sub [(4, v11), (5, v18), (7, (Value.int .i64 i437)), (9, (Value.int .i64 r516.2)), (10, (Value.bool q.1)), (12, (Value.int .i64 q.2))] envq ∧ Mem w No [ownL 31 v18 (r15.1 : List T_SetOut), ownL 3 v11 (r8.2 : List Int)] wq) (X := fun eq envq wq => eq = .exit 4 ∧ Sub [(4, v11), (5, v18), (7, (Value.int .i64 i437)), (10, (Value.bool r613))] envq ∧ Mem w No [ownL 31 v18 (r15.1 : List T_SetOut), ownL 3 v11 (r8.2 : List Int)] wq) hit614 ⟨(by repeat (first | exact Sub.nil _ | refine Sub.cons rfl ?_)), (hm549.pick [0, 1] (by decide) rfl)⟩ ?_ ?_
          · rintro ⟨b605, i606⟩ x608 env609 w610 hf611 hr612 ⟨hs_, hm_⟩
            have hs_ : Sub [(4, v11), (5, v18), (7, (Value.int .i64 i437)), (9, (Value.int .i64 r516.2)), (10, (Value.bool b605)), (12, (Value.int .i64 i606))] env609 := hs_
            have hm616 : Mem w No [ownL 31 v18 (r15.1 : List T_SetOut), ownL 3 v11 (r8.2 : List Int)] w610 := hm_
            refine cw_sub hs_ ?_
            clear hs_ hm_ q615
            have h : law34_SetoutTails_l7 N r8 r15 i437 r516 b605 i606 = some x608 := hf611
            clear hf611
            refine cw_seq ?_
            refine cw_seq ?_
            refine cw_region ?_
            refine t_rd rfl (rd_move rfl) ?_
            refine t_rd rfl (rd_move rfl) ?_
            refine t_rd rfl (rd_lss rfl rfl) ?_
            refine rwt_nil ?_
            refine qn_then ?_
            obtain ⟨hb617, q618⟩ | ⟨hb617, q618⟩ := oi h <;> clear h
            · refine cw_t rfl hb617 ?_
              refine cw_skip ?_
              refine qn_then ?_
              refine cw_seq ?_
              refine cw_block ?_
              obtain ⟨w620, he622⟩ : ∃ q, q = w610.drew := ⟨_, rfl⟩
              have hm621 := hm616.drew; rw [← he622] at hm621
              refine cw_region_s (fun q => q = w620) (cls [] []) mixed ?_
              rintro _ rfl; rw [← he622]
              refine s_rp (i := 0) rfl (by kernel_rfl) rfl (fun _ => (rd_move rfl)) ?_
              refine s_rp (i := 1) rfl (by kernel_rfl) rfl (fun _ => (rd_move rfl)) ?_
              refine s_rpg (i := 2) rfl (by kernel_rfl) rfl rfl rfl rfl (gv_f _) (fun hg623 _ => (rd_move rfl)) ?_
              refine s_rpg (i := 3) rfl (by kernel_rfl) rfl rfl rfl rfl (gv_f _) (fun hg624 _ => (rd_move rfl)) ?_
              obtain ⟨x626, h627, q628⟩ := ob q618; clear q618
              refine s_rpg (i := 4) rfl (by kernel_rfl) rfl rfl rfl rfl (gv_f _) (fun hg625 _ => (rd_index tS22 (gvx rfl hg625) (gvx rfl hg625) (hm621.sl 1 rfl) (gO_t h627 hg625))) ?_
              refine s_rdg (i := 5) rfl (by kernel_rfl) rfl rfl rfl rfl (gv_f _) (fun hg629 => (fun _ hS => by rw [hS]; exact (rd_ld1 tO3 (gvx rfl hg629) ((hm621.sl 1 rfl).cells (gO_t h627 hg629)) (off := 0) rfl))) rfl ?_
              refine s_rpg (i := 6) rfl (by kernel_rfl) rfl rfl rfl rfl (gv_f _) (fun hg630 _ => (rd_move rfl)) ?_
              refine s_rpg (i := 7) rfl (by kernel_rfl) rfl rfl rfl rfl (gv_f _) (fun hg631 _ => (rd_move rfl)) ?_
              obtain ⟨x633, h634, q635⟩ := ob q628; clear q628
              refine s_rpg (i := 8) rfl (by kernel_rfl) rfl rfl rfl rfl (gv_f _) (fun hg632 _ => (rd_index tS26 (gvx rfl hg632) (gvx rfl hg632) (hm621.sl 0 rfl) (gO_t h634 hg632))) ?_
              refine s_rpg (i := 9) rfl (by kernel_rfl) rfl rfl rfl rfl (gv_f _) (fun hg636 _ => (rd_fld tF31_0 (gvx rfl hg636))) ?_
              refine s_rdg (i := 10) rfl (by kernel_rfl) rfl rfl rfl rfl (gv_f _) (fun hg637 => (fun _ hS => by rw [hS]; exact (rd_ld1 tO3 (gvx rfl hg637) ((hm621.sl 0 rfl).cells (gO_t h634 hg637)) (off := 0) rfl))) rfl ?_
              refine s_rpg (i := 11) rfl (by kernel_rfl) rfl rfl rfl rfl (gv_f _) (fun hg638 _ => (rd_gtr (gvx rfl hg638) (gvx rfl hg638))) ?_
              refine s_rp (i := 12) rfl (by kernel_rfl) rfl (fun _ => (rd_or rfl (fun hc639 => (gvx rfl (bnotIt hc639))))) ?_
              refine s_rp (i := 13) rfl (by kernel_rfl) rfl (fun _ => (rd_assign rfl)) ?_
              refine s_nil (by kernel_rfl) ?_
              refine qn_block (qn_then ?_)
              refine cw_region ?_
              refine t_rd rfl (rd_move rfl) ?_
              obtain ⟨x640, h641, q642⟩ := ob q635; clear q635
              refine t_rd rfl (rd_add64 h641 rfl rfl) ?_
              refine t_rd rfl (rd_assign rfl) ?_
              refine rwt_nil ?_
              refine qn_then ?_
              refine ⟨_, (os q642), (by repeat (first | exact Sub.nil _ | refine Sub.cons rfl ?_)), (hm621.pick [0, 1] (by decide) rfl)⟩
            · refine cw_f rfl hb617 ?_
              refine cw_exit ?_
              refine qx_then (qx_then ?_)
              obtain rfl := hr612 _ (os q618)
              exact ⟨rfl, (by repeat (first | exact Sub.nil _ | refine Sub.cons rfl ?_)), (hm616.pick [0, 1] (by decide) rfl)⟩
          · skip
            intro e env643 w644 hX645
            obtain ⟨rfl, hs646, hm647⟩ := hX645
            refine qx_same (qn_then ?_)
            refine cw_sub hs646 ?_
            refine cw_seq ?_
            refine cw_region ?_
            refine t_rd rfl (rd_move rfl) ?_
            refine t_rd rfl (rd_move rfl) ?_
            obtain ⟨x648, h649, q650⟩ := ob q615; clear q615
            refine t_rd rfl (rd_index tS26 rfl rfl (hm647.sl 0 rfl) h649) ?_
            refine t_rd rfl (rd_fld tF31_2 rfl) ?_
            refine t_rd rfl (rd_ld1 tO3 rfl ((hm647.sl 0 rfl).cells h649) (off := 2) rfl) ?_
            refine t_rd rfl (rd_eql rfl rfl) ?_
            refine t_rd rfl (rd_move rfl) ?_
            refine t_rd rfl (rd_eqlb tB4 rfl rfl) ?_
            refine rwt_nil ?_
            refine qn_then ?_
            obtain ⟨hb651, q652⟩ | ⟨hb651, q652⟩ := oi q650 <;> clear q650
            · refine cw_t rfl hb651 ?_
              refine cw_seq ?_
              refine cw_region ?_
              refine t_rd rfl (rd_assign rfl) ?_
              refine rwt_nil ?_
              refine qn_then ?_
              refine cw_ret ?_
              refine qr_block (qr_then (qr_then ?_))
              obtain rfl := hr443 _ (os q652)
              refine .inl (⟨_, rfl, ⟨rfl, ?_⟩⟩)
              exact ret1 rfl rfl ⟨rfl, (hm647.pick [] (by decide) rfl)⟩
            · refine cw_f rfl hb651 ?_
              refine cw_skip ?_
              refine qn_block (qn_then ?_)
              refine cw_region ?_
              refine t_rd rfl (rd_move rfl) ?_
              obtain ⟨x653, h654, q655⟩ := ob q652; clear q652
              refine t_rd rfl (rd_add64 h654 rfl rfl) ?_
              refine t_rd rfl (rd_assign rfl) ?_
              refine rwt_nil ?_
              refine qn_then ?_
              refine ⟨_, (os q655), (by repeat (first | exact Sub.nil _ | refine Sub.cons rfl ?_)), (hm647.pick [0, 1] (by decide) rfl)⟩
      · refine cw_f rfl hb450 ?_
        refine cw_exit ?_
        refine qx_then (qx_then ?_)
        obtain rfl := hr443 _ (os q451)
        exact .inr (⟨_, rfl, ⟨rfl, (by repeat (first | exact Sub.nil _ | refine Sub.cons rfl ?_)), (hm449.pick [] (by decide) rfl)⟩⟩)
    · skip
      intro e env656 w657 hX658
      rcases hX658 with hX658 | hX658
      · obtain ⟨p660, rfl, hX658⟩ := hX658
        obtain ⟨rfl, hq662⟩ := hX658
        exact qr_block (qr_then ((by have e := os q446; subst e; exact hq662)))
      · obtain ⟨p663, rfl, hX658⟩ := hX658
        obtain ⟨rfl, hs664, hm665⟩ := hX658
        refine qx_same (qn_then ?_)
        refine cw_sub hs664 ?_
        refine cw_seq ?_
        refine cw_region ?_
        obtain ⟨r666, h667, q668⟩ := ob q446; clear q446
        refine t_ef rfl (ef_call tf10 rfl (law34_sane_ok h667)) ?_
        rintro _ w670 ⟨e_, hm669⟩
        obtain rfl := e_.symm
        have hm671 := hm665.call hm669
        refine t_rd rfl (rd_assign rfl) ?_
        refine rwt_nil ?_
        refine qn_then ?_
        refine cw_ret ?_
        obtain rfl := os q668
        exact ret1 rfl rfl ⟨rfl, (hm671.pick [] (by decide) rfl)⟩

theorem Maker_Pick_ok {N : Nat} {a0_l : List Int} {a0_n : Int} {a1 : List Int} {res : Int × Int} (h : Maker_Pick N a0_l a0_n a1 = some res) {w : World} {v0_l : Value} {g0 : Nat} {v1 : Value} (hv0_l : Sl (Old w (fun k => k = g0)) w v0_l a0_l) (hk0 : (blk g0 43 [v0_l, (Value.int .i64 a0_n)]).φ w) (hv1 : Sl (Old w (fun k => k = g0)) w v1 a1) :
    CallsR Try.prog 11 [(Value.pointer (some ⟨g0, 0, none⟩)), v1] w (fun u w' => u = (Value.int .i64 res.2) ∧ Mem w (fun k => k = g0) [blk g0 43 [v0_l, (Value.int .i64 res.1)]] w') := by
  unfold Maker_Pick at h
  refine fn_ok Try.func11 rfl rfl rfl ?_
  have hm0 := Mem.one hk0
  refine cw_seq ?_
  refine cw_region ?_
  refine t_rd rfl (rd_assign rfl) ?_
  refine rwt_nil ?_
  refine qn_then ?_
  refine cw_seq ?_
  refine cw_region ?_
  refine t_rd rfl (rd_move rfl) ?_
  refine t_rd rfl (rd_move rfl) ?_
  refine t_rd rfl (rd_move rfl) ?_
  refine t_rd rfl (rd_lenS tS22 rfl (hv1.of_old hm0)) ?_
  obtain ⟨r10, h11, q12⟩ := ob h; clear h
  refine t_ef rfl (ef_call tf15 rfl (Maker_Next_ok h11 (hv0_l.to_callT (k := 0) hm0 rfl) (hm0.get (k := 0) rfl))) ?_
  rintro _ w14 ⟨e_, hm13⟩
  obtain rfl := e_.symm
  have hm15 := hm0.callT (k := 0) rfl (fun _ h => h) hm13 (fun _ => Iff.rfl)
  obtain ⟨x16, h17, q18⟩ := ob q12; clear q12
  refine t_rd rfl (rd_index tS22 rfl rfl (hv1.of_old hm15) h17) ?_
  refine t_rd rfl (rd_ld1 tO3 rfl ((hv1.of_old hm15).cells h17) (off := 0) rfl) ?_
  refine t_rd rfl (rd_assign rfl) ?_
  refine rwt_nil ?_
  refine qn_then ?_
  refine cw_ret ?_
  obtain rfl := os q18
  exact ret1 rfl rfl ⟨rfl, (hm15.pick [0] (by decide) rfl)⟩

theorem r34_inside_ok {N : Nat} {a0 : List Int} {a1 : Int} {res : Bool} (h : r34_inside N a0 a1 = some res) {w : World} {v0 : Value} (hv0 : Sl (Old w No) w v0 a0) :
    CallsR Try.prog 25 [v0, (Value.int .i64 a1)] w (fun u w' => u = (Value.bool res) ∧ Mem w No [] w') := by
  unfold r34_inside at h
  refine fn_ok Try.func25 rfl rfl rfl ?_
  have hm0 := Mem.nil w
  refine cw_seq ?_
  refine cw_region ?_
  refine t_rd rfl (rd_assign rfl) ?_
  refine rwt_nil ?_
  refine qn_then ?_
  refine cw_seq ?_
  refine cw_seq ?_
  refine cw_region ?_
  refine t_rd rfl (rd_assign rfl) ?_
  refine rwt_nil ?_
  refine qn_then ?_
  refine cw_block ?_
  obtain ⟨r49, hit50, q51⟩ := ob h; clear h
  refine cw_loop2 (I := fun q envq wq => Sub [(0, v0), (1, (Value.int .i64 a1)), (5, (Value.int .i64 q))] envq ∧ Mem w No [] wq) (X := fun eq envq wq => (∃ p52, r49 = (Sum.inl p52) ∧ eq = .ret ∧ retQ Try.prog 25 Try.f25 (fun u w' => u = (Value.bool p52) ∧ Mem w No [] w') .ret envq wq) ∨ (∃ p53, r49 = (Sum.inr p53) ∧ eq = .exit 0 ∧ Sub [] envq ∧ Mem w No [] wq)) hit50 ⟨(by repeat (first | exact Sub.nil _ | refine Sub.cons rfl ?_)), (hm0.pick [] (by decide) rfl)⟩ ?_ ?_
  · rintro i42 x44 env45 w46 hf47 hr48 ⟨hs_, hm_⟩
    have hs_ : Sub [(0, v0), (1, (Value.int .i64 a1)), (5, (Value.int .i64 i42))] env45 := hs_
    have hm54 : Mem w No [] w46 := hm_
    refine cw_sub hs_ ?_
    clear hs_ hm_ q51
    have h : r34_inside_l1 N a0 a1 i42 = some x44 := hf47
    clear hf47
    refine cw_seq ?_
    refine cw_seq ?_
    refine cw_region ?_
    refine t_rd rfl (rd_move rfl) ?_
    refine t_rd rfl (rd_move rfl) ?_
    refine t_rd rfl (rd_lenS tS22 rfl (hv0.of_old hm54)) ?_
    refine t_rd rfl (rd_lss rfl rfl) ?_
    refine rwt_nil ?_
    refine qn_then ?_
    obtain ⟨hb55, q56⟩ | ⟨hb55, q56⟩ := oi h <;> clear h
    · refine cw_t rfl hb55 ?_
      refine cw_skip ?_
      refine qn_then ?_
      refine cw_seq ?_
      refine cw_block ?_
      refine cw_seq ?_
      refine cw_region ?_
      refine t_rd rfl (rd_move rfl) ?_
      refine t_rd rfl (rd_move rfl) ?_
      obtain ⟨x57, h58, q59⟩ := ob q56; clear q56
      refine t_rd rfl (rd_index tS22 rfl rfl (hv0.of_old hm54) h58) ?_
      refine t_rd rfl (rd_ld1 tO3 rfl ((hv0.of_old hm54).cells h58) (off := 0) rfl) ?_
      refine t_rd rfl (rd_lss rfl rfl) ?_
      refine t_rd rfl (rd_move rfl) ?_
      refine t_rdg rfl rfl rfl rfl (gv_f _) (fun hg60 => (rd_move rfl)) ?_
      refine t_rdg rfl rfl rfl rfl (gv_f _) (fun hg61 => (rd_move rfl)) ?_
      obtain ⟨x63, h64, q65⟩ := ob q59; clear q59
      refine t_rdg rfl rfl rfl rfl (gv_f _) (fun hg62 => (rd_index tS22 (gvx rfl hg62) (gvx rfl hg62) (hv0.of_old hm54) (gO_t h64 hg62))) ?_
      refine t_rdg rfl rfl rfl rfl (gv_f _) (fun hg66 => (rd_ld1 tO3 (gvx rfl hg66) ((hv0.of_old hm54).cells (gO_t h64 hg66)) (off := 0) rfl)) ?_
      refine t_rdg rfl rfl rfl rfl (gv_f _) (fun hg67 => (rd_move rfl)) ?_
      refine t_rdg rfl rfl rfl rfl (gv_f _) (fun hg68 => (rd_geq (gvx rfl hg68) (gvx rfl hg68))) ?_
      refine t_rd rfl (rd_or rfl (fun hc69 => (gvx rfl (bnotIt hc69)))) ?_
      refine rwt_nil ?_
      refine qn_then ?_
      obtain ⟨hb70, q71⟩ | ⟨hb70, q71⟩ := oi q65 <;> clear q65
      · refine cw_t rfl hb70 ?_
        refine cw_seq ?_
        refine cw_region ?_
        refine t_rd rfl (rd_assign rfl) ?_
        refine rwt_nil ?_
        refine qn_then ?_
        refine cw_ret ?_
        refine qr_block (qr_then (qr_then ?_))
        obtain rfl := hr48 _ (os q71)
        refine .inl (⟨_, rfl, ⟨rfl, ?_⟩⟩)
        exact ret1 rfl rfl ⟨rfl, (hm54.pick [] (by decide) rfl)⟩
      · refine cw_f rfl hb70 ?_
        refine cw_skip ?_
        refine qn_block (qn_then ?_)
        refine cw_region ?_
        refine t_rd rfl (rd_move rfl) ?_
        obtain ⟨x72, h73, q74⟩ := ob q71; clear q71
        refine t_rd rfl (rd_add64 h73 rfl rfl) ?_
        refine t_rd rfl (rd_assign rfl) ?_
        refine rwt_nil ?_
        refine qn_then ?_
        refine ⟨_, (os q74), (by repeat (first | exact Sub.nil _ | refine Sub.cons rfl ?_)), (hm54.pick [] (by decide) rfl)⟩
    · refine cw_f rfl hb55 ?_
      refine cw_exit ?_
      refine qx_then (qx_then ?_)
      obtain rfl := hr48 _ (os q56)
      exact .inr (⟨_, rfl, ⟨rfl, (by repeat (first | exact Sub.nil _ | refine Sub.cons rfl ?_)), (hm54.pick [] (by decide) rfl)⟩⟩)
  · skip
    intro e env75 w76 hX77
    rcases hX77 with hX77 | hX77
    · obtain ⟨p79, rfl, hX77⟩ := hX77
      obtain ⟨rfl, hq81⟩ := hX77
      exact qr_block (qr_then ((by have e := os q51; subst e; exact hq81)))
    · obtain ⟨p82, rfl, hX77⟩ := hX77
      obtain ⟨rfl, hs83, hm84⟩ := hX77
      refine qx_same (qn_then ?_)
      refine cw_sub hs83 ?_
      refine cw_seq ?_
      refine cw_region ?_
      refine t_rd rfl (rd_assign rfl) ?_
      refine rwt_nil ?_
      refine qn_then ?_
      refine cw_ret ?_
      obtain rfl := os q51
      exact ret1 rfl rfl ⟨rfl, (hm84.pick [] (by decide) rfl)⟩

theorem r34_At_ok {N : Nat} {a0 : List Int} {a1 : Int} {res : Int × Int} (h : r34_At N a0 a1 = some res) {w : World} {v0 : Value} (hv0 : Sl (Old w No) w v0 a0) :
    CallsR Try.prog 26 [v0, (Value.int .i64 a1)] w (fun u w' => u = (Value.tuple #[(Value.int .i64 res.1), (Value.int .i64 res.2)]) ∧ Mem w No [] w') := by
  unfold r34_At at h
  refine fn_ok Try.func26 rfl rfl rfl ?_
  have hm0 := Mem.nil w
  refine cw_seq ?_
  refine cw_region ?_
  refine t_rd rfl (rd_assign rfl) ?_
  refine t_rd rfl (rd_assign rfl) ?_
  refine rwt_nil ?_
  refine qn_then ?_
  refine cw_seq ?_
  refine cw_region ?_
  refine t_rd rfl (rd_assign rfl) ?_
  refine rwt_nil ?_
  refine qn_then ?_
  refine cw_seq ?_
  refine cw_seq ?_
  refine cw_region ?_
  refine t_rd rfl (rd_assign rfl) ?_
  refine rwt_nil ?_
  refine qn_then ?_
  refine cw_block ?_
  obtain ⟨r81, hit82, q83⟩ := ob h; clear h
  refine cw_loop2 (I := fun q envq wq => Sub [(0, v0), (1, (Value.int .i64 a1)), (4, (Value.int .i64 q.1)), (5, (Value.int .i64 q.2.1)), (6, (Value.bool q.2.2.1)), (7, (Value.int .i64 q.2.2.2))] envq ∧ Mem w No [] wq) (X := fun eq envq wq => eq = .exit 0 ∧ Sub [(4, (Value.int .i64 r81.1)), (5, (Value.int .i64 r81.2))] envq ∧ Mem w No [] wq) hit82 ⟨(by repeat (first | exact Sub.nil _ | refine Sub.cons rfl ?_)), (hm0.pick [] (by decide) rfl)⟩ ?_ ?_
  · rintro ⟨i71, i72, b73, i74⟩ x76 env77 w78 hf79 hr80 ⟨hs_, hm_⟩
    have hs_ : Sub [(0, v0), (1, (Value.int .i64 a1)), (4, (Value.int .i64 i71)), (5, (Value.int .i64 i72)), (6, (Value.bool b73)), (7, (Value.int .i64 i74))] env77 := hs_
    have hm84 : Mem w No [] w78 := hm_
    refine cw_sub hs_ ?_
    clear hs_ hm_ q83
    have h : r34_At_l1 N a0 a1 i71 i72 b73 i74 = some x76 := hf79
    clear hf79
    refine cw_seq ?_
    refine cw_seq ?_
    refine cw_region ?_
    refine t_rd rfl (rd_move rfl) ?_
    refine t_rd rfl (rd_move rfl) ?_
    refine t_rd rfl (rd_lenS tS22 rfl (hv0.of_old hm84)) ?_
    refine t_rd rfl (rd_lss rfl rfl) ?_
    refine rwt_nil ?_
    refine qn_then ?_
    obtain ⟨hb85, q86⟩ | ⟨hb85, q86⟩ := oi h <;> clear h
    · refine cw_t rfl hb85 ?_
      refine cw_skip ?_
      refine qn_then ?_
      refine cw_seq ?_
      refine cw_block ?_
      refine cw_block ?_
      refine cw_seq ?_
      refine cw_region ?_
      refine t_rd rfl (rd_move rfl) ?_
      refine t_rd rfl (rd_move rfl) ?_
      obtain ⟨x87, h88, q89⟩ := ob q86; clear q86
      refine t_rd rfl (rd_index tS22 rfl rfl (hv0.of_old hm84) h88) ?_
      refine t_rd rfl (rd_ld1 tO3 rfl ((hv0.of_old hm84).cells h88) (off := 0) rfl) ?_
      refine t_rd rfl (rd_move rfl) ?_
      refine t_rd rfl (rd_eql rfl rfl) ?_
      refine t_rd rfl (rd_assign rfl) ?_
      refine rwt_nil ?_
      refine qn_then ?_
      obtain ⟨hb90, q91⟩ | ⟨hb90, q91⟩ := oi q89 <;> clear q89
      · refine cw_t rfl hb90 ?_
        refine cw_seq ?_
        refine cw_region ?_
        refine t_rd rfl (rd_move rfl) ?_
        obtain ⟨x92, h93, q94⟩ := ob q91; clear q91
        refine t_rd rfl (rd_add64 h93 rfl rfl) ?_
        refine t_rd rfl (rd_assign rfl) ?_
        refine rwt_nil ?_
        refine qn_then ?_
        refine cw_seq ?_
        refine cw_seq ?_
        refine cw_region ?_
        refine t_rd rfl (rd_move rfl) ?_
        refine t_rd rfl (rd_not rfl) ?_
        refine rwt_nil ?_
        refine qn_then ?_
        obtain ⟨hb95, q96⟩ | ⟨hb95, q96⟩ := oi q94 <;> clear q94
        · refine cw_t rfl hb95 ?_
          refine cw_region ?_
          refine t_rd rfl (rd_move rfl) ?_
          obtain ⟨x97, h98, q99⟩ := ob q96; clear q96
          refine t_rd rfl (rd_add64 h98 rfl rfl) ?_
          refine t_rd rfl (rd_assign rfl) ?_
          refine rwt_nil ?_
          refine qn_then ?_
          refine cw_region ?_
          refine t_rd rfl (rd_assign rfl) ?_
          refine rwt_nil ?_
          refine qn_block (qn_block (qn_then ?_))
          refine cw_region ?_
          refine t_rd rfl (rd_move rfl) ?_
          obtain ⟨x100, h101, q102⟩ := ob q99; clear q99
          refine t_rd rfl (rd_add64 h101 rfl rfl) ?_
          refine t_rd rfl (rd_assign rfl) ?_
          refine rwt_nil ?_
          refine qn_then ?_
          refine ⟨_, (os q102), (by repeat (first | exact Sub.nil _ | refine Sub.cons rfl ?_)), (hm84.pick [] (by decide) rfl)⟩
        · refine cw_f rfl hb95 ?_
          refine cw_skip ?_
          refine qn_then ?_
          refine cw_region ?_
          refine t_rd rfl (rd_assign rfl) ?_
          refine rwt_nil ?_
          refine qn_block (qn_block (qn_then ?_))
          refine cw_region ?_
          refine t_rd rfl (rd_move rfl) ?_
          obtain ⟨x103, h104, q105⟩ := ob q96; clear q96
          refine t_rd rfl (rd_add64 h104 rfl rfl) ?_
          refine t_rd rfl (rd_assign rfl) ?_
          refine rwt_nil ?_
          refine qn_then ?_
          refine ⟨_, (os q105), (by repeat (first | exact Sub.nil _ | refine Sub.cons rfl ?_)), (hm84.pick [] (by decide) rfl)⟩
      · refine cw_f rfl hb90 ?_
        refine cw_seq ?_
        refine cw_region ?_
        refine t_rd rfl (rd_move rfl) ?_
        refine t_rd rfl (rd_move rfl) ?_
        obtain ⟨x106, h107, q108⟩ := ob q91; clear q91
        refine t_rd rfl (rd_index tS22 rfl rfl (hv0.of_old hm84) h107) ?_
        refine t_rd rfl (rd_ld1 tO3 rfl ((hv0.of_old hm84).cells h107) (off := 0) rfl) ?_
        refine t_rd rfl (rd_move rfl) ?_
        refine t_rd rfl (rd_gtr rfl rfl) ?_
        refine t_rd rfl (rd_assign rfl) ?_
        refine rwt_nil ?_
        refine qn_then ?_
        obtain ⟨hb109, q110⟩ | ⟨hb109, q110⟩ := oi q108 <;> clear q108
        · refine cw_t rfl hb109 ?_
          refine cw_region ?_
          refine t_rd rfl (rd_assign rfl) ?_
          refine rwt_nil ?_
          refine qn_block (qn_block (qn_then ?_))
          refine cw_region ?_
          refine t_rd rfl (rd_move rfl) ?_
          obtain ⟨x111, h112, q113⟩ := ob q110; clear q110
          refine t_rd rfl (rd_add64 h112 rfl rfl) ?_
          refine t_rd rfl (rd_assign rfl) ?_
          refine rwt_nil ?_
          refine qn_then ?_
          refine ⟨_, (os q113), (by repeat (first | exact Sub.nil _ | refine Sub.cons rfl ?_)), (hm84.pick [] (by decide) rfl)⟩
        · refine cw_f rfl hb109 ?_
          refine cw_skip ?_
          refine qn_block (qn_block (qn_then ?_))
          refine cw_region ?_
          refine t_rd rfl (rd_move rfl) ?_
          obtain ⟨x114, h115, q116⟩ := ob q110; clear q110
          refine t_rd rfl (rd_add64 h115 rfl rfl) ?_
          refine t_rd rfl (rd_assign rfl) ?_
          refine rwt_nil ?_
          refine qn_then ?_
          refine ⟨_, (os q116), (by repeat (first | exact Sub.nil _ | refine Sub.cons rfl ?_)), (hm84.pick [] (by decide) rfl)⟩
    · refine cw_f rfl hb85 ?_
      refine cw_exit ?_
      refine qx_then (qx_then ?_)
      obtain rfl := hr80 _ (os q86)
      exact ⟨rfl, (by repeat (first | exact Sub.nil _ | refine Sub.cons rfl ?_)), (hm84.pick [] (by decide) rfl)⟩
  · skip
    intro e env117 w118 hX119
    obtain ⟨rfl, hs120, hm121⟩ := hX119
    refine qx_same (qn_then ?_)
    refine cw_sub hs120 ?_
    refine cw_seq ?_
    refine cw_region ?_
    refine t_rd rfl (rd_move rfl) ?_
    refine t_rd rfl (rd_move rfl) ?_
    refine t_rd rfl (rd_assign rfl) ?_
    refine t_rd rfl (rd_assign rfl) ?_
    refine rwt_nil ?_
    refine qn_then ?_
    refine cw_ret ?_
    obtain rfl := os q83
    exact ret2 rfl rfl rfl ⟨rfl, (hm121.pick [] (by decide) rfl)⟩

theorem r34_Plan_ok {N : Nat} {a0 : List Int} {a1 : Int} {res : List T_SetOut × Int} (h : r34_Plan N a0 a1 = some res) {w : World} {v0 : Value} (hv0 : Sl (Old w No) w v0 a0) :
    CallsR Try.prog 20 [v0, (Value.int .i64 a1)] w (fun u w' => ∃ (y0 : Value), u = (Value.tuple #[y0, (Value.int .i64 res.2)]) ∧ Mem w No [ownL 31 y0 (res.1 : List T_SetOut)] w') := by
  unfold r34_Plan at h
  refine fn_ok Try.func20 rfl rfl rfl ?_
  have hm0 := Mem.nil w
  refine cw_seq ?_
  refine cw_region ?_
  refine t_rd rfl (rd_assign rfl) ?_
  refine t_rd rfl (rd_assign rfl) ?_
  refine rwt_nil ?_
  refine qn_then ?_
  refine cw_seq ?_
  refine cw_seq ?_
  refine cw_region ?_
  refine t_rd rfl (rd_move rfl) ?_
  refine t_rd rfl (rd_lss rfl rfl) ?_
  refine t_rd rfl (rd_move rfl) ?_
  refine t_rdg rfl rfl rfl rfl (gv_f _) (fun hg1 => (rd_move rfl)) ?_
  refine t_rdg rfl rfl rfl rfl (gv_f _) (fun hg2 => (rd_gtr (gvx rfl hg2) rfl)) ?_
  refine t_rd rfl (rd_or rfl (fun hc3 => (gvx rfl (bnotIt hc3)))) ?_
  refine rwt_nil ?_
  refine qn_then ?_
  obtain ⟨hb4, q5⟩ | ⟨hb4, q5⟩ := oi h <;> clear h
  · refine cw_t rfl hb4 ?_
    refine cw_seq ?_
    refine cw_region ?_
    refine t_rd rfl (rd_assign rfl) ?_
    refine t_rd rfl (rd_assign rfl) ?_
    refine rwt_nil ?_
    refine qn_then ?_
    refine cw_ret ?_
    refine qr_then ?_
    obtain rfl := os q5
    have hm6 := hm0.addNil (α := T_SetOut) 31
    exact ret2 rfl rfl rfl ⟨(Value.slice none 0 0), rfl, (hm6.pick [0] (by decide) rfl)⟩
  · refine cw_f rfl hb4 ?_
    refine cw_skip ?_
    refine qn_then ?_
    refine cw_seq ?_
    refine cw_seq ?_
    refine cw_region ?_
    refine t_rd rfl (rd_move rfl) ?_
    refine t_rd rfl (rd_lenS tS22 rfl (hv0.of_old hm0)) ?_
    refine t_rd rfl (rd_gtr rfl rfl) ?_
    refine rwt_nil ?_
    refine qn_then ?_
    obtain ⟨hb7, q8⟩ | ⟨hb7, q8⟩ := oi q5 <;> clear q5
    · refine cw_t rfl hb7 ?_
      refine cw_seq ?_
      refine cw_region ?_
      refine t_rd rfl (rd_assign rfl) ?_
      refine t_rd rfl (rd_assign rfl) ?_
      refine rwt_nil ?_
      refine qn_then ?_
      refine cw_ret ?_
      refine qr_then ?_
      obtain rfl := os q8
      have hm9 := hm0.addNil (α := T_SetOut) 31
      exact ret2 rfl rfl rfl ⟨(Value.slice none 0 0), rfl, (hm9.pick [0] (by decide) rfl)⟩
    · refine cw_f rfl hb7 ?_
      refine cw_skip ?_
      refine qn_then ?_
      refine cw_seq ?_
      refine cw_seq ?_
      refine cw_region ?_
      refine t_rd rfl (rd_move rfl) ?_
      refine t_rd rfl (rd_move rfl) ?_
      obtain ⟨r10, h11, q12⟩ := ob q8; clear q8
      refine t_ef rfl (ef_call tf25 rfl (r34_inside_ok h11 (hv0.to_call hm0))) ?_
      rintro _ w14 ⟨e_, hm13⟩
      obtain rfl := e_.symm
      have hm15 := hm0.call hm13
      refine t_rd rfl (rd_not rfl) ?_
      refine rwt_nil ?_
      refine qn_then ?_
      obtain ⟨hb16, q17⟩ | ⟨hb16, q17⟩ := oi q12 <;> clear q12
      · refine cw_t rfl hb16 ?_
        refine cw_seq ?_
        refine cw_region ?_
        refine t_rd rfl (rd_assign rfl) ?_
        refine t_rd rfl (rd_assign rfl) ?_
        refine rwt_nil ?_
        refine qn_then ?_
        refine cw_ret ?_
        refine qr_then ?_
        obtain rfl := os q17
        have hm18 := hm15.addNil (α := T_SetOut) 31
        exact ret2 rfl rfl rfl ⟨(Value.slice none 0 0), rfl, (hm18.pick [0] (by decide) rfl)⟩
      · refine cw_f rfl hb16 ?_
        refine cw_skip ?_
        refine qn_then ?_
        refine cw_seq ?_
        refine cw_region ?_
        refine t_rd rfl (rd_assign rfl) ?_
        refine rwt_nil ?_
        refine qn_then ?_
        refine cw_seq ?_
        refine cw_seq ?_
        refine cw_region ?_
        refine t_rd rfl (rd_assign rfl) ?_
        refine rwt_nil ?_
        refine qn_then ?_
        refine cw_block ?_
        have hm45 := hm15.addNil (α := T_SetOut) 31
        obtain ⟨r111, hit112, q113⟩ := ob q17; clear q17
        refine cw_loop2 (I := fun q envq wq => ∃ (v104 : Value), Sub [(0, v0), (1, (Value.int .i64 a1)), (6, v104), (7, (Value.int .i64 q.1))] envq ∧ Mem w No [ownL 31 v104 (q.2 : List T_SetOut)] wq) (X := fun eq envq wq => eq = .exit 0 ∧ ∃ (v101 : Value), Sub [(6, v101)] envq ∧ Mem w No [ownL 31 v101 (r111 : List T_SetOut)] wq) hit112 ⟨(Value.slice none 0 0), (by repeat (first | exact Sub.nil _ | refine Sub.cons rfl ?_)), (hm45.pick [0] (by decide) rfl)⟩ ?_ ?_
        · rintro ⟨i102, l103⟩ x106 env107 w108 hf109 hr110 ⟨v104, hs_, hm_⟩
          have hs_ : Sub [(0, v0), (1, (Value.int .i64 a1)), (6, v104), (7, (Value.int .i64 i102))] env107 := hs_
          have hm114 : Mem w No [ownL 31 v104 (l103 : List T_SetOut)] w108 := hm_
          refine cw_sub hs_ ?_
          clear hs_ hm_ q113
          have h : r34_Plan_l1 N a0 a1 i102 l103 = some x106 := hf109
          clear hf109
          refine cw_seq ?_
          refine cw_seq ?_
          refine cw_region ?_
          refine t_rd rfl (rd_move rfl) ?_
          refine t_rd rfl (rd_move rfl) ?_
          refine t_rd rfl (rd_lss rfl rfl) ?_
          refine rwt_nil ?_
          refine qn_then ?_
          obtain ⟨hb115, q116⟩ | ⟨hb115, q116⟩ := oi h <;> clear h
          · refine cw_t rfl hb115 ?_
            refine cw_skip ?_
            refine qn_then ?_
            refine cw_seq ?_
            refine cw_block ?_
            refine cw_seq ?_
            refine cw_region ?_
            refine t_rd rfl (rd_move rfl) ?_
            refine t_rd rfl (rd_move rfl) ?_
            obtain ⟨r117, h118, q119⟩ := ob q116; clear q116
            refine t_ef rfl (ef_call tf26 rfl (r34_At_ok h118 (hv0.to_call hm114))) ?_
            rintro _ w121 ⟨e_, hm120⟩
            obtain rfl := e_.symm
            have hm122 := hm114.call hm120
            refine t_rd rfl (rd_move rfl) ?_
            refine t_rd rfl (rd_extract rfl rfl) ?_
            refine t_rd rfl (rd_extract rfl rfl) ?_
            refine t_rd rfl (rd_assign rfl) ?_
            refine t_rd rfl (rd_assign rfl) ?_
            refine rwt_nil ?_
            refine qn_then ?_
            refine cw_seq ?_
            refine cw_region ?_
            refine t_rd rfl (rd_move rfl) ?_
            refine t_rd rfl (rd_gtr rfl rfl) ?_
            refine rwt_nil ?_
            refine qn_then ?_
            obtain ⟨hb123, q124⟩ | ⟨hb123, q124⟩ := oi q119 <;> clear q119
            · refine cw_t rfl hb123 ?_
              refine cw_region ?_
              refine t_rd rfl (rd_move rfl) ?_
              refine t_rd rfl (rd_move rfl) ?_
              refine t_rd rfl (rd_move rfl) ?_
              refine t_rd rfl (rd_move rfl) ?_
              refine t_rd rfl (rd_build (cs := #[(Value.int .i64 i102), (Value.int .i64 r117.1), (Value.int .i64 r117.2)]) rfl (by kernel_rfl)) ?_
              refine t_ef rfl (ef_bslice (l := ([(T_SetOut.mk i102 r117.1 r117.2)] : List T_SetOut)) hm122 tS26 rfl (cs := #[(Value.int .i64 i102), (Value.int .i64 r117.1), (Value.int .i64 r117.2)]) (by unfold bsl; kernel_rfl) rfl rfl) ?_
              intro v125 w127 hm126
              obtain ⟨l128, h129, q130⟩ := ob q124; clear q124
              refine t_ef rfl (ef_append (k := 1) hm126 tS26 tE31 rfl rfl rfl rfl (hm126.sl 0 rfl) h129) ?_
              intro v131 w133 hm132
              refine t_rd rfl (rd_assign rfl) ?_
              refine rwt_nil ?_
              refine qn_block (qn_then ?_)
              refine cw_region ?_
              refine t_rd rfl (rd_move rfl) ?_
              obtain ⟨x134, h135, q136⟩ := ob q130; clear q130
              refine t_rd rfl (rd_add64 h135 rfl rfl) ?_
              refine t_rd rfl (rd_assign rfl) ?_
              refine rwt_nil ?_
              refine qn_then ?_
              refine ⟨_, (os q136), v131, (by repeat (first | exact Sub.nil _ | refine Sub.cons rfl ?_)), (hm132.pick [1] (by decide) rfl)⟩
            · refine cw_f rfl hb123 ?_
              refine cw_skip ?_
              refine qn_block (qn_then ?_)
              refine cw_region ?_
              refine t_rd rfl (rd_move rfl) ?_
              obtain ⟨x137, h138, q139⟩ := ob q124; clear q124
              refine t_rd rfl (rd_add64 h138 rfl rfl) ?_
              refine t_rd rfl (rd_assign rfl) ?_
              refine rwt_nil ?_
              refine qn_then ?_
              refine ⟨_, (os q139), v104, (by repeat (first | exact Sub.nil _ | refine Sub.cons rfl ?_)), (hm122.pick [0] (by decide) rfl)⟩
          · refine cw_f rfl hb115 ?_
            refine cw_exit ?_
            refine qx_then (qx_then ?_)
            obtain rfl := hr110 _ (os q116)
            exact ⟨rfl, v104, (by repeat (first | exact Sub.nil _ | refine Sub.cons rfl ?_)), (hm114.pick [0] (by decide) rfl)⟩
        · skip
          intro e env140 w141 hX142
          obtain ⟨rfl, v101, hs143, hm144⟩ := hX142
          refine qx_same (qn_then ?_)
          refine cw_sub hs143 ?_
          refine cw_seq ?_
          refine cw_region ?_
          refine t_rd rfl (rd_move rfl) ?_
          refine t_rd rfl (rd_assign rfl) ?_
          refine t_rd rfl (rd_assign rfl) ?_
          refine rwt_nil ?_
          refine qn_then ?_
          refine cw_ret ?_
          obtain rfl := os q113
          exact ret2 rfl rfl rfl ⟨v101, rfl, (hm144.pick [0] (by decide) rfl)⟩

theorem setout_Groups_ok {N : Nat} {a0 : List Int} {res : Int × Int} (h : setout_Groups N a0 = some res) {w : World} {v0 : Value} (hv0 : Sl (Old w No) w v0 a0) :
    CallsR Try.prog 13 [v0] w (fun u w' => u = (Value.tuple #[(Value.int .i64 res.1), (Value.int .i64 res.2)]) ∧ Mem w No [] w') := by
  unfold setout_Groups at h
  refine fn_ok Try.func13 rfl rfl rfl ?_
  have hm0 := Mem.nil w
  refine cw_seq ?_
  refine cw_region ?_
  refine t_rd rfl (rd_assign rfl) ?_
  refine t_rd rfl (rd_assign rfl) ?_
  refine rwt_nil ?_
  refine qn_then ?_
  refine cw_seq ?_
  refine cw_seq ?_
  refine cw_region ?_
  refine t_rd rfl (rd_move rfl) ?_
  obtain ⟨r1, h2, q3⟩ := ob h; clear h
  refine t_ef rfl (ef_call tf16 rfl (setout_check_ok h2 (hv0.to_call hm0))) ?_
  rintro _ w5 ⟨e_, hm4⟩
  obtain rfl := e_.symm
  have hm6 := hm0.call hm4
  refine t_rd rfl (rd_assign rfl) ?_
  refine rwt_nil ?_
  refine qn_then ?_
  refine cw_seq ?_
  refine cw_region ?_
  refine t_rd rfl (rd_move rfl) ?_
  refine t_rd rfl (rd_neq rfl rfl) ?_
  refine rwt_nil ?_
  refine qn_then ?_
  obtain ⟨hb7, q8⟩ | ⟨hb7, q8⟩ := oi q3 <;> clear q3
  · refine cw_t rfl hb7 ?_
    refine cw_seq ?_
    refine cw_region ?_
    refine t_rd rfl (rd_move rfl) ?_
    refine t_rd rfl (rd_assign rfl) ?_
    refine t_rd rfl (rd_assign rfl) ?_
    refine rwt_nil ?_
    refine qn_then ?_
    refine cw_ret ?_
    refine qr_then ?_
    obtain rfl := os q8
    exact ret2 rfl rfl rfl ⟨rfl, (hm6.pick [] (by decide) rfl)⟩
  · refine cw_f rfl hb7 ?_
    refine cw_skip ?_
    refine qn_then ?_
    refine cw_seq ?_
    refine cw_region ?_
    refine t_rd rfl (rd_assign rfl) ?_
    refine rwt_nil ?_
    refine qn_then ?_
    refine cw_seq ?_
    refine cw_seq ?_
    refine cw_region ?_
    refine t_rd rfl (rd_move rfl) ?_
    obtain ⟨r9, h10, q11⟩ := ob q8; clear q8
    refine t_ef rfl (ef_call tf17 rfl (setout_plan_ok h10 (hv0.to_call hm6))) ?_
    rintro _ w14 ⟨v12, e_, hm13⟩
    obtain rfl := e_.symm
    have hm15 := hm6.call hm13
    refine t_rd rfl (rd_lenS tS26 rfl (hm15.sl 0 rfl)) ?_
    refine t_rd rfl (rd_move rfl) ?_
    refine rwt_nil ?_
    refine qn_then ?_
    refine cw_block ?_
    obtain ⟨r59, hit60, q61⟩ := ob q11; clear q11
    refine cw_loop2 (I := fun q envq wq => Sub [(5, (Value.int .i64 q.1)), (14, v12), (15, (Value.int .i64 (List.length r9 : Int))), (16, (Value.int .i64 q.2))] envq ∧ Mem w No [ownL 31 v12 (r9 : List T_SetOut)] wq) (X := fun eq envq wq => eq = .exit 0 ∧ Sub [(5, (Value.int .i64 r59))] envq ∧ Mem w No [] wq) hit60 ⟨(by repeat (first | exact Sub.nil _ | refine Sub.cons rfl ?_)), (hm15.pick [0] (by decide) rfl)⟩ ?_ ?_
    · rintro ⟨i51, i52⟩ x54 env55 w56 hf57 hr58 ⟨hs_, hm_⟩
      have hs_ : Sub [(5, (Value.int .i64 i51)), (14, v12), (15, (Value.int .i64 (List.length r9 : Int))), (16, (Value.int .i64 i52))] env55 := hs_
      have hm62 : Mem w No [ownL 31 v12 (r9 : List T_SetOut)] w56 := hm_
      refine cw_sub hs_ ?_
      clear hs_ hm_ q61
      have h : setout_Groups_l1 N r9 i51 i52 = some x54 := hf57
      clear hf57
      refine cw_seq ?_
      refine cw_region ?_
      refine t_rd rfl (rd_lss rfl rfl) ?_
      refine rwt_nil ?_
      refine qn_then ?_
      refine cw_seq ?_
      obtain ⟨hb63, q64⟩ | ⟨hb63, q64⟩ := oi h <;> clear h
      · refine cw_t rfl hb63 ?_
        refine cw_skip ?_
        refine qn_then ?_
        refine cw_seq ?_
        refine cw_block ?_
        refine cw_seq ?_
        refine cw_region ?_
        obtain ⟨x65, h66, q67⟩ := ob q64; clear q64
        refine t_rd rfl (rd_index tS26 rfl rfl (hm62.sl 0 rfl) h66) ?_
        refine t_rd rfl (rd_ld tA31 rfl ((hm62.sl 0 rfl).cells h66) rfl) ?_
        refine t_ef rfl (ef_alloc hm62 tZ31 rfl) ?_
        rintro _ w70 ⟨g68, rfl, hm69⟩
        refine t_ef0 (ef_stw (k := 0) hm69 tA31 rfl rfl (oc_cons rfl (oc_cons rfl (oc_cons rfl oc_nil))) rfl rfl rfl) ?_
        intro _ w72 hm71
        refine rwt_nil ?_
        refine qn_then ?_
        refine cw_region ?_
        refine t_rd rfl (rd_move rfl) ?_
        refine t_rd rfl (rd_fld tF31_2 rfl) ?_
        refine t_rd rfl (rd_ld1 tO3 rfl (hm71.blk 0 rfl) (off := 2) rfl) ?_
        obtain ⟨x73, h74, q75⟩ := ob q67; clear q67
        refine t_rd rfl (rd_add64 h74 rfl rfl) ?_
        refine t_rd rfl (rd_assign rfl) ?_
        refine rwt_nil ?_
        refine qn_block (qn_then ?_)
        refine cw_region ?_
        obtain ⟨x76, h77, q78⟩ := ob q75; clear q75
        refine t_rd rfl (rd_add64 h77 rfl rfl) ?_
        refine t_rd rfl (rd_move rfl) ?_
        refine rwt_nil ?_
        refine qn_then ?_
        refine ⟨_, (os q78), (by repeat (first | exact Sub.nil _ | refine Sub.cons rfl ?_)), (hm71.pick [1] (by decide) rfl)⟩
      · refine cw_f rfl hb63 ?_
        refine cw_exit ?_
        refine qx_then (qx_then ?_)
        obtain rfl := hr58 _ (os q64)
        exact ⟨rfl, (by repeat (first | exact Sub.nil _ | refine Sub.cons rfl ?_)), (hm62.pick [] (by decide) rfl)⟩
    · skip
      intro e env79 w80 hX81
      obtain ⟨rfl, hs82, hm83⟩ := hX81
      refine qx_same (qn_then ?_)
      refine cw_sub hs82 ?_
      refine cw_seq ?_
      refine cw_region ?_
      refine t_rd rfl (rd_move rfl) ?_
      refine t_rd rfl (rd_assign rfl) ?_
      refine t_rd rfl (rd_assign rfl) ?_
      refine rwt_nil ?_
      refine qn_then ?_
      refine cw_ret ?_
      obtain rfl := os q61
      exact ret2 rfl rfl rfl ⟨rfl, (hm83.pick [] (by decide) rfl)⟩

end Go.Proofs.Ytpljjjcfinpgeaa
