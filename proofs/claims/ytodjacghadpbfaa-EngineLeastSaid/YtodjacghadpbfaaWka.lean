/- Each call computes what its mirror does; written by a program of mine (gowalk.py). -/
import Derived.Test.YtodjacghadpbfaaTy
namespace Go.Proofs.Ytodjacghadpbfaa
open Go.Gv Go.RowKit
set_option linter.unusedVariables false
set_option maxRecDepth 100000

theorem humpgen_New_ok {N : Nat} {a0 : List Int} {res : Int} (h : humpgen_New N a0 = some res) {w : World} {v0 : Value} (hv0 : Sl (Old w No) w v0 a0) :
    CallsR Try.prog 7 [v0] w (fun u w' => ∃ gr : Nat, u = (Value.pointer (some ⟨gr, 0, none⟩)) ∧ Mem w No [blk gr 48 [v0, (Value.int .i64 res)]] w') := by
  unfold humpgen_New at h
  refine fn_ok Try.func7 rfl rfl rfl ?_
  have hm0 := Mem.nil w
  refine cw_seq ?_
  refine cw_region ?_
  refine t_rd rfl (rd_assign rfl) ?_
  refine rwt_nil ?_
  refine qn_then ?_
  refine cw_seq ?_
  refine cw_region ?_
  refine t_rd rfl (rd_move rfl) ?_
  refine t_rd rfl (rd_build (cs := #[v0, (Value.int .i64 0)]) rfl (by obtain ⟨_, _, e⟩ := ((hv0.of_old hm0)).val; rw [e]; clear e; kernel_rfl)) ?_
  refine t_ef rfl (ef_box hm0 rfl rfl) ?_
  rintro _ w6 ⟨g4, rfl, hm5⟩
  refine t_rd rfl (rd_assign rfl) ?_
  refine rwt_nil ?_
  refine qn_then ?_
  refine cw_ret ?_
  obtain rfl := os h
  exact ret1 rfl rfl ⟨g4, rfl, (hm5.pick [0] (by decide) rfl)⟩

theorem Maker_Next_ok {N : Nat} {a0_l : List Int} {a0_n : Int} {a1 : Int} {res : Int × Int} (h : Maker_Next N a0_l a0_n a1 = some res) {w : World} {v0_l : Value} {g0 : Nat} (hv0_l : Sl (Old w (fun k => k = g0)) w v0_l a0_l) (hk0 : (blk g0 48 [v0_l, (Value.int .i64 a0_n)]).φ w) :
    CallsR Try.prog 11 [(Value.pointer (some ⟨g0, 0, none⟩)), (Value.int .i64 a1)] w (fun u w' => u = (Value.int .i64 res.2) ∧ Mem w (fun k => k = g0) [blk g0 48 [v0_l, (Value.int .i64 res.1)]] w') := by
  unfold Maker_Next at h
  refine fn_ok Try.func11 rfl rfl rfl ?_
  have hm0 := Mem.one hk0
  refine cw_seq ?_
  refine cw_region ?_
  refine t_rd rfl (rd_assign rfl) ?_
  refine rwt_nil ?_
  refine qn_then ?_
  refine cw_seq ?_
  refine cw_region ?_
  refine t_rd rfl (rd_assign rfl) ?_
  refine rwt_nil ?_
  refine qn_then ?_
  refine cw_seq ?_
  refine cw_seq ?_
  refine cw_region ?_
  refine t_rd rfl (rd_move rfl) ?_
  refine t_rd rfl (rd_nilCheck rfl) ?_
  refine t_rd rfl (rd_fld tF48_0 rfl) ?_
  refine t_rd rfl (rd_ld1 tO22 rfl (hm0.blk 0 rfl) (off := 0) rfl) ?_
  refine t_rd rfl (rd_lenS tS22 rfl (hv0_l.of_old hm0)) ?_
  refine t_rd rfl (rd_gtr rfl rfl) ?_
  refine rwt_nil ?_
  refine qn_then ?_
  obtain ⟨j69, hit70, q71⟩ := ob h; clear h
  refine cw_join (X := fun eq envq wq => eq = .normal ∧ Sub [(0, (Value.pointer (some ⟨g0, 0, none⟩))), (1, (Value.int .i64 a1)), (5, (Value.int .i64 j69))] envq ∧ Mem w (fun k => k = g0) [blk g0 48 [v0_l, (Value.int .i64 a0_n)]] wq) ?_ ?_
  · clear q71
    obtain ⟨hb72, q73⟩ | ⟨hb72, q73⟩ := oi hit70 <;> clear hit70
    · refine cw_t rfl hb72 ?_
      obtain ⟨w75, he77⟩ : ∃ q, q = w.drew := ⟨_, rfl⟩
      have hm76 := hm0.drew; rw [← he77] at hm76
      refine cw_region_s (fun q => q = w75) (cls [] []) mixed ?_
      rintro _ rfl; rw [← he77]
      refine s_rp (i := 0) rfl (by kernel_rfl) rfl (fun _ => (rd_move rfl)) ?_
      refine s_rp (i := 1) rfl (by kernel_rfl) rfl (fun _ => (rd_nilCheck rfl)) ?_
      refine s_rp (i := 2) rfl (by kernel_rfl) rfl (fun _ => (rd_fld tF48_0 rfl)) ?_
      refine s_rd (i := 3) rfl (by kernel_rfl) rfl (fun _ hS => by rw [hS]; exact (rd_ld1 tO22 rfl (hm76.blk 0 rfl) (off := 0) rfl)) rfl ?_
      refine s_rp (i := 4) rfl (by kernel_rfl) rfl (fun _ => (rd_move rfl)) ?_
      refine s_rp (i := 5) rfl (by kernel_rfl) rfl (fun _ => (rd_nilCheck rfl)) ?_
      refine s_rp (i := 6) rfl (by kernel_rfl) rfl (fun _ => (rd_fld tF48_1 rfl)) ?_
      refine s_rd (i := 7) rfl (by kernel_rfl) rfl (fun _ hS => by rw [hS]; exact (rd_ld1 tO3 rfl (hm76.blk 0 rfl) (off := 1) rfl)) rfl ?_
      refine s_rp (i := 8) rfl (by kernel_rfl) rfl (fun _ => (rd_move rfl)) ?_
      refine s_rp (i := 9) rfl (by kernel_rfl) rfl (fun _ => (rd_nilCheck rfl)) ?_
      refine s_rp (i := 10) rfl (by kernel_rfl) rfl (fun _ => (rd_fld tF48_0 rfl)) ?_
      refine s_rd (i := 11) rfl (by kernel_rfl) rfl (fun _ hS => by rw [hS]; exact (rd_ld1 tO22 rfl (hm76.blk 0 rfl) (off := 0) rfl)) rfl ?_
      refine s_rp (i := 12) rfl (by kernel_rfl) rfl (fun _ => (rd_lenS tS22 rfl (hv0_l.of_old hm76))) ?_
      obtain ⟨x78, h79, q80⟩ := ob q73; clear q73
      refine s_rp (i := 13) rfl (by kernel_rfl) rfl (fun _ => (rd_rem64 h79 rfl rfl)) ?_
      obtain ⟨x81, h82, q83⟩ := ob q80; clear q80
      refine s_rp (i := 14) rfl (by kernel_rfl) rfl (fun _ => (rd_index tS22 rfl rfl (hv0_l.of_old hm76) h82)) ?_
      refine s_rd (i := 15) rfl (by kernel_rfl) rfl (fun _ hS => by rw [hS]; exact (rd_ld1 tO3 rfl ((hv0_l.of_old hm76).cells h82) (off := 0) rfl)) rfl ?_
      refine s_rp (i := 16) rfl (by kernel_rfl) rfl (fun _ => (rd_move rfl)) ?_
      refine s_rp (i := 17) rfl (by kernel_rfl) rfl (fun _ => (rd_nilCheck rfl)) ?_
      refine s_rp (i := 18) rfl (by kernel_rfl) rfl (fun _ => (rd_fld tF48_1 rfl)) ?_
      refine s_rd (i := 19) rfl (by kernel_rfl) rfl (fun _ hS => by rw [hS]; exact (rd_ld1 tO3 rfl (hm76.blk 0 rfl) (off := 1) rfl)) rfl ?_
      refine s_rp (i := 20) rfl (by kernel_rfl) rfl (fun _ => (rd_move rfl)) ?_
      refine s_rp (i := 21) rfl (by kernel_rfl) rfl (fun _ => (rd_nilCheck rfl)) ?_
      refine s_rp (i := 22) rfl (by kernel_rfl) rfl (fun _ => (rd_fld tF48_0 rfl)) ?_
      refine s_rd (i := 23) rfl (by kernel_rfl) rfl (fun _ hS => by rw [hS]; exact (rd_ld1 tO22 rfl (hm76.blk 0 rfl) (off := 0) rfl)) rfl ?_
      refine s_rp (i := 24) rfl (by kernel_rfl) rfl (fun _ => (rd_lenS tS22 rfl (hv0_l.of_old hm76))) ?_
      obtain ⟨x84, h85, q86⟩ := ob q83; clear q83
      refine s_rp (i := 25) rfl (by kernel_rfl) rfl (fun _ => (rd_quo64 h85 rfl rfl)) ?_
      refine s_rp (i := 26) rfl (by kernel_rfl) rfl (fun _ => (rd_mulw rfl rfl)) ?_
      refine s_rp (i := 27) rfl (by kernel_rfl) rfl (fun _ => (rd_addw rfl rfl)) ?_
      refine s_rp (i := 28) rfl (by kernel_rfl) rfl (fun _ => (rd_assign rfl)) ?_
      refine s_nil (by kernel_rfl) ?_
      obtain rfl := os q86
      exact ⟨rfl, (by repeat (first | exact Sub.nil _ | refine Sub.cons rfl ?_)), (hm76.pick [0] (by decide) rfl)⟩
    · refine cw_f rfl hb72 ?_
      refine cw_skip ?_
      obtain rfl := os q73
      exact ⟨rfl, (by repeat (first | exact Sub.nil _ | refine Sub.cons rfl ?_)), (hm0.pick [0] (by decide) rfl)⟩
  · clear hit70
    intro e env87 w88 hX89
    obtain ⟨rfl, hs90, hm91⟩ := hX89
    refine qn_then ?_
    refine cw_sub hs90 ?_
    refine cw_seq ?_
    refine cw_region ?_
    refine t_rd rfl (rd_move rfl) ?_
    refine t_rd rfl (rd_nilCheck rfl) ?_
    refine t_rd rfl (rd_fld tF48_1 rfl) ?_
    refine t_rd rfl (rd_ld1 tO3 rfl (hm91.blk 0 rfl) (off := 1) rfl) ?_
    obtain ⟨x92, h93, q94⟩ := ob q71; clear q71
    refine t_rd rfl (rd_add64 h93 rfl rfl) ?_
    refine t_rd rfl (rd_nilCheck rfl) ?_
    refine t_rd rfl (rd_fld tF48_1 rfl) ?_
    refine t_ef0 (ef_st1 (k := 0) (off := 1) hm91 tO3 rfl rfl rfl rfl rfl rfl) ?_
    intro _ w96 hm95
    refine rwt_nil ?_
    refine qn_then ?_
    refine cw_seq ?_
    refine cw_region ?_
    refine t_rd rfl (rd_move rfl) ?_
    refine t_rd rfl (rd_move rfl) ?_
    obtain ⟨x97, h98, q99⟩ := ob q94; clear q94
    refine t_rd rfl (rd_rem64 h98 rfl rfl) ?_
    refine t_rd rfl (rd_assign rfl) ?_
    refine rwt_nil ?_
    refine qn_then ?_
    refine cw_seq ?_
    refine cw_seq ?_
    refine cw_region ?_
    refine t_rd rfl (rd_move rfl) ?_
    refine t_rd rfl (rd_lss rfl rfl) ?_
    refine rwt_nil ?_
    refine qn_then ?_
    obtain ⟨hb100, q101⟩ | ⟨hb100, q101⟩ := oi q99 <;> clear q99
    · refine cw_t rfl hb100 ?_
      refine cw_region ?_
      refine t_rd rfl (rd_move rfl) ?_
      refine t_rd rfl (rd_move rfl) ?_
      obtain ⟨x102, h103, q104⟩ := ob q101; clear q101
      refine t_rd rfl (rd_add64 h103 rfl rfl) ?_
      refine t_rd rfl (rd_assign rfl) ?_
      refine rwt_nil ?_
      refine qn_then ?_
      refine cw_seq ?_
      refine cw_region ?_
      refine t_rd rfl (rd_move rfl) ?_
      refine t_rd rfl (rd_assign rfl) ?_
      refine rwt_nil ?_
      refine qn_then ?_
      refine cw_ret ?_
      obtain rfl := os q104
      exact ret1 rfl rfl ⟨rfl, (hm95.pick [0] (by decide) rfl)⟩
    · refine cw_f rfl hb100 ?_
      refine cw_skip ?_
      refine qn_then ?_
      refine cw_seq ?_
      refine cw_region ?_
      refine t_rd rfl (rd_move rfl) ?_
      refine t_rd rfl (rd_assign rfl) ?_
      refine rwt_nil ?_
      refine qn_then ?_
      refine cw_ret ?_
      obtain rfl := os q101
      exact ret1 rfl rfl ⟨rfl, (hm95.pick [0] (by decide) rfl)⟩

theorem law39_tasks_ok {N : Nat} {a0_l : List Int} {a0_n : Int} {a1 : Int} {res : Int × List T_Task} (h : law39_tasks N a0_l a0_n a1 = some res) {w : World} {v0_l : Value} {g0 : Nat} (hv0_l : Sl (Old w (fun k => k = g0)) w v0_l a0_l) (hk0 : (blk g0 48 [v0_l, (Value.int .i64 a0_n)]).φ w) :
    CallsR Try.prog 8 [(Value.pointer (some ⟨g0, 0, none⟩)), (Value.int .i64 a1)] w (fun u w' => ∃ (y0 : Value), u = y0 ∧ Mem w (fun k => k = g0) [blk g0 48 [v0_l, (Value.int .i64 res.1)], ownL 29 y0 (res.2 : List T_Task)] w') := by
  unfold law39_tasks at h
  refine fn_ok Try.func8 rfl rfl rfl ?_
  have hm0 := Mem.one hk0
  refine cw_seq ?_
  refine cw_region ?_
  refine t_rd rfl (rd_assign rfl) ?_
  refine rwt_nil ?_
  refine qn_then ?_
  refine cw_seq ?_
  refine cw_region ?_
  refine t_rd rfl (rd_assign rfl) ?_
  refine rwt_nil ?_
  refine qn_then ?_
  refine cw_seq ?_
  refine cw_seq ?_
  refine cw_region ?_
  refine t_rd rfl (rd_move rfl) ?_
  refine t_rd rfl (rd_move rfl) ?_
  obtain ⟨x168, h169, q170⟩ := ob h; clear h
  refine t_rd rfl (rd_add64 h169 rfl rfl) ?_
  obtain ⟨r171, h172, q173⟩ := ob q170; clear q170
  refine t_ef rfl (ef_call tf11 rfl (Maker_Next_ok h172 (hv0_l.to_callT (k := 0) hm0 rfl) (hm0.get (k := 0) rfl))) ?_
  rintro _ w175 ⟨e_, hm174⟩
  obtain rfl := e_.symm
  have hm176 := hm0.callT (k := 0) rfl (fun _ h => h) hm174 (fun _ => Iff.rfl)
  refine t_rd rfl (rd_assign rfl) ?_
  refine rwt_nil ?_
  refine qn_then ?_
  refine cw_block ?_
  have hm210 := hm176.addNil (α := T_Task) 29
  obtain ⟨r294, hit295, q296⟩ := ob q173; clear q173
  refine cw_loop2 (I := fun q envq wq => ∃ (v287 : Value), Sub [(0, (Value.pointer (some ⟨g0, 0, none⟩))), (5, v287), (6, (Value.int .i64 q.1))] envq ∧ Mem w (fun k => k = g0) [ownL 29 v287 (q.2.2 : List T_Task), blk g0 48 [v0_l, (Value.int .i64 q.2.1)]] wq) (X := fun eq envq wq => eq = .exit 0 ∧ ∃ (v283 : Value), Sub [(5, v283)] envq ∧ Mem w (fun k => k = g0) [ownL 29 v283 (r294.2 : List T_Task), blk g0 48 [v0_l, (Value.int .i64 r294.1)]] wq) hit295 ⟨(Value.slice none 0 0), (by repeat (first | exact Sub.nil _ | refine Sub.cons rfl ?_)), (hm210.pick [0, 1] (by decide) rfl)⟩ ?_ ?_
  · rintro ⟨i284, i285, l286⟩ x289 env290 w291 hf292 hr293 ⟨v287, hs_, hm_⟩
    have hs_ : Sub [(0, (Value.pointer (some ⟨g0, 0, none⟩))), (5, v287), (6, (Value.int .i64 i284))] env290 := hs_
    have hm297 : Mem w (fun k => k = g0) [ownL 29 v287 (l286 : List T_Task), blk g0 48 [v0_l, (Value.int .i64 i285)]] w291 := hm_
    refine cw_sub hs_ ?_
    clear hs_ hm_ q296
    have h : law39_tasks_l1 N a0_l i284 i285 l286 = some x289 := hf292
    clear hf292
    refine cw_seq ?_
    refine cw_seq ?_
    refine cw_region ?_
    refine t_rd rfl (rd_move rfl) ?_
    refine t_rd rfl (rd_gtr rfl rfl) ?_
    refine rwt_nil ?_
    refine qn_then ?_
    obtain ⟨hb298, q299⟩ | ⟨hb298, q299⟩ := oi h <;> clear h
    · refine cw_t rfl hb298 ?_
      refine cw_skip ?_
      refine qn_then ?_
      refine cw_seq ?_
      refine cw_block ?_
      refine cw_seq ?_
      refine cw_region ?_
      refine t_rd rfl (rd_move rfl) ?_
      obtain ⟨r300, h301, q302⟩ := ob q299; clear q299
      refine t_ef rfl (ef_call tf11 rfl (Maker_Next_ok h301 (hv0_l.to_callT (k := 1) hm297 rfl) (hm297.get (k := 1) rfl))) ?_
      rintro _ w304 ⟨e_, hm303⟩
      obtain rfl := e_.symm
      have hm305 := hm297.callT (k := 1) rfl (fun _ h => h) hm303 (fun _ => Iff.rfl)
      refine t_rd rfl (rd_assign rfl) ?_
      refine rwt_nil ?_
      refine qn_then ?_
      refine cw_region ?_
      refine t_rd rfl (rd_move rfl) ?_
      refine t_rd rfl (rd_move rfl) ?_
      refine t_rd rfl (rd_move rfl) ?_
      obtain ⟨x306, h307, q308⟩ := ob q302; clear q302
      refine t_rd rfl (rd_add64 h307 rfl rfl) ?_
      refine t_rd rfl (rd_move rfl) ?_
      obtain ⟨r309, h310, q311⟩ := ob q308; clear q308
      refine t_ef rfl (ef_call tf11 rfl (Maker_Next_ok h310 (hv0_l.to_callT (k := 1) hm305 rfl) (hm305.get (k := 1) rfl))) ?_
      rintro _ w313 ⟨e_, hm312⟩
      obtain rfl := e_.symm
      have hm314 := hm305.callT (k := 1) rfl (fun _ h => h) hm312 (fun _ => Iff.rfl)
      obtain ⟨x315, h316, q317⟩ := ob q311; clear q311
      refine t_rd rfl (rd_add64 h316 rfl rfl) ?_
      refine t_rd rfl (rd_build (cs := #[(Value.int .i64 r300.2), (Value.int .i64 x315)]) rfl (by kernel_rfl)) ?_
      refine t_ef rfl (ef_bslice (l := ([(T_Task.mk r300.2 x315)] : List T_Task)) hm314 tS23 rfl (cs := #[(Value.int .i64 r300.2), (Value.int .i64 x315)]) (by unfold bsl; kernel_rfl) rfl rfl) ?_
      intro v318 w320 hm319
      obtain ⟨l321, h322, q323⟩ := ob q317; clear q317
      refine t_ef rfl (ef_append (k := 1) hm319 tS23 tE29 rfl rfl rfl rfl (hm319.sl 0 rfl) h322) ?_
      intro v324 w326 hm325
      refine t_rd rfl (rd_assign rfl) ?_
      refine rwt_nil ?_
      refine qn_block (qn_then ?_)
      refine cw_region ?_
      refine t_rd rfl (rd_move rfl) ?_
      obtain ⟨x327, h328, q329⟩ := ob q323; clear q323
      refine t_rd rfl (rd_sub64 h328 rfl rfl) ?_
      refine t_rd rfl (rd_assign rfl) ?_
      refine rwt_nil ?_
      refine qn_then ?_
      refine ⟨_, (os q329), v324, (by repeat (first | exact Sub.nil _ | refine Sub.cons rfl ?_)), (hm325.pick [1, 2] (by decide) rfl)⟩
    · refine cw_f rfl hb298 ?_
      refine cw_exit ?_
      refine qx_then (qx_then ?_)
      obtain rfl := hr293 _ (os q299)
      exact ⟨rfl, v287, (by repeat (first | exact Sub.nil _ | refine Sub.cons rfl ?_)), (hm297.pick [0, 1] (by decide) rfl)⟩
  · skip
    intro e env330 w331 hX332
    obtain ⟨rfl, v283, hs333, hm334⟩ := hX332
    refine qx_same (qn_then ?_)
    refine cw_sub hs333 ?_
    refine cw_seq ?_
    refine cw_region ?_
    refine t_rd rfl (rd_move rfl) ?_
    refine t_rd rfl (rd_assign rfl) ?_
    refine rwt_nil ?_
    refine qn_then ?_
    refine cw_ret ?_
    obtain rfl := os q296
    exact ret1 rfl rfl ⟨v283, rfl, (hm334.pick [1, 0] (by decide) rfl)⟩

theorem Maker_Pick_ok {N : Nat} {a0_l : List Int} {a0_n : Int} {a1 : List Int} {res : Int × Int} (h : Maker_Pick N a0_l a0_n a1 = some res) {w : World} {v0_l : Value} {g0 : Nat} {v1 : Value} (hv0_l : Sl (Old w (fun k => k = g0)) w v0_l a0_l) (hk0 : (blk g0 48 [v0_l, (Value.int .i64 a0_n)]).φ w) (hv1 : Sl (Old w (fun k => k = g0)) w v1 a1) :
    CallsR Try.prog 9 [(Value.pointer (some ⟨g0, 0, none⟩)), v1] w (fun u w' => u = (Value.int .i64 res.2) ∧ Mem w (fun k => k = g0) [blk g0 48 [v0_l, (Value.int .i64 res.1)]] w') := by
  unfold Maker_Pick at h
  refine fn_ok Try.func9 rfl rfl rfl ?_
  have hm0 := Mem.one hk0
  refine cw_seq ?_
  refine cw_region ?_
  refine t_rd rfl (rd_assign rfl) ?_
  refine rwt_nil ?_
  refine qn_then ?_
  refine cw_seq ?_
  refine cw_region ?_
  refine t_rd rfl (rd_move rfl) ?_
  refine t_rd rfl (rd_move rfl) ?_
  refine t_rd rfl (rd_move rfl) ?_
  refine t_rd rfl (rd_lenS tS22 rfl (hv1.of_old hm0)) ?_
  obtain ⟨r10, h11, q12⟩ := ob h; clear h
  refine t_ef rfl (ef_call tf11 rfl (Maker_Next_ok h11 (hv0_l.to_callT (k := 0) hm0 rfl) (hm0.get (k := 0) rfl))) ?_
  rintro _ w14 ⟨e_, hm13⟩
  obtain rfl := e_.symm
  have hm15 := hm0.callT (k := 0) rfl (fun _ h => h) hm13 (fun _ => Iff.rfl)
  obtain ⟨x16, h17, q18⟩ := ob q12; clear q12
  refine t_rd rfl (rd_index tS22 rfl rfl (hv1.of_old hm15) h17) ?_
  refine t_rd rfl (rd_ld1 tO3 rfl ((hv1.of_old hm15).cells h17) (off := 0) rfl) ?_
  refine t_rd rfl (rd_assign rfl) ?_
  refine rwt_nil ?_
  refine qn_then ?_
  refine cw_ret ?_
  obtain rfl := os q18
  exact ret1 rfl rfl ⟨rfl, (hm15.pick [0] (by decide) rfl)⟩

theorem r39_check_ok {N : Nat} {a0 : List T_Task} {a1 : Int} {res : Int} (h : r39_check N a0 a1 = some res) {w : World} {v0 : Value} (hv0 : Sl (Old w No) w v0 a0) :
    CallsR Try.prog 19 [v0, (Value.int .i64 a1)] w (fun u w' => u = (Value.int .i64 res) ∧ Mem w No [] w') := by
  unfold r39_check at h
  refine fn_ok Try.func19 rfl rfl rfl ?_
  have hm0 := Mem.nil w
  refine cw_seq ?_
  refine cw_region ?_
  refine t_rd rfl (rd_assign rfl) ?_
  refine rwt_nil ?_
  refine qn_then ?_
  refine cw_seq ?_
  refine cw_seq ?_
  refine cw_region ?_
  refine t_rd rfl (rd_move rfl) ?_
  refine t_rd rfl (rd_lenS tS23 rfl (hv0.of_old hm0)) ?_
  refine t_rd rfl (rd_gtr rfl rfl) ?_
  refine rwt_nil ?_
  refine qn_then ?_
  obtain ⟨hb1, q2⟩ | ⟨hb1, q2⟩ := oi h <;> clear h
  · refine cw_t rfl hb1 ?_
    refine cw_seq ?_
    refine cw_region ?_
    refine t_rd rfl (rd_assign rfl) ?_
    refine rwt_nil ?_
    refine qn_then ?_
    refine cw_ret ?_
    refine qr_then ?_
    obtain rfl := os q2
    exact ret1 rfl rfl ⟨rfl, (hm0.pick [] (by decide) rfl)⟩
  · refine cw_f rfl hb1 ?_
    refine cw_skip ?_
    refine qn_then ?_
    refine cw_seq ?_
    refine cw_seq ?_
    refine cw_region ?_
    refine t_rd rfl (rd_move rfl) ?_
    refine t_rd rfl (rd_lss rfl rfl) ?_
    refine t_rd rfl (rd_move rfl) ?_
    refine t_rdg rfl rfl rfl rfl (gv_f _) (fun hg3 => (rd_move rfl)) ?_
    refine t_rdg rfl rfl rfl rfl (gv_f _) (fun hg4 => (rd_gtr (gvx rfl hg4) rfl)) ?_
    refine t_rd rfl (rd_or rfl (fun hc5 => (gvx rfl (bnotIt hc5)))) ?_
    refine rwt_nil ?_
    refine qn_then ?_
    obtain ⟨hb6, q7⟩ | ⟨hb6, q7⟩ := oi q2 <;> clear q2
    · refine cw_t rfl hb6 ?_
      refine cw_seq ?_
      refine cw_region ?_
      refine t_rd rfl (rd_assign rfl) ?_
      refine rwt_nil ?_
      refine qn_then ?_
      refine cw_ret ?_
      refine qr_then ?_
      obtain rfl := os q7
      exact ret1 rfl rfl ⟨rfl, (hm0.pick [] (by decide) rfl)⟩
    · refine cw_f rfl hb6 ?_
      refine cw_skip ?_
      refine qn_then ?_
      refine cw_seq ?_
      refine cw_seq ?_
      refine cw_region ?_
      refine t_rd rfl (rd_assign rfl) ?_
      refine rwt_nil ?_
      refine qn_then ?_
      refine cw_block ?_
      obtain ⟨r100, hit101, q102⟩ := ob q7; clear q7
      refine cw_loop2 (I := fun q envq wq => Sub [(0, v0), (5, (Value.int .i64 q))] envq ∧ Mem w No [] wq) (X := fun eq envq wq => (∃ p103, r100 = (Sum.inl p103) ∧ eq = .ret ∧ retQ Try.prog 48 Try.f19 (fun u w' => u = (Value.int .i64 p103) ∧ Mem w No [] w') .ret envq wq) ∨ (∃ p104, r100 = (Sum.inr p104) ∧ eq = .exit 0 ∧ Sub [] envq ∧ Mem w No [] wq)) hit101 ⟨(by repeat (first | exact Sub.nil _ | refine Sub.cons rfl ?_)), (hm0.pick [] (by decide) rfl)⟩ ?_ ?_
      · rintro i93 x95 env96 w97 hf98 hr99 ⟨hs_, hm_⟩
        have hs_ : Sub [(0, v0), (5, (Value.int .i64 i93))] env96 := hs_
        have hm105 : Mem w No [] w97 := hm_
        refine cw_sub hs_ ?_
        clear hs_ hm_ q102
        have h : r39_check_l1 N a0 i93 = some x95 := hf98
        clear hf98
        refine cw_seq ?_
        refine cw_seq ?_
        refine cw_region ?_
        refine t_rd rfl (rd_move rfl) ?_
        refine t_rd rfl (rd_move rfl) ?_
        refine t_rd rfl (rd_lenS tS23 rfl (hv0.of_old hm105)) ?_
        refine t_rd rfl (rd_lss rfl rfl) ?_
        refine rwt_nil ?_
        refine qn_then ?_
        obtain ⟨hb106, q107⟩ | ⟨hb106, q107⟩ := oi h <;> clear h
        · refine cw_t rfl hb106 ?_
          refine cw_skip ?_
          refine qn_then ?_
          refine cw_seq ?_
          refine cw_block ?_
          refine cw_seq ?_
          obtain ⟨w109, he111⟩ : ∃ q, q = w97.drew := ⟨_, rfl⟩
          have hm110 := hm105.drew; rw [← he111] at hm110
          refine cw_region_s (fun q => q = w109) (cls [] []) mixed ?_
          rintro _ rfl; rw [← he111]
          refine s_rp (i := 0) rfl (by kernel_rfl) rfl (fun _ => (rd_move rfl)) ?_
          refine s_rp (i := 1) rfl (by kernel_rfl) rfl (fun _ => (rd_move rfl)) ?_
          obtain ⟨x112, h113, q114⟩ := ob q107; clear q107
          refine s_rp (i := 2) rfl (by kernel_rfl) rfl (fun _ => (rd_index tS23 rfl rfl (hv0.of_old hm110) h113)) ?_
          refine s_rp (i := 3) rfl (by kernel_rfl) rfl (fun _ => (rd_fld tF29_0 rfl)) ?_
          refine s_rd (i := 4) rfl (by kernel_rfl) rfl (fun _ hS => by rw [hS]; exact (rd_ld1 tO3 rfl ((hv0.of_old hm110).cells h113) (off := 0) rfl)) rfl ?_
          refine s_rp (i := 5) rfl (by kernel_rfl) rfl (fun _ => (rd_lss rfl rfl)) ?_
          refine s_rp (i := 6) rfl (by kernel_rfl) rfl (fun _ => (rd_move rfl)) ?_
          refine s_rpg (i := 7) rfl (by kernel_rfl) rfl rfl rfl rfl (gv_f _) (fun hg115 _ => (rd_move rfl)) ?_
          refine s_rpg (i := 8) rfl (by kernel_rfl) rfl rfl rfl rfl (gv_f _) (fun hg116 _ => (rd_move rfl)) ?_
          obtain ⟨x118, h119, q120⟩ := ob q114; clear q114
          refine s_rpg (i := 9) rfl (by kernel_rfl) rfl rfl rfl rfl (gv_f _) (fun hg117 _ => (rd_index tS23 (gvx rfl hg117) (gvx rfl hg117) (hv0.of_old hm110) (gO_t h119 hg117))) ?_
          refine s_rpg (i := 10) rfl (by kernel_rfl) rfl rfl rfl rfl (gv_f _) (fun hg121 _ => (rd_fld tF29_0 (gvx rfl hg121))) ?_
          refine s_rdg (i := 11) rfl (by kernel_rfl) rfl rfl rfl rfl (gv_f _) (fun hg122 => (fun _ hS => by rw [hS]; exact (rd_ld1 tO3 (gvx rfl hg122) ((hv0.of_old hm110).cells (gO_t h119 hg122)) (off := 0) rfl))) rfl ?_
          refine s_rpg (i := 12) rfl (by kernel_rfl) rfl rfl rfl rfl (gv_f _) (fun hg123 _ => (rd_move rfl)) ?_
          refine s_rpg (i := 13) rfl (by kernel_rfl) rfl rfl rfl rfl (gv_f _) (fun hg124 _ => (rd_move rfl)) ?_
          obtain ⟨x126, h127, q128⟩ := ob q120; clear q120
          refine s_rpg (i := 14) rfl (by kernel_rfl) rfl rfl rfl rfl (gv_f _) (fun hg125 _ => (rd_index tS23 (gvx rfl hg125) (gvx rfl hg125) (hv0.of_old hm110) (gO_t h127 hg125))) ?_
          refine s_rpg (i := 15) rfl (by kernel_rfl) rfl rfl rfl rfl (gv_f _) (fun hg129 _ => (rd_fld tF29_1 (gvx rfl hg129))) ?_
          refine s_rdg (i := 16) rfl (by kernel_rfl) rfl rfl rfl rfl (gv_f _) (fun hg130 => (fun _ hS => by rw [hS]; exact (rd_ld1 tO3 (gvx rfl hg130) ((hv0.of_old hm110).cells (gO_t h127 hg130)) (off := 1) rfl))) rfl ?_
          refine s_rpg (i := 17) rfl (by kernel_rfl) rfl rfl rfl rfl (gv_f _) (fun hg131 _ => (rd_geq (gvx rfl hg131) (gvx rfl hg131))) ?_
          refine s_rp (i := 18) rfl (by kernel_rfl) rfl (fun _ => (rd_or rfl (fun hc132 => (gvx rfl (bnotIt hc132))))) ?_
          refine s_rp (i := 19) rfl (by kernel_rfl) rfl (fun _ => (rd_move rfl)) ?_
          refine s_rpg (i := 20) rfl (by kernel_rfl) rfl rfl rfl rfl (gv_f _) (fun hg133 _ => (rd_move rfl)) ?_
          refine s_rpg (i := 21) rfl (by kernel_rfl) rfl rfl rfl rfl (gv_f _) (fun hg134 _ => (rd_move rfl)) ?_
          obtain ⟨x136, h137, q138⟩ := ob q128; clear q128
          refine s_rpg (i := 22) rfl (by kernel_rfl) rfl rfl rfl rfl (gv_f _) (fun hg135 _ => (rd_index tS23 (gvx rfl hg135) (gvx rfl hg135) (hv0.of_old hm110) (gO_t h137 hg135))) ?_
          refine s_rpg (i := 23) rfl (by kernel_rfl) rfl rfl rfl rfl (gv_f _) (fun hg139 _ => (rd_fld tF29_1 (gvx rfl hg139))) ?_
          refine s_rdg (i := 24) rfl (by kernel_rfl) rfl rfl rfl rfl (gv_f _) (fun hg140 => (fun _ hS => by rw [hS]; exact (rd_ld1 tO3 (gvx rfl hg140) ((hv0.of_old hm110).cells (gO_t h137 hg140)) (off := 1) rfl))) rfl ?_
          refine s_rpg (i := 25) rfl (by kernel_rfl) rfl rfl rfl rfl (gv_f _) (fun hg141 _ => (rd_gtr (gvx rfl hg141) rfl)) ?_
          refine s_rp (i := 26) rfl (by kernel_rfl) rfl (fun _ => (rd_or rfl (fun hc142 => (gvx rfl (bnotIt hc142))))) ?_
          refine s_nil (by kernel_rfl) ?_
          refine qn_then ?_
          obtain ⟨hb143, q144⟩ | ⟨hb143, q144⟩ := oi q138 <;> clear q138
          · refine cw_t rfl hb143 ?_
            refine cw_seq ?_
            refine cw_region ?_
            refine t_rd rfl (rd_assign rfl) ?_
            refine rwt_nil ?_
            refine qn_then ?_
            refine cw_ret ?_
            refine qr_block (qr_then (qr_then ?_))
            obtain rfl := hr99 _ (os q144)
            refine .inl (⟨_, rfl, ⟨rfl, ?_⟩⟩)
            exact ret1 rfl rfl ⟨rfl, (hm110.pick [] (by decide) rfl)⟩
          · refine cw_f rfl hb143 ?_
            refine cw_skip ?_
            refine qn_block (qn_then ?_)
            refine cw_region ?_
            refine t_rd rfl (rd_move rfl) ?_
            obtain ⟨x145, h146, q147⟩ := ob q144; clear q144
            refine t_rd rfl (rd_add64 h146 rfl rfl) ?_
            refine t_rd rfl (rd_assign rfl) ?_
            refine rwt_nil ?_
            refine qn_then ?_
            refine ⟨_, (os q147), (by repeat (first | exact Sub.nil _ | refine Sub.cons rfl ?_)), (hm110.pick [] (by decide) rfl)⟩
        · refine cw_f rfl hb106 ?_
          refine cw_exit ?_
          refine qx_then (qx_then ?_)
          obtain rfl := hr99 _ (os q107)
          exact .inr (⟨_, rfl, ⟨rfl, (by repeat (first | exact Sub.nil _ | refine Sub.cons rfl ?_)), (hm105.pick [] (by decide) rfl)⟩⟩)
      · skip
        intro e env148 w149 hX150
        rcases hX150 with hX150 | hX150
        · obtain ⟨p152, rfl, hX150⟩ := hX150
          obtain ⟨rfl, hq154⟩ := hX150
          exact qr_block (qr_then ((by have e := os q102; subst e; exact hq154)))
        · obtain ⟨p155, rfl, hX150⟩ := hX150
          obtain ⟨rfl, hs156, hm157⟩ := hX150
          refine qx_same (qn_then ?_)
          refine cw_sub hs156 ?_
          refine cw_seq ?_
          refine cw_region ?_
          refine t_rd rfl (rd_assign rfl) ?_
          refine rwt_nil ?_
          refine qn_then ?_
          refine cw_ret ?_
          obtain rfl := os q102
          exact ret1 rfl rfl ⟨rfl, (hm157.pick [] (by decide) rfl)⟩

theorem r39_order_ok {N : Nat} {a0 : List T_Task} {res : List Int} (h : r39_order N a0 = some res) {w : World} {v0 : Value} (hv0 : Sl (Old w No) w v0 a0) :
    CallsR Try.prog 20 [v0] w (fun u w' => ∃ (y0 : Value), u = y0 ∧ Mem w No [ownL 3 y0 (res : List Int)] w') := by
  unfold r39_order at h
  refine fn_ok Try.func20 rfl rfl rfl ?_
  have hm0 := Mem.nil w
  refine cw_seq ?_
  refine cw_region ?_
  refine t_rd rfl (rd_assign rfl) ?_
  refine rwt_nil ?_
  refine qn_then ?_
  refine cw_seq ?_
  refine cw_region ?_
  refine t_rd rfl (rd_assign rfl) ?_
  refine rwt_nil ?_
  refine qn_then ?_
  refine cw_seq ?_
  refine cw_seq ?_
  refine cw_region ?_
  refine t_rd rfl (rd_assign rfl) ?_
  refine rwt_nil ?_
  refine qn_then ?_
  refine cw_block ?_
  have hm160 := hm0.addNil (α := Int) 3
  obtain ⟨r494, hit495, q496⟩ := ob h; clear h
  refine cw_loop2 (I := fun q envq wq => ∃ (v487 : Value), Sub [(0, v0), (3, v487), (4, (Value.int .i64 q.1))] envq ∧ Mem w No [ownL 3 v487 (q.2 : List Int)] wq) (X := fun eq envq wq => eq = .exit 0 ∧ ∃ (v484 : Value), Sub [(3, v484)] envq ∧ Mem w No [ownL 3 v484 (r494 : List Int)] wq) hit495 ⟨(Value.slice none 0 0), (by repeat (first | exact Sub.nil _ | refine Sub.cons rfl ?_)), (hm160.pick [0] (by decide) rfl)⟩ ?_ ?_
  · rintro ⟨i485, l486⟩ x489 env490 w491 hf492 hr493 ⟨v487, hs_, hm_⟩
    have hs_ : Sub [(0, v0), (3, v487), (4, (Value.int .i64 i485))] env490 := hs_
    have hm497 : Mem w No [ownL 3 v487 (l486 : List Int)] w491 := hm_
    refine cw_sub hs_ ?_
    clear hs_ hm_ q496
    have h : r39_order_l4 N a0 i485 l486 = some x489 := hf492
    clear hf492
    refine cw_seq ?_
    refine cw_seq ?_
    refine cw_region ?_
    refine t_rd rfl (rd_move rfl) ?_
    refine t_rd rfl (rd_move rfl) ?_
    refine t_rd rfl (rd_lenS tS23 rfl (hv0.of_old hm497)) ?_
    refine t_rd rfl (rd_lss rfl rfl) ?_
    refine rwt_nil ?_
    refine qn_then ?_
    obtain ⟨hb498, q499⟩ | ⟨hb498, q499⟩ := oi h <;> clear h
    · refine cw_t rfl hb498 ?_
      refine cw_skip ?_
      refine qn_then ?_
      refine cw_seq ?_
      refine cw_block ?_
      refine cw_seq ?_
      refine cw_region ?_
      refine t_rd rfl (rd_move rfl) ?_
      refine t_rd rfl (rd_lenS tS22 rfl (hm497.sl 0 rfl)) ?_
      refine t_rd rfl (rd_assign rfl) ?_
      refine rwt_nil ?_
      refine qn_then ?_
      refine cw_seq ?_
      refine cw_block ?_
      obtain ⟨r583, hit584, q585⟩ := ob q499; clear q499
      refine cw_loop2 (I := fun q envq wq => Sub [(0, v0), (3, v487), (4, (Value.int .i64 i485)), (5, (Value.int .i64 q))] envq ∧ Mem w No [ownL 3 v487 (l486 : List Int)] wq) (X := fun eq envq wq => eq = .exit 2 ∧ Sub [(0, v0), (3, v487), (4, (Value.int .i64 i485)), (5, (Value.int .i64 r583))] envq ∧ Mem w No [ownL 3 v487 (l486 : List Int)] wq) hit584 ⟨(by repeat (first | exact Sub.nil _ | refine Sub.cons rfl ?_)), (hm497.pick [0] (by decide) rfl)⟩ ?_ ?_
      · rintro i576 x578 env579 w580 hf581 hr582 ⟨hs_, hm_⟩
        have hs_ : Sub [(0, v0), (3, v487), (4, (Value.int .i64 i485)), (5, (Value.int .i64 i576))] env579 := hs_
        have hm586 : Mem w No [ownL 3 v487 (l486 : List Int)] w580 := hm_
        refine cw_sub hs_ ?_
        clear hs_ hm_ q585
        have h : r39_order_l5 N a0 i485 l486 i576 = some x578 := hf581
        clear hf581
        refine cw_seq ?_
        refine cw_seq ?_
        obtain ⟨w588, he590⟩ : ∃ q, q = w580.drew := ⟨_, rfl⟩
        have hm589 := hm586.drew; rw [← he590] at hm589
        refine cw_region_s (fun q => q = w588) (cls [] []) mixed ?_
        rintro _ rfl; rw [← he590]
        refine s_rp (i := 0) rfl (by kernel_rfl) rfl (fun _ => (rd_move rfl)) ?_
        refine s_rp (i := 1) rfl (by kernel_rfl) rfl (fun _ => (rd_gtr rfl rfl)) ?_
        refine s_rp (i := 2) rfl (by kernel_rfl) rfl (fun _ => (rd_move rfl)) ?_
        refine s_rpg (i := 3) rfl (by kernel_rfl) rfl rfl rfl rfl (gv_t _) (fun hg591 _ => (rd_move rfl)) ?_
        refine s_rpg (i := 4) rfl (by kernel_rfl) rfl rfl rfl rfl (gv_t _) (fun hg592 _ => (rd_move rfl)) ?_
        refine s_rpg (i := 5) rfl (by kernel_rfl) rfl rfl rfl rfl (gv_t _) (fun hg593 _ => (rd_move rfl)) ?_
        obtain ⟨x595, h596, q597⟩ := ob h; clear h
        refine s_rpg (i := 6) rfl (by kernel_rfl) rfl rfl rfl rfl (gv_t _) (fun hg594 _ => (rd_sub64 (gO_t h596 hg594) (gvx rfl hg594) rfl)) ?_
        obtain ⟨x599, h600, q601⟩ := ob q597; clear q597
        refine s_rpg (i := 7) rfl (by kernel_rfl) rfl rfl rfl rfl (gv_t _) (fun hg598 _ => (rd_index tS22 (gvx rfl hg598) (gvx rfl hg598) (hm589.sl 0 rfl) (gO_t h600 hg598))) ?_
        refine s_rdg (i := 8) rfl (by kernel_rfl) rfl rfl rfl rfl (gv_t _) (fun hg602 => (fun _ hS => by rw [hS]; exact (rd_ld1 tO3 (gvx rfl hg602) ((hm589.sl 0 rfl).cells (gO_t h600 hg602)) (off := 0) rfl))) rfl ?_
        obtain ⟨x604, h605, q606⟩ := ob q601; clear q601
        refine s_rpg (i := 9) rfl (by kernel_rfl) rfl rfl rfl rfl (gv_t _) (fun hg603 _ => (rd_index tS23 (gvx rfl hg603) (gvx rfl hg603) (hv0.of_old hm589) (gO_t h605 hg603))) ?_
        refine s_rpg (i := 10) rfl (by kernel_rfl) rfl rfl rfl rfl (gv_t _) (fun hg607 _ => (rd_fld tF29_0 (gvx rfl hg607))) ?_
        refine s_rdg (i := 11) rfl (by kernel_rfl) rfl rfl rfl rfl (gv_t _) (fun hg608 => (fun _ hS => by rw [hS]; exact (rd_ld1 tO3 (gvx rfl hg608) ((hv0.of_old hm589).cells (gO_t h605 hg608)) (off := 0) rfl))) rfl ?_
        refine s_rpg (i := 12) rfl (by kernel_rfl) rfl rfl rfl rfl (gv_t _) (fun hg609 _ => (rd_move rfl)) ?_
        refine s_rpg (i := 13) rfl (by kernel_rfl) rfl rfl rfl rfl (gv_t _) (fun hg610 _ => (rd_move rfl)) ?_
        obtain ⟨x612, h613, q614⟩ := ob q606; clear q606
        refine s_rpg (i := 14) rfl (by kernel_rfl) rfl rfl rfl rfl (gv_t _) (fun hg611 _ => (rd_index tS23 (gvx rfl hg611) (gvx rfl hg611) (hv0.of_old hm589) (gO_t h613 hg611))) ?_
        refine s_rpg (i := 15) rfl (by kernel_rfl) rfl rfl rfl rfl (gv_t _) (fun hg615 _ => (rd_fld tF29_0 (gvx rfl hg615))) ?_
        refine s_rdg (i := 16) rfl (by kernel_rfl) rfl rfl rfl rfl (gv_t _) (fun hg616 => (fun _ hS => by rw [hS]; exact (rd_ld1 tO3 (gvx rfl hg616) ((hv0.of_old hm589).cells (gO_t h613 hg616)) (off := 0) rfl))) rfl ?_
        refine s_rpg (i := 17) rfl (by kernel_rfl) rfl rfl rfl rfl (gv_t _) (fun hg617 _ => (rd_gtr (gvx rfl hg617) (gvx rfl hg617))) ?_
        refine s_rp (i := 18) rfl (by kernel_rfl) rfl (fun _ => (rd_and rfl (fun hc618 => (gvx rfl hc618)))) ?_
        refine s_nil (by kernel_rfl) ?_
        refine qn_then ?_
        obtain ⟨hb619, q620⟩ | ⟨hb619, q620⟩ := oi q614 <;> clear q614
        · refine cw_t rfl hb619 ?_
          refine cw_skip ?_
          refine qn_then ?_
          refine cw_block ?_
          refine cw_region ?_
          refine t_rd rfl (rd_move rfl) ?_
          obtain ⟨x621, h622, q623⟩ := ob q620; clear q620
          refine t_rd rfl (rd_sub64 h622 rfl rfl) ?_
          refine t_rd rfl (rd_assign rfl) ?_
          refine rwt_nil ?_
          refine qn_block (qn_then ?_)
          refine ⟨_, (os q623), (by repeat (first | exact Sub.nil _ | refine Sub.cons rfl ?_)), (hm589.pick [0] (by decide) rfl)⟩
        · refine cw_f rfl hb619 ?_
          refine cw_exit ?_
          refine qx_then (qx_then ?_)
          obtain rfl := hr582 _ (os q620)
          exact ⟨rfl, (by repeat (first | exact Sub.nil _ | refine Sub.cons rfl ?_)), (hm589.pick [0] (by decide) rfl)⟩
      · skip
        intro e env624 w625 hX626
        obtain ⟨rfl, hs627, hm628⟩ := hX626
        refine qx_same (qn_then ?_)
        refine cw_sub hs627 ?_
        obtain ⟨w630, he632⟩ : ∃ q, q = w625.drew := ⟨_, rfl⟩
        have hm631 := hm628.drew; rw [← he632] at hm631
        refine cw_region_s (fun q => q = w630) (cls [] [5, 9, 10]) mixed ?_
        rintro _ rfl; rw [← he632]
        refine s_rp (i := 0) rfl (by kernel_rfl) rfl (fun _ => (rd_move rfl)) ?_
        refine s_rp (i := 1) rfl (by kernel_rfl) rfl (fun _ => (rd_move rfl)) ?_
        refine s_rp (i := 2) rfl (by kernel_rfl) rfl (fun _ => (rd_move rfl)) ?_
        obtain ⟨l633, h634, q635⟩ := ob q585; clear q585
        refine s_rp (i := 3) rfl (by kernel_rfl) rfl (fun _ => (rd_slcC tS22 rfl rfl rfl (hm631.sl 0 rfl) h634)) ?_
        refine s_rp (i := 4) rfl (by kernel_rfl) rfl (fun _ => (rd_move rfl)) ?_
        refine s_rp (i := 6) rfl (by kernel_rfl) rfl (fun _ => (rd_move rfl)) ?_
        refine s_rp (i := 7) rfl (by kernel_rfl) rfl (fun _ => (rd_move rfl)) ?_
        obtain ⟨l636, h637, q638⟩ := ob q635; clear q635
        refine s_rp (i := 8) rfl (by kernel_rfl) rfl (fun _ => (rd_slcL tS22 rfl rfl (hm631.sl 0 rfl) h637)) ?_
        refine s_ef (i := 5) rfl (by kernel_rfl) rfl (ef_bslice (l := ([i485] : List Int)) hm631 tS22 rfl (cs := #[(Value.int .i64 i485)]) (by unfold bsl; kernel_rfl) rfl rfl) (by decide) (fun _ _ _ q => absurd q (by decide)) ?_
        intro v639 w641 hm640
        obtain ⟨l642, h643, q644⟩ := ob q638; clear q638
        refine s_ef (i := 9) rfl (by kernel_rfl) rfl (ef_append (k := 0) hm640 tS22 tE3 rfl rfl rfl rfl ((hm640.sl 1 rfl).sub h637) h643) (by decide) (fun _ _ _ q => absurd q (by decide)) ?_
        intro v645 w647 hm646
        obtain ⟨l648, h649, q650⟩ := ob q644; clear q644
        refine s_ef (i := 10) rfl (by kernel_rfl) rfl (ef_appendC hm646 tS22 tE3 rfl rfl ((hm646.sl 1 rfl).subC h634) rfl (hm646.sl 0 rfl) h649) (by decide) (fun _ _ _ q => absurd q (by decide)) ?_
        intro v651 w653 hm652
        refine s_rp (i := 11) rfl (by kernel_rfl) rfl (fun _ => (rd_assign rfl)) ?_
        refine s_nil (by kernel_rfl) ?_
        refine qn_block (qn_then ?_)
        refine cw_region ?_
        refine t_rd rfl (rd_move rfl) ?_
        obtain ⟨x654, h655, q656⟩ := ob q650; clear q650
        refine t_rd rfl (rd_add64 h655 rfl rfl) ?_
        refine t_rd rfl (rd_assign rfl) ?_
        refine rwt_nil ?_
        refine qn_then ?_
        refine ⟨_, (os q656), v651, (by repeat (first | exact Sub.nil _ | refine Sub.cons rfl ?_)), (hm652.pick [0] (by decide) rfl)⟩
    · refine cw_f rfl hb498 ?_
      refine cw_exit ?_
      refine qx_then (qx_then ?_)
      obtain rfl := hr493 _ (os q499)
      exact ⟨rfl, v487, (by repeat (first | exact Sub.nil _ | refine Sub.cons rfl ?_)), (hm497.pick [0] (by decide) rfl)⟩
  · skip
    intro e env657 w658 hX659
    obtain ⟨rfl, v484, hs660, hm661⟩ := hX659
    refine qx_same (qn_then ?_)
    refine cw_sub hs660 ?_
    refine cw_seq ?_
    refine cw_region ?_
    refine t_rd rfl (rd_move rfl) ?_
    refine t_rd rfl (rd_assign rfl) ?_
    refine rwt_nil ?_
    refine qn_then ?_
    refine cw_ret ?_
    obtain rfl := os q496
    exact ret1 rfl rfl ⟨v484, rfl, (hm661.pick [0] (by decide) rfl)⟩

theorem r39_Excludes_ok {N : Nat} {a0 : T_Task} {a1 : T_Task} {a2 : Int} {res : Bool} (h : r39_Excludes N a0 a1 a2 = some res) {w : World}   :
    CallsR Try.prog 18 [(Value.agg (Flat.enc a0).toArray), (Value.agg (Flat.enc a1).toArray), (Value.int .i64 a2)] w (fun u w' => u = (Value.bool res) ∧ Mem w No [] w') := by
  unfold r39_Excludes at h
  refine fn_ok Try.func18 rfl rfl rfl ?_
  have hm0 := Mem.nil w
  refine cw_seq ?_
  refine cw_region ?_
  refine t_ef rfl (ef_box hm0 rfl rfl) ?_
  rintro _ w3 ⟨g1, rfl, hm2⟩
  refine t_ef rfl (ef_box hm2 rfl rfl) ?_
  rintro _ w6 ⟨g4, rfl, hm5⟩
  refine t_rd rfl (rd_assign rfl) ?_
  refine rwt_nil ?_
  refine qn_then ?_
  refine cw_seq ?_
  refine cw_region ?_
  refine t_rd rfl (rd_fld tF29_0 rfl) ?_
  refine t_rd rfl (rd_ld1 tO3 rfl (hm5.blk 1 rfl) (off := 0) rfl) ?_
  refine t_rd rfl (rd_fld tF29_1 rfl) ?_
  refine t_rd rfl (rd_ld1 tO3 rfl (hm5.blk 0 rfl) (off := 1) rfl) ?_
  refine t_rd rfl (rd_move rfl) ?_
  obtain ⟨x7, h8, q9⟩ := ob h; clear h
  refine t_rd rfl (rd_add64 h8 rfl rfl) ?_
  refine t_rd rfl (rd_lss rfl rfl) ?_
  refine t_rd rfl (rd_move rfl) ?_
  refine t_rdg rfl rfl rfl rfl (gv_t _) (fun hg10 => (rd_fld tF29_0 rfl)) ?_
  refine t_rdg rfl rfl rfl rfl (gv_t _) (fun hg11 => (rd_ld1 tO3 (gvx rfl hg11) (hm5.blk 0 rfl) (off := 0) rfl)) ?_
  refine t_rdg rfl rfl rfl rfl (gv_t _) (fun hg12 => (rd_fld tF29_1 rfl)) ?_
  refine t_rdg rfl rfl rfl rfl (gv_t _) (fun hg13 => (rd_ld1 tO3 (gvx rfl hg13) (hm5.blk 1 rfl) (off := 1) rfl)) ?_
  refine t_rdg rfl rfl rfl rfl (gv_t _) (fun hg14 => (rd_move rfl)) ?_
  obtain ⟨x16, h17, q18⟩ := ob q9; clear q9
  refine t_rdg rfl rfl rfl rfl (gv_t _) (fun hg15 => (rd_add64 (gO_t h17 hg15) (gvx rfl hg15) (gvx rfl hg15))) ?_
  refine t_rdg rfl rfl rfl rfl (gv_t _) (fun hg19 => (rd_lss (gvx rfl hg19) (gvx rfl hg19))) ?_
  refine t_rd rfl (rd_and rfl (fun hc20 => (gvx rfl hc20))) ?_
  refine t_rd rfl (rd_assign rfl) ?_
  refine rwt_nil ?_
  refine qn_then ?_
  refine cw_ret ?_
  obtain rfl := os q18
  exact ret1 rfl rfl ⟨rfl, (hm5.pick [] (by decide) rfl)⟩

theorem r39_Assign_ok {N : Nat} {a0 : List T_Task} {a1 : Int} {res : List Int × Int × Int} (h : r39_Assign N a0 a1 = some res) {w : World} {v0 : Value} (hv0 : Sl (Old w No) w v0 a0) :
    CallsR Try.prog 10 [v0, (Value.int .i64 a1)] w (fun u w' => ∃ (y0 : Value), u = (Value.tuple #[y0, (Value.int .i64 res.2.1), (Value.int .i64 res.2.2)]) ∧ Mem w No [ownL 3 y0 (res.1 : List Int)] w') := by
  unfold r39_Assign at h
  refine fn_ok Try.func10 rfl rfl rfl ?_
  have hm0 := Mem.nil w
  refine cw_seq ?_
  refine cw_region ?_
  refine t_rd rfl (rd_assign rfl) ?_
  refine t_rd rfl (rd_assign rfl) ?_
  refine t_rd rfl (rd_assign rfl) ?_
  refine rwt_nil ?_
  refine qn_then ?_
  refine cw_seq ?_
  refine cw_seq ?_
  refine cw_region ?_
  refine t_rd rfl (rd_move rfl) ?_
  refine t_rd rfl (rd_move rfl) ?_
  obtain ⟨r1, h2, q3⟩ := ob h; clear h
  refine t_ef rfl (ef_call tf19 rfl (r39_check_ok h2 (hv0.to_call hm0))) ?_
  rintro _ w5 ⟨e_, hm4⟩
  obtain rfl := e_.symm
  have hm6 := hm0.call hm4
  refine t_rd rfl (rd_assign rfl) ?_
  refine rwt_nil ?_
  refine qn_then ?_
  refine cw_seq ?_
  refine cw_region ?_
  refine t_rd rfl (rd_move rfl) ?_
  refine t_rd rfl (rd_neq rfl rfl) ?_
  refine rwt_nil ?_
  refine qn_then ?_
  obtain ⟨hb7, q8⟩ | ⟨hb7, q8⟩ := oi q3 <;> clear q3
  · refine cw_t rfl hb7 ?_
    refine cw_seq ?_
    refine cw_region ?_
    refine t_rd rfl (rd_move rfl) ?_
    refine t_rd rfl (rd_assign rfl) ?_
    refine t_rd rfl (rd_assign rfl) ?_
    refine t_rd rfl (rd_assign rfl) ?_
    refine rwt_nil ?_
    refine qn_then ?_
    refine cw_ret ?_
    refine qr_then ?_
    obtain rfl := os q8
    have hm9 := hm6.addNil (α := Int) 3
    exact ret3 rfl rfl rfl rfl ⟨(Value.slice none 0 0), rfl, (hm9.pick [0] (by decide) rfl)⟩
  · refine cw_f rfl hb7 ?_
    refine cw_skip ?_
    refine qn_then ?_
    refine cw_seq ?_
    refine cw_region ?_
    refine t_rd rfl (rd_move rfl) ?_
    refine t_rd rfl (rd_lenS tS23 rfl (hv0.of_old hm6)) ?_
    obtain ⟨l10, h11, q12⟩ := ob q8; clear q8
    refine t_ef rfl (ef_make hm6 tS22 tE3 rfl rfl rfl h11) ?_
    intro v13 w15 hm14
    refine t_rd rfl (rd_assign rfl) ?_
    refine rwt_nil ?_
    refine qn_then ?_
    refine cw_seq ?_
    refine cw_region ?_
    refine t_rd rfl (rd_assign rfl) ?_
    refine rwt_nil ?_
    refine qn_then ?_
    refine cw_seq ?_
    refine cw_region ?_
    refine t_rd rfl (rd_move rfl) ?_
    obtain ⟨r16, h17, q18⟩ := ob q12; clear q12
    refine t_ef rfl (ef_call tf20 rfl (r39_order_ok h17 (hv0.to_call hm14))) ?_
    rintro _ w21 ⟨v19, e_, hm20⟩
    obtain rfl := e_.symm
    have hm22 := hm14.call hm20
    refine t_rd rfl (rd_assign rfl) ?_
    refine rwt_nil ?_
    refine qn_then ?_
    refine cw_seq ?_
    refine cw_seq ?_
    refine cw_region ?_
    refine t_rd rfl (rd_assign rfl) ?_
    refine rwt_nil ?_
    refine qn_then ?_
    refine cw_block ?_
    obtain ⟨r457, hit458, q459⟩ := ob q18; clear q18
    refine cw_loop2 (I := fun q envq wq => Sub [(0, v0), (1, (Value.int .i64 a1)), (8, v13), (9, (Value.int .i64 q.1)), (10, v19), (11, (Value.int .i64 q.2.1))] envq ∧ Mem w No [ownL 3 v19 (r16 : List Int), ownL 3 v13 (q.2.2 : List Int)] wq) (X := fun eq envq wq => eq = .exit 0 ∧ Sub [(8, v13), (9, (Value.int .i64 r457.1))] envq ∧ Mem w No [ownL 3 v13 (r457.2 : List Int)] wq) hit458 ⟨(by repeat (first | exact Sub.nil _ | refine Sub.cons rfl ?_)), (hm22.pick [0, 1] (by decide) rfl)⟩ ?_ ?_
    · rintro ⟨i448, i449, l450⟩ x452 env453 w454 hf455 hr456 ⟨hs_, hm_⟩
      have hs_ : Sub [(0, v0), (1, (Value.int .i64 a1)), (8, v13), (9, (Value.int .i64 i448)), (10, v19), (11, (Value.int .i64 i449))] env453 := hs_
      have hm460 : Mem w No [ownL 3 v19 (r16 : List Int), ownL 3 v13 (l450 : List Int)] w454 := hm_
      refine cw_sub hs_ ?_
      clear hs_ hm_ q459
      have h : r39_Assign_l3 N a0 a1 r16 i448 i449 l450 = some x452 := hf455
      clear hf455
      refine cw_seq ?_
      refine cw_seq ?_
      refine cw_region ?_
      refine t_rd rfl (rd_move rfl) ?_
      refine t_rd rfl (rd_move rfl) ?_
      refine t_rd rfl (rd_lenS tS22 rfl (hm460.sl 0 rfl)) ?_
      refine t_rd rfl (rd_lss rfl rfl) ?_
      refine rwt_nil ?_
      refine qn_then ?_
      obtain ⟨hb461, q462⟩ | ⟨hb461, q462⟩ := oi h <;> clear h
      · refine cw_t rfl hb461 ?_
        refine cw_skip ?_
        refine qn_then ?_
        refine cw_seq ?_
        refine cw_block ?_
        refine cw_seq ?_
        refine cw_region ?_
        refine t_rd rfl (rd_assign rfl) ?_
        refine rwt_nil ?_
        refine qn_then ?_
        refine cw_seq ?_
        refine cw_seq ?_
        refine cw_region ?_
        refine t_rd rfl (rd_assign rfl) ?_
        refine rwt_nil ?_
        refine qn_then ?_
        refine cw_block ?_
        obtain ⟨r590, hit591, q592⟩ := ob q462; clear q462
        refine cw_loop2 (I := fun q envq wq => Sub [(0, v0), (1, (Value.int .i64 a1)), (8, v13), (9, (Value.int .i64 i448)), (10, v19), (11, (Value.int .i64 i449)), (12, (Value.int .i64 q.1)), (13, (Value.int .i64 q.2))] envq ∧ Mem w No [ownL 3 v19 (r16 : List Int), ownL 3 v13 (l450 : List Int)] wq) (X := fun eq envq wq => eq = .exit 2 ∧ Sub [(0, v0), (1, (Value.int .i64 a1)), (8, v13), (9, (Value.int .i64 i448)), (10, v19), (11, (Value.int .i64 i449)), (12, (Value.int .i64 r590))] envq ∧ Mem w No [ownL 3 v19 (r16 : List Int), ownL 3 v13 (l450 : List Int)] wq) hit591 ⟨(by repeat (first | exact Sub.nil _ | refine Sub.cons rfl ?_)), (hm460.pick [0, 1] (by decide) rfl)⟩ ?_ ?_
        · rintro ⟨i582, i583⟩ x585 env586 w587 hf588 hr589 ⟨hs_, hm_⟩
          have hs_ : Sub [(0, v0), (1, (Value.int .i64 a1)), (8, v13), (9, (Value.int .i64 i448)), (10, v19), (11, (Value.int .i64 i449)), (12, (Value.int .i64 i582)), (13, (Value.int .i64 i583))] env586 := hs_
          have hm593 : Mem w No [ownL 3 v19 (r16 : List Int), ownL 3 v13 (l450 : List Int)] w587 := hm_
          refine cw_sub hs_ ?_
          clear hs_ hm_ q592
          have h : r39_Assign_l4 N a0 a1 r16 i449 l450 i582 i583 = some x585 := hf588
          clear hf588
          refine cw_seq ?_
          refine cw_seq ?_
          refine cw_region ?_
          refine t_rd rfl (rd_move rfl) ?_
          refine t_rd rfl (rd_move rfl) ?_
          refine t_rd rfl (rd_lss rfl rfl) ?_
          refine rwt_nil ?_
          refine qn_then ?_
          obtain ⟨hb594, q595⟩ | ⟨hb594, q595⟩ := oi h <;> clear h
          · refine cw_t rfl hb594 ?_
            refine cw_skip ?_
            refine qn_then ?_
            refine cw_seq ?_
            refine cw_block ?_
            refine cw_seq ?_
            obtain ⟨w597, he599⟩ : ∃ q, q = w587.drew := ⟨_, rfl⟩
            have hm598 := hm593.drew; rw [← he599] at hm598
            refine cw_region_s (fun q => q = w597) (cls [] [25]) mixed ?_
            rintro _ rfl; rw [← he599]
            refine s_rp (i := 0) rfl (by kernel_rfl) rfl (fun _ => (rd_move rfl)) ?_
            refine s_rp (i := 1) rfl (by kernel_rfl) rfl (fun _ => (rd_move rfl)) ?_
            refine s_rp (i := 2) rfl (by kernel_rfl) rfl (fun _ => (rd_move rfl)) ?_
            obtain ⟨x600, h601, q602⟩ := ob q595; clear q595
            refine s_rp (i := 3) rfl (by kernel_rfl) rfl (fun _ => (rd_index tS22 rfl rfl (hm598.sl 0 rfl) h601)) ?_
            refine s_rd (i := 4) rfl (by kernel_rfl) rfl (fun _ hS => by rw [hS]; exact (rd_ld1 tO3 rfl ((hm598.sl 0 rfl).cells h601) (off := 0) rfl)) rfl ?_
            obtain ⟨x603, h604, q605⟩ := ob q602; clear q602
            refine s_rp (i := 5) rfl (by kernel_rfl) rfl (fun _ => (rd_index tS22 rfl rfl (hm598.sl 1 rfl) h604)) ?_
            refine s_rd (i := 6) rfl (by kernel_rfl) rfl (fun _ hS => by rw [hS]; exact (rd_ld1 tO3 rfl ((hm598.sl 1 rfl).cells h604) (off := 0) rfl)) rfl ?_
            refine s_rp (i := 7) rfl (by kernel_rfl) rfl (fun _ => (rd_move rfl)) ?_
            refine s_rp (i := 8) rfl (by kernel_rfl) rfl (fun _ => (rd_eql rfl rfl)) ?_
            refine s_rp (i := 9) rfl (by kernel_rfl) rfl (fun _ => (rd_move rfl)) ?_
            refine s_rpg (i := 10) rfl (by kernel_rfl) rfl rfl rfl rfl (gv_t _) (fun hg606 _ => (rd_move rfl)) ?_
            refine s_rpg (i := 11) rfl (by kernel_rfl) rfl rfl rfl rfl (gv_t _) (fun hg607 _ => (rd_move rfl)) ?_
            refine s_rpg (i := 12) rfl (by kernel_rfl) rfl rfl rfl rfl (gv_t _) (fun hg608 _ => (rd_move rfl)) ?_
            obtain ⟨x610, h611, q612⟩ := ob q605; clear q605
            refine s_rpg (i := 13) rfl (by kernel_rfl) rfl rfl rfl rfl (gv_t _) (fun hg609 _ => (rd_index tS22 (gvx rfl hg609) (gvx rfl hg609) (hm598.sl 0 rfl) (gO_t h611 hg609))) ?_
            refine s_rdg (i := 14) rfl (by kernel_rfl) rfl rfl rfl rfl (gv_t _) (fun hg613 => (fun _ hS => by rw [hS]; exact (rd_ld1 tO3 (gvx rfl hg613) ((hm598.sl 0 rfl).cells (gO_t h611 hg613)) (off := 0) rfl))) rfl ?_
            obtain ⟨x615, h616, q617⟩ := ob q612; clear q612
            refine s_rpg (i := 15) rfl (by kernel_rfl) rfl rfl rfl rfl (gv_t _) (fun hg614 _ => (rd_index tS23 (gvx rfl hg614) (gvx rfl hg614) (hv0.of_old hm598) (gO_t h616 hg614))) ?_
            refine s_rdg (i := 16) rfl (by kernel_rfl) rfl rfl rfl rfl (gv_t _) (fun hg618 => (fun _ hS => by rw [hS]; exact (rd_ld tA29 (gvx rfl hg618) ((hv0.of_old hm598).cells (gO_t h616 hg618)) rfl))) rfl ?_
            refine s_rpg (i := 17) rfl (by kernel_rfl) rfl rfl rfl rfl (gv_t _) (fun hg619 _ => (rd_move rfl)) ?_
            refine s_rpg (i := 18) rfl (by kernel_rfl) rfl rfl rfl rfl (gv_t _) (fun hg620 _ => (rd_move rfl)) ?_
            refine s_rpg (i := 19) rfl (by kernel_rfl) rfl rfl rfl rfl (gv_t _) (fun hg621 _ => (rd_move rfl)) ?_
            obtain ⟨x623, h624, q625⟩ := ob q617; clear q617
            refine s_rpg (i := 20) rfl (by kernel_rfl) rfl rfl rfl rfl (gv_t _) (fun hg622 _ => (rd_index tS22 (gvx rfl hg622) (gvx rfl hg622) (hm598.sl 0 rfl) (gO_t h624 hg622))) ?_
            refine s_rdg (i := 21) rfl (by kernel_rfl) rfl rfl rfl rfl (gv_t _) (fun hg626 => (fun _ hS => by rw [hS]; exact (rd_ld1 tO3 (gvx rfl hg626) ((hm598.sl 0 rfl).cells (gO_t h624 hg626)) (off := 0) rfl))) rfl ?_
            obtain ⟨x628, h629, q630⟩ := ob q625; clear q625
            refine s_rpg (i := 22) rfl (by kernel_rfl) rfl rfl rfl rfl (gv_t _) (fun hg627 _ => (rd_index tS23 (gvx rfl hg627) (gvx rfl hg627) (hv0.of_old hm598) (gO_t h629 hg627))) ?_
            refine s_rdg (i := 23) rfl (by kernel_rfl) rfl rfl rfl rfl (gv_t _) (fun hg631 => (fun _ hS => by rw [hS]; exact (rd_ld tA29 (gvx rfl hg631) ((hv0.of_old hm598).cells (gO_t h629 hg631)) rfl))) rfl ?_
            refine s_rpg (i := 24) rfl (by kernel_rfl) rfl rfl rfl rfl (gv_t _) (fun hg632 _ => (rd_move rfl)) ?_
            obtain ⟨r634, h635, q636⟩ := ob q630; clear q630
            refine s_efg (i := 25) rfl (by kernel_rfl) rfl rfl rfl rfl (R := (fun v w' => v = gV (decide (x603 = i582)) (Value.bool r634) ∧ Mem w597 No [] w')) (gv_t _) (fun hg633 => (ef_call tf18 (evc (gvx rfl hg633) (evc (gvx rfl hg633) (evc (gvx rfl hg633) evn))) (r39_Excludes_ok (gO_t h635 hg633))).mono (by rintro _ _ ⟨rfl, q⟩; exact ⟨(gV_t hg633).symm, q⟩)) (fun q => ⟨(gV_f q).symm, Mem.nil _⟩) (by decide) (fun _ _ _ q => absurd q (by decide)) ?_
            rintro _ w638 ⟨rfl, hm637⟩
            have hm639 := hm598.call hm637
            refine s_rp (i := 26) rfl (by kernel_rfl) rfl (fun _ => (rd_and rfl (fun hc640 => (gvx rfl hc640)))) ?_
            refine s_nil (by kernel_rfl) ?_
            refine qn_then ?_
            obtain ⟨hb641, q642⟩ | ⟨hb641, q642⟩ := oi q636 <;> clear q636
            · refine cw_t rfl hb641 ?_
              refine cw_seq ?_
              refine cw_region ?_
              refine t_rd rfl (rd_move rfl) ?_
              obtain ⟨x643, h644, q645⟩ := ob q642; clear q642
              refine t_rd rfl (rd_add64 h644 rfl rfl) ?_
              refine t_rd rfl (rd_assign rfl) ?_
              refine rwt_nil ?_
              refine qn_then ?_
              refine cw_region ?_
              refine t_rd rfl (rd_assign rfl) ?_
              refine rwt_nil ?_
              refine qn_block (qn_then ?_)
              refine cw_region ?_
              refine t_rd rfl (rd_move rfl) ?_
              obtain ⟨x646, h647, q648⟩ := ob q645; clear q645
              refine t_rd rfl (rd_add64 h647 rfl rfl) ?_
              refine t_rd rfl (rd_assign rfl) ?_
              refine rwt_nil ?_
              refine qn_then ?_
              refine ⟨_, (os q648), (by repeat (first | exact Sub.nil _ | refine Sub.cons rfl ?_)), (hm639.pick [0, 1] (by decide) rfl)⟩
            · refine cw_f rfl hb641 ?_
              refine cw_skip ?_
              refine qn_block (qn_then ?_)
              refine cw_region ?_
              refine t_rd rfl (rd_move rfl) ?_
              obtain ⟨x649, h650, q651⟩ := ob q642; clear q642
              refine t_rd rfl (rd_add64 h650 rfl rfl) ?_
              refine t_rd rfl (rd_assign rfl) ?_
              refine rwt_nil ?_
              refine qn_then ?_
              refine ⟨_, (os q651), (by repeat (first | exact Sub.nil _ | refine Sub.cons rfl ?_)), (hm639.pick [0, 1] (by decide) rfl)⟩
          · refine cw_f rfl hb594 ?_
            refine cw_exit ?_
            refine qx_then (qx_then ?_)
            obtain rfl := hr589 _ (os q595)
            exact ⟨rfl, (by repeat (first | exact Sub.nil _ | refine Sub.cons rfl ?_)), (hm593.pick [0, 1] (by decide) rfl)⟩
        · skip
          intro e env652 w653 hX654
          obtain ⟨rfl, hs655, hm656⟩ := hX654
          refine qx_same (qn_then ?_)
          refine cw_sub hs655 ?_
          refine cw_seq ?_
          refine cw_region ?_
          refine t_rd rfl (rd_move rfl) ?_
          refine t_rd rfl (rd_move rfl) ?_
          refine t_rd rfl (rd_move rfl) ?_
          obtain ⟨x657, h658, q659⟩ := ob q592; clear q592
          refine t_rd rfl (rd_index tS22 rfl rfl (hm656.sl 0 rfl) h658) ?_
          refine t_rd rfl (rd_ld1 tO3 rfl ((hm656.sl 0 rfl).cells h658) (off := 0) rfl) ?_
          refine t_rd rfl (rd_move rfl) ?_
          obtain ⟨x660, h661, q662⟩ := ob q659; clear q659
          refine t_rd rfl (rd_index tS22 rfl rfl (hm656.sl 1 rfl) h661) ?_
          refine t_ef0 (ef_stl (k := 1) (off := 0) (x' := r590) hm656 tO3 rfl rfl rfl rfl h661 rfl rfl) ?_
          intro _ w664 hm663
          refine rwt_nil ?_
          refine qn_then ?_
          refine cw_region ?_
          refine t_rd rfl (rd_move rfl) ?_
          refine t_rd rfl (rd_move rfl) ?_
          obtain ⟨x665, h666, q667⟩ := ob q662; clear q662
          refine t_rd rfl (rd_add64 h666 rfl rfl) ?_
          refine t_rd rfl (rd_max rfl rfl) ?_
          refine t_rd rfl (rd_assign rfl) ?_
          refine rwt_nil ?_
          refine qn_block (qn_then ?_)
          refine cw_region ?_
          refine t_rd rfl (rd_move rfl) ?_
          obtain ⟨x668, h669, q670⟩ := ob q667; clear q667
          refine t_rd rfl (rd_add64 h669 rfl rfl) ?_
          refine t_rd rfl (rd_assign rfl) ?_
          refine rwt_nil ?_
          refine qn_then ?_
          refine ⟨_, (os q670), (by repeat (first | exact Sub.nil _ | refine Sub.cons rfl ?_)), (hm663.pick [0, 1] (by decide) rfl)⟩
      · refine cw_f rfl hb461 ?_
        refine cw_exit ?_
        refine qx_then (qx_then ?_)
        obtain rfl := hr456 _ (os q462)
        exact ⟨rfl, (by repeat (first | exact Sub.nil _ | refine Sub.cons rfl ?_)), (hm460.pick [1] (by decide) rfl)⟩
    · skip
      intro e env671 w672 hX673
      obtain ⟨rfl, hs674, hm675⟩ := hX673
      refine qx_same (qn_then ?_)
      refine cw_sub hs674 ?_
      refine cw_seq ?_
      refine cw_region ?_
      refine t_rd rfl (rd_move rfl) ?_
      refine t_rd rfl (rd_move rfl) ?_
      refine t_rd rfl (rd_assign rfl) ?_
      refine t_rd rfl (rd_assign rfl) ?_
      refine t_rd rfl (rd_assign rfl) ?_
      refine rwt_nil ?_
      refine qn_then ?_
      refine cw_ret ?_
      obtain rfl := os q459
      exact ret3 rfl rfl rfl rfl ⟨v13, rfl, (hm675.pick [0] (by decide) rfl)⟩

theorem engine_check_ok {N : Nat} {a0 : List T_Task} {a1 : Int} {res : Int} (h : engine_check N a0 a1 = some res) {w : World} {v0 : Value} (hv0 : Sl (Old w No) w v0 a0) :
    CallsR Try.prog 24 [v0, (Value.int .i64 a1)] w (fun u w' => u = (Value.int .i64 res) ∧ Mem w No [] w') := by
  unfold engine_check at h
  refine fn_ok Try.func24 rfl rfl rfl ?_
  have hm0 := Mem.nil w
  refine cw_seq ?_
  refine cw_region ?_
  refine t_rd rfl (rd_assign rfl) ?_
  refine rwt_nil ?_
  refine qn_then ?_
  refine cw_seq ?_
  refine cw_seq ?_
  refine cw_region ?_
  refine t_rd rfl (rd_move rfl) ?_
  refine t_rd rfl (rd_lenS tS23 rfl (hv0.of_old hm0)) ?_
  refine t_rd rfl (rd_gtr rfl rfl) ?_
  refine rwt_nil ?_
  refine qn_then ?_
  obtain ⟨hb1, q2⟩ | ⟨hb1, q2⟩ := oi h <;> clear h
  · refine cw_t rfl hb1 ?_
    refine cw_seq ?_
    refine cw_region ?_
    refine t_rd rfl (rd_assign rfl) ?_
    refine rwt_nil ?_
    refine qn_then ?_
    refine cw_ret ?_
    refine qr_then ?_
    obtain rfl := os q2
    exact ret1 rfl rfl ⟨rfl, (hm0.pick [] (by decide) rfl)⟩
  · refine cw_f rfl hb1 ?_
    refine cw_skip ?_
    refine qn_then ?_
    refine cw_seq ?_
    refine cw_seq ?_
    refine cw_region ?_
    refine t_rd rfl (rd_move rfl) ?_
    refine t_rd rfl (rd_lss rfl rfl) ?_
    refine t_rd rfl (rd_move rfl) ?_
    refine t_rdg rfl rfl rfl rfl (gv_f _) (fun hg3 => (rd_move rfl)) ?_
    refine t_rdg rfl rfl rfl rfl (gv_f _) (fun hg4 => (rd_gtr (gvx rfl hg4) rfl)) ?_
    refine t_rd rfl (rd_or rfl (fun hc5 => (gvx rfl (bnotIt hc5)))) ?_
    refine rwt_nil ?_
    refine qn_then ?_
    obtain ⟨hb6, q7⟩ | ⟨hb6, q7⟩ := oi q2 <;> clear q2
    · refine cw_t rfl hb6 ?_
      refine cw_seq ?_
      refine cw_region ?_
      refine t_rd rfl (rd_assign rfl) ?_
      refine rwt_nil ?_
      refine qn_then ?_
      refine cw_ret ?_
      refine qr_then ?_
      obtain rfl := os q7
      exact ret1 rfl rfl ⟨rfl, (hm0.pick [] (by decide) rfl)⟩
    · refine cw_f rfl hb6 ?_
      refine cw_skip ?_
      refine qn_then ?_
      refine cw_seq ?_
      refine cw_seq ?_
      refine cw_region ?_
      refine t_rd rfl (rd_move rfl) ?_
      refine t_rd rfl (rd_lenS tS23 rfl (hv0.of_old hm0)) ?_
      refine t_rd rfl (rd_move rfl) ?_
      refine rwt_nil ?_
      refine qn_then ?_
      refine cw_block ?_
      obtain ⟨r66, hit67, q68⟩ := ob q7; clear q7
      refine cw_loop2 (I := fun q envq wq => Sub [(16, v0), (17, (Value.int .i64 (List.length a0 : Int))), (18, (Value.int .i64 q))] envq ∧ Mem w No [] wq) (X := fun eq envq wq => (∃ p69, r66 = (Sum.inl p69) ∧ eq = .ret ∧ retQ Try.prog 38 Try.f24 (fun u w' => u = (Value.int .i64 p69) ∧ Mem w No [] w') .ret envq wq) ∨ (∃ p70, r66 = (Sum.inr p70) ∧ eq = .exit 0 ∧ Sub [] envq ∧ Mem w No [] wq)) hit67 ⟨(by repeat (first | exact Sub.nil _ | refine Sub.cons rfl ?_)), (hm0.pick [] (by decide) rfl)⟩ ?_ ?_
      · rintro i59 x61 env62 w63 hf64 hr65 ⟨hs_, hm_⟩
        have hs_ : Sub [(16, v0), (17, (Value.int .i64 (List.length a0 : Int))), (18, (Value.int .i64 i59))] env62 := hs_
        have hm71 : Mem w No [] w63 := hm_
        refine cw_sub hs_ ?_
        clear hs_ hm_ q68
        have h : engine_check_l1 N a0 i59 = some x61 := hf64
        clear hf64
        refine cw_seq ?_
        refine cw_region ?_
        refine t_rd rfl (rd_lss rfl rfl) ?_
        refine rwt_nil ?_
        refine qn_then ?_
        refine cw_seq ?_
        obtain ⟨hb72, q73⟩ | ⟨hb72, q73⟩ := oi h <;> clear h
        · refine cw_t rfl hb72 ?_
          refine cw_skip ?_
          refine qn_then ?_
          refine cw_seq ?_
          refine cw_block ?_
          refine cw_seq ?_
          refine cw_region ?_
          obtain ⟨x74, h75, q76⟩ := ob q73; clear q73
          refine t_rd rfl (rd_index tS23 rfl rfl (hv0.of_old hm71) h75) ?_
          refine t_rd rfl (rd_ld tA29 rfl ((hv0.of_old hm71).cells h75) rfl) ?_
          refine t_ef rfl (ef_alloc hm71 tZ29 rfl) ?_
          rintro _ w79 ⟨g77, rfl, hm78⟩
          refine t_ef0 (ef_stw (k := 0) hm78 tA29 rfl rfl (oc_cons rfl (oc_cons rfl oc_nil)) rfl rfl rfl) ?_
          intro _ w81 hm80
          refine rwt_nil ?_
          refine qn_then ?_
          refine cw_seq ?_
          refine cw_region ?_
          refine t_rd rfl (rd_fld tF29_0 rfl) ?_
          refine t_rd rfl (rd_ld1 tO3 rfl (hm80.blk 0 rfl) (off := 0) rfl) ?_
          refine t_rd rfl (rd_lss rfl rfl) ?_
          refine t_rd rfl (rd_move rfl) ?_
          refine t_rdg rfl rfl rfl rfl (gv_f _) (fun hg82 => (rd_fld tF29_0 rfl)) ?_
          refine t_rdg rfl rfl rfl rfl (gv_f _) (fun hg83 => (rd_ld1 tO3 (gvx rfl hg83) (hm80.blk 0 rfl) (off := 0) rfl)) ?_
          refine t_rdg rfl rfl rfl rfl (gv_f _) (fun hg84 => (rd_fld tF29_1 rfl)) ?_
          refine t_rdg rfl rfl rfl rfl (gv_f _) (fun hg85 => (rd_ld1 tO3 (gvx rfl hg85) (hm80.blk 0 rfl) (off := 1) rfl)) ?_
          refine t_rdg rfl rfl rfl rfl (gv_f _) (fun hg86 => (rd_geq (gvx rfl hg86) (gvx rfl hg86))) ?_
          refine t_rd rfl (rd_or rfl (fun hc87 => (gvx rfl (bnotIt hc87)))) ?_
          refine t_rd rfl (rd_move rfl) ?_
          refine t_rdg rfl rfl rfl rfl (gv_f _) (fun hg88 => (rd_fld tF29_1 rfl)) ?_
          refine t_rdg rfl rfl rfl rfl (gv_f _) (fun hg89 => (rd_ld1 tO3 (gvx rfl hg89) (hm80.blk 0 rfl) (off := 1) rfl)) ?_
          refine t_rdg rfl rfl rfl rfl (gv_f _) (fun hg90 => (rd_gtr (gvx rfl hg90) rfl)) ?_
          refine t_rd rfl (rd_or rfl (fun hc91 => (gvx rfl (bnotIt hc91)))) ?_
          refine rwt_nil ?_
          refine qn_then ?_
          obtain ⟨hb92, q93⟩ | ⟨hb92, q93⟩ := oi q76 <;> clear q76
          · refine cw_t rfl hb92 ?_
            refine cw_seq ?_
            refine cw_region ?_
            refine t_rd rfl (rd_assign rfl) ?_
            refine rwt_nil ?_
            refine qn_then ?_
            refine cw_ret ?_
            refine qr_block (qr_then (qr_then ?_))
            obtain rfl := hr65 _ (os q93)
            refine .inl (⟨_, rfl, ⟨rfl, ?_⟩⟩)
            exact ret1 rfl rfl ⟨rfl, (hm80.pick [] (by decide) rfl)⟩
          · refine cw_f rfl hb92 ?_
            refine cw_skip ?_
            refine qn_block (qn_then ?_)
            refine cw_region ?_
            obtain ⟨x94, h95, q96⟩ := ob q93; clear q93
            refine t_rd rfl (rd_add64 h95 rfl rfl) ?_
            refine t_rd rfl (rd_move rfl) ?_
            refine rwt_nil ?_
            refine qn_then ?_
            refine ⟨_, (os q96), (by repeat (first | exact Sub.nil _ | refine Sub.cons rfl ?_)), (hm80.pick [] (by decide) rfl)⟩
        · refine cw_f rfl hb72 ?_
          refine cw_exit ?_
          refine qx_then (qx_then ?_)
          obtain rfl := hr65 _ (os q73)
          exact .inr (⟨_, rfl, ⟨rfl, (by repeat (first | exact Sub.nil _ | refine Sub.cons rfl ?_)), (hm71.pick [] (by decide) rfl)⟩⟩)
      · skip
        intro e env97 w98 hX99
        rcases hX99 with hX99 | hX99
        · obtain ⟨p101, rfl, hX99⟩ := hX99
          obtain ⟨rfl, hq103⟩ := hX99
          exact qr_block (qr_then ((by have e := os q68; subst e; exact hq103)))
        · obtain ⟨p104, rfl, hX99⟩ := hX99
          obtain ⟨rfl, hs105, hm106⟩ := hX99
          refine qx_same (qn_then ?_)
          refine cw_sub hs105 ?_
          refine cw_seq ?_
          refine cw_region ?_
          refine t_rd rfl (rd_assign rfl) ?_
          refine rwt_nil ?_
          refine qn_then ?_
          refine cw_ret ?_
          obtain rfl := os q68
          exact ret1 rfl rfl ⟨rfl, (hm106.pick [] (by decide) rfl)⟩

theorem g_cmp_isNaN_int_ok {N : Nat} {a0 : Int} {res : Bool} (h : g_cmp_isNaN_int N a0 = some res) {w : World}   :
    CallsR Try.prog 30 [(Value.int .i64 a0)] w (fun u w' => u = (Value.bool res) ∧ Mem w No [] w') := by
  unfold g_cmp_isNaN_int at h
  refine fn_ok Try.func30 rfl rfl rfl ?_
  have hm0 := Mem.nil w
  refine cw_seq ?_
  refine cw_region ?_
  refine t_rd rfl (rd_assign rfl) ?_
  refine rwt_nil ?_
  refine qn_then ?_
  refine cw_seq ?_
  refine cw_region ?_
  refine t_rd rfl (rd_move rfl) ?_
  refine t_rd rfl (rd_move rfl) ?_
  refine t_rd rfl (rd_neq rfl rfl) ?_
  refine t_rd rfl (rd_assign rfl) ?_
  refine rwt_nil ?_
  refine qn_then ?_
  refine cw_ret ?_
  obtain rfl := os h
  exact ret1 rfl rfl ⟨rfl, (hm0.pick [] (by decide) rfl)⟩

theorem g_cmp_Compare_int_ok {N : Nat} {a0 : Int} {a1 : Int} {res : Int} (h : g_cmp_Compare_int N a0 a1 = some res) {w : World}   :
    CallsR Try.prog 28 [(Value.int .i64 a0), (Value.int .i64 a1)] w (fun u w' => u = (Value.int .i64 res) ∧ Mem w No [] w') := by
  unfold g_cmp_Compare_int at h
  refine fn_ok Try.func28 rfl rfl rfl ?_
  have hm0 := Mem.nil w
  refine cw_seq ?_
  refine cw_region ?_
  refine t_rd rfl (rd_assign rfl) ?_
  refine rwt_nil ?_
  refine qn_then ?_
  refine cw_seq ?_
  refine cw_region ?_
  refine t_rd rfl (rd_move rfl) ?_
  obtain ⟨r1, h2, q3⟩ := ob h; clear h
  refine t_ef rfl (ef_call tf30 rfl (g_cmp_isNaN_int_ok h2)) ?_
  rintro _ w5 ⟨e_, hm4⟩
  obtain rfl := e_.symm
  have hm6 := hm0.call hm4
  refine t_rd rfl (rd_assign rfl) ?_
  refine rwt_nil ?_
  refine qn_then ?_
  refine cw_seq ?_
  refine cw_region ?_
  refine t_rd rfl (rd_move rfl) ?_
  obtain ⟨r7, h8, q9⟩ := ob q3; clear q3
  refine t_ef rfl (ef_call tf30 rfl (g_cmp_isNaN_int_ok h8)) ?_
  rintro _ w11 ⟨e_, hm10⟩
  obtain rfl := e_.symm
  have hm12 := hm6.call hm10
  refine t_rd rfl (rd_assign rfl) ?_
  refine rwt_nil ?_
  refine qn_then ?_
  refine cw_seq ?_
  refine cw_seq ?_
  refine cw_region ?_
  refine t_rd rfl (rd_move rfl) ?_
  refine rwt_nil ?_
  refine qn_then ?_
  obtain ⟨hb13, q14⟩ | ⟨hb13, q14⟩ := oi q9 <;> clear q9
  · refine cw_t rfl hb13 ?_
    refine cw_seq ?_
    refine cw_seq ?_
    refine cw_region ?_
    refine t_rd rfl (rd_move rfl) ?_
    refine rwt_nil ?_
    refine qn_then ?_
    obtain ⟨hb15, q16⟩ | ⟨hb15, q16⟩ := oi q14 <;> clear q14
    · refine cw_t rfl hb15 ?_
      refine cw_seq ?_
      refine cw_region ?_
      refine t_rd rfl (rd_assign rfl) ?_
      refine rwt_nil ?_
      refine qn_then ?_
      refine cw_ret ?_
      refine qr_then (qr_then ?_)
      obtain rfl := os q16
      exact ret1 rfl rfl ⟨rfl, (hm12.pick [] (by decide) rfl)⟩
    · refine cw_f rfl hb15 ?_
      refine cw_skip ?_
      refine qn_then ?_
      refine cw_seq ?_
      refine cw_region ?_
      refine t_rd rfl (rd_assign rfl) ?_
      refine rwt_nil ?_
      refine qn_then ?_
      refine cw_ret ?_
      refine qr_then ?_
      obtain rfl := os q16
      exact ret1 rfl rfl ⟨rfl, (hm12.pick [] (by decide) rfl)⟩
  · refine cw_f rfl hb13 ?_
    refine cw_skip ?_
    refine qn_then ?_
    refine cw_seq ?_
    refine cw_seq ?_
    refine cw_region ?_
    refine t_rd rfl (rd_move rfl) ?_
    refine rwt_nil ?_
    refine qn_then ?_
    obtain ⟨hb17, q18⟩ | ⟨hb17, q18⟩ := oi q14 <;> clear q14
    · refine cw_t rfl hb17 ?_
      refine cw_seq ?_
      refine cw_region ?_
      refine t_rd rfl (rd_assign rfl) ?_
      refine rwt_nil ?_
      refine qn_then ?_
      refine cw_ret ?_
      refine qr_then ?_
      obtain rfl := os q18
      exact ret1 rfl rfl ⟨rfl, (hm12.pick [] (by decide) rfl)⟩
    · refine cw_f rfl hb17 ?_
      refine cw_skip ?_
      refine qn_then ?_
      refine cw_seq ?_
      refine cw_seq ?_
      refine cw_region ?_
      refine t_rd rfl (rd_move rfl) ?_
      refine t_rd rfl (rd_move rfl) ?_
      refine t_rd rfl (rd_lss rfl rfl) ?_
      refine rwt_nil ?_
      refine qn_then ?_
      obtain ⟨hb19, q20⟩ | ⟨hb19, q20⟩ := oi q18 <;> clear q18
      · refine cw_t rfl hb19 ?_
        refine cw_seq ?_
        refine cw_region ?_
        refine t_rd rfl (rd_assign rfl) ?_
        refine rwt_nil ?_
        refine qn_then ?_
        refine cw_ret ?_
        refine qr_then ?_
        obtain rfl := os q20
        exact ret1 rfl rfl ⟨rfl, (hm12.pick [] (by decide) rfl)⟩
      · refine cw_f rfl hb19 ?_
        refine cw_skip ?_
        refine qn_then ?_
        refine cw_seq ?_
        refine cw_seq ?_
        refine cw_region ?_
        refine t_rd rfl (rd_move rfl) ?_
        refine t_rd rfl (rd_move rfl) ?_
        refine t_rd rfl (rd_gtr rfl rfl) ?_
        refine rwt_nil ?_
        refine qn_then ?_
        obtain ⟨hb21, q22⟩ | ⟨hb21, q22⟩ := oi q20 <;> clear q20
        · refine cw_t rfl hb21 ?_
          refine cw_seq ?_
          refine cw_region ?_
          refine t_rd rfl (rd_assign rfl) ?_
          refine rwt_nil ?_
          refine qn_then ?_
          refine cw_ret ?_
          refine qr_then ?_
          obtain rfl := os q22
          exact ret1 rfl rfl ⟨rfl, (hm12.pick [] (by decide) rfl)⟩
        · refine cw_f rfl hb21 ?_
          refine cw_skip ?_
          refine qn_then ?_
          refine cw_seq ?_
          refine cw_region ?_
          refine t_rd rfl (rd_assign rfl) ?_
          refine rwt_nil ?_
          refine qn_then ?_
          refine cw_ret ?_
          obtain rfl := os q22
          exact ret1 rfl rfl ⟨rfl, (hm12.pick [] (by decide) rfl)⟩

theorem engine_order_1_ok {N : Nat} {a0 : Int} {a1 : Int} {a2 : List (List T_Task)} {res : Int} (h : engine_order_1 N a0 a1 a2 = some res) {w : World} {v2 : Value} (hv2 : Sl (Old w No) w v2 a2) :
    CallsR Try.prog 27 [(Value.int .i64 a0), (Value.int .i64 a1), (Value.pointer (some ⟨pB v2, pO v2, none⟩))] w (fun u w' => u = (Value.int .i64 res) ∧ Mem w No [] w') := by
  unfold engine_order_1 at h
  refine fn_ok Try.func27 rfl rfl rfl ?_
  obtain ⟨zs_a2, hn2⟩ := hv2.nest
  have hm0 := Mem.nil w
  obtain ⟨x1, h2, q3⟩ := ob h; clear h
  refine cw_seq ?_
  refine cw_region ?_
  refine t_rd rfl (rd_assign rfl) ?_
  refine rwt_nil ?_
  refine qn_then ?_
  refine cw_seq ?_
  obtain ⟨w5, he7⟩ : ∃ q, q = w.drew := ⟨_, rfl⟩
  have hm6 := hm0.drew; rw [← he7] at hm6
  refine cw_region_s (fun q => q = w5) (cls [] [10]) mixed ?_
  rintro _ rfl; rw [← he7]
  obtain ⟨zd8, hz9⟩ := (hn2.of_old hm6).row h2
  refine s_rd (i := 0) rfl (by kernel_rfl) rfl (fun _ hS => by rw [hS]; exact (rd_ld1 tO23 rfl ((hn2.of_old hm6).cells hz9) (off := 0) rfl)) rfl ?_
  refine s_rp (i := 1) rfl (by kernel_rfl) rfl (fun _ => (rd_move rfl)) ?_
  obtain ⟨x10, h11, q12⟩ := ob q3; clear q3
  refine s_rp (i := 2) rfl (by kernel_rfl) rfl (fun _ => (rd_index tS23 rfl rfl ((hn2.of_old hm6).get hz9 h2) h11)) ?_
  refine s_rp (i := 3) rfl (by kernel_rfl) rfl (fun _ => (rd_fld tF29_0 rfl)) ?_
  refine s_rd (i := 4) rfl (by kernel_rfl) rfl (fun _ hS => by rw [hS]; exact (rd_ld1 tO3 rfl (((hn2.of_old hm6).get hz9 h2).cells h11) (off := 0) rfl)) rfl ?_
  obtain ⟨zd13, hz14⟩ := (hn2.of_old hm6).row h2
  refine s_rd (i := 5) rfl (by kernel_rfl) rfl (fun _ hS => by rw [hS]; exact (rd_ld1 tO23 rfl ((hn2.of_old hm6).cells hz14) (off := 0) rfl)) rfl ?_
  refine s_rp (i := 6) rfl (by kernel_rfl) rfl (fun _ => (rd_move rfl)) ?_
  obtain ⟨x15, h16, q17⟩ := ob q12; clear q12
  refine s_rp (i := 7) rfl (by kernel_rfl) rfl (fun _ => (rd_index tS23 rfl rfl ((hn2.of_old hm6).get hz14 h2) h16)) ?_
  refine s_rp (i := 8) rfl (by kernel_rfl) rfl (fun _ => (rd_fld tF29_0 rfl)) ?_
  refine s_rd (i := 9) rfl (by kernel_rfl) rfl (fun _ hS => by rw [hS]; exact (rd_ld1 tO3 rfl (((hn2.of_old hm6).get hz14 h2).cells h16) (off := 0) rfl)) rfl ?_
  obtain ⟨r18, h19, q20⟩ := ob q17; clear q17
  refine s_ef (i := 10) rfl (by kernel_rfl) rfl (ef_call tf28 rfl (g_cmp_Compare_int_ok h19)) (by decide) (fun _ _ _ q => absurd q (by decide)) ?_
  rintro _ w22 ⟨e_, hm21⟩
  obtain rfl := e_.symm
  have hm23 := hm6.call hm21
  refine s_rp (i := 11) rfl (by kernel_rfl) rfl (fun _ => (rd_assign rfl)) ?_
  refine s_nil (by kernel_rfl) ?_
  refine qn_then ?_
  refine cw_ret ?_
  obtain rfl := os q20
  exact ret1 rfl rfl ⟨rfl, (hm23.pick [] (by decide) rfl)⟩

theorem g_slices_insertionSortCmpFunc_int_ok {N : Nat} {a0 : List Int} {a1 : Int} {a2 : Int} {a3 : List (List T_Task)} {res : List Int} (h : g_slices_insertionSortCmpFunc_int N a0 a1 a2 a3 = some res) {w : World} {v0 : Value} {v3 : Value} (hk0 : (ownL 3 v0 (a0 : List Int)).φ w) (hv3 : Sl (Old w (ownL 3 v0 (a0 : List Int)).D) w v3 a3) :
    CallsR Try.prog 31 [v0, (Value.int .i64 a1), (Value.int .i64 a2), (Value.func (.func 27) #[] #[(Value.pointer (some ⟨pB v3, pO v3, none⟩))])] w (fun u w' => u = (Value.tuple #[]) ∧ Mem w (ownL 3 v0 (a0 : List Int)).D [ownL 3 v0 (res : List Int)] w') := by
  unfold g_slices_insertionSortCmpFunc_int at h
  refine fn_ok Try.func31 rfl rfl rfl ?_
  obtain ⟨zs_a3, hn3⟩ := hv3.nest
  have hm0 := Mem.one hk0
  refine cw_seq ?_
  refine cw_region ?_
  refine t_rd rfl (rd_move rfl) ?_
  obtain ⟨x1, h2, q3⟩ := ob h; clear h
  refine t_rd rfl (rd_add64 h2 rfl rfl) ?_
  refine t_rd rfl (rd_assign rfl) ?_
  refine rwt_nil ?_
  refine qn_then ?_
  refine cw_block ?_
  obtain ⟨r443, hit444, q445⟩ := ob q3; clear q3
  refine cw_loop2 (I := fun q envq wq => Sub [(0, v0), (1, (Value.int .i64 a1)), (2, (Value.int .i64 a2)), (3, (Value.func (.func 27) #[] #[(Value.pointer (some ⟨pB v3, pO v3, none⟩))])), (8, (Value.int .i64 q.1))] envq ∧ Mem w (ownL 3 v0 (a0 : List Int)).D [ownL 3 v0 (q.2 : List Int)] wq) (X := fun eq envq wq => eq = .exit 0 ∧ Sub [] envq ∧ Mem w (ownL 3 v0 (a0 : List Int)).D [ownL 3 v0 (r443 : List Int)] wq) hit444 ⟨(by repeat (first | exact Sub.nil _ | refine Sub.cons rfl ?_)), (hm0.pick [0] (by decide) rfl)⟩ ?_ ?_
  · rintro ⟨i435, l436⟩ x438 env439 w440 hf441 hr442 ⟨hs_, hm_⟩
    have hs_ : Sub [(0, v0), (1, (Value.int .i64 a1)), (2, (Value.int .i64 a2)), (3, (Value.func (.func 27) #[] #[(Value.pointer (some ⟨pB v3, pO v3, none⟩))])), (8, (Value.int .i64 i435))] env439 := hs_
    have hm446 : Mem w (ownL 3 v0 (a0 : List Int)).D [ownL 3 v0 (l436 : List Int)] w440 := hm_
    refine cw_sub hs_ ?_
    clear hs_ hm_ q445
    have h : g_slices_insertionSortCmpFunc_int_l3 N a1 a2 a3 i435 l436 = some x438 := hf441
    clear hf441
    refine cw_seq ?_
    refine cw_seq ?_
    refine cw_region ?_
    refine t_rd rfl (rd_move rfl) ?_
    refine t_rd rfl (rd_move rfl) ?_
    refine t_rd rfl (rd_lss rfl rfl) ?_
    refine rwt_nil ?_
    refine qn_then ?_
    obtain ⟨hb447, q448⟩ | ⟨hb447, q448⟩ := oi h <;> clear h
    · refine cw_t rfl hb447 ?_
      refine cw_skip ?_
      refine qn_then ?_
      refine cw_seq ?_
      refine cw_block ?_
      refine cw_seq ?_
      refine cw_region ?_
      refine t_rd rfl (rd_move rfl) ?_
      refine t_rd rfl (rd_assign rfl) ?_
      refine rwt_nil ?_
      refine qn_then ?_
      refine cw_block ?_
      obtain ⟨r586, hit587, q588⟩ := ob q448; clear q448
      refine cw_loop2 (I := fun q envq wq => Sub [(0, v0), (1, (Value.int .i64 a1)), (2, (Value.int .i64 a2)), (3, (Value.func (.func 27) #[] #[(Value.pointer (some ⟨pB v3, pO v3, none⟩))])), (8, (Value.int .i64 i435)), (9, (Value.int .i64 q.1))] envq ∧ Mem w (ownL 3 v0 (a0 : List Int)).D [ownL 3 v0 (q.2 : List Int)] wq) (X := fun eq envq wq => eq = .exit 2 ∧ Sub [(0, v0), (1, (Value.int .i64 a1)), (2, (Value.int .i64 a2)), (3, (Value.func (.func 27) #[] #[(Value.pointer (some ⟨pB v3, pO v3, none⟩))])), (8, (Value.int .i64 i435))] envq ∧ Mem w (ownL 3 v0 (a0 : List Int)).D [ownL 3 v0 (r586 : List Int)] wq) hit587 ⟨(by repeat (first | exact Sub.nil _ | refine Sub.cons rfl ?_)), (hm446.pick [0] (by decide) rfl)⟩ ?_ ?_
      · rintro ⟨i578, l579⟩ x581 env582 w583 hf584 hr585 ⟨hs_, hm_⟩
        have hs_ : Sub [(0, v0), (1, (Value.int .i64 a1)), (2, (Value.int .i64 a2)), (3, (Value.func (.func 27) #[] #[(Value.pointer (some ⟨pB v3, pO v3, none⟩))])), (8, (Value.int .i64 i435)), (9, (Value.int .i64 i578))] env582 := hs_
        have hm589 : Mem w (ownL 3 v0 (a0 : List Int)).D [ownL 3 v0 (l579 : List Int)] w583 := hm_
        refine cw_sub hs_ ?_
        clear hs_ hm_ q588
        have h : g_slices_insertionSortCmpFunc_int_l4 N a1 a3 i578 l579 = some x581 := hf584
        clear hf584
        refine cw_seq ?_
        refine cw_seq ?_
        obtain ⟨w591, he593⟩ : ∃ q, q = w583.drew := ⟨_, rfl⟩
        have hm592 := hm589.drew; rw [← he593] at hm592
        refine cw_region_s (fun q => q = w591) (cls [] [14]) mixed ?_
        rintro _ rfl; rw [← he593]
        refine s_rp (i := 0) rfl (by kernel_rfl) rfl (fun _ => (rd_move rfl)) ?_
        refine s_rp (i := 1) rfl (by kernel_rfl) rfl (fun _ => (rd_move rfl)) ?_
        refine s_rp (i := 2) rfl (by kernel_rfl) rfl (fun _ => (rd_gtr rfl rfl)) ?_
        refine s_rp (i := 3) rfl (by kernel_rfl) rfl (fun _ => (rd_move rfl)) ?_
        refine s_rpg (i := 4) rfl (by kernel_rfl) rfl rfl rfl rfl (gv_t _) (fun hg594 _ => (rd_move rfl)) ?_
        refine s_rpg (i := 5) rfl (by kernel_rfl) rfl rfl rfl rfl (gv_t _) (fun hg595 _ => (rd_move rfl)) ?_
        refine s_rpg (i := 6) rfl (by kernel_rfl) rfl rfl rfl rfl (gv_t _) (fun hg596 _ => (rd_move rfl)) ?_
        obtain ⟨x598, h599, q600⟩ := ob h; clear h
        refine s_rpg (i := 7) rfl (by kernel_rfl) rfl rfl rfl rfl (gv_t _) (fun hg597 _ => (rd_index tS22 (gvx rfl hg597) (gvx rfl hg597) (hm592.sl 0 rfl) (gO_t h599 hg597))) ?_
        refine s_rdg (i := 8) rfl (by kernel_rfl) rfl rfl rfl rfl (gv_t _) (fun hg601 => (fun _ hS => by rw [hS]; exact (rd_ld1 tO3 (gvx rfl hg601) ((hm592.sl 0 rfl).cells (gO_t h599 hg601)) (off := 0) rfl))) rfl ?_
        refine s_rpg (i := 9) rfl (by kernel_rfl) rfl rfl rfl rfl (gv_t _) (fun hg602 _ => (rd_move rfl)) ?_
        refine s_rpg (i := 10) rfl (by kernel_rfl) rfl rfl rfl rfl (gv_t _) (fun hg603 _ => (rd_move rfl)) ?_
        obtain ⟨x605, h606, q607⟩ := ob q600; clear q600
        refine s_rpg (i := 11) rfl (by kernel_rfl) rfl rfl rfl rfl (gv_t _) (fun hg604 _ => (rd_sub64 (gO_t h606 hg604) (gvx rfl hg604) rfl)) ?_
        obtain ⟨x609, h610, q611⟩ := ob q607; clear q607
        refine s_rpg (i := 12) rfl (by kernel_rfl) rfl rfl rfl rfl (gv_t _) (fun hg608 _ => (rd_index tS22 (gvx rfl hg608) (gvx rfl hg608) (hm592.sl 0 rfl) (gO_t h610 hg608))) ?_
        refine s_rdg (i := 13) rfl (by kernel_rfl) rfl rfl rfl rfl (gv_t _) (fun hg612 => (fun _ hS => by rw [hS]; exact (rd_ld1 tO3 (gvx rfl hg612) ((hm592.sl 0 rfl).cells (gO_t h610 hg612)) (off := 0) rfl))) rfl ?_
        obtain ⟨r614, h615, q616⟩ := ob q611; clear q611
        refine s_efg (i := 14) rfl (by kernel_rfl) rfl rfl rfl rfl (R := (fun v w' => v = gV (decide (a1 < i578)) (Value.int .i64 r614) ∧ Mem w591 No [] w')) (gv_t _) (fun hg613 => (ef_callv tf27 (gvx rfl hg613) (evc (gvx rfl hg613) (evc (gvx rfl hg613) evn)) (engine_order_1_ok (gO_t h615 hg613) ((hn3.to_call hm592).sl))).mono (by rintro _ _ ⟨rfl, q⟩; exact ⟨(gV_t hg613).symm, q⟩)) (fun q => ⟨(gV_f q).symm, Mem.nil _⟩) (by decide) (fun _ _ _ q => absurd q (by decide)) ?_
        rintro _ w618 ⟨rfl, hm617⟩
        have hm619 := hm592.call hm617
        refine s_rpg (i := 15) rfl (by kernel_rfl) rfl rfl rfl rfl (gv_t _) (fun hg620 _ => (rd_lss (gvx rfl hg620) rfl)) ?_
        refine s_rp (i := 16) rfl (by kernel_rfl) rfl (fun _ => (rd_and rfl (fun hc621 => (gvx rfl hc621)))) ?_
        refine s_nil (by kernel_rfl) ?_
        refine qn_then ?_
        obtain ⟨hb622, q623⟩ | ⟨hb622, q623⟩ := oi q616 <;> clear q616
        · refine cw_t rfl hb622 ?_
          refine cw_skip ?_
          refine qn_then ?_
          refine cw_seq ?_
          refine cw_block ?_
          obtain ⟨w625, he627⟩ : ∃ q, q = w618.drew := ⟨_, rfl⟩
          have hm626 := hm619.drew; rw [← he627] at hm626
          refine cw_region_s (fun q => q = w625) (cls [] [15, 17]) mixed ?_
          rintro _ rfl; rw [← he627]
          refine s_rp (i := 0) rfl (by kernel_rfl) rfl (fun _ => (rd_move rfl)) ?_
          refine s_rp (i := 1) rfl (by kernel_rfl) rfl (fun _ => (rd_move rfl)) ?_
          refine s_rp (i := 2) rfl (by kernel_rfl) rfl (fun _ => (rd_move rfl)) ?_
          refine s_rp (i := 3) rfl (by kernel_rfl) rfl (fun _ => (rd_move rfl)) ?_
          obtain ⟨x628, h629, q630⟩ := ob q623; clear q623
          refine s_rp (i := 4) rfl (by kernel_rfl) rfl (fun _ => (rd_sub64 h629 rfl rfl)) ?_
          refine s_rp (i := 5) rfl (by kernel_rfl) rfl (fun _ => (rd_move rfl)) ?_
          refine s_rp (i := 6) rfl (by kernel_rfl) rfl (fun _ => (rd_move rfl)) ?_
          obtain ⟨x631, h632, q633⟩ := ob q630; clear q630
          refine s_rp (i := 7) rfl (by kernel_rfl) rfl (fun _ => (rd_sub64 h632 rfl rfl)) ?_
          obtain ⟨x634, h635, q636⟩ := ob q633; clear q633
          refine s_rp (i := 8) rfl (by kernel_rfl) rfl (fun _ => (rd_index tS22 rfl rfl (hm626.sl 0 rfl) h635)) ?_
          refine s_rd (i := 9) rfl (by kernel_rfl) rfl (fun _ hS => by rw [hS]; exact (rd_ld1 tO3 rfl ((hm626.sl 0 rfl).cells h635) (off := 0) rfl)) rfl ?_
          refine s_rp (i := 10) rfl (by kernel_rfl) rfl (fun _ => (rd_move rfl)) ?_
          refine s_rp (i := 11) rfl (by kernel_rfl) rfl (fun _ => (rd_move rfl)) ?_
          obtain ⟨x637, h638, q639⟩ := ob q636; clear q636
          refine s_rp (i := 12) rfl (by kernel_rfl) rfl (fun _ => (rd_index tS22 rfl rfl (hm626.sl 0 rfl) h638)) ?_
          refine s_rd (i := 13) rfl (by kernel_rfl) rfl (fun _ hS => by rw [hS]; exact (rd_ld1 tO3 rfl ((hm626.sl 0 rfl).cells h638) (off := 0) rfl)) rfl ?_
          obtain ⟨x640, h641, q642⟩ := ob q639; clear q639
          refine s_rp (i := 14) rfl (by kernel_rfl) rfl (fun _ => (rd_index tS22 rfl rfl (hm626.sl 0 rfl) h641)) ?_
          refine s_ef0 (i := 15) rfl (by kernel_rfl) (ef_stl (k := 0) (off := 0) (x' := x634) hm626 tO3 rfl rfl rfl rfl h641 rfl rfl) (by decide) (fun _ _ _ q => absurd q (by decide)) ?_
          intro _ w644 hm643
          obtain ⟨x645, h646, q647⟩ := ob q642; clear q642
          refine s_rp (i := 16) rfl (by kernel_rfl) rfl (fun _ => (rd_index tS22 rfl rfl (hm643.sl 0 rfl) h646)) ?_
          refine s_ef0 (i := 17) rfl (by kernel_rfl) (ef_stl (k := 0) (off := 0) (x' := x637) hm643 tO3 rfl rfl rfl rfl h646 rfl rfl) (by decide) (fun _ _ _ q => absurd q (by decide)) ?_
          intro _ w649 hm648
          refine s_nil (by kernel_rfl) ?_
          refine qn_block (qn_then ?_)
          refine cw_region ?_
          refine t_rd rfl (rd_move rfl) ?_
          obtain ⟨x650, h651, q652⟩ := ob q647; clear q647
          refine t_rd rfl (rd_sub64 h651 rfl rfl) ?_
          refine t_rd rfl (rd_assign rfl) ?_
          refine rwt_nil ?_
          refine qn_then ?_
          refine ⟨_, (os q652), (by repeat (first | exact Sub.nil _ | refine Sub.cons rfl ?_)), (hm648.pick [0] (by decide) rfl)⟩
        · refine cw_f rfl hb622 ?_
          refine cw_exit ?_
          refine qx_then (qx_then ?_)
          obtain rfl := hr585 _ (os q623)
          exact ⟨rfl, (by repeat (first | exact Sub.nil _ | refine Sub.cons rfl ?_)), (hm619.pick [0] (by decide) rfl)⟩
      · skip
        intro e env653 w654 hX655
        obtain ⟨rfl, hs656, hm657⟩ := hX655
        refine qx_same (qn_block (qn_then ?_))
        refine cw_sub hs656 ?_
        refine cw_region ?_
        refine t_rd rfl (rd_move rfl) ?_
        obtain ⟨x658, h659, q660⟩ := ob q588; clear q588
        refine t_rd rfl (rd_add64 h659 rfl rfl) ?_
        refine t_rd rfl (rd_assign rfl) ?_
        refine rwt_nil ?_
        refine qn_then ?_
        refine ⟨_, (os q660), (by repeat (first | exact Sub.nil _ | refine Sub.cons rfl ?_)), (hm657.pick [0] (by decide) rfl)⟩
    · refine cw_f rfl hb447 ?_
      refine cw_exit ?_
      refine qx_then (qx_then ?_)
      obtain rfl := hr442 _ (os q448)
      exact ⟨rfl, (by repeat (first | exact Sub.nil _ | refine Sub.cons rfl ?_)), (hm446.pick [0] (by decide) rfl)⟩
  · skip
    intro e env661 w662 hX663
    obtain ⟨rfl, hs664, hm665⟩ := hX663
    refine qx_same ?_
    obtain rfl := os q445
    refine retn ?_
    refine ret_sub hs664 ?_
    exact ret0 rfl ⟨rfl, (hm665.pick [0] (by decide) rfl)⟩

theorem g_slices_swapRangeCmpFunc_int_ok {N : Nat} {a0 : List Int} {a1 : Int} {a2 : Int} {a3 : Int} {a4 : List (List T_Task)} {res : List Int} (h : g_slices_swapRangeCmpFunc_int N a0 a1 a2 a3 a4 = some res) {w : World} {v0 : Value} {v4 : Value} (hk0 : (ownL 3 v0 (a0 : List Int)).φ w) (hv4 : Sl (Old w (ownL 3 v0 (a0 : List Int)).D) w v4 a4) :
    CallsR Try.prog 34 [v0, (Value.int .i64 a1), (Value.int .i64 a2), (Value.int .i64 a3), (Value.func (.func 27) #[] #[(Value.pointer (some ⟨pB v4, pO v4, none⟩))])] w (fun u w' => u = (Value.tuple #[]) ∧ Mem w (ownL 3 v0 (a0 : List Int)).D [ownL 3 v0 (res : List Int)] w') := by
  unfold g_slices_swapRangeCmpFunc_int at h
  refine fn_ok Try.func34 rfl rfl rfl ?_
  obtain ⟨zs_a4, hn4⟩ := hv4.nest
  have hm0 := Mem.one hk0
  refine cw_seq ?_
  refine cw_region ?_
  refine t_rd rfl (rd_assign rfl) ?_
  refine rwt_nil ?_
  refine qn_then ?_
  refine cw_block ?_
  obtain ⟨r86, hit87, q88⟩ := ob h; clear h
  refine cw_loop2 (I := fun q envq wq => Sub [(0, v0), (1, (Value.int .i64 a1)), (2, (Value.int .i64 a2)), (3, (Value.int .i64 a3)), (10, (Value.int .i64 q.1))] envq ∧ Mem w (ownL 3 v0 (a0 : List Int)).D [ownL 3 v0 (q.2 : List Int)] wq) (X := fun eq envq wq => eq = .exit 0 ∧ Sub [] envq ∧ Mem w (ownL 3 v0 (a0 : List Int)).D [ownL 3 v0 (r86 : List Int)] wq) hit87 ⟨(by repeat (first | exact Sub.nil _ | refine Sub.cons rfl ?_)), (hm0.pick [0] (by decide) rfl)⟩ ?_ ?_
  · rintro ⟨i78, l79⟩ x81 env82 w83 hf84 hr85 ⟨hs_, hm_⟩
    have hs_ : Sub [(0, v0), (1, (Value.int .i64 a1)), (2, (Value.int .i64 a2)), (3, (Value.int .i64 a3)), (10, (Value.int .i64 i78))] env82 := hs_
    have hm89 : Mem w (ownL 3 v0 (a0 : List Int)).D [ownL 3 v0 (l79 : List Int)] w83 := hm_
    refine cw_sub hs_ ?_
    clear hs_ hm_ q88
    have h : g_slices_swapRangeCmpFunc_int_l1 N a1 a2 a3 i78 l79 = some x81 := hf84
    clear hf84
    refine cw_seq ?_
    refine cw_seq ?_
    refine cw_region ?_
    refine t_rd rfl (rd_move rfl) ?_
    refine t_rd rfl (rd_move rfl) ?_
    refine t_rd rfl (rd_lss rfl rfl) ?_
    refine rwt_nil ?_
    refine qn_then ?_
    obtain ⟨hb90, q91⟩ | ⟨hb90, q91⟩ := oi h <;> clear h
    · refine cw_t rfl hb90 ?_
      refine cw_skip ?_
      refine qn_then ?_
      refine cw_seq ?_
      refine cw_block ?_
      obtain ⟨w93, he95⟩ : ∃ q, q = w83.drew := ⟨_, rfl⟩
      have hm94 := hm89.drew; rw [← he95] at hm94
      refine cw_region_s (fun q => q = w93) (cls [] [21, 23]) mixed ?_
      rintro _ rfl; rw [← he95]
      refine s_rp (i := 0) rfl (by kernel_rfl) rfl (fun _ => (rd_move rfl)) ?_
      refine s_rp (i := 1) rfl (by kernel_rfl) rfl (fun _ => (rd_move rfl)) ?_
      refine s_rp (i := 2) rfl (by kernel_rfl) rfl (fun _ => (rd_move rfl)) ?_
      obtain ⟨x96, h97, q98⟩ := ob q91; clear q91
      refine s_rp (i := 3) rfl (by kernel_rfl) rfl (fun _ => (rd_add64 h97 rfl rfl)) ?_
      refine s_rp (i := 4) rfl (by kernel_rfl) rfl (fun _ => (rd_move rfl)) ?_
      refine s_rp (i := 5) rfl (by kernel_rfl) rfl (fun _ => (rd_move rfl)) ?_
      refine s_rp (i := 6) rfl (by kernel_rfl) rfl (fun _ => (rd_move rfl)) ?_
      obtain ⟨x99, h100, q101⟩ := ob q98; clear q98
      refine s_rp (i := 7) rfl (by kernel_rfl) rfl (fun _ => (rd_add64 h100 rfl rfl)) ?_
      refine s_rp (i := 8) rfl (by kernel_rfl) rfl (fun _ => (rd_move rfl)) ?_
      refine s_rp (i := 9) rfl (by kernel_rfl) rfl (fun _ => (rd_move rfl)) ?_
      refine s_rp (i := 10) rfl (by kernel_rfl) rfl (fun _ => (rd_move rfl)) ?_
      obtain ⟨x102, h103, q104⟩ := ob q101; clear q101
      refine s_rp (i := 11) rfl (by kernel_rfl) rfl (fun _ => (rd_add64 h103 rfl rfl)) ?_
      obtain ⟨x105, h106, q107⟩ := ob q104; clear q104
      refine s_rp (i := 12) rfl (by kernel_rfl) rfl (fun _ => (rd_index tS22 rfl rfl (hm94.sl 0 rfl) h106)) ?_
      refine s_rd (i := 13) rfl (by kernel_rfl) rfl (fun _ hS => by rw [hS]; exact (rd_ld1 tO3 rfl ((hm94.sl 0 rfl).cells h106) (off := 0) rfl)) rfl ?_
      refine s_rp (i := 14) rfl (by kernel_rfl) rfl (fun _ => (rd_move rfl)) ?_
      refine s_rp (i := 15) rfl (by kernel_rfl) rfl (fun _ => (rd_move rfl)) ?_
      refine s_rp (i := 16) rfl (by kernel_rfl) rfl (fun _ => (rd_move rfl)) ?_
      obtain ⟨x108, h109, q110⟩ := ob q107; clear q107
      refine s_rp (i := 17) rfl (by kernel_rfl) rfl (fun _ => (rd_add64 h109 rfl rfl)) ?_
      obtain ⟨x111, h112, q113⟩ := ob q110; clear q110
      refine s_rp (i := 18) rfl (by kernel_rfl) rfl (fun _ => (rd_index tS22 rfl rfl (hm94.sl 0 rfl) h112)) ?_
      refine s_rd (i := 19) rfl (by kernel_rfl) rfl (fun _ hS => by rw [hS]; exact (rd_ld1 tO3 rfl ((hm94.sl 0 rfl).cells h112) (off := 0) rfl)) rfl ?_
      obtain ⟨x114, h115, q116⟩ := ob q113; clear q113
      refine s_rp (i := 20) rfl (by kernel_rfl) rfl (fun _ => (rd_index tS22 rfl rfl (hm94.sl 0 rfl) h115)) ?_
      refine s_ef0 (i := 21) rfl (by kernel_rfl) (ef_stl (k := 0) (off := 0) (x' := x105) hm94 tO3 rfl rfl rfl rfl h115 rfl rfl) (by decide) (fun _ _ _ q => absurd q (by decide)) ?_
      intro _ w118 hm117
      obtain ⟨x119, h120, q121⟩ := ob q116; clear q116
      refine s_rp (i := 22) rfl (by kernel_rfl) rfl (fun _ => (rd_index tS22 rfl rfl (hm117.sl 0 rfl) h120)) ?_
      refine s_ef0 (i := 23) rfl (by kernel_rfl) (ef_stl (k := 0) (off := 0) (x' := x111) hm117 tO3 rfl rfl rfl rfl h120 rfl rfl) (by decide) (fun _ _ _ q => absurd q (by decide)) ?_
      intro _ w123 hm122
      refine s_nil (by kernel_rfl) ?_
      refine qn_block (qn_then ?_)
      refine cw_region ?_
      refine t_rd rfl (rd_move rfl) ?_
      obtain ⟨x124, h125, q126⟩ := ob q121; clear q121
      refine t_rd rfl (rd_add64 h125 rfl rfl) ?_
      refine t_rd rfl (rd_assign rfl) ?_
      refine rwt_nil ?_
      refine qn_then ?_
      refine ⟨_, (os q126), (by repeat (first | exact Sub.nil _ | refine Sub.cons rfl ?_)), (hm122.pick [0] (by decide) rfl)⟩
    · refine cw_f rfl hb90 ?_
      refine cw_exit ?_
      refine qx_then (qx_then ?_)
      obtain rfl := hr85 _ (os q91)
      exact ⟨rfl, (by repeat (first | exact Sub.nil _ | refine Sub.cons rfl ?_)), (hm89.pick [0] (by decide) rfl)⟩
  · skip
    intro e env127 w128 hX129
    obtain ⟨rfl, hs130, hm131⟩ := hX129
    refine qx_same ?_
    obtain rfl := os q88
    refine retn ?_
    refine ret_sub hs130 ?_
    exact ret0 rfl ⟨rfl, (hm131.pick [0] (by decide) rfl)⟩

theorem g_slices_rotateCmpFunc_int_ok {N : Nat} {a0 : List Int} {a1 : Int} {a2 : Int} {a3 : Int} {a4 : List (List T_Task)} {res : List Int} (h : g_slices_rotateCmpFunc_int N a0 a1 a2 a3 a4 = some res) {w : World} {v0 : Value} {v4 : Value} (hk0 : (ownL 3 v0 (a0 : List Int)).φ w) (hv4 : Sl (Old w (ownL 3 v0 (a0 : List Int)).D) w v4 a4) :
    CallsR Try.prog 33 [v0, (Value.int .i64 a1), (Value.int .i64 a2), (Value.int .i64 a3), (Value.func (.func 27) #[] #[(Value.pointer (some ⟨pB v4, pO v4, none⟩))])] w (fun u w' => u = (Value.tuple #[]) ∧ Mem w (ownL 3 v0 (a0 : List Int)).D [ownL 3 v0 (res : List Int)] w') := by
  unfold g_slices_rotateCmpFunc_int at h
  refine fn_ok Try.func33 rfl rfl rfl ?_
  obtain ⟨zs_a4, hn4⟩ := hv4.nest
  have hm0 := Mem.one hk0
  refine cw_seq ?_
  refine cw_region ?_
  refine t_rd rfl (rd_move rfl) ?_
  refine t_rd rfl (rd_move rfl) ?_
  obtain ⟨x1, h2, q3⟩ := ob h; clear h
  refine t_rd rfl (rd_sub64 h2 rfl rfl) ?_
  refine t_rd rfl (rd_assign rfl) ?_
  refine rwt_nil ?_
  refine qn_then ?_
  refine cw_seq ?_
  refine cw_region ?_
  refine t_rd rfl (rd_move rfl) ?_
  refine t_rd rfl (rd_move rfl) ?_
  obtain ⟨x4, h5, q6⟩ := ob q3; clear q3
  refine t_rd rfl (rd_sub64 h5 rfl rfl) ?_
  refine t_rd rfl (rd_assign rfl) ?_
  refine rwt_nil ?_
  refine qn_then ?_
  refine cw_seq ?_
  refine cw_block ?_
  obtain ⟨r89, hit90, q91⟩ := ob q6; clear q6
  refine cw_loop2 (I := fun q envq wq => Sub [(0, v0), (2, (Value.int .i64 a2)), (4, (Value.func (.func 27) #[] #[(Value.pointer (some ⟨pB v4, pO v4, none⟩))])), (10, (Value.int .i64 q.1)), (11, (Value.int .i64 q.2.1))] envq ∧ Mem w (ownL 3 v0 (a0 : List Int)).D [ownL 3 v0 (q.2.2 : List Int)] wq) (X := fun eq envq wq => eq = .exit 0 ∧ Sub [(0, v0), (2, (Value.int .i64 a2)), (4, (Value.func (.func 27) #[] #[(Value.pointer (some ⟨pB v4, pO v4, none⟩))])), (10, (Value.int .i64 r89.1))] envq ∧ Mem w (ownL 3 v0 (a0 : List Int)).D [ownL 3 v0 (r89.2 : List Int)] wq) hit90 ⟨(by repeat (first | exact Sub.nil _ | refine Sub.cons rfl ?_)), (hm0.pick [0] (by decide) rfl)⟩ ?_ ?_
  · rintro ⟨i80, i81, l82⟩ x84 env85 w86 hf87 hr88 ⟨hs_, hm_⟩
    have hs_ : Sub [(0, v0), (2, (Value.int .i64 a2)), (4, (Value.func (.func 27) #[] #[(Value.pointer (some ⟨pB v4, pO v4, none⟩))])), (10, (Value.int .i64 i80)), (11, (Value.int .i64 i81))] env85 := hs_
    have hm92 : Mem w (ownL 3 v0 (a0 : List Int)).D [ownL 3 v0 (l82 : List Int)] w86 := hm_
    refine cw_sub hs_ ?_
    clear hs_ hm_ q91
    have h : g_slices_rotateCmpFunc_int_l1 N a2 a4 i80 i81 l82 = some x84 := hf87
    clear hf87
    refine cw_seq ?_
    refine cw_seq ?_
    refine cw_region ?_
    refine t_rd rfl (rd_move rfl) ?_
    refine t_rd rfl (rd_move rfl) ?_
    refine t_rd rfl (rd_neq rfl rfl) ?_
    refine rwt_nil ?_
    refine qn_then ?_
    obtain ⟨hb93, q94⟩ | ⟨hb93, q94⟩ := oi h <;> clear h
    · refine cw_t rfl hb93 ?_
      refine cw_skip ?_
      refine qn_then ?_
      refine cw_block ?_
      refine cw_seq ?_
      refine cw_region ?_
      refine t_rd rfl (rd_move rfl) ?_
      refine t_rd rfl (rd_move rfl) ?_
      refine t_rd rfl (rd_gtr rfl rfl) ?_
      refine rwt_nil ?_
      refine qn_then ?_
      obtain ⟨hb95, q96⟩ | ⟨hb95, q96⟩ := oi q94 <;> clear q94
      · refine cw_t rfl hb95 ?_
        refine cw_seq ?_
        refine cw_region ?_
        refine t_rd rfl (rd_move rfl) ?_
        refine t_rd rfl (rd_move rfl) ?_
        refine t_rd rfl (rd_move rfl) ?_
        obtain ⟨x97, h98, q99⟩ := ob q96; clear q96
        refine t_rd rfl (rd_sub64 h98 rfl rfl) ?_
        refine t_rd rfl (rd_move rfl) ?_
        refine t_rd rfl (rd_move rfl) ?_
        refine t_rd rfl (rd_move rfl) ?_
        obtain ⟨r100, h101, q102⟩ := ob q99; clear q99
        refine t_ef rfl (ef_call tf34 rfl (g_slices_swapRangeCmpFunc_int_ok h101 (hm92.get (k := 0) rfl) ((hn4.to_callT (k := 0) hm92 rfl).sl))) ?_
        rintro _ w104 ⟨e_, hm103⟩
        obtain rfl := e_.symm
        have hm105 := hm92.callT (k := 0) rfl (fun _ h => h) hm103 (fun _ => Iff.rfl)
        refine rwt_nil ?_
        refine qn_then ?_
        refine cw_region ?_
        refine t_rd rfl (rd_move rfl) ?_
        refine t_rd rfl (rd_move rfl) ?_
        obtain ⟨x106, h107, q108⟩ := ob q102; clear q102
        refine t_rd rfl (rd_sub64 h107 rfl rfl) ?_
        refine t_rd rfl (rd_assign rfl) ?_
        refine rwt_nil ?_
        refine qn_block (qn_then ?_)
        refine ⟨_, (os q108), (by repeat (first | exact Sub.nil _ | refine Sub.cons rfl ?_)), (hm105.pick [0] (by decide) rfl)⟩
      · refine cw_f rfl hb95 ?_
        refine cw_seq ?_
        refine cw_region ?_
        refine t_rd rfl (rd_move rfl) ?_
        refine t_rd rfl (rd_move rfl) ?_
        refine t_rd rfl (rd_move rfl) ?_
        obtain ⟨x109, h110, q111⟩ := ob q96; clear q96
        refine t_rd rfl (rd_sub64 h110 rfl rfl) ?_
        refine t_rd rfl (rd_move rfl) ?_
        refine t_rd rfl (rd_move rfl) ?_
        obtain ⟨x112, h113, q114⟩ := ob q111; clear q111
        refine t_rd rfl (rd_add64 h113 rfl rfl) ?_
        refine t_rd rfl (rd_move rfl) ?_
        obtain ⟨x115, h116, q117⟩ := ob q114; clear q114
        refine t_rd rfl (rd_sub64 h116 rfl rfl) ?_
        refine t_rd rfl (rd_move rfl) ?_
        refine t_rd rfl (rd_move rfl) ?_
        obtain ⟨r118, h119, q120⟩ := ob q117; clear q117
        refine t_ef rfl (ef_call tf34 rfl (g_slices_swapRangeCmpFunc_int_ok h119 (hm92.get (k := 0) rfl) ((hn4.to_callT (k := 0) hm92 rfl).sl))) ?_
        rintro _ w122 ⟨e_, hm121⟩
        obtain rfl := e_.symm
        have hm123 := hm92.callT (k := 0) rfl (fun _ h => h) hm121 (fun _ => Iff.rfl)
        refine rwt_nil ?_
        refine qn_then ?_
        refine cw_region ?_
        refine t_rd rfl (rd_move rfl) ?_
        refine t_rd rfl (rd_move rfl) ?_
        obtain ⟨x124, h125, q126⟩ := ob q120; clear q120
        refine t_rd rfl (rd_sub64 h125 rfl rfl) ?_
        refine t_rd rfl (rd_assign rfl) ?_
        refine rwt_nil ?_
        refine qn_block (qn_then ?_)
        refine ⟨_, (os q126), (by repeat (first | exact Sub.nil _ | refine Sub.cons rfl ?_)), (hm123.pick [0] (by decide) rfl)⟩
    · refine cw_f rfl hb93 ?_
      refine cw_exit ?_
      refine qx_then (qx_then ?_)
      obtain rfl := hr88 _ (os q94)
      exact ⟨rfl, (by repeat (first | exact Sub.nil _ | refine Sub.cons rfl ?_)), (hm92.pick [0] (by decide) rfl)⟩
  · skip
    intro e env127 w128 hX129
    obtain ⟨rfl, hs130, hm131⟩ := hX129
    refine qx_same (qn_then ?_)
    refine cw_sub hs130 ?_
    refine cw_region ?_
    refine t_rd rfl (rd_move rfl) ?_
    refine t_rd rfl (rd_move rfl) ?_
    refine t_rd rfl (rd_move rfl) ?_
    obtain ⟨x132, h133, q134⟩ := ob q91; clear q91
    refine t_rd rfl (rd_sub64 h133 rfl rfl) ?_
    refine t_rd rfl (rd_move rfl) ?_
    refine t_rd rfl (rd_move rfl) ?_
    refine t_rd rfl (rd_move rfl) ?_
    obtain ⟨r135, h136, q137⟩ := ob q134; clear q134
    refine t_ef rfl (ef_call tf34 rfl (g_slices_swapRangeCmpFunc_int_ok h136 (hm131.get (k := 0) rfl) ((hn4.to_callT (k := 0) hm131 rfl).sl))) ?_
    rintro _ w139 ⟨e_, hm138⟩
    obtain rfl := e_.symm
    have hm140 := hm131.callT (k := 0) rfl (fun _ h => h) hm138 (fun _ => Iff.rfl)
    refine rwt_nil ?_
    obtain rfl := os q137
    refine retn ?_
    exact ret0 rfl ⟨rfl, (hm140.pick [0] (by decide) rfl)⟩

theorem g_slices_symMergeCmpFunc_int_r_ok {N : Nat} (M : Nat) : ∀ {a0 : List Int} {a1 : Int} {a2 : Int} {a3 : Int} {a4 : List (List T_Task)} {res : List Int} (h : g_slices_symMergeCmpFunc_int_r N M a0 a1 a2 a3 a4 = some res) {w : World} {v0 : Value} {v4 : Value} (hk0 : (ownL 3 v0 (a0 : List Int)).φ w) (hv4 : Sl (Old w (ownL 3 v0 (a0 : List Int)).D) w v4 a4),
    CallsR Try.prog 32 [v0, (Value.int .i64 a1), (Value.int .i64 a2), (Value.int .i64 a3), (Value.func (.func 27) #[] #[(Value.pointer (some ⟨pB v4, pO v4, none⟩))])] w (fun u w' => u = (Value.tuple #[]) ∧ Mem w (ownL 3 v0 (a0 : List Int)).D [ownL 3 v0 (res : List Int)] w') := by
  induction M with
  | zero =>
    intro a0 a1 a2 a3 a4 res h
    rw [g_slices_symMergeCmpFunc_int_r] at h
    cases h
  | succ M ih =>
  intro a0 a1 a2 a3 a4 res h w v0 v4 hk0 hv4
  rw [g_slices_symMergeCmpFunc_int_r] at h
  refine fn_ok Try.func32 rfl rfl rfl ?_
  obtain ⟨zs_a4, hn4⟩ := hv4.nest
  have hm0 := Mem.one hk0
  refine cw_seq ?_
  refine cw_seq ?_
  refine cw_region ?_
  refine t_rd rfl (rd_move rfl) ?_
  refine t_rd rfl (rd_move rfl) ?_
  obtain ⟨x1, h2, q3⟩ := ob h; clear h
  refine t_rd rfl (rd_sub64 h2 rfl rfl) ?_
  refine t_rd rfl (rd_eql rfl rfl) ?_
  refine rwt_nil ?_
  refine qn_then ?_
  obtain ⟨hb4, q5⟩ | ⟨hb4, q5⟩ := oi q3 <;> clear q3
  · refine cw_t rfl hb4 ?_
    refine cw_seq ?_
    refine cw_region ?_
    refine t_rd rfl (rd_move rfl) ?_
    refine t_rd rfl (rd_assign rfl) ?_
    refine rwt_nil ?_
    refine qn_then ?_
    refine cw_seq ?_
    refine cw_region ?_
    refine t_rd rfl (rd_move rfl) ?_
    refine t_rd rfl (rd_assign rfl) ?_
    refine rwt_nil ?_
    refine qn_then ?_
    refine cw_seq ?_
    refine cw_block ?_
    obtain ⟨r81, hit82, q83⟩ := ob q5; clear q5
    refine cw_loop2 (I := fun q envq wq => Sub [(0, v0), (1, (Value.int .i64 a1)), (4, (Value.func (.func 27) #[] #[(Value.pointer (some ⟨pB v4, pO v4, none⟩))])), (10, (Value.int .i64 q.1)), (11, (Value.int .i64 q.2))] envq ∧ Mem w (ownL 3 v0 (a0 : List Int)).D [ownL 3 v0 (a0 : List Int)] wq) (X := fun eq envq wq => eq = .exit 0 ∧ Sub [(0, v0), (1, (Value.int .i64 a1)), (10, (Value.int .i64 r81))] envq ∧ Mem w (ownL 3 v0 (a0 : List Int)).D [ownL 3 v0 (a0 : List Int)] wq) hit82 ⟨(by repeat (first | exact Sub.nil _ | refine Sub.cons rfl ?_)), (hm0.pick [0] (by decide) rfl)⟩ ?_ ?_
    · rintro ⟨i73, i74⟩ x76 env77 w78 hf79 hr80 ⟨hs_, hm_⟩
      have hs_ : Sub [(0, v0), (1, (Value.int .i64 a1)), (4, (Value.func (.func 27) #[] #[(Value.pointer (some ⟨pB v4, pO v4, none⟩))])), (10, (Value.int .i64 i73)), (11, (Value.int .i64 i74))] env77 := hs_
      have hm84 : Mem w (ownL 3 v0 (a0 : List Int)).D [ownL 3 v0 (a0 : List Int)] w78 := hm_
      refine cw_sub hs_ ?_
      clear hs_ hm_ q83
      have h : g_slices_symMergeCmpFunc_int_l1 N a0 a1 a4 i73 i74 = some x76 := hf79
      clear hf79
      refine cw_seq ?_
      refine cw_seq ?_
      refine cw_region ?_
      refine t_rd rfl (rd_move rfl) ?_
      refine t_rd rfl (rd_move rfl) ?_
      refine t_rd rfl (rd_lss rfl rfl) ?_
      refine rwt_nil ?_
      refine qn_then ?_
      obtain ⟨hb85, q86⟩ | ⟨hb85, q86⟩ := oi h <;> clear h
      · refine cw_t rfl hb85 ?_
        refine cw_skip ?_
        refine qn_then ?_
        refine cw_block ?_
        refine cw_seq ?_
        refine cw_region ?_
        refine t_rd rfl (rd_move rfl) ?_
        refine t_rd rfl (rd_move rfl) ?_
        obtain ⟨x87, h88, q89⟩ := ob q86; clear q86
        refine t_rd rfl (rd_add64 h88 rfl rfl) ?_
        refine t_rd rfl (rd_cvu64 tH3 tI57 rfl) ?_
        obtain ⟨x90, h91, q92⟩ := ob q89; clear q89
        refine t_rd rfl (rd_shr_u64 h91 rfl rfl) ?_
        obtain ⟨x93, h94, q95⟩ := ob q92; clear q92
        refine t_rd rfl (rd_cv64 tH57 tI3 h94 rfl) ?_
        refine t_rd rfl (rd_assign rfl) ?_
        refine rwt_nil ?_
        refine qn_then ?_
        refine cw_seq ?_
        obtain ⟨w97, he99⟩ : ∃ q, q = w78.drew := ⟨_, rfl⟩
        have hm98 := hm84.drew; rw [← he99] at hm98
        refine cw_region_s (fun q => q = w97) (cls [] [9]) mixed ?_
        rintro _ rfl; rw [← he99]
        refine s_rp (i := 0) rfl (by kernel_rfl) rfl (fun _ => (rd_move rfl)) ?_
        refine s_rp (i := 1) rfl (by kernel_rfl) rfl (fun _ => (rd_move rfl)) ?_
        refine s_rp (i := 2) rfl (by kernel_rfl) rfl (fun _ => (rd_move rfl)) ?_
        obtain ⟨x100, h101, q102⟩ := ob q95; clear q95
        refine s_rp (i := 3) rfl (by kernel_rfl) rfl (fun _ => (rd_index tS22 rfl rfl (hm98.sl 0 rfl) h101)) ?_
        refine s_rd (i := 4) rfl (by kernel_rfl) rfl (fun _ hS => by rw [hS]; exact (rd_ld1 tO3 rfl ((hm98.sl 0 rfl).cells h101) (off := 0) rfl)) rfl ?_
        refine s_rp (i := 5) rfl (by kernel_rfl) rfl (fun _ => (rd_move rfl)) ?_
        refine s_rp (i := 6) rfl (by kernel_rfl) rfl (fun _ => (rd_move rfl)) ?_
        obtain ⟨x103, h104, q105⟩ := ob q102; clear q102
        refine s_rp (i := 7) rfl (by kernel_rfl) rfl (fun _ => (rd_index tS22 rfl rfl (hm98.sl 0 rfl) h104)) ?_
        refine s_rd (i := 8) rfl (by kernel_rfl) rfl (fun _ hS => by rw [hS]; exact (rd_ld1 tO3 rfl ((hm98.sl 0 rfl).cells h104) (off := 0) rfl)) rfl ?_
        obtain ⟨r106, h107, q108⟩ := ob q105; clear q105
        refine s_ef (i := 9) rfl (by kernel_rfl) rfl (ef_callv tf27 rfl rfl (engine_order_1_ok h107 ((hn4.to_call hm98).sl))) (by decide) (fun _ _ _ q => absurd q (by decide)) ?_
        rintro _ w110 ⟨e_, hm109⟩
        obtain rfl := e_.symm
        have hm111 := hm98.call hm109
        refine s_rp (i := 10) rfl (by kernel_rfl) rfl (fun _ => (rd_lss rfl rfl)) ?_
        refine s_nil (by kernel_rfl) ?_
        refine qn_then ?_
        obtain ⟨hb112, q113⟩ | ⟨hb112, q113⟩ := oi q108 <;> clear q108
        · refine cw_t rfl hb112 ?_
          refine cw_region ?_
          refine t_rd rfl (rd_move rfl) ?_
          obtain ⟨x114, h115, q116⟩ := ob q113; clear q113
          refine t_rd rfl (rd_add64 h115 rfl rfl) ?_
          refine t_rd rfl (rd_assign rfl) ?_
          refine rwt_nil ?_
          refine qn_block (qn_then ?_)
          refine ⟨_, (os q116), (by repeat (first | exact Sub.nil _ | refine Sub.cons rfl ?_)), (hm111.pick [0] (by decide) rfl)⟩
        · refine cw_f rfl hb112 ?_
          refine cw_region ?_
          refine t_rd rfl (rd_move rfl) ?_
          refine t_rd rfl (rd_assign rfl) ?_
          refine rwt_nil ?_
          refine qn_block (qn_then ?_)
          refine ⟨_, (os q113), (by repeat (first | exact Sub.nil _ | refine Sub.cons rfl ?_)), (hm111.pick [0] (by decide) rfl)⟩
      · refine cw_f rfl hb85 ?_
        refine cw_exit ?_
        refine qx_then (qx_then ?_)
        obtain rfl := hr80 _ (os q86)
        exact ⟨rfl, (by repeat (first | exact Sub.nil _ | refine Sub.cons rfl ?_)), (hm84.pick [0] (by decide) rfl)⟩
    · skip
      intro e env117 w118 hX119
      obtain ⟨rfl, hs120, hm121⟩ := hX119
      refine qx_same (qn_then ?_)
      refine cw_sub hs120 ?_
      refine cw_seq ?_
      refine cw_seq ?_
      refine cw_region ?_
      refine t_rd rfl (rd_move rfl) ?_
      refine t_rd rfl (rd_assign rfl) ?_
      refine rwt_nil ?_
      refine qn_then ?_
      refine cw_block ?_
      obtain ⟨r201, hit202, q203⟩ := ob q83; clear q83
      refine cw_loop2 (I := fun q envq wq => Sub [(0, v0), (10, (Value.int .i64 r81)), (13, (Value.int .i64 q.1))] envq ∧ Mem w (ownL 3 v0 (a0 : List Int)).D [ownL 3 v0 (q.2 : List Int)] wq) (X := fun eq envq wq => eq = .exit 2 ∧ Sub [] envq ∧ Mem w (ownL 3 v0 (a0 : List Int)).D [ownL 3 v0 (r201 : List Int)] wq) hit202 ⟨(by repeat (first | exact Sub.nil _ | refine Sub.cons rfl ?_)), (hm121.pick [0] (by decide) rfl)⟩ ?_ ?_
      · rintro ⟨i193, l194⟩ x196 env197 w198 hf199 hr200 ⟨hs_, hm_⟩
        have hs_ : Sub [(0, v0), (10, (Value.int .i64 r81)), (13, (Value.int .i64 i193))] env197 := hs_
        have hm204 : Mem w (ownL 3 v0 (a0 : List Int)).D [ownL 3 v0 (l194 : List Int)] w198 := hm_
        refine cw_sub hs_ ?_
        clear hs_ hm_ q203
        have h : g_slices_symMergeCmpFunc_int_l2 N r81 i193 l194 = some x196 := hf199
        clear hf199
        refine cw_seq ?_
        refine cw_seq ?_
        refine cw_region ?_
        refine t_rd rfl (rd_move rfl) ?_
        refine t_rd rfl (rd_move rfl) ?_
        obtain ⟨x205, h206, q207⟩ := ob h; clear h
        refine t_rd rfl (rd_sub64 h206 rfl rfl) ?_
        refine t_rd rfl (rd_lss rfl rfl) ?_
        refine rwt_nil ?_
        refine qn_then ?_
        obtain ⟨hb208, q209⟩ | ⟨hb208, q209⟩ := oi q207 <;> clear q207
        · refine cw_t rfl hb208 ?_
          refine cw_skip ?_
          refine qn_then ?_
          refine cw_seq ?_
          refine cw_block ?_
          obtain ⟨w211, he213⟩ : ∃ q, q = w198.drew := ⟨_, rfl⟩
          have hm212 := hm204.drew; rw [← he213] at hm212
          refine cw_region_s (fun q => q = w211) (cls [] [15, 17]) mixed ?_
          rintro _ rfl; rw [← he213]
          refine s_rp (i := 0) rfl (by kernel_rfl) rfl (fun _ => (rd_move rfl)) ?_
          refine s_rp (i := 1) rfl (by kernel_rfl) rfl (fun _ => (rd_move rfl)) ?_
          refine s_rp (i := 2) rfl (by kernel_rfl) rfl (fun _ => (rd_move rfl)) ?_
          refine s_rp (i := 3) rfl (by kernel_rfl) rfl (fun _ => (rd_move rfl)) ?_
          obtain ⟨x214, h215, q216⟩ := ob q209; clear q209
          refine s_rp (i := 4) rfl (by kernel_rfl) rfl (fun _ => (rd_add64 h215 rfl rfl)) ?_
          refine s_rp (i := 5) rfl (by kernel_rfl) rfl (fun _ => (rd_move rfl)) ?_
          refine s_rp (i := 6) rfl (by kernel_rfl) rfl (fun _ => (rd_move rfl)) ?_
          obtain ⟨x217, h218, q219⟩ := ob q216; clear q216
          refine s_rp (i := 7) rfl (by kernel_rfl) rfl (fun _ => (rd_add64 h218 rfl rfl)) ?_
          obtain ⟨x220, h221, q222⟩ := ob q219; clear q219
          refine s_rp (i := 8) rfl (by kernel_rfl) rfl (fun _ => (rd_index tS22 rfl rfl (hm212.sl 0 rfl) h221)) ?_
          refine s_rd (i := 9) rfl (by kernel_rfl) rfl (fun _ hS => by rw [hS]; exact (rd_ld1 tO3 rfl ((hm212.sl 0 rfl).cells h221) (off := 0) rfl)) rfl ?_
          refine s_rp (i := 10) rfl (by kernel_rfl) rfl (fun _ => (rd_move rfl)) ?_
          refine s_rp (i := 11) rfl (by kernel_rfl) rfl (fun _ => (rd_move rfl)) ?_
          obtain ⟨x223, h224, q225⟩ := ob q222; clear q222
          refine s_rp (i := 12) rfl (by kernel_rfl) rfl (fun _ => (rd_index tS22 rfl rfl (hm212.sl 0 rfl) h224)) ?_
          refine s_rd (i := 13) rfl (by kernel_rfl) rfl (fun _ hS => by rw [hS]; exact (rd_ld1 tO3 rfl ((hm212.sl 0 rfl).cells h224) (off := 0) rfl)) rfl ?_
          obtain ⟨x226, h227, q228⟩ := ob q225; clear q225
          refine s_rp (i := 14) rfl (by kernel_rfl) rfl (fun _ => (rd_index tS22 rfl rfl (hm212.sl 0 rfl) h227)) ?_
          refine s_ef0 (i := 15) rfl (by kernel_rfl) (ef_stl (k := 0) (off := 0) (x' := x220) hm212 tO3 rfl rfl rfl rfl h227 rfl rfl) (by decide) (fun _ _ _ q => absurd q (by decide)) ?_
          intro _ w230 hm229
          obtain ⟨x231, h232, q233⟩ := ob q228; clear q228
          refine s_rp (i := 16) rfl (by kernel_rfl) rfl (fun _ => (rd_index tS22 rfl rfl (hm229.sl 0 rfl) h232)) ?_
          refine s_ef0 (i := 17) rfl (by kernel_rfl) (ef_stl (k := 0) (off := 0) (x' := x223) hm229 tO3 rfl rfl rfl rfl h232 rfl rfl) (by decide) (fun _ _ _ q => absurd q (by decide)) ?_
          intro _ w235 hm234
          refine s_nil (by kernel_rfl) ?_
          refine qn_block (qn_then ?_)
          refine cw_region ?_
          refine t_rd rfl (rd_move rfl) ?_
          obtain ⟨x236, h237, q238⟩ := ob q233; clear q233
          refine t_rd rfl (rd_add64 h237 rfl rfl) ?_
          refine t_rd rfl (rd_assign rfl) ?_
          refine rwt_nil ?_
          refine qn_then ?_
          refine ⟨_, (os q238), (by repeat (first | exact Sub.nil _ | refine Sub.cons rfl ?_)), (hm234.pick [0] (by decide) rfl)⟩
        · refine cw_f rfl hb208 ?_
          refine cw_exit ?_
          refine qx_then (qx_then ?_)
          obtain rfl := hr200 _ (os q209)
          exact ⟨rfl, (by repeat (first | exact Sub.nil _ | refine Sub.cons rfl ?_)), (hm204.pick [0] (by decide) rfl)⟩
      · skip
        intro e env239 w240 hX241
        obtain ⟨rfl, hs242, hm243⟩ := hX241
        refine qx_same (qn_then ?_)
        refine cw_sub hs242 ?_
        refine cw_ret ?_
        refine qr_then ?_
        obtain rfl := os q203
        exact ret0 rfl ⟨rfl, (hm243.pick [0] (by decide) rfl)⟩
  · refine cw_f rfl hb4 ?_
    refine cw_skip ?_
    refine qn_then ?_
    refine cw_seq ?_
    refine cw_seq ?_
    refine cw_region ?_
    refine t_rd rfl (rd_move rfl) ?_
    refine t_rd rfl (rd_move rfl) ?_
    obtain ⟨x244, h245, q246⟩ := ob q5; clear q5
    refine t_rd rfl (rd_sub64 h245 rfl rfl) ?_
    refine t_rd rfl (rd_eql rfl rfl) ?_
    refine rwt_nil ?_
    refine qn_then ?_
    obtain ⟨hb247, q248⟩ | ⟨hb247, q248⟩ := oi q246 <;> clear q246
    · refine cw_t rfl hb247 ?_
      refine cw_seq ?_
      refine cw_region ?_
      refine t_rd rfl (rd_move rfl) ?_
      refine t_rd rfl (rd_assign rfl) ?_
      refine rwt_nil ?_
      refine qn_then ?_
      refine cw_seq ?_
      refine cw_region ?_
      refine t_rd rfl (rd_move rfl) ?_
      refine t_rd rfl (rd_assign rfl) ?_
      refine rwt_nil ?_
      refine qn_then ?_
      refine cw_seq ?_
      refine cw_block ?_
      obtain ⟨r324, hit325, q326⟩ := ob q248; clear q248
      refine cw_loop2 (I := fun q envq wq => Sub [(0, v0), (2, (Value.int .i64 a2)), (4, (Value.func (.func 27) #[] #[(Value.pointer (some ⟨pB v4, pO v4, none⟩))])), (14, (Value.int .i64 q.1)), (15, (Value.int .i64 q.2))] envq ∧ Mem w (ownL 3 v0 (a0 : List Int)).D [ownL 3 v0 (a0 : List Int)] wq) (X := fun eq envq wq => eq = .exit 4 ∧ Sub [(0, v0), (2, (Value.int .i64 a2)), (14, (Value.int .i64 r324))] envq ∧ Mem w (ownL 3 v0 (a0 : List Int)).D [ownL 3 v0 (a0 : List Int)] wq) hit325 ⟨(by repeat (first | exact Sub.nil _ | refine Sub.cons rfl ?_)), (hm0.pick [0] (by decide) rfl)⟩ ?_ ?_
      · rintro ⟨i316, i317⟩ x319 env320 w321 hf322 hr323 ⟨hs_, hm_⟩
        have hs_ : Sub [(0, v0), (2, (Value.int .i64 a2)), (4, (Value.func (.func 27) #[] #[(Value.pointer (some ⟨pB v4, pO v4, none⟩))])), (14, (Value.int .i64 i316)), (15, (Value.int .i64 i317))] env320 := hs_
        have hm327 : Mem w (ownL 3 v0 (a0 : List Int)).D [ownL 3 v0 (a0 : List Int)] w321 := hm_
        refine cw_sub hs_ ?_
        clear hs_ hm_ q326
        have h : g_slices_symMergeCmpFunc_int_l3 N a0 a2 a4 i316 i317 = some x319 := hf322
        clear hf322
        refine cw_seq ?_
        refine cw_seq ?_
        refine cw_region ?_
        refine t_rd rfl (rd_move rfl) ?_
        refine t_rd rfl (rd_move rfl) ?_
        refine t_rd rfl (rd_lss rfl rfl) ?_
        refine rwt_nil ?_
        refine qn_then ?_
        obtain ⟨hb328, q329⟩ | ⟨hb328, q329⟩ := oi h <;> clear h
        · refine cw_t rfl hb328 ?_
          refine cw_skip ?_
          refine qn_then ?_
          refine cw_block ?_
          refine cw_seq ?_
          refine cw_region ?_
          refine t_rd rfl (rd_move rfl) ?_
          refine t_rd rfl (rd_move rfl) ?_
          obtain ⟨x330, h331, q332⟩ := ob q329; clear q329
          refine t_rd rfl (rd_add64 h331 rfl rfl) ?_
          refine t_rd rfl (rd_cvu64 tH3 tI57 rfl) ?_
          obtain ⟨x333, h334, q335⟩ := ob q332; clear q332
          refine t_rd rfl (rd_shr_u64 h334 rfl rfl) ?_
          obtain ⟨x336, h337, q338⟩ := ob q335; clear q335
          refine t_rd rfl (rd_cv64 tH57 tI3 h337 rfl) ?_
          refine t_rd rfl (rd_assign rfl) ?_
          refine rwt_nil ?_
          refine qn_then ?_
          refine cw_seq ?_
          obtain ⟨w340, he342⟩ : ∃ q, q = w321.drew := ⟨_, rfl⟩
          have hm341 := hm327.drew; rw [← he342] at hm341
          refine cw_region_s (fun q => q = w340) (cls [] [9]) mixed ?_
          rintro _ rfl; rw [← he342]
          refine s_rp (i := 0) rfl (by kernel_rfl) rfl (fun _ => (rd_move rfl)) ?_
          refine s_rp (i := 1) rfl (by kernel_rfl) rfl (fun _ => (rd_move rfl)) ?_
          refine s_rp (i := 2) rfl (by kernel_rfl) rfl (fun _ => (rd_move rfl)) ?_
          obtain ⟨x343, h344, q345⟩ := ob q338; clear q338
          refine s_rp (i := 3) rfl (by kernel_rfl) rfl (fun _ => (rd_index tS22 rfl rfl (hm341.sl 0 rfl) h344)) ?_
          refine s_rd (i := 4) rfl (by kernel_rfl) rfl (fun _ hS => by rw [hS]; exact (rd_ld1 tO3 rfl ((hm341.sl 0 rfl).cells h344) (off := 0) rfl)) rfl ?_
          refine s_rp (i := 5) rfl (by kernel_rfl) rfl (fun _ => (rd_move rfl)) ?_
          refine s_rp (i := 6) rfl (by kernel_rfl) rfl (fun _ => (rd_move rfl)) ?_
          obtain ⟨x346, h347, q348⟩ := ob q345; clear q345
          refine s_rp (i := 7) rfl (by kernel_rfl) rfl (fun _ => (rd_index tS22 rfl rfl (hm341.sl 0 rfl) h347)) ?_
          refine s_rd (i := 8) rfl (by kernel_rfl) rfl (fun _ hS => by rw [hS]; exact (rd_ld1 tO3 rfl ((hm341.sl 0 rfl).cells h347) (off := 0) rfl)) rfl ?_
          obtain ⟨r349, h350, q351⟩ := ob q348; clear q348
          refine s_ef (i := 9) rfl (by kernel_rfl) rfl (ef_callv tf27 rfl rfl (engine_order_1_ok h350 ((hn4.to_call hm341).sl))) (by decide) (fun _ _ _ q => absurd q (by decide)) ?_
          rintro _ w353 ⟨e_, hm352⟩
          obtain rfl := e_.symm
          have hm354 := hm341.call hm352
          refine s_rp (i := 10) rfl (by kernel_rfl) rfl (fun _ => (rd_lss rfl rfl)) ?_
          refine s_rp (i := 11) rfl (by kernel_rfl) rfl (fun _ => (rd_not rfl)) ?_
          refine s_nil (by kernel_rfl) ?_
          refine qn_then ?_
          obtain ⟨hb355, q356⟩ | ⟨hb355, q356⟩ := oi q351 <;> clear q351
          · refine cw_t rfl hb355 ?_
            refine cw_region ?_
            refine t_rd rfl (rd_move rfl) ?_
            obtain ⟨x357, h358, q359⟩ := ob q356; clear q356
            refine t_rd rfl (rd_add64 h358 rfl rfl) ?_
            refine t_rd rfl (rd_assign rfl) ?_
            refine rwt_nil ?_
            refine qn_block (qn_then ?_)
            refine ⟨_, (os q359), (by repeat (first | exact Sub.nil _ | refine Sub.cons rfl ?_)), (hm354.pick [0] (by decide) rfl)⟩
          · refine cw_f rfl hb355 ?_
            refine cw_region ?_
            refine t_rd rfl (rd_move rfl) ?_
            refine t_rd rfl (rd_assign rfl) ?_
            refine rwt_nil ?_
            refine qn_block (qn_then ?_)
            refine ⟨_, (os q356), (by repeat (first | exact Sub.nil _ | refine Sub.cons rfl ?_)), (hm354.pick [0] (by decide) rfl)⟩
        · refine cw_f rfl hb328 ?_
          refine cw_exit ?_
          refine qx_then (qx_then ?_)
          obtain rfl := hr323 _ (os q329)
          exact ⟨rfl, (by repeat (first | exact Sub.nil _ | refine Sub.cons rfl ?_)), (hm327.pick [0] (by decide) rfl)⟩
      · skip
        intro e env360 w361 hX362
        obtain ⟨rfl, hs363, hm364⟩ := hX362
        refine qx_same (qn_then ?_)
        refine cw_sub hs363 ?_
        refine cw_seq ?_
        refine cw_seq ?_
        refine cw_region ?_
        refine t_rd rfl (rd_move rfl) ?_
        refine t_rd rfl (rd_assign rfl) ?_
        refine rwt_nil ?_
        refine qn_then ?_
        refine cw_block ?_
        obtain ⟨r438, hit439, q440⟩ := ob q326; clear q326
        refine cw_loop2 (I := fun q envq wq => Sub [(0, v0), (14, (Value.int .i64 r324)), (17, (Value.int .i64 q.1))] envq ∧ Mem w (ownL 3 v0 (a0 : List Int)).D [ownL 3 v0 (q.2 : List Int)] wq) (X := fun eq envq wq => eq = .exit 6 ∧ Sub [] envq ∧ Mem w (ownL 3 v0 (a0 : List Int)).D [ownL 3 v0 (r438 : List Int)] wq) hit439 ⟨(by repeat (first | exact Sub.nil _ | refine Sub.cons rfl ?_)), (hm364.pick [0] (by decide) rfl)⟩ ?_ ?_
        · rintro ⟨i430, l431⟩ x433 env434 w435 hf436 hr437 ⟨hs_, hm_⟩
          have hs_ : Sub [(0, v0), (14, (Value.int .i64 r324)), (17, (Value.int .i64 i430))] env434 := hs_
          have hm441 : Mem w (ownL 3 v0 (a0 : List Int)).D [ownL 3 v0 (l431 : List Int)] w435 := hm_
          refine cw_sub hs_ ?_
          clear hs_ hm_ q440
          have h : g_slices_symMergeCmpFunc_int_l4 N r324 i430 l431 = some x433 := hf436
          clear hf436
          refine cw_seq ?_
          refine cw_seq ?_
          refine cw_region ?_
          refine t_rd rfl (rd_move rfl) ?_
          refine t_rd rfl (rd_move rfl) ?_
          refine t_rd rfl (rd_gtr rfl rfl) ?_
          refine rwt_nil ?_
          refine qn_then ?_
          obtain ⟨hb442, q443⟩ | ⟨hb442, q443⟩ := oi h <;> clear h
          · refine cw_t rfl hb442 ?_
            refine cw_skip ?_
            refine qn_then ?_
            refine cw_seq ?_
            refine cw_block ?_
            obtain ⟨w445, he447⟩ : ∃ q, q = w435.drew := ⟨_, rfl⟩
            have hm446 := hm441.drew; rw [← he447] at hm446
            refine cw_region_s (fun q => q = w445) (cls [] [15, 17]) mixed ?_
            rintro _ rfl; rw [← he447]
            refine s_rp (i := 0) rfl (by kernel_rfl) rfl (fun _ => (rd_move rfl)) ?_
            refine s_rp (i := 1) rfl (by kernel_rfl) rfl (fun _ => (rd_move rfl)) ?_
            refine s_rp (i := 2) rfl (by kernel_rfl) rfl (fun _ => (rd_move rfl)) ?_
            refine s_rp (i := 3) rfl (by kernel_rfl) rfl (fun _ => (rd_move rfl)) ?_
            obtain ⟨x448, h449, q450⟩ := ob q443; clear q443
            refine s_rp (i := 4) rfl (by kernel_rfl) rfl (fun _ => (rd_sub64 h449 rfl rfl)) ?_
            refine s_rp (i := 5) rfl (by kernel_rfl) rfl (fun _ => (rd_move rfl)) ?_
            refine s_rp (i := 6) rfl (by kernel_rfl) rfl (fun _ => (rd_move rfl)) ?_
            obtain ⟨x451, h452, q453⟩ := ob q450; clear q450
            refine s_rp (i := 7) rfl (by kernel_rfl) rfl (fun _ => (rd_sub64 h452 rfl rfl)) ?_
            obtain ⟨x454, h455, q456⟩ := ob q453; clear q453
            refine s_rp (i := 8) rfl (by kernel_rfl) rfl (fun _ => (rd_index tS22 rfl rfl (hm446.sl 0 rfl) h455)) ?_
            refine s_rd (i := 9) rfl (by kernel_rfl) rfl (fun _ hS => by rw [hS]; exact (rd_ld1 tO3 rfl ((hm446.sl 0 rfl).cells h455) (off := 0) rfl)) rfl ?_
            refine s_rp (i := 10) rfl (by kernel_rfl) rfl (fun _ => (rd_move rfl)) ?_
            refine s_rp (i := 11) rfl (by kernel_rfl) rfl (fun _ => (rd_move rfl)) ?_
            obtain ⟨x457, h458, q459⟩ := ob q456; clear q456
            refine s_rp (i := 12) rfl (by kernel_rfl) rfl (fun _ => (rd_index tS22 rfl rfl (hm446.sl 0 rfl) h458)) ?_
            refine s_rd (i := 13) rfl (by kernel_rfl) rfl (fun _ hS => by rw [hS]; exact (rd_ld1 tO3 rfl ((hm446.sl 0 rfl).cells h458) (off := 0) rfl)) rfl ?_
            obtain ⟨x460, h461, q462⟩ := ob q459; clear q459
            refine s_rp (i := 14) rfl (by kernel_rfl) rfl (fun _ => (rd_index tS22 rfl rfl (hm446.sl 0 rfl) h461)) ?_
            refine s_ef0 (i := 15) rfl (by kernel_rfl) (ef_stl (k := 0) (off := 0) (x' := x454) hm446 tO3 rfl rfl rfl rfl h461 rfl rfl) (by decide) (fun _ _ _ q => absurd q (by decide)) ?_
            intro _ w464 hm463
            obtain ⟨x465, h466, q467⟩ := ob q462; clear q462
            refine s_rp (i := 16) rfl (by kernel_rfl) rfl (fun _ => (rd_index tS22 rfl rfl (hm463.sl 0 rfl) h466)) ?_
            refine s_ef0 (i := 17) rfl (by kernel_rfl) (ef_stl (k := 0) (off := 0) (x' := x457) hm463 tO3 rfl rfl rfl rfl h466 rfl rfl) (by decide) (fun _ _ _ q => absurd q (by decide)) ?_
            intro _ w469 hm468
            refine s_nil (by kernel_rfl) ?_
            refine qn_block (qn_then ?_)
            refine cw_region ?_
            refine t_rd rfl (rd_move rfl) ?_
            obtain ⟨x470, h471, q472⟩ := ob q467; clear q467
            refine t_rd rfl (rd_sub64 h471 rfl rfl) ?_
            refine t_rd rfl (rd_assign rfl) ?_
            refine rwt_nil ?_
            refine qn_then ?_
            refine ⟨_, (os q472), (by repeat (first | exact Sub.nil _ | refine Sub.cons rfl ?_)), (hm468.pick [0] (by decide) rfl)⟩
          · refine cw_f rfl hb442 ?_
            refine cw_exit ?_
            refine qx_then (qx_then ?_)
            obtain rfl := hr437 _ (os q443)
            exact ⟨rfl, (by repeat (first | exact Sub.nil _ | refine Sub.cons rfl ?_)), (hm441.pick [0] (by decide) rfl)⟩
        · skip
          intro e env473 w474 hX475
          obtain ⟨rfl, hs476, hm477⟩ := hX475
          refine qx_same (qn_then ?_)
          refine cw_sub hs476 ?_
          refine cw_ret ?_
          refine qr_then ?_
          obtain rfl := os q440
          exact ret0 rfl ⟨rfl, (hm477.pick [0] (by decide) rfl)⟩
    · refine cw_f rfl hb247 ?_
      refine cw_skip ?_
      refine qn_then ?_
      refine cw_seq ?_
      refine cw_region ?_
      refine t_rd rfl (rd_move rfl) ?_
      refine t_rd rfl (rd_move rfl) ?_
      obtain ⟨x478, h479, q480⟩ := ob q248; clear q248
      refine t_rd rfl (rd_add64 h479 rfl rfl) ?_
      refine t_rd rfl (rd_cvu64 tH3 tI57 rfl) ?_
      obtain ⟨x481, h482, q483⟩ := ob q480; clear q480
      refine t_rd rfl (rd_shr_u64 h482 rfl rfl) ?_
      obtain ⟨x484, h485, q486⟩ := ob q483; clear q483
      refine t_rd rfl (rd_cv64 tH57 tI3 h485 rfl) ?_
      refine t_rd rfl (rd_assign rfl) ?_
      refine rwt_nil ?_
      refine qn_then ?_
      refine cw_seq ?_
      refine cw_region ?_
      refine t_rd rfl (rd_move rfl) ?_
      refine t_rd rfl (rd_move rfl) ?_
      obtain ⟨x487, h488, q489⟩ := ob q486; clear q486
      refine t_rd rfl (rd_add64 h488 rfl rfl) ?_
      refine t_rd rfl (rd_assign rfl) ?_
      refine rwt_nil ?_
      refine qn_then ?_
      refine cw_seq ?_
      refine cw_region ?_
      refine t_rd rfl (rd_assign rfl) ?_
      refine t_rd rfl (rd_assign rfl) ?_
      refine rwt_nil ?_
      refine qn_then ?_
      refine cw_seq ?_
      refine cw_seq ?_
      refine cw_region ?_
      refine t_rd rfl (rd_move rfl) ?_
      refine t_rd rfl (rd_move rfl) ?_
      refine t_rd rfl (rd_gtr rfl rfl) ?_
      refine rwt_nil ?_
      refine qn_then ?_
      obtain ⟨j497, hit498, q499⟩ := ob q489; clear q489
      refine cw_join (X := fun eq envq wq => eq = .normal ∧ Sub [(0, v0), (1, (Value.int .i64 a1)), (2, (Value.int .i64 a2)), (3, (Value.int .i64 a3)), (4, (Value.func (.func 27) #[] #[(Value.pointer (some ⟨pB v4, pO v4, none⟩))])), (18, (Value.int .i64 x484)), (19, (Value.int .i64 x487)), (20, (Value.int .i64 j497.1)), (21, (Value.int .i64 j497.2))] envq ∧ Mem w (ownL 3 v0 (a0 : List Int)).D [ownL 3 v0 (a0 : List Int)] wq) ?_ ?_
      · clear q499
        obtain ⟨hb500, q501⟩ | ⟨hb500, q501⟩ := oi hit498 <;> clear hit498
        · refine cw_t rfl hb500 ?_
          refine cw_seq ?_
          refine cw_region ?_
          refine t_rd rfl (rd_move rfl) ?_
          refine t_rd rfl (rd_move rfl) ?_
          obtain ⟨x502, h503, q504⟩ := ob q501; clear q501
          refine t_rd rfl (rd_sub64 h503 rfl rfl) ?_
          refine t_rd rfl (rd_assign rfl) ?_
          refine rwt_nil ?_
          refine qn_then ?_
          refine cw_region ?_
          refine t_rd rfl (rd_move rfl) ?_
          refine t_rd rfl (rd_assign rfl) ?_
          refine rwt_nil ?_
          obtain rfl := os q504
          exact ⟨rfl, (by repeat (first | exact Sub.nil _ | refine Sub.cons rfl ?_)), (hm0.pick [0] (by decide) rfl)⟩
        · refine cw_f rfl hb500 ?_
          refine cw_seq ?_
          refine cw_region ?_
          refine t_rd rfl (rd_move rfl) ?_
          refine t_rd rfl (rd_assign rfl) ?_
          refine rwt_nil ?_
          refine qn_then ?_
          refine cw_region ?_
          refine t_rd rfl (rd_move rfl) ?_
          refine t_rd rfl (rd_assign rfl) ?_
          refine rwt_nil ?_
          obtain rfl := os q501
          exact ⟨rfl, (by repeat (first | exact Sub.nil _ | refine Sub.cons rfl ?_)), (hm0.pick [0] (by decide) rfl)⟩
      · clear hit498
        intro e env505 w506 hX507
        obtain ⟨rfl, hs508, hm509⟩ := hX507
        refine qn_then ?_
        refine cw_sub hs508 ?_
        refine cw_seq ?_
        refine cw_region ?_
        refine t_rd rfl (rd_move rfl) ?_
        obtain ⟨x510, h511, q512⟩ := ob q499; clear q499
        refine t_rd rfl (rd_sub64 h511 rfl rfl) ?_
        refine t_rd rfl (rd_assign rfl) ?_
        refine rwt_nil ?_
        refine qn_then ?_
        refine cw_seq ?_
        refine cw_block ?_
        obtain ⟨r594, hit595, q596⟩ := ob q512; clear q512
        refine cw_loop2 (I := fun q envq wq => Sub [(0, v0), (1, (Value.int .i64 a1)), (2, (Value.int .i64 a2)), (3, (Value.int .i64 a3)), (4, (Value.func (.func 27) #[] #[(Value.pointer (some ⟨pB v4, pO v4, none⟩))])), (18, (Value.int .i64 x484)), (19, (Value.int .i64 x487)), (20, (Value.int .i64 q.1)), (21, (Value.int .i64 q.2)), (22, (Value.int .i64 x510))] envq ∧ Mem w (ownL 3 v0 (a0 : List Int)).D [ownL 3 v0 (a0 : List Int)] wq) (X := fun eq envq wq => eq = .exit 8 ∧ Sub [(0, v0), (1, (Value.int .i64 a1)), (2, (Value.int .i64 a2)), (3, (Value.int .i64 a3)), (4, (Value.func (.func 27) #[] #[(Value.pointer (some ⟨pB v4, pO v4, none⟩))])), (18, (Value.int .i64 x484)), (19, (Value.int .i64 x487)), (20, (Value.int .i64 r594))] envq ∧ Mem w (ownL 3 v0 (a0 : List Int)).D [ownL 3 v0 (a0 : List Int)] wq) hit595 ⟨(by repeat (first | exact Sub.nil _ | refine Sub.cons rfl ?_)), (hm509.pick [0] (by decide) rfl)⟩ ?_ ?_
        · rintro ⟨i586, i587⟩ x589 env590 w591 hf592 hr593 ⟨hs_, hm_⟩
          have hs_ : Sub [(0, v0), (1, (Value.int .i64 a1)), (2, (Value.int .i64 a2)), (3, (Value.int .i64 a3)), (4, (Value.func (.func 27) #[] #[(Value.pointer (some ⟨pB v4, pO v4, none⟩))])), (18, (Value.int .i64 x484)), (19, (Value.int .i64 x487)), (20, (Value.int .i64 i586)), (21, (Value.int .i64 i587)), (22, (Value.int .i64 x510))] env590 := hs_
          have hm597 : Mem w (ownL 3 v0 (a0 : List Int)).D [ownL 3 v0 (a0 : List Int)] w591 := hm_
          refine cw_sub hs_ ?_
          clear hs_ hm_ q596
          have h : g_slices_symMergeCmpFunc_int_l5 N a0 a4 x510 i586 i587 = some x589 := hf592
          clear hf592
          refine cw_seq ?_
          refine cw_seq ?_
          refine cw_region ?_
          refine t_rd rfl (rd_move rfl) ?_
          refine t_rd rfl (rd_move rfl) ?_
          refine t_rd rfl (rd_lss rfl rfl) ?_
          refine rwt_nil ?_
          refine qn_then ?_
          obtain ⟨hb598, q599⟩ | ⟨hb598, q599⟩ := oi h <;> clear h
          · refine cw_t rfl hb598 ?_
            refine cw_skip ?_
            refine qn_then ?_
            refine cw_block ?_
            refine cw_seq ?_
            refine cw_region ?_
            refine t_rd rfl (rd_move rfl) ?_
            refine t_rd rfl (rd_move rfl) ?_
            obtain ⟨x600, h601, q602⟩ := ob q599; clear q599
            refine t_rd rfl (rd_add64 h601 rfl rfl) ?_
            refine t_rd rfl (rd_cvu64 tH3 tI57 rfl) ?_
            obtain ⟨x603, h604, q605⟩ := ob q602; clear q602
            refine t_rd rfl (rd_shr_u64 h604 rfl rfl) ?_
            obtain ⟨x606, h607, q608⟩ := ob q605; clear q605
            refine t_rd rfl (rd_cv64 tH57 tI3 h607 rfl) ?_
            refine t_rd rfl (rd_assign rfl) ?_
            refine rwt_nil ?_
            refine qn_then ?_
            refine cw_seq ?_
            obtain ⟨w610, he612⟩ : ∃ q, q = w591.drew := ⟨_, rfl⟩
            have hm611 := hm597.drew; rw [← he612] at hm611
            refine cw_region_s (fun q => q = w610) (cls [] [11]) mixed ?_
            rintro _ rfl; rw [← he612]
            refine s_rp (i := 0) rfl (by kernel_rfl) rfl (fun _ => (rd_move rfl)) ?_
            refine s_rp (i := 1) rfl (by kernel_rfl) rfl (fun _ => (rd_move rfl)) ?_
            refine s_rp (i := 2) rfl (by kernel_rfl) rfl (fun _ => (rd_move rfl)) ?_
            refine s_rp (i := 3) rfl (by kernel_rfl) rfl (fun _ => (rd_move rfl)) ?_
            obtain ⟨x613, h614, q615⟩ := ob q608; clear q608
            refine s_rp (i := 4) rfl (by kernel_rfl) rfl (fun _ => (rd_sub64 h614 rfl rfl)) ?_
            obtain ⟨x616, h617, q618⟩ := ob q615; clear q615
            refine s_rp (i := 5) rfl (by kernel_rfl) rfl (fun _ => (rd_index tS22 rfl rfl (hm611.sl 0 rfl) h617)) ?_
            refine s_rd (i := 6) rfl (by kernel_rfl) rfl (fun _ hS => by rw [hS]; exact (rd_ld1 tO3 rfl ((hm611.sl 0 rfl).cells h617) (off := 0) rfl)) rfl ?_
            refine s_rp (i := 7) rfl (by kernel_rfl) rfl (fun _ => (rd_move rfl)) ?_
            refine s_rp (i := 8) rfl (by kernel_rfl) rfl (fun _ => (rd_move rfl)) ?_
            obtain ⟨x619, h620, q621⟩ := ob q618; clear q618
            refine s_rp (i := 9) rfl (by kernel_rfl) rfl (fun _ => (rd_index tS22 rfl rfl (hm611.sl 0 rfl) h620)) ?_
            refine s_rd (i := 10) rfl (by kernel_rfl) rfl (fun _ hS => by rw [hS]; exact (rd_ld1 tO3 rfl ((hm611.sl 0 rfl).cells h620) (off := 0) rfl)) rfl ?_
            obtain ⟨r622, h623, q624⟩ := ob q621; clear q621
            refine s_ef (i := 11) rfl (by kernel_rfl) rfl (ef_callv tf27 rfl rfl (engine_order_1_ok h623 ((hn4.to_call hm611).sl))) (by decide) (fun _ _ _ q => absurd q (by decide)) ?_
            rintro _ w626 ⟨e_, hm625⟩
            obtain rfl := e_.symm
            have hm627 := hm611.call hm625
            refine s_rp (i := 12) rfl (by kernel_rfl) rfl (fun _ => (rd_lss rfl rfl)) ?_
            refine s_rp (i := 13) rfl (by kernel_rfl) rfl (fun _ => (rd_not rfl)) ?_
            refine s_nil (by kernel_rfl) ?_
            refine qn_then ?_
            obtain ⟨hb628, q629⟩ | ⟨hb628, q629⟩ := oi q624 <;> clear q624
            · refine cw_t rfl hb628 ?_
              refine cw_region ?_
              refine t_rd rfl (rd_move rfl) ?_
              obtain ⟨x630, h631, q632⟩ := ob q629; clear q629
              refine t_rd rfl (rd_add64 h631 rfl rfl) ?_
              refine t_rd rfl (rd_assign rfl) ?_
              refine rwt_nil ?_
              refine qn_block (qn_then ?_)
              refine ⟨_, (os q632), (by repeat (first | exact Sub.nil _ | refine Sub.cons rfl ?_)), (hm627.pick [0] (by decide) rfl)⟩
            · refine cw_f rfl hb628 ?_
              refine cw_region ?_
              refine t_rd rfl (rd_move rfl) ?_
              refine t_rd rfl (rd_assign rfl) ?_
              refine rwt_nil ?_
              refine qn_block (qn_then ?_)
              refine ⟨_, (os q629), (by repeat (first | exact Sub.nil _ | refine Sub.cons rfl ?_)), (hm627.pick [0] (by decide) rfl)⟩
          · refine cw_f rfl hb598 ?_
            refine cw_exit ?_
            refine qx_then (qx_then ?_)
            obtain rfl := hr593 _ (os q599)
            exact ⟨rfl, (by repeat (first | exact Sub.nil _ | refine Sub.cons rfl ?_)), (hm597.pick [0] (by decide) rfl)⟩
        · skip
          intro e env633 w634 hX635
          obtain ⟨rfl, hs636, hm637⟩ := hX635
          refine qx_same (qn_then ?_)
          refine cw_sub hs636 ?_
          refine cw_seq ?_
          refine cw_region ?_
          refine t_rd rfl (rd_move rfl) ?_
          refine t_rd rfl (rd_move rfl) ?_
          obtain ⟨x638, h639, q640⟩ := ob q596; clear q596
          refine t_rd rfl (rd_sub64 h639 rfl rfl) ?_
          refine t_rd rfl (rd_assign rfl) ?_
          refine rwt_nil ?_
          refine qn_then ?_
          refine cw_seq ?_
          refine cw_seq ?_
          refine cw_region ?_
          refine t_rd rfl (rd_move rfl) ?_
          refine t_rd rfl (rd_move rfl) ?_
          refine t_rd rfl (rd_lss rfl rfl) ?_
          refine t_rd rfl (rd_move rfl) ?_
          refine t_rdg rfl rfl rfl rfl (gv_t _) (fun hg641 => (rd_move rfl)) ?_
          refine t_rdg rfl rfl rfl rfl (gv_t _) (fun hg642 => (rd_move rfl)) ?_
          refine t_rdg rfl rfl rfl rfl (gv_t _) (fun hg643 => (rd_lss (gvx rfl hg643) (gvx rfl hg643))) ?_
          refine t_rd rfl (rd_and rfl (fun hc644 => (gvx rfl hc644))) ?_
          refine rwt_nil ?_
          refine qn_then ?_
          obtain ⟨j654, hit655, q656⟩ := ob q640; clear q640
          refine cw_join (X := fun eq envq wq => eq = .normal ∧ Sub [(0, v0), (1, (Value.int .i64 a1)), (3, (Value.int .i64 a3)), (4, (Value.func (.func 27) #[] #[(Value.pointer (some ⟨pB v4, pO v4, none⟩))])), (18, (Value.int .i64 x484)), (20, (Value.int .i64 r594)), (24, (Value.int .i64 x638))] envq ∧ Mem w (ownL 3 v0 (a0 : List Int)).D [ownL 3 v0 (j654 : List Int)] wq) ?_ ?_
          · clear q656
            obtain ⟨hb657, q658⟩ | ⟨hb657, q658⟩ := oi hit655 <;> clear hit655
            · refine cw_t rfl hb657 ?_
              refine cw_region ?_
              refine t_rd rfl (rd_move rfl) ?_
              refine t_rd rfl (rd_move rfl) ?_
              refine t_rd rfl (rd_move rfl) ?_
              refine t_rd rfl (rd_move rfl) ?_
              refine t_rd rfl (rd_move rfl) ?_
              obtain ⟨r659, h660, q661⟩ := ob q658; clear q658
              refine t_ef rfl (ef_call tf33 rfl (g_slices_rotateCmpFunc_int_ok h660 (hm637.get (k := 0) rfl) ((hn4.to_callT (k := 0) hm637 rfl).sl))) ?_
              rintro _ w663 ⟨e_, hm662⟩
              obtain rfl := e_.symm
              have hm664 := hm637.callT (k := 0) rfl (fun _ h => h) hm662 (fun _ => Iff.rfl)
              refine rwt_nil ?_
              obtain rfl := os q661
              exact ⟨rfl, (by repeat (first | exact Sub.nil _ | refine Sub.cons rfl ?_)), (hm664.pick [0] (by decide) rfl)⟩
            · refine cw_f rfl hb657 ?_
              refine cw_skip ?_
              obtain rfl := os q658
              exact ⟨rfl, (by repeat (first | exact Sub.nil _ | refine Sub.cons rfl ?_)), (hm637.pick [0] (by decide) rfl)⟩
          · clear hit655
            intro e env665 w666 hX667
            obtain ⟨rfl, hs668, hm669⟩ := hX667
            refine qn_then ?_
            refine cw_sub hs668 ?_
            refine cw_seq ?_
            refine cw_seq ?_
            refine cw_region ?_
            refine t_rd rfl (rd_move rfl) ?_
            refine t_rd rfl (rd_move rfl) ?_
            refine t_rd rfl (rd_lss rfl rfl) ?_
            refine t_rd rfl (rd_move rfl) ?_
            refine t_rdg rfl rfl rfl rfl (gv_t _) (fun hg670 => (rd_move rfl)) ?_
            refine t_rdg rfl rfl rfl rfl (gv_t _) (fun hg671 => (rd_move rfl)) ?_
            refine t_rdg rfl rfl rfl rfl (gv_t _) (fun hg672 => (rd_lss (gvx rfl hg672) (gvx rfl hg672))) ?_
            refine t_rd rfl (rd_and rfl (fun hc673 => (gvx rfl hc673))) ?_
            refine rwt_nil ?_
            refine qn_then ?_
            obtain ⟨j683, hit684, q685⟩ := ob q656; clear q656
            refine cw_join (X := fun eq envq wq => eq = .normal ∧ Sub [(0, v0), (3, (Value.int .i64 a3)), (4, (Value.func (.func 27) #[] #[(Value.pointer (some ⟨pB v4, pO v4, none⟩))])), (18, (Value.int .i64 x484)), (24, (Value.int .i64 x638))] envq ∧ Mem w (ownL 3 v0 (a0 : List Int)).D [ownL 3 v0 (j683 : List Int)] wq) ?_ ?_
            · clear q685
              obtain ⟨hb686, q687⟩ | ⟨hb686, q687⟩ := oi hit684 <;> clear hit684
              · refine cw_t rfl hb686 ?_
                refine cw_region ?_
                refine t_rd rfl (rd_move rfl) ?_
                refine t_rd rfl (rd_move rfl) ?_
                refine t_rd rfl (rd_move rfl) ?_
                refine t_rd rfl (rd_move rfl) ?_
                refine t_rd rfl (rd_move rfl) ?_
                obtain ⟨r688, h689, q690⟩ := ob q687; clear q687
                refine t_ef rfl (ef_call tf32 rfl (ih h689 (hm669.get (k := 0) rfl) ((hn4.to_callT (k := 0) hm669 rfl).sl))) ?_
                rintro _ w692 ⟨e_, hm691⟩
                obtain rfl := e_.symm
                have hm693 := hm669.callT (k := 0) rfl (fun _ h => h) hm691 (fun _ => Iff.rfl)
                refine rwt_nil ?_
                obtain rfl := os q690
                exact ⟨rfl, (by repeat (first | exact Sub.nil _ | refine Sub.cons rfl ?_)), (hm693.pick [0] (by decide) rfl)⟩
              · refine cw_f rfl hb686 ?_
                refine cw_skip ?_
                obtain rfl := os q687
                exact ⟨rfl, (by repeat (first | exact Sub.nil _ | refine Sub.cons rfl ?_)), (hm669.pick [0] (by decide) rfl)⟩
            · clear hit684
              intro e env694 w695 hX696
              obtain ⟨rfl, hs697, hm698⟩ := hX696
              refine qn_then ?_
              refine cw_sub hs697 ?_
              refine cw_seq ?_
              refine cw_region ?_
              refine t_rd rfl (rd_move rfl) ?_
              refine t_rd rfl (rd_move rfl) ?_
              refine t_rd rfl (rd_lss rfl rfl) ?_
              refine t_rd rfl (rd_move rfl) ?_
              refine t_rdg rfl rfl rfl rfl (gv_t _) (fun hg699 => (rd_move rfl)) ?_
              refine t_rdg rfl rfl rfl rfl (gv_t _) (fun hg700 => (rd_move rfl)) ?_
              refine t_rdg rfl rfl rfl rfl (gv_t _) (fun hg701 => (rd_lss (gvx rfl hg701) (gvx rfl hg701))) ?_
              refine t_rd rfl (rd_and rfl (fun hc702 => (gvx rfl hc702))) ?_
              refine rwt_nil ?_
              refine qn_then ?_
              obtain ⟨hb703, q704⟩ | ⟨hb703, q704⟩ := oi q685 <;> clear q685
              · refine cw_t rfl hb703 ?_
                refine cw_region ?_
                refine t_rd rfl (rd_move rfl) ?_
                refine t_rd rfl (rd_move rfl) ?_
                refine t_rd rfl (rd_move rfl) ?_
                refine t_rd rfl (rd_move rfl) ?_
                refine t_rd rfl (rd_move rfl) ?_
                obtain ⟨r705, h706, q707⟩ := ob q704; clear q704
                refine t_ef rfl (ef_call tf32 rfl (ih h706 (hm698.get (k := 0) rfl) ((hn4.to_callT (k := 0) hm698 rfl).sl))) ?_
                rintro _ w709 ⟨e_, hm708⟩
                obtain rfl := e_.symm
                have hm710 := hm698.callT (k := 0) rfl (fun _ h => h) hm708 (fun _ => Iff.rfl)
                refine rwt_nil ?_
                obtain rfl := os q707
                refine retn ?_
                exact ret0 rfl ⟨rfl, (hm710.pick [0] (by decide) rfl)⟩
              · refine cw_f rfl hb703 ?_
                refine cw_skip ?_
                obtain rfl := os q704
                refine retn ?_
                exact ret0 rfl ⟨rfl, (hm698.pick [0] (by decide) rfl)⟩

theorem g_slices_symMergeCmpFunc_int_ok {N : Nat} {a0 : List Int} {a1 : Int} {a2 : Int} {a3 : Int} {a4 : List (List T_Task)} {res : List Int} (h : g_slices_symMergeCmpFunc_int N a0 a1 a2 a3 a4 = some res) {w : World} {v0 : Value} {v4 : Value} (hk0 : (ownL 3 v0 (a0 : List Int)).φ w) (hv4 : Sl (Old w (ownL 3 v0 (a0 : List Int)).D) w v4 a4) :
    CallsR Try.prog 32 [v0, (Value.int .i64 a1), (Value.int .i64 a2), (Value.int .i64 a3), (Value.func (.func 27) #[] #[(Value.pointer (some ⟨pB v4, pO v4, none⟩))])] w (fun u w' => u = (Value.tuple #[]) ∧ Mem w (ownL 3 v0 (a0 : List Int)).D [ownL 3 v0 (res : List Int)] w') := g_slices_symMergeCmpFunc_int_r_ok N h hk0 hv4

theorem g_slices_stableCmpFunc_int_ok {N : Nat} {a0 : List Int} {a1 : Int} {a2 : List (List T_Task)} {res : List Int} (h : g_slices_stableCmpFunc_int N a0 a1 a2 = some res) {w : World} {v0 : Value} {v2 : Value} (hk0 : (ownL 3 v0 (a0 : List Int)).φ w) (hv2 : Sl (Old w (ownL 3 v0 (a0 : List Int)).D) w v2 a2) :
    CallsR Try.prog 29 [v0, (Value.int .i64 a1), (Value.func (.func 27) #[] #[(Value.pointer (some ⟨pB v2, pO v2, none⟩))])] w (fun u w' => u = (Value.tuple #[]) ∧ Mem w (ownL 3 v0 (a0 : List Int)).D [ownL 3 v0 (res : List Int)] w') := by
  unfold g_slices_stableCmpFunc_int at h
  refine fn_ok Try.func29 rfl rfl rfl ?_
  obtain ⟨zs_a2, hn2⟩ := hv2.nest
  have hm0 := Mem.one hk0
  refine cw_seq ?_
  refine cw_region ?_
  refine t_rd rfl (rd_assign rfl) ?_
  refine rwt_nil ?_
  refine qn_then ?_
  refine cw_seq ?_
  refine cw_region ?_
  refine t_rd rfl (rd_move rfl) ?_
  refine t_rd rfl (rd_assign rfl) ?_
  refine t_rd rfl (rd_assign rfl) ?_
  refine rwt_nil ?_
  refine qn_then ?_
  refine cw_seq ?_
  refine cw_block ?_
  obtain ⟨r37, hit38, q39⟩ := ob h; clear h
  refine cw_loop2 (I := fun q envq wq => Sub [(0, v0), (1, (Value.int .i64 a1)), (2, (Value.func (.func 27) #[] #[(Value.pointer (some ⟨pB v2, pO v2, none⟩))])), (6, (Value.int .i64 20)), (7, (Value.int .i64 q.1)), (8, (Value.int .i64 q.2.1))] envq ∧ Mem w (ownL 3 v0 (a0 : List Int)).D [ownL 3 v0 (q.2.2 : List Int)] wq) (X := fun eq envq wq => eq = .exit 0 ∧ Sub [(0, v0), (1, (Value.int .i64 a1)), (2, (Value.func (.func 27) #[] #[(Value.pointer (some ⟨pB v2, pO v2, none⟩))])), (6, (Value.int .i64 20)), (7, (Value.int .i64 r37.1))] envq ∧ Mem w (ownL 3 v0 (a0 : List Int)).D [ownL 3 v0 (r37.2 : List Int)] wq) hit38 ⟨(by repeat (first | exact Sub.nil _ | refine Sub.cons rfl ?_)), (hm0.pick [0] (by decide) rfl)⟩ ?_ ?_
  · rintro ⟨i28, i29, l30⟩ x32 env33 w34 hf35 hr36 ⟨hs_, hm_⟩
    have hs_ : Sub [(0, v0), (1, (Value.int .i64 a1)), (2, (Value.func (.func 27) #[] #[(Value.pointer (some ⟨pB v2, pO v2, none⟩))])), (6, (Value.int .i64 20)), (7, (Value.int .i64 i28)), (8, (Value.int .i64 i29))] env33 := hs_
    have hm40 : Mem w (ownL 3 v0 (a0 : List Int)).D [ownL 3 v0 (l30 : List Int)] w34 := hm_
    refine cw_sub hs_ ?_
    clear hs_ hm_ q39
    have h : g_slices_stableCmpFunc_int_l1 N a1 a2 i28 i29 l30 = some x32 := hf35
    clear hf35
    refine cw_seq ?_
    refine cw_seq ?_
    refine cw_region ?_
    refine t_rd rfl (rd_move rfl) ?_
    refine t_rd rfl (rd_move rfl) ?_
    refine t_rd rfl (rd_leq rfl rfl) ?_
    refine rwt_nil ?_
    refine qn_then ?_
    obtain ⟨hb41, q42⟩ | ⟨hb41, q42⟩ := oi h <;> clear h
    · refine cw_t rfl hb41 ?_
      refine cw_skip ?_
      refine qn_then ?_
      refine cw_block ?_
      refine cw_seq ?_
      refine cw_region ?_
      refine t_rd rfl (rd_move rfl) ?_
      refine t_rd rfl (rd_move rfl) ?_
      refine t_rd rfl (rd_move rfl) ?_
      refine t_rd rfl (rd_move rfl) ?_
      obtain ⟨r43, h44, q45⟩ := ob q42; clear q42
      refine t_ef rfl (ef_call tf31 rfl (g_slices_insertionSortCmpFunc_int_ok h44 (hm40.get (k := 0) rfl) ((hn2.to_callT (k := 0) hm40 rfl).sl))) ?_
      rintro _ w47 ⟨e_, hm46⟩
      obtain rfl := e_.symm
      have hm48 := hm40.callT (k := 0) rfl (fun _ h => h) hm46 (fun _ => Iff.rfl)
      refine rwt_nil ?_
      refine qn_then ?_
      refine cw_seq ?_
      refine cw_region ?_
      refine t_rd rfl (rd_move rfl) ?_
      refine t_rd rfl (rd_assign rfl) ?_
      refine rwt_nil ?_
      refine qn_then ?_
      refine cw_region ?_
      refine t_rd rfl (rd_move rfl) ?_
      refine t_rd rfl (rd_move rfl) ?_
      obtain ⟨x49, h50, q51⟩ := ob q45; clear q45
      refine t_rd rfl (rd_add64 h50 rfl rfl) ?_
      refine t_rd rfl (rd_assign rfl) ?_
      refine rwt_nil ?_
      refine qn_block (qn_then ?_)
      refine ⟨_, (os q51), (by repeat (first | exact Sub.nil _ | refine Sub.cons rfl ?_)), (hm48.pick [0] (by decide) rfl)⟩
    · refine cw_f rfl hb41 ?_
      refine cw_exit ?_
      refine qx_then (qx_then ?_)
      obtain rfl := hr36 _ (os q42)
      exact ⟨rfl, (by repeat (first | exact Sub.nil _ | refine Sub.cons rfl ?_)), (hm40.pick [0] (by decide) rfl)⟩
  · skip
    intro e env52 w53 hX54
    obtain ⟨rfl, hs55, hm56⟩ := hX54
    refine qx_same (qn_then ?_)
    refine cw_sub hs55 ?_
    refine cw_seq ?_
    refine cw_region ?_
    refine t_rd rfl (rd_move rfl) ?_
    refine t_rd rfl (rd_move rfl) ?_
    refine t_rd rfl (rd_move rfl) ?_
    refine t_rd rfl (rd_move rfl) ?_
    obtain ⟨r57, h58, q59⟩ := ob q39; clear q39
    refine t_ef rfl (ef_call tf31 rfl (g_slices_insertionSortCmpFunc_int_ok h58 (hm56.get (k := 0) rfl) ((hn2.to_callT (k := 0) hm56 rfl).sl))) ?_
    rintro _ w61 ⟨e_, hm60⟩
    obtain rfl := e_.symm
    have hm62 := hm56.callT (k := 0) rfl (fun _ h => h) hm60 (fun _ => Iff.rfl)
    refine rwt_nil ?_
    refine qn_then ?_
    refine cw_block ?_
    obtain ⟨r266, hit267, q268⟩ := ob q59; clear q59
    refine cw_loop2 (I := fun q envq wq => Sub [(0, v0), (1, (Value.int .i64 a1)), (2, (Value.func (.func 27) #[] #[(Value.pointer (some ⟨pB v2, pO v2, none⟩))])), (6, (Value.int .i64 q.1))] envq ∧ Mem w (ownL 3 v0 (a0 : List Int)).D [ownL 3 v0 (q.2 : List Int)] wq) (X := fun eq envq wq => eq = .exit 2 ∧ Sub [] envq ∧ Mem w (ownL 3 v0 (a0 : List Int)).D [ownL 3 v0 (r266 : List Int)] wq) hit267 ⟨(by repeat (first | exact Sub.nil _ | refine Sub.cons rfl ?_)), (hm62.pick [0] (by decide) rfl)⟩ ?_ ?_
    · rintro ⟨i258, l259⟩ x261 env262 w263 hf264 hr265 ⟨hs_, hm_⟩
      have hs_ : Sub [(0, v0), (1, (Value.int .i64 a1)), (2, (Value.func (.func 27) #[] #[(Value.pointer (some ⟨pB v2, pO v2, none⟩))])), (6, (Value.int .i64 i258))] env262 := hs_
      have hm269 : Mem w (ownL 3 v0 (a0 : List Int)).D [ownL 3 v0 (l259 : List Int)] w263 := hm_
      refine cw_sub hs_ ?_
      clear hs_ hm_ q268
      have h : g_slices_stableCmpFunc_int_l4 N a1 a2 i258 l259 = some x261 := hf264
      clear hf264
      refine cw_seq ?_
      refine cw_seq ?_
      refine cw_region ?_
      refine t_rd rfl (rd_move rfl) ?_
      refine t_rd rfl (rd_move rfl) ?_
      refine t_rd rfl (rd_lss rfl rfl) ?_
      refine rwt_nil ?_
      refine qn_then ?_
      obtain ⟨hb270, q271⟩ | ⟨hb270, q271⟩ := oi h <;> clear h
      · refine cw_t rfl hb270 ?_
        refine cw_skip ?_
        refine qn_then ?_
        refine cw_block ?_
        refine cw_seq ?_
        refine cw_region ?_
        refine t_rd rfl (rd_move rfl) ?_
        obtain ⟨x272, h273, q274⟩ := ob q271; clear q271
        refine t_rd rfl (rd_mul64 h273 rfl rfl) ?_
        refine t_rd rfl (rd_assign rfl) ?_
        refine t_rd rfl (rd_assign rfl) ?_
        refine rwt_nil ?_
        refine qn_then ?_
        refine cw_seq ?_
        refine cw_block ?_
        obtain ⟨r323, hit324, q325⟩ := ob q274; clear q274
        refine cw_loop2 (I := fun q envq wq => Sub [(0, v0), (1, (Value.int .i64 a1)), (2, (Value.func (.func 27) #[] #[(Value.pointer (some ⟨pB v2, pO v2, none⟩))])), (6, (Value.int .i64 i258)), (7, (Value.int .i64 q.1)), (8, (Value.int .i64 q.2.1))] envq ∧ Mem w (ownL 3 v0 (a0 : List Int)).D [ownL 3 v0 (q.2.2 : List Int)] wq) (X := fun eq envq wq => eq = .exit 4 ∧ Sub [(0, v0), (1, (Value.int .i64 a1)), (2, (Value.func (.func 27) #[] #[(Value.pointer (some ⟨pB v2, pO v2, none⟩))])), (6, (Value.int .i64 i258)), (7, (Value.int .i64 r323.1))] envq ∧ Mem w (ownL 3 v0 (a0 : List Int)).D [ownL 3 v0 (r323.2 : List Int)] wq) hit324 ⟨(by repeat (first | exact Sub.nil _ | refine Sub.cons rfl ?_)), (hm269.pick [0] (by decide) rfl)⟩ ?_ ?_
        · rintro ⟨i314, i315, l316⟩ x318 env319 w320 hf321 hr322 ⟨hs_, hm_⟩
          have hs_ : Sub [(0, v0), (1, (Value.int .i64 a1)), (2, (Value.func (.func 27) #[] #[(Value.pointer (some ⟨pB v2, pO v2, none⟩))])), (6, (Value.int .i64 i258)), (7, (Value.int .i64 i314)), (8, (Value.int .i64 i315))] env319 := hs_
          have hm326 : Mem w (ownL 3 v0 (a0 : List Int)).D [ownL 3 v0 (l316 : List Int)] w320 := hm_
          refine cw_sub hs_ ?_
          clear hs_ hm_ q325
          have h : g_slices_stableCmpFunc_int_l5 N a1 a2 i258 i314 i315 l316 = some x318 := hf321
          clear hf321
          refine cw_seq ?_
          refine cw_seq ?_
          refine cw_region ?_
          refine t_rd rfl (rd_move rfl) ?_
          refine t_rd rfl (rd_move rfl) ?_
          refine t_rd rfl (rd_leq rfl rfl) ?_
          refine rwt_nil ?_
          refine qn_then ?_
          obtain ⟨hb327, q328⟩ | ⟨hb327, q328⟩ := oi h <;> clear h
          · refine cw_t rfl hb327 ?_
            refine cw_skip ?_
            refine qn_then ?_
            refine cw_block ?_
            refine cw_seq ?_
            refine cw_region ?_
            refine t_rd rfl (rd_move rfl) ?_
            refine t_rd rfl (rd_move rfl) ?_
            refine t_rd rfl (rd_move rfl) ?_
            refine t_rd rfl (rd_move rfl) ?_
            obtain ⟨x329, h330, q331⟩ := ob q328; clear q328
            refine t_rd rfl (rd_add64 h330 rfl rfl) ?_
            refine t_rd rfl (rd_move rfl) ?_
            refine t_rd rfl (rd_move rfl) ?_
            obtain ⟨r332, h333, q334⟩ := ob q331; clear q331
            refine t_ef rfl (ef_call tf32 rfl (g_slices_symMergeCmpFunc_int_ok h333 (hm326.get (k := 0) rfl) ((hn2.to_callT (k := 0) hm326 rfl).sl))) ?_
            rintro _ w336 ⟨e_, hm335⟩
            obtain rfl := e_.symm
            have hm337 := hm326.callT (k := 0) rfl (fun _ h => h) hm335 (fun _ => Iff.rfl)
            refine rwt_nil ?_
            refine qn_then ?_
            refine cw_seq ?_
            refine cw_region ?_
            refine t_rd rfl (rd_move rfl) ?_
            refine t_rd rfl (rd_assign rfl) ?_
            refine rwt_nil ?_
            refine qn_then ?_
            refine cw_region ?_
            refine t_rd rfl (rd_move rfl) ?_
            refine t_rd rfl (rd_move rfl) ?_
            obtain ⟨x338, h339, q340⟩ := ob q334; clear q334
            refine t_rd rfl (rd_mul64 h339 rfl rfl) ?_
            obtain ⟨x341, h342, q343⟩ := ob q340; clear q340
            refine t_rd rfl (rd_add64 h342 rfl rfl) ?_
            refine t_rd rfl (rd_assign rfl) ?_
            refine rwt_nil ?_
            refine qn_block (qn_then ?_)
            refine ⟨_, (os q343), (by repeat (first | exact Sub.nil _ | refine Sub.cons rfl ?_)), (hm337.pick [0] (by decide) rfl)⟩
          · refine cw_f rfl hb327 ?_
            refine cw_exit ?_
            refine qx_then (qx_then ?_)
            obtain rfl := hr322 _ (os q328)
            exact ⟨rfl, (by repeat (first | exact Sub.nil _ | refine Sub.cons rfl ?_)), (hm326.pick [0] (by decide) rfl)⟩
        · skip
          intro e env344 w345 hX346
          obtain ⟨rfl, hs347, hm348⟩ := hX346
          refine qx_same (qn_then ?_)
          refine cw_sub hs347 ?_
          refine cw_seq ?_
          refine cw_seq ?_
          refine cw_region ?_
          refine t_rd rfl (rd_move rfl) ?_
          refine t_rd rfl (rd_move rfl) ?_
          obtain ⟨x349, h350, q351⟩ := ob q325; clear q325
          refine t_rd rfl (rd_add64 h350 rfl rfl) ?_
          refine t_rd rfl (rd_assign rfl) ?_
          refine rwt_nil ?_
          refine qn_then ?_
          refine cw_seq ?_
          refine cw_region ?_
          refine t_rd rfl (rd_move rfl) ?_
          refine t_rd rfl (rd_move rfl) ?_
          refine t_rd rfl (rd_lss rfl rfl) ?_
          refine rwt_nil ?_
          refine qn_then ?_
          obtain ⟨hb352, q353⟩ | ⟨hb352, q353⟩ := oi q351 <;> clear q351
          · refine cw_t rfl hb352 ?_
            refine cw_region ?_
            refine t_rd rfl (rd_move rfl) ?_
            refine t_rd rfl (rd_move rfl) ?_
            refine t_rd rfl (rd_move rfl) ?_
            refine t_rd rfl (rd_move rfl) ?_
            refine t_rd rfl (rd_move rfl) ?_
            obtain ⟨r354, h355, q356⟩ := ob q353; clear q353
            refine t_ef rfl (ef_call tf32 rfl (g_slices_symMergeCmpFunc_int_ok h355 (hm348.get (k := 0) rfl) ((hn2.to_callT (k := 0) hm348 rfl).sl))) ?_
            rintro _ w358 ⟨e_, hm357⟩
            obtain rfl := e_.symm
            have hm359 := hm348.callT (k := 0) rfl (fun _ h => h) hm357 (fun _ => Iff.rfl)
            refine rwt_nil ?_
            refine qn_then ?_
            refine cw_region ?_
            refine t_rd rfl (rd_move rfl) ?_
            obtain ⟨x360, h361, q362⟩ := ob q356; clear q356
            refine t_rd rfl (rd_mul64 h361 rfl rfl) ?_
            refine t_rd rfl (rd_assign rfl) ?_
            refine rwt_nil ?_
            refine qn_block (qn_then ?_)
            refine ⟨_, (os q362), (by repeat (first | exact Sub.nil _ | refine Sub.cons rfl ?_)), (hm359.pick [0] (by decide) rfl)⟩
          · refine cw_f rfl hb352 ?_
            refine cw_skip ?_
            refine qn_then ?_
            refine cw_region ?_
            refine t_rd rfl (rd_move rfl) ?_
            obtain ⟨x363, h364, q365⟩ := ob q353; clear q353
            refine t_rd rfl (rd_mul64 h364 rfl rfl) ?_
            refine t_rd rfl (rd_assign rfl) ?_
            refine rwt_nil ?_
            refine qn_block (qn_then ?_)
            refine ⟨_, (os q365), (by repeat (first | exact Sub.nil _ | refine Sub.cons rfl ?_)), (hm348.pick [0] (by decide) rfl)⟩
      · refine cw_f rfl hb270 ?_
        refine cw_exit ?_
        refine qx_then (qx_then ?_)
        obtain rfl := hr265 _ (os q271)
        exact ⟨rfl, (by repeat (first | exact Sub.nil _ | refine Sub.cons rfl ?_)), (hm269.pick [0] (by decide) rfl)⟩
    · skip
      intro e env366 w367 hX368
      obtain ⟨rfl, hs369, hm370⟩ := hX368
      refine qx_same ?_
      obtain rfl := os q268
      refine retn ?_
      refine ret_sub hs369 ?_
      exact ret0 rfl ⟨rfl, (hm370.pick [0] (by decide) rfl)⟩

theorem g_slices_SortStableFunc_int_int_ok {N : Nat} {a0 : List Int} {a1 : List (List T_Task)} {res : List Int} (h : g_slices_SortStableFunc_int_int N a0 a1 = some res) {w : World} {v0 : Value} {v1 : Value} (hk0 : (ownL 3 v0 (a0 : List Int)).φ w) (hv1 : Sl (Old w (ownL 3 v0 (a0 : List Int)).D) w v1 a1) :
    CallsR Try.prog 26 [v0, (Value.func (.func 27) #[] #[(Value.pointer (some ⟨pB v1, pO v1, none⟩))])] w (fun u w' => u = (Value.tuple #[]) ∧ Mem w (ownL 3 v0 (a0 : List Int)).D [ownL 3 v0 (res : List Int)] w') := by
  unfold g_slices_SortStableFunc_int_int at h
  refine fn_ok Try.func26 rfl rfl rfl ?_
  obtain ⟨zs_a1, hn1⟩ := hv1.nest
  have hm0 := Mem.one hk0
  refine cw_region ?_
  refine t_rd rfl (rd_move rfl) ?_
  refine t_rd rfl (rd_move rfl) ?_
  refine t_rd rfl (rd_lenS tS22 rfl (hm0.sl 0 rfl)) ?_
  refine t_rd rfl (rd_move rfl) ?_
  obtain ⟨r1, h2, q3⟩ := ob h; clear h
  refine t_ef rfl (ef_call tf29 rfl (g_slices_stableCmpFunc_int_ok h2 (hm0.get (k := 0) rfl) ((hn1.to_callT (k := 0) hm0 rfl).sl))) ?_
  rintro _ w5 ⟨e_, hm4⟩
  obtain rfl := e_.symm
  have hm6 := hm0.callT (k := 0) rfl (fun _ h => h) hm4 (fun _ => Iff.rfl)
  refine rwt_nil ?_
  obtain rfl := os q3
  refine retn ?_
  exact ret0 rfl ⟨rfl, (hm6.pick [0] (by decide) rfl)⟩

theorem engine_order_ok {N : Nat} {a0 : List T_Task} {res : List Int} (h : engine_order N a0 = some res) {w : World} {v0 : Value} (hv0 : Sl (Old w No) w v0 a0) :
    CallsR Try.prog 25 [v0] w (fun u w' => ∃ (y0 : Value), u = y0 ∧ Mem w No [ownL 3 y0 (res : List Int)] w') := by
  unfold engine_order at h
  refine fn_ok Try.func25 rfl rfl rfl ?_
  have hm0 := Mem.nil w
  refine cw_seq ?_
  refine cw_region ?_
  refine t_ef rfl (ef_box hm0 rfl rfl) ?_
  rintro _ w3 ⟨g1, rfl, hm2⟩
  have cb4 : v0.cells.toList = [v0] := by obtain ⟨_, _, e⟩ := ((hv0.of_old hm0)).val; rw [e]; rfl
  simp only [cb4] at hm2
  refine t_rd rfl (rd_assign rfl) ?_
  refine rwt_nil ?_
  refine qn_then ?_
  refine cw_seq ?_
  refine cw_region ?_
  refine t_rd rfl (rd_assign rfl) ?_
  refine rwt_nil ?_
  refine qn_then ?_
  refine cw_seq ?_
  refine cw_seq ?_
  refine cw_region ?_
  refine t_rd rfl (rd_ld1 tO23 rfl (hm2.blk 0 rfl) (off := 0) rfl) ?_
  refine t_rd rfl (rd_lenS tS23 rfl (hv0.of_old hm2)) ?_
  refine t_rd rfl (rd_move rfl) ?_
  refine rwt_nil ?_
  refine qn_then ?_
  refine cw_block ?_
  have hm20 := hm2.addNil (α := Int) 3
  obtain ⟨r64, hit65, q66⟩ := ob h; clear h
  refine cw_loop2 (I := fun q envq wq => ∃ (v57 : Value), Sub [(1, (Value.pointer (some ⟨g1, 0, none⟩))), (3, v57), (6, (Value.int .i64 (List.length a0 : Int))), (7, (Value.int .i64 q.1))] envq ∧ Mem w No [ownL 3 v57 (q.2 : List Int), blk g1 23 [v0]] wq) (X := fun eq envq wq => eq = .exit 0 ∧ ∃ (v54 : Value), Sub [(1, (Value.pointer (some ⟨g1, 0, none⟩))), (3, v54)] envq ∧ Mem w No [ownL 3 v54 (r64 : List Int), blk g1 23 [v0]] wq) hit65 ⟨(Value.slice none 0 0), (by repeat (first | exact Sub.nil _ | refine Sub.cons rfl ?_)), (hm20.pick [0, 1] (by decide) rfl)⟩ ?_ ?_
  · rintro ⟨i55, l56⟩ x59 env60 w61 hf62 hr63 ⟨v57, hs_, hm_⟩
    have hs_ : Sub [(1, (Value.pointer (some ⟨g1, 0, none⟩))), (3, v57), (6, (Value.int .i64 (List.length a0 : Int))), (7, (Value.int .i64 i55))] env60 := hs_
    have hm67 : Mem w No [ownL 3 v57 (l56 : List Int), blk g1 23 [v0]] w61 := hm_
    refine cw_sub hs_ ?_
    clear hs_ hm_ q66
    have h : engine_order_l1 N a0 i55 l56 = some x59 := hf62
    clear hf62
    refine cw_seq ?_
    refine cw_region ?_
    refine t_rd rfl (rd_lss rfl rfl) ?_
    refine rwt_nil ?_
    refine qn_then ?_
    refine cw_seq ?_
    obtain ⟨hb68, q69⟩ | ⟨hb68, q69⟩ := oi h <;> clear h
    · refine cw_t rfl hb68 ?_
      refine cw_skip ?_
      refine qn_then ?_
      refine cw_seq ?_
      refine cw_block ?_
      refine cw_seq ?_
      refine cw_region ?_
      refine t_rd rfl (rd_move rfl) ?_
      refine t_rd rfl (rd_assign rfl) ?_
      refine rwt_nil ?_
      refine qn_then ?_
      refine cw_region ?_
      refine t_rd rfl (rd_move rfl) ?_
      refine t_rd rfl (rd_move rfl) ?_
      refine t_ef rfl (ef_bslice (l := ([i55] : List Int)) hm67 tS22 rfl (cs := #[(Value.int .i64 i55)]) (by unfold bsl; kernel_rfl) rfl rfl) ?_
      intro v70 w72 hm71
      obtain ⟨l73, h74, q75⟩ := ob q69; clear q69
      refine t_ef rfl (ef_append (k := 1) hm71 tS22 tE3 rfl rfl rfl rfl (hm71.sl 0 rfl) h74) ?_
      intro v76 w78 hm77
      refine t_rd rfl (rd_assign rfl) ?_
      refine rwt_nil ?_
      refine qn_block (qn_then ?_)
      refine cw_region ?_
      obtain ⟨x79, h80, q81⟩ := ob q75; clear q75
      refine t_rd rfl (rd_add64 h80 rfl rfl) ?_
      refine t_rd rfl (rd_move rfl) ?_
      refine rwt_nil ?_
      refine qn_then ?_
      refine ⟨_, (os q81), v76, (by repeat (first | exact Sub.nil _ | refine Sub.cons rfl ?_)), (hm77.pick [1, 2] (by decide) rfl)⟩
    · refine cw_f rfl hb68 ?_
      refine cw_exit ?_
      refine qx_then (qx_then ?_)
      obtain rfl := hr63 _ (os q69)
      exact ⟨rfl, v57, (by repeat (first | exact Sub.nil _ | refine Sub.cons rfl ?_)), (hm67.pick [0, 1] (by decide) rfl)⟩
  · skip
    intro e env82 w83 hX84
    obtain ⟨rfl, v54, hs85, hm86⟩ := hX84
    refine qx_same (qn_then ?_)
    refine cw_sub hs85 ?_
    refine cw_seq ?_
    refine cw_region ?_
    refine t_rd rfl (rd_move rfl) ?_
    refine t_rd rfl (rd_makeFunc rfl) ?_
    obtain ⟨r87, h88, q89⟩ := ob q66; clear q66
    refine t_ef rfl (ef_call tf26 rfl (g_slices_SortStableFunc_int_int_ok (v1 := (Value.slice (some ⟨g1, 0, none⟩) 1 1)) h88 (hm86.get (k := 0) rfl) (hm86.box_callT 1 0 rfl rfl (by decide) (hv0.to_callT (k := 0) hm86 rfl)))) ?_
    rintro _ w91 ⟨e_, hm90⟩
    obtain rfl := e_.symm
    have hm92 := hm86.callT (k := 0) rfl (fun _ h => h) hm90 (fun _ => Iff.rfl)
    refine rwt_nil ?_
    refine qn_then ?_
    refine cw_seq ?_
    refine cw_region ?_
    refine t_rd rfl (rd_move rfl) ?_
    refine t_rd rfl (rd_assign rfl) ?_
    refine rwt_nil ?_
    refine qn_then ?_
    refine cw_ret ?_
    obtain rfl := os q89
    exact ret1 rfl rfl ⟨v54, rfl, (hm92.pick [0] (by decide) rfl)⟩

theorem engine_Assign_ok {N : Nat} {a0 : List T_Task} {a1 : Int} {res : List Int × Int × Int} (h : engine_Assign N a0 a1 = some res) {w : World} {v0 : Value} (hv0 : Sl (Old w No) w v0 a0) :
    CallsR Try.prog 15 [v0, (Value.int .i64 a1)] w (fun u w' => ∃ (y0 : Value), u = (Value.tuple #[y0, (Value.int .i64 res.2.1), (Value.int .i64 res.2.2)]) ∧ Mem w No [ownL 3 y0 (res.1 : List Int)] w') := by
  unfold engine_Assign at h
  refine fn_ok Try.func15 rfl rfl rfl ?_
  have hm0 := Mem.nil w
  refine cw_seq ?_
  refine cw_region ?_
  refine t_rd rfl (rd_assign rfl) ?_
  refine t_rd rfl (rd_assign rfl) ?_
  refine t_rd rfl (rd_assign rfl) ?_
  refine rwt_nil ?_
  refine qn_then ?_
  refine cw_seq ?_
  refine cw_seq ?_
  refine cw_region ?_
  refine t_rd rfl (rd_move rfl) ?_
  refine t_rd rfl (rd_move rfl) ?_
  obtain ⟨r1, h2, q3⟩ := ob h; clear h
  refine t_ef rfl (ef_call tf24 rfl (engine_check_ok h2 (hv0.to_call hm0))) ?_
  rintro _ w5 ⟨e_, hm4⟩
  obtain rfl := e_.symm
  have hm6 := hm0.call hm4
  refine t_rd rfl (rd_assign rfl) ?_
  refine rwt_nil ?_
  refine qn_then ?_
  refine cw_seq ?_
  refine cw_region ?_
  refine t_rd rfl (rd_move rfl) ?_
  refine t_rd rfl (rd_neq rfl rfl) ?_
  refine rwt_nil ?_
  refine qn_then ?_
  obtain ⟨hb7, q8⟩ | ⟨hb7, q8⟩ := oi q3 <;> clear q3
  · refine cw_t rfl hb7 ?_
    refine cw_seq ?_
    refine cw_region ?_
    refine t_rd rfl (rd_move rfl) ?_
    refine t_rd rfl (rd_assign rfl) ?_
    refine t_rd rfl (rd_assign rfl) ?_
    refine t_rd rfl (rd_assign rfl) ?_
    refine rwt_nil ?_
    refine qn_then ?_
    refine cw_ret ?_
    refine qr_then ?_
    obtain rfl := os q8
    have hm9 := hm6.addNil (α := Int) 3
    exact ret3 rfl rfl rfl rfl ⟨(Value.slice none 0 0), rfl, (hm9.pick [0] (by decide) rfl)⟩
  · refine cw_f rfl hb7 ?_
    refine cw_skip ?_
    refine qn_then ?_
    refine cw_seq ?_
    refine cw_region ?_
    refine t_rd rfl (rd_move rfl) ?_
    refine t_rd rfl (rd_lenS tS23 rfl (hv0.of_old hm6)) ?_
    obtain ⟨l10, h11, q12⟩ := ob q8; clear q8
    refine t_ef rfl (ef_make hm6 tS22 tE3 rfl rfl rfl h11) ?_
    intro v13 w15 hm14
    refine t_rd rfl (rd_assign rfl) ?_
    refine rwt_nil ?_
    refine qn_then ?_
    refine cw_seq ?_
    refine cw_region ?_
    refine t_rd rfl (rd_assign rfl) ?_
    refine rwt_nil ?_
    refine qn_then ?_
    refine cw_seq ?_
    refine cw_seq ?_
    refine cw_region ?_
    refine t_rd rfl (rd_move rfl) ?_
    obtain ⟨r16, h17, q18⟩ := ob q12; clear q12
    refine t_ef rfl (ef_call tf25 rfl (engine_order_ok h17 (hv0.to_call hm14))) ?_
    rintro _ w21 ⟨v19, e_, hm20⟩
    obtain rfl := e_.symm
    have hm22 := hm14.call hm20
    refine t_rd rfl (rd_lenS tS22 rfl (hm22.sl 0 rfl)) ?_
    refine t_rd rfl (rd_move rfl) ?_
    refine rwt_nil ?_
    refine qn_then ?_
    refine cw_block ?_
    have hm188 := hm22.addNil (α := Int) 3
    obtain ⟨r512, hit513, q514⟩ := ob q18; clear q18
    refine cw_loop2 (I := fun q envq wq => ∃ (v505 : Value), Sub [(0, v0), (1, (Value.int .i64 a1)), (8, v13), (9, v505), (23, v19), (24, (Value.int .i64 (List.length r16 : Int))), (25, (Value.int .i64 q.1))] envq ∧ Mem w No [ownL 3 v505 (q.2.2 : List Int), ownL 3 v19 (r16 : List Int), ownL 3 v13 (q.2.1 : List Int)] wq) (X := fun eq envq wq => eq = .exit 0 ∧ ∃ (v501 : Value), Sub [(8, v13), (9, v501)] envq ∧ Mem w No [ownL 3 v501 (r512.2 : List Int), ownL 3 v13 (r512.1 : List Int)] wq) hit513 ⟨(Value.slice none 0 0), (by repeat (first | exact Sub.nil _ | refine Sub.cons rfl ?_)), (hm188.pick [0, 1, 2] (by decide) rfl)⟩ ?_ ?_
    · rintro ⟨i502, l503, l504⟩ x507 env508 w509 hf510 hr511 ⟨v505, hs_, hm_⟩
      have hs_ : Sub [(0, v0), (1, (Value.int .i64 a1)), (8, v13), (9, v505), (23, v19), (24, (Value.int .i64 (List.length r16 : Int))), (25, (Value.int .i64 i502))] env508 := hs_
      have hm515 : Mem w No [ownL 3 v505 (l504 : List Int), ownL 3 v19 (r16 : List Int), ownL 3 v13 (l503 : List Int)] w509 := hm_
      refine cw_sub hs_ ?_
      clear hs_ hm_ q514
      have h : engine_Assign_l4 N a0 a1 r16 i502 l503 l504 = some x507 := hf510
      clear hf510
      refine cw_seq ?_
      refine cw_region ?_
      refine t_rd rfl (rd_lss rfl rfl) ?_
      refine rwt_nil ?_
      refine qn_then ?_
      refine cw_seq ?_
      obtain ⟨hb516, q517⟩ | ⟨hb516, q517⟩ := oi h <;> clear h
      · refine cw_t rfl hb516 ?_
        refine cw_skip ?_
        refine qn_then ?_
        refine cw_seq ?_
        refine cw_block ?_
        refine cw_seq ?_
        refine cw_region ?_
        obtain ⟨x518, h519, q520⟩ := ob q517; clear q517
        refine t_rd rfl (rd_index tS22 rfl rfl (hm515.sl 1 rfl) h519) ?_
        refine t_rd rfl (rd_ld1 tO3 rfl ((hm515.sl 1 rfl).cells h519) (off := 0) rfl) ?_
        refine t_rd rfl (rd_assign rfl) ?_
        refine rwt_nil ?_
        refine qn_then ?_
        refine cw_seq ?_
        refine cw_region ?_
        refine t_rd rfl (rd_assign rfl) ?_
        refine rwt_nil ?_
        refine qn_then ?_
        refine cw_seq ?_
        refine cw_block ?_
        obtain ⟨r582, hit583, q584⟩ := ob q520; clear q520
        refine cw_loop2 (I := fun q envq wq => Sub [(0, v0), (1, (Value.int .i64 a1)), (8, v13), (9, v505), (11, (Value.int .i64 x518)), (12, (Value.int .i64 q)), (23, v19), (24, (Value.int .i64 (List.length r16 : Int))), (25, (Value.int .i64 i502))] envq ∧ Mem w No [ownL 3 v505 (l504 : List Int), ownL 3 v19 (r16 : List Int), ownL 3 v13 (l503 : List Int)] wq) (X := fun eq envq wq => eq = .exit 2 ∧ Sub [(0, v0), (1, (Value.int .i64 a1)), (8, v13), (9, v505), (11, (Value.int .i64 x518)), (12, (Value.int .i64 r582)), (23, v19), (24, (Value.int .i64 (List.length r16 : Int))), (25, (Value.int .i64 i502))] envq ∧ Mem w No [ownL 3 v505 (l504 : List Int), ownL 3 v19 (r16 : List Int), ownL 3 v13 (l503 : List Int)] wq) hit583 ⟨(by repeat (first | exact Sub.nil _ | refine Sub.cons rfl ?_)), (hm515.pick [0, 1, 2] (by decide) rfl)⟩ ?_ ?_
        · rintro i575 x577 env578 w579 hf580 hr581 ⟨hs_, hm_⟩
          have hs_ : Sub [(0, v0), (1, (Value.int .i64 a1)), (8, v13), (9, v505), (11, (Value.int .i64 x518)), (12, (Value.int .i64 i575)), (23, v19), (24, (Value.int .i64 (List.length r16 : Int))), (25, (Value.int .i64 i502))] env578 := hs_
          have hm585 : Mem w No [ownL 3 v505 (l504 : List Int), ownL 3 v19 (r16 : List Int), ownL 3 v13 (l503 : List Int)] w579 := hm_
          refine cw_sub hs_ ?_
          clear hs_ hm_ q584
          have h : engine_Assign_l5 N a0 l504 x518 i575 = some x577 := hf580
          clear hf580
          refine cw_seq ?_
          refine cw_seq ?_
          obtain ⟨w587, he589⟩ : ∃ q, q = w579.drew := ⟨_, rfl⟩
          have hm588 := hm585.drew; rw [← he589] at hm588
          refine cw_region_s (fun q => q = w587) (cls [] []) mixed ?_
          rintro _ rfl; rw [← he589]
          refine s_rp (i := 0) rfl (by kernel_rfl) rfl (fun _ => (rd_move rfl)) ?_
          refine s_rp (i := 1) rfl (by kernel_rfl) rfl (fun _ => (rd_move rfl)) ?_
          refine s_rp (i := 2) rfl (by kernel_rfl) rfl (fun _ => (rd_lenS tS22 rfl (hm588.sl 0 rfl))) ?_
          refine s_rp (i := 3) rfl (by kernel_rfl) rfl (fun _ => (rd_lss rfl rfl)) ?_
          refine s_rp (i := 4) rfl (by kernel_rfl) rfl (fun _ => (rd_move rfl)) ?_
          refine s_rpg (i := 5) rfl (by kernel_rfl) rfl rfl rfl rfl (gv_t _) (fun hg590 _ => (rd_move rfl)) ?_
          refine s_rpg (i := 6) rfl (by kernel_rfl) rfl rfl rfl rfl (gv_t _) (fun hg591 _ => (rd_move rfl)) ?_
          obtain ⟨x593, h594, q595⟩ := ob h; clear h
          refine s_rpg (i := 7) rfl (by kernel_rfl) rfl rfl rfl rfl (gv_t _) (fun hg592 _ => (rd_index tS22 (gvx rfl hg592) (gvx rfl hg592) (hm588.sl 0 rfl) (gO_t h594 hg592))) ?_
          refine s_rdg (i := 8) rfl (by kernel_rfl) rfl rfl rfl rfl (gv_t _) (fun hg596 => (fun _ hS => by rw [hS]; exact (rd_ld1 tO3 (gvx rfl hg596) ((hm588.sl 0 rfl).cells (gO_t h594 hg596)) (off := 0) rfl))) rfl ?_
          refine s_rpg (i := 9) rfl (by kernel_rfl) rfl rfl rfl rfl (gv_t _) (fun hg597 _ => (rd_move rfl)) ?_
          refine s_rpg (i := 10) rfl (by kernel_rfl) rfl rfl rfl rfl (gv_t _) (fun hg598 _ => (rd_move rfl)) ?_
          obtain ⟨x600, h601, q602⟩ := ob q595; clear q595
          refine s_rpg (i := 11) rfl (by kernel_rfl) rfl rfl rfl rfl (gv_t _) (fun hg599 _ => (rd_index tS23 (gvx rfl hg599) (gvx rfl hg599) (hv0.of_old hm588) (gO_t h601 hg599))) ?_
          refine s_rpg (i := 12) rfl (by kernel_rfl) rfl rfl rfl rfl (gv_t _) (fun hg603 _ => (rd_fld tF29_0 (gvx rfl hg603))) ?_
          refine s_rdg (i := 13) rfl (by kernel_rfl) rfl rfl rfl rfl (gv_t _) (fun hg604 => (fun _ hS => by rw [hS]; exact (rd_ld1 tO3 (gvx rfl hg604) ((hv0.of_old hm588).cells (gO_t h601 hg604)) (off := 0) rfl))) rfl ?_
          refine s_rpg (i := 14) rfl (by kernel_rfl) rfl rfl rfl rfl (gv_t _) (fun hg605 _ => (rd_gtr (gvx rfl hg605) (gvx rfl hg605))) ?_
          refine s_rp (i := 15) rfl (by kernel_rfl) rfl (fun _ => (rd_and rfl (fun hc606 => (gvx rfl hc606)))) ?_
          refine s_nil (by kernel_rfl) ?_
          refine qn_then ?_
          obtain ⟨hb607, q608⟩ | ⟨hb607, q608⟩ := oi q602 <;> clear q602
          · refine cw_t rfl hb607 ?_
            refine cw_skip ?_
            refine qn_then ?_
            refine cw_block ?_
            refine cw_region ?_
            refine t_rd rfl (rd_move rfl) ?_
            obtain ⟨x609, h610, q611⟩ := ob q608; clear q608
            refine t_rd rfl (rd_add64 h610 rfl rfl) ?_
            refine t_rd rfl (rd_assign rfl) ?_
            refine rwt_nil ?_
            refine qn_block (qn_then ?_)
            refine ⟨_, (os q611), (by repeat (first | exact Sub.nil _ | refine Sub.cons rfl ?_)), (hm588.pick [0, 1, 2] (by decide) rfl)⟩
          · refine cw_f rfl hb607 ?_
            refine cw_exit ?_
            refine qx_then (qx_then ?_)
            obtain rfl := hr581 _ (os q608)
            exact ⟨rfl, (by repeat (first | exact Sub.nil _ | refine Sub.cons rfl ?_)), (hm588.pick [0, 1, 2] (by decide) rfl)⟩
        · skip
          intro e env612 w613 hX614
          obtain ⟨rfl, hs615, hm616⟩ := hX614
          refine qx_same (qn_then ?_)
          refine cw_sub hs615 ?_
          refine cw_seq ?_
          refine cw_seq ?_
          refine cw_region ?_
          refine t_rd rfl (rd_move rfl) ?_
          refine t_rd rfl (rd_move rfl) ?_
          refine t_rd rfl (rd_lenS tS22 rfl (hm616.sl 0 rfl)) ?_
          refine t_rd rfl (rd_eql rfl rfl) ?_
          refine rwt_nil ?_
          refine qn_then ?_
          obtain ⟨j630, hit631, q632⟩ := ob q584; clear q584
          refine cw_join (X := fun eq envq wq => eq = .normal ∧ ∃ (v629 : Value), Sub [(0, v0), (1, (Value.int .i64 a1)), (8, v13), (9, v629), (11, (Value.int .i64 x518)), (12, (Value.int .i64 r582)), (23, v19), (24, (Value.int .i64 (List.length r16 : Int))), (25, (Value.int .i64 i502))] envq ∧ Mem w No [ownL 3 v629 (j630 : List Int), ownL 3 v19 (r16 : List Int), ownL 3 v13 (l503 : List Int)] wq) ?_ ?_
          · clear q632
            obtain ⟨hb633, q634⟩ | ⟨hb633, q634⟩ := oi hit631 <;> clear hit631
            · refine cw_t rfl hb633 ?_
              refine cw_region ?_
              refine t_rd rfl (rd_move rfl) ?_
              refine t_ef rfl (ef_bslice (l := ([0] : List Int)) hm616 tS22 rfl (cs := #[(Value.int .i64 0)]) (by unfold bsl; kernel_rfl) rfl rfl) ?_
              intro v635 w637 hm636
              obtain ⟨l638, h639, q640⟩ := ob q634; clear q634
              refine t_ef rfl (ef_append (k := 1) hm636 tS22 tE3 rfl rfl rfl rfl (hm636.sl 0 rfl) h639) ?_
              intro v641 w643 hm642
              refine t_rd rfl (rd_assign rfl) ?_
              refine rwt_nil ?_
              obtain rfl := os q640
              exact ⟨rfl, v641, (by repeat (first | exact Sub.nil _ | refine Sub.cons rfl ?_)), (hm642.pick [1, 2, 3] (by decide) rfl)⟩
            · refine cw_f rfl hb633 ?_
              refine cw_skip ?_
              obtain rfl := os q634
              exact ⟨rfl, v505, (by repeat (first | exact Sub.nil _ | refine Sub.cons rfl ?_)), (hm616.pick [0, 1, 2] (by decide) rfl)⟩
          · clear hit631
            intro e env644 w645 hX646
            obtain ⟨rfl, v629, hs647, hm648⟩ := hX646
            refine qn_then ?_
            refine cw_sub hs647 ?_
            refine cw_region ?_
            refine t_rd rfl (rd_move rfl) ?_
            refine t_rd rfl (rd_move rfl) ?_
            refine t_rd rfl (rd_move rfl) ?_
            refine t_rd rfl (rd_move rfl) ?_
            refine t_rd rfl (rd_move rfl) ?_
            refine t_rd rfl (rd_move rfl) ?_
            refine t_rd rfl (rd_move rfl) ?_
            obtain ⟨x649, h650, q651⟩ := ob q632; clear q632
            refine t_rd rfl (rd_index tS23 rfl rfl (hv0.of_old hm648) h650) ?_
            refine t_rd rfl (rd_fld tF29_1 rfl) ?_
            refine t_rd rfl (rd_ld1 tO3 rfl ((hv0.of_old hm648).cells h650) (off := 1) rfl) ?_
            refine t_rd rfl (rd_move rfl) ?_
            obtain ⟨x652, h653, q654⟩ := ob q651; clear q651
            refine t_rd rfl (rd_add64 h653 rfl rfl) ?_
            obtain ⟨x655, h656, q657⟩ := ob q654; clear q654
            refine t_rd rfl (rd_index tS22 rfl rfl (hm648.sl 2 rfl) h656) ?_
            refine t_ef0 (ef_stl (k := 2) (off := 0) (x' := r582) hm648 tO3 rfl rfl rfl rfl h656 rfl rfl) ?_
            intro _ w659 hm658
            obtain ⟨x660, h661, q662⟩ := ob q657; clear q657
            refine t_rd rfl (rd_index tS22 rfl rfl (hm658.sl 0 rfl) h661) ?_
            refine t_ef0 (ef_stl (k := 0) (off := 0) (x' := x652) hm658 tO3 rfl rfl rfl rfl h661 rfl rfl) ?_
            intro _ w664 hm663
            refine rwt_nil ?_
            refine qn_block (qn_then ?_)
            refine cw_region ?_
            obtain ⟨x665, h666, q667⟩ := ob q662; clear q662
            refine t_rd rfl (rd_add64 h666 rfl rfl) ?_
            refine t_rd rfl (rd_move rfl) ?_
            refine rwt_nil ?_
            refine qn_then ?_
            refine ⟨_, (os q667), v629, (by repeat (first | exact Sub.nil _ | refine Sub.cons rfl ?_)), (hm663.pick [0, 1, 2] (by decide) rfl)⟩
      · refine cw_f rfl hb516 ?_
        refine cw_exit ?_
        refine qx_then (qx_then ?_)
        obtain rfl := hr511 _ (os q517)
        exact ⟨rfl, v505, (by repeat (first | exact Sub.nil _ | refine Sub.cons rfl ?_)), (hm515.pick [0, 2] (by decide) rfl)⟩
    · skip
      intro e env668 w669 hX670
      obtain ⟨rfl, v501, hs671, hm672⟩ := hX670
      refine qx_same (qn_then ?_)
      refine cw_sub hs671 ?_
      refine cw_seq ?_
      refine cw_region ?_
      refine t_rd rfl (rd_move rfl) ?_
      refine t_rd rfl (rd_move rfl) ?_
      refine t_rd rfl (rd_lenS tS22 rfl (hm672.sl 0 rfl)) ?_
      refine t_rd rfl (rd_assign rfl) ?_
      refine t_rd rfl (rd_assign rfl) ?_
      refine t_rd rfl (rd_assign rfl) ?_
      refine rwt_nil ?_
      refine qn_then ?_
      refine cw_ret ?_
      obtain rfl := os q514
      exact ret3 rfl rfl rfl rfl ⟨v13, rfl, (hm672.pick [1] (by decide) rfl)⟩

theorem engine_Witness_ok {N : Nat} {a0 : List T_Task} {a1 : Int} {res : Int × List Int × Int} (h : engine_Witness N a0 a1 = some res) {w : World} {v0 : Value} (hv0 : Sl (Old w No) w v0 a0) :
    CallsR Try.prog 17 [v0, (Value.int .i64 a1)] w (fun u w' => ∃ (y0 : Value), u = (Value.tuple #[(Value.int .i64 res.1), y0, (Value.int .i64 res.2.2)]) ∧ Mem w No [ownL 3 y0 (res.2.1 : List Int)] w') := by
  unfold engine_Witness at h
  refine fn_ok Try.func17 rfl rfl rfl ?_
  have hm0 := Mem.nil w
  refine cw_seq ?_
  refine cw_region ?_
  refine t_rd rfl (rd_assign rfl) ?_
  refine t_rd rfl (rd_assign rfl) ?_
  refine t_rd rfl (rd_assign rfl) ?_
  refine rwt_nil ?_
  refine qn_then ?_
  refine cw_seq ?_
  refine cw_region ?_
  refine t_rd rfl (rd_move rfl) ?_
  refine t_rd rfl (rd_move rfl) ?_
  obtain ⟨r1, h2, q3⟩ := ob h; clear h
  refine t_ef rfl (ef_call tf15 rfl (engine_Assign_ok h2 (hv0.to_call hm0))) ?_
  rintro _ w6 ⟨v4, e_, hm5⟩
  obtain rfl := e_.symm
  have hm7 := hm0.call hm5
  refine t_rd rfl (rd_move rfl) ?_
  refine t_rd rfl (rd_extract rfl rfl) ?_
  refine t_rd rfl (rd_extract rfl rfl) ?_
  refine t_rd rfl (rd_extract rfl rfl) ?_
  refine t_rd rfl (rd_assign rfl) ?_
  refine t_rd rfl (rd_assign rfl) ?_
  refine t_rd rfl (rd_assign rfl) ?_
  refine rwt_nil ?_
  refine qn_then ?_
  refine cw_seq ?_
  refine cw_seq ?_
  refine cw_region ?_
  refine t_rd rfl (rd_move rfl) ?_
  refine t_rd rfl (rd_neq rfl rfl) ?_
  refine rwt_nil ?_
  refine qn_then ?_
  obtain ⟨hb8, q9⟩ | ⟨hb8, q9⟩ := oi q3 <;> clear q3
  · refine cw_t rfl hb8 ?_
    refine cw_seq ?_
    refine cw_region ?_
    refine t_rd rfl (rd_move rfl) ?_
    refine t_rd rfl (rd_assign rfl) ?_
    refine t_rd rfl (rd_assign rfl) ?_
    refine t_rd rfl (rd_assign rfl) ?_
    refine rwt_nil ?_
    refine qn_then ?_
    refine cw_ret ?_
    refine qr_then ?_
    obtain rfl := os q9
    have hm10 := hm7.addNil (α := Int) 3
    exact ret3 rfl rfl rfl rfl ⟨(Value.slice none 0 0), rfl, (hm10.pick [0] (by decide) rfl)⟩
  · refine cw_f rfl hb8 ?_
    refine cw_skip ?_
    refine qn_then ?_
    refine cw_seq ?_
    refine cw_seq ?_
    refine cw_region ?_
    refine t_rd rfl (rd_move rfl) ?_
    obtain ⟨r11, h12, q13⟩ := ob q9; clear q9
    refine t_ef rfl (ef_call tf25 rfl (engine_order_ok h12 (hv0.to_call hm7))) ?_
    rintro _ w16 ⟨v14, e_, hm15⟩
    obtain rfl := e_.symm
    have hm17 := hm7.call hm15
    refine t_rd rfl (rd_lenS tS22 rfl (hm17.sl 0 rfl)) ?_
    refine t_rd rfl (rd_move rfl) ?_
    refine rwt_nil ?_
    refine qn_then ?_
    refine cw_block ?_
    obtain ⟨r400, hit401, q402⟩ := ob q13; clear q13
    refine cw_loop2 (I := fun q envq wq => Sub [(0, v0), (1, (Value.int .i64 a1)), (8, (Value.int .i64 r1.2.1)), (27, v14), (28, (Value.int .i64 (List.length r11 : Int))), (29, (Value.int .i64 q))] envq ∧ Mem w No [ownL 3 v14 (r11 : List Int)] wq) (X := fun eq envq wq => (∃ p403, r400 = (Sum.inl p403) ∧ eq = .ret ∧ retQ Try.prog 69 Try.f17 (fun u w' => ∃ (y0 : Value), u = (Value.tuple #[(Value.int .i64 p403.1), y0, (Value.int .i64 p403.2.2)]) ∧ Mem w No [ownL 3 y0 (p403.2.1 : List Int)] w') .ret envq wq) ∨ (∃ p404, r400 = (Sum.inr p404) ∧ eq = .exit 0 ∧ Sub [] envq ∧ Mem w No [] wq)) hit401 ⟨(by repeat (first | exact Sub.nil _ | refine Sub.cons rfl ?_)), (hm17.pick [0] (by decide) rfl)⟩ ?_ ?_
    · rintro i393 x395 env396 w397 hf398 hr399 ⟨hs_, hm_⟩
      have hs_ : Sub [(0, v0), (1, (Value.int .i64 a1)), (8, (Value.int .i64 r1.2.1)), (27, v14), (28, (Value.int .i64 (List.length r11 : Int))), (29, (Value.int .i64 i393))] env396 := hs_
      have hm405 : Mem w No [ownL 3 v14 (r11 : List Int)] w397 := hm_
      refine cw_sub hs_ ?_
      clear hs_ hm_ q402
      have h : engine_Witness_l3 N a0 a1 r1 r11 i393 = some x395 := hf398
      clear hf398
      refine cw_seq ?_
      refine cw_region ?_
      refine t_rd rfl (rd_lss rfl rfl) ?_
      refine rwt_nil ?_
      refine qn_then ?_
      refine cw_seq ?_
      obtain ⟨hb406, q407⟩ | ⟨hb406, q407⟩ := oi h <;> clear h
      · refine cw_t rfl hb406 ?_
        refine cw_skip ?_
        refine qn_then ?_
        refine cw_seq ?_
        refine cw_block ?_
        refine cw_seq ?_
        refine cw_region ?_
        obtain ⟨x408, h409, q410⟩ := ob q407; clear q407
        refine t_rd rfl (rd_index tS22 rfl rfl (hm405.sl 0 rfl) h409) ?_
        refine t_rd rfl (rd_ld1 tO3 rfl ((hm405.sl 0 rfl).cells h409) (off := 0) rfl) ?_
        refine t_rd rfl (rd_assign rfl) ?_
        refine rwt_nil ?_
        refine qn_then ?_
        refine cw_seq ?_
        refine cw_region ?_
        refine t_rd rfl (rd_move rfl) ?_
        refine t_rd rfl (rd_move rfl) ?_
        obtain ⟨x411, h412, q413⟩ := ob q410; clear q410
        refine t_rd rfl (rd_index tS23 rfl rfl (hv0.of_old hm405) h412) ?_
        refine t_rd rfl (rd_fld tF29_0 rfl) ?_
        refine t_rd rfl (rd_ld1 tO3 rfl ((hv0.of_old hm405).cells h412) (off := 0) rfl) ?_
        refine t_rd rfl (rd_assign rfl) ?_
        refine rwt_nil ?_
        refine qn_then ?_
        refine cw_seq ?_
        refine cw_region ?_
        refine t_rd rfl (rd_assign rfl) ?_
        refine rwt_nil ?_
        refine qn_then ?_
        refine cw_seq ?_
        refine cw_seq ?_
        refine cw_region ?_
        refine t_rd rfl (rd_move rfl) ?_
        refine t_rd rfl (rd_lenS tS23 rfl (hv0.of_old hm405)) ?_
        refine t_rd rfl (rd_move rfl) ?_
        refine rwt_nil ?_
        refine qn_then ?_
        refine cw_block ?_
        have hm452 := hm405.addNil (α := Int) 3
        obtain ⟨r542, hit543, q544⟩ := ob q413; clear q413
        refine cw_loop2 (I := fun q envq wq => ∃ (v535 : Value), Sub [(0, v0), (1, (Value.int .i64 a1)), (8, (Value.int .i64 r1.2.1)), (12, (Value.int .i64 x411.From)), (13, v535), (27, v14), (28, (Value.int .i64 (List.length r11 : Int))), (29, (Value.int .i64 i393)), (38, v0), (39, (Value.int .i64 (List.length a0 : Int))), (40, (Value.int .i64 q.1))] envq ∧ Mem w No [ownL 3 v535 (q.2 : List Int), ownL 3 v14 (r11 : List Int)] wq) (X := fun eq envq wq => eq = .exit 2 ∧ ∃ (v532 : Value), Sub [(0, v0), (1, (Value.int .i64 a1)), (8, (Value.int .i64 r1.2.1)), (12, (Value.int .i64 x411.From)), (13, v532), (27, v14), (28, (Value.int .i64 (List.length r11 : Int))), (29, (Value.int .i64 i393))] envq ∧ Mem w No [ownL 3 v532 (r542 : List Int), ownL 3 v14 (r11 : List Int)] wq) hit543 ⟨(Value.slice none 0 0), (by repeat (first | exact Sub.nil _ | refine Sub.cons rfl ?_)), (hm452.pick [0, 1] (by decide) rfl)⟩ ?_ ?_
        · rintro ⟨i533, l534⟩ x537 env538 w539 hf540 hr541 ⟨v535, hs_, hm_⟩
          have hs_ : Sub [(0, v0), (1, (Value.int .i64 a1)), (8, (Value.int .i64 r1.2.1)), (12, (Value.int .i64 x411.From)), (13, v535), (27, v14), (28, (Value.int .i64 (List.length r11 : Int))), (29, (Value.int .i64 i393)), (38, v0), (39, (Value.int .i64 (List.length a0 : Int))), (40, (Value.int .i64 i533))] env538 := hs_
          have hm545 : Mem w No [ownL 3 v535 (l534 : List Int), ownL 3 v14 (r11 : List Int)] w539 := hm_
          refine cw_sub hs_ ?_
          clear hs_ hm_ q544
          have h : engine_Witness_l4 N a0 a1 x411 i533 l534 = some x537 := hf540
          clear hf540
          refine cw_seq ?_
          refine cw_region ?_
          refine t_rd rfl (rd_lss rfl rfl) ?_
          refine rwt_nil ?_
          refine qn_then ?_
          refine cw_seq ?_
          obtain ⟨hb546, q547⟩ | ⟨hb546, q547⟩ := oi h <;> clear h
          · refine cw_t rfl hb546 ?_
            refine cw_skip ?_
            refine qn_then ?_
            refine cw_seq ?_
            refine cw_block ?_
            refine cw_seq ?_
            refine cw_region ?_
            refine t_rd rfl (rd_move rfl) ?_
            obtain ⟨x548, h549, q550⟩ := ob q547; clear q547
            refine t_rd rfl (rd_index tS23 rfl rfl (hv0.of_old hm545) h549) ?_
            refine t_rd rfl (rd_ld tA29 rfl ((hv0.of_old hm545).cells h549) rfl) ?_
            refine t_ef rfl (ef_alloc hm545 tZ29 rfl) ?_
            rintro _ w553 ⟨g551, rfl, hm552⟩
            refine t_rd rfl (rd_assign rfl) ?_
            refine t_ef0 (ef_stw (k := 0) hm552 tA29 rfl rfl (oc_cons rfl (oc_cons rfl oc_nil)) rfl rfl rfl) ?_
            intro _ w555 hm554
            refine rwt_nil ?_
            refine qn_then ?_
            refine cw_seq ?_
            refine cw_region ?_
            refine t_rd rfl (rd_fld tF29_0 rfl) ?_
            refine t_rd rfl (rd_ld1 tO3 rfl (hm554.blk 0 rfl) (off := 0) rfl) ?_
            refine t_rd rfl (rd_move rfl) ?_
            refine t_rd rfl (rd_leq rfl rfl) ?_
            refine t_rd rfl (rd_move rfl) ?_
            refine t_rdg rfl rfl rfl rfl (gv_t _) (fun hg556 => (rd_move rfl)) ?_
            refine t_rdg rfl rfl rfl rfl (gv_t _) (fun hg557 => (rd_fld tF29_1 rfl)) ?_
            refine t_rdg rfl rfl rfl rfl (gv_t _) (fun hg558 => (rd_ld1 tO3 (gvx rfl hg558) (hm554.blk 0 rfl) (off := 1) rfl)) ?_
            refine t_rdg rfl rfl rfl rfl (gv_t _) (fun hg559 => (rd_move rfl)) ?_
            obtain ⟨x561, h562, q563⟩ := ob q550; clear q550
            refine t_rdg rfl rfl rfl rfl (gv_t _) (fun hg560 => (rd_add64 (gO_t h562 hg560) (gvx rfl hg560) (gvx rfl hg560))) ?_
            refine t_rdg rfl rfl rfl rfl (gv_t _) (fun hg564 => (rd_lss (gvx rfl hg564) (gvx rfl hg564))) ?_
            refine t_rd rfl (rd_and rfl (fun hc565 => (gvx rfl hc565))) ?_
            refine rwt_nil ?_
            refine qn_then ?_
            obtain ⟨hb566, q567⟩ | ⟨hb566, q567⟩ := oi q563 <;> clear q563
            · refine cw_t rfl hb566 ?_
              refine cw_region ?_
              refine t_rd rfl (rd_move rfl) ?_
              refine t_rd rfl (rd_move rfl) ?_
              refine t_ef rfl (ef_bslice (l := ([i533] : List Int)) hm554 tS22 rfl (cs := #[(Value.int .i64 i533)]) (by unfold bsl; kernel_rfl) rfl rfl) ?_
              intro v568 w570 hm569
              obtain ⟨l571, h572, q573⟩ := ob q567; clear q567
              refine t_ef rfl (ef_append (k := 2) hm569 tS22 tE3 rfl rfl rfl rfl (hm569.sl 0 rfl) h572) ?_
              intro v574 w576 hm575
              refine t_rd rfl (rd_assign rfl) ?_
              refine rwt_nil ?_
              refine qn_block (qn_then ?_)
              refine cw_region ?_
              obtain ⟨x577, h578, q579⟩ := ob q573; clear q573
              refine t_rd rfl (rd_add64 h578 rfl rfl) ?_
              refine t_rd rfl (rd_move rfl) ?_
              refine rwt_nil ?_
              refine qn_then ?_
              refine ⟨_, (os q579), v574, (by repeat (first | exact Sub.nil _ | refine Sub.cons rfl ?_)), (hm575.pick [2, 3] (by decide) rfl)⟩
            · refine cw_f rfl hb566 ?_
              refine cw_skip ?_
              refine qn_block (qn_then ?_)
              refine cw_region ?_
              obtain ⟨x580, h581, q582⟩ := ob q567; clear q567
              refine t_rd rfl (rd_add64 h581 rfl rfl) ?_
              refine t_rd rfl (rd_move rfl) ?_
              refine rwt_nil ?_
              refine qn_then ?_
              refine ⟨_, (os q582), v535, (by repeat (first | exact Sub.nil _ | refine Sub.cons rfl ?_)), (hm554.pick [1, 2] (by decide) rfl)⟩
          · refine cw_f rfl hb546 ?_
            refine cw_exit ?_
            refine qx_then (qx_then ?_)
            obtain rfl := hr541 _ (os q547)
            exact ⟨rfl, v535, (by repeat (first | exact Sub.nil _ | refine Sub.cons rfl ?_)), (hm545.pick [0, 1] (by decide) rfl)⟩
        · skip
          intro e env583 w584 hX585
          obtain ⟨rfl, v532, hs586, hm587⟩ := hX585
          refine qx_same (qn_then ?_)
          refine cw_sub hs586 ?_
          refine cw_seq ?_
          refine cw_region ?_
          refine t_rd rfl (rd_move rfl) ?_
          refine t_rd rfl (rd_lenS tS22 rfl (hm587.sl 0 rfl)) ?_
          refine t_rd rfl (rd_move rfl) ?_
          refine t_rd rfl (rd_eql rfl rfl) ?_
          refine rwt_nil ?_
          refine qn_then ?_
          obtain ⟨hb588, q589⟩ | ⟨hb588, q589⟩ := oi q544 <;> clear q544
          · refine cw_t rfl hb588 ?_
            refine cw_seq ?_
            refine cw_region ?_
            refine t_rd rfl (rd_move rfl) ?_
            refine t_rd rfl (rd_move rfl) ?_
            refine t_rd rfl (rd_assign rfl) ?_
            refine t_rd rfl (rd_assign rfl) ?_
            refine t_rd rfl (rd_assign rfl) ?_
            refine rwt_nil ?_
            refine qn_then ?_
            refine cw_ret ?_
            refine qr_block (qr_then (qr_then ?_))
            obtain rfl := hr399 _ (os q589)
            refine .inl (⟨_, rfl, ⟨rfl, ?_⟩⟩)
            exact ret3 rfl rfl rfl rfl ⟨v532, rfl, (hm587.pick [0] (by decide) rfl)⟩
          · refine cw_f rfl hb588 ?_
            refine cw_skip ?_
            refine qn_block (qn_then ?_)
            refine cw_region ?_
            obtain ⟨x590, h591, q592⟩ := ob q589; clear q589
            refine t_rd rfl (rd_add64 h591 rfl rfl) ?_
            refine t_rd rfl (rd_move rfl) ?_
            refine rwt_nil ?_
            refine qn_then ?_
            refine ⟨_, (os q592), (by repeat (first | exact Sub.nil _ | refine Sub.cons rfl ?_)), (hm587.pick [1] (by decide) rfl)⟩
      · refine cw_f rfl hb406 ?_
        refine cw_exit ?_
        refine qx_then (qx_then ?_)
        obtain rfl := hr399 _ (os q407)
        exact .inr (⟨_, rfl, ⟨rfl, (by repeat (first | exact Sub.nil _ | refine Sub.cons rfl ?_)), (hm405.pick [] (by decide) rfl)⟩⟩)
    · skip
      intro e env593 w594 hX595
      rcases hX595 with hX595 | hX595
      · obtain ⟨p597, rfl, hX595⟩ := hX595
        obtain ⟨rfl, hq599⟩ := hX595
        exact qr_block (qr_then ((by have e := os q402; subst e; exact hq599)))
      · obtain ⟨p600, rfl, hX595⟩ := hX595
        obtain ⟨rfl, hs601, hm602⟩ := hX595
        refine qx_same (qn_then ?_)
        refine cw_sub hs601 ?_
        refine cw_seq ?_
        refine cw_region ?_
        refine t_rd rfl (rd_assign rfl) ?_
        refine t_rd rfl (rd_assign rfl) ?_
        refine t_rd rfl (rd_assign rfl) ?_
        refine rwt_nil ?_
        refine qn_then ?_
        refine cw_ret ?_
        obtain rfl := os q402
        have hm603 := hm602.addNil (α := Int) 3
        exact ret3 rfl rfl rfl rfl ⟨(Value.slice none 0 0), rfl, (hm603.pick [0] (by decide) rfl)⟩

end Go.Proofs.Ytodjacghadpbfaa
