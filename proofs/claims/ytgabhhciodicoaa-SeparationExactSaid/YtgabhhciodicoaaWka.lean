/- Each call computes what its mirror does; written by a program of mine (gowalk.py). -/
import Derived.Test.YtgabhhciodicoaaTy
namespace Go.Proofs.Ytgabhhciodicoaa
open Go.Gv Go.RowKit
set_option linter.unusedVariables false
set_option maxRecDepth 100000

theorem humpgen_New_ok {N : Nat} {a0 : List Int} {res : Int} (h : humpgen_New N a0 = some res) {w : World} {v0 : Value} (hv0 : Sl (Old w No) w v0 a0) :
    CallsR Try.prog 9 [v0] w (fun u w' => ∃ gr : Nat, u = (Value.pointer (some ⟨gr, 0, none⟩)) ∧ Mem w No [blk gr 52 [v0, (Value.int .i64 res)]] w') := by
  unfold humpgen_New at h
  refine fn_ok Try.func9 rfl rfl rfl ?_
  have hm0 := Mem.nil w
  refine cw_seq ?_
  refine cw_region ?_
  refine t_rd rfl (rd_assign rfl) ?_
  refine rwt_nil ?_
  refine qn_then ?_
  refine cw_seq ?_
  refine cw_region ?_
  refine t_rd rfl (rd_move rfl) ?_
  refine t_rd rfl (rd_build (cs := #[v0, (Value.int .i64 0)]) rfl (by obtain ⟨_, _, e⟩ := ((hv0.of_old hm0)).val; rw [e]; clear e; kernel_rfl)) ?_
  refine t_ef rfl (ef_box hm0 rfl rfl) ?_
  rintro _ w6 ⟨g4, rfl, hm5⟩
  refine t_rd rfl (rd_assign rfl) ?_
  refine rwt_nil ?_
  refine qn_then ?_
  refine cw_ret ?_
  obtain rfl := os h
  exact ret1 rfl rfl ⟨g4, rfl, (hm5.pick [0] (by decide) rfl)⟩

theorem yardgen_Place_ok {N : Nat} {a0 : Int} {a1 : Int} {res : Int} (h : yardgen_Place N a0 a1 = some res) {w : World}   :
    CallsR Try.prog 10 [(Value.int .i64 a0), (Value.int .i64 a1)] w (fun u w' => u = (Value.int .i64 res) ∧ Mem w No [] w') := by
  unfold yardgen_Place at h
  refine fn_ok Try.func10 rfl rfl rfl ?_
  have hm0 := Mem.nil w
  refine cw_seq ?_
  refine cw_region ?_
  refine t_rd rfl (rd_assign rfl) ?_
  refine rwt_nil ?_
  refine qn_then ?_
  refine cw_seq ?_
  refine cw_seq ?_
  refine cw_region ?_
  refine t_rd rfl (rd_move rfl) ?_
  refine t_rd rfl (rd_lss rfl rfl) ?_
  refine rwt_nil ?_
  refine qn_then ?_
  obtain ⟨hb1, q2⟩ | ⟨hb1, q2⟩ := oi h <;> clear h
  · refine cw_t rfl hb1 ?_
    refine cw_seq ?_
    refine cw_region ?_
    refine t_rd rfl (rd_assign rfl) ?_
    refine rwt_nil ?_
    refine qn_then ?_
    refine cw_ret ?_
    refine qr_then ?_
    obtain rfl := os q2
    exact ret1 rfl rfl ⟨rfl, (hm0.pick [] (by decide) rfl)⟩
  · refine cw_f rfl hb1 ?_
    refine cw_skip ?_
    refine qn_then ?_
    refine cw_seq ?_
    refine cw_region ?_
    refine t_rd rfl (rd_move rfl) ?_
    refine t_rd rfl (rd_move rfl) ?_
    obtain ⟨x3, h4, q5⟩ := ob q2; clear q2
    refine t_rd rfl (rd_rem64 h4 rfl rfl) ?_
    refine t_rd rfl (rd_assign rfl) ?_
    refine rwt_nil ?_
    refine qn_then ?_
    refine cw_seq ?_
    refine cw_seq ?_
    refine cw_region ?_
    refine t_rd rfl (rd_move rfl) ?_
    refine t_rd rfl (rd_lss rfl rfl) ?_
    refine rwt_nil ?_
    refine qn_then ?_
    obtain ⟨hb6, q7⟩ | ⟨hb6, q7⟩ := oi q5 <;> clear q5
    · refine cw_t rfl hb6 ?_
      refine cw_region ?_
      refine t_rd rfl (rd_move rfl) ?_
      refine t_rd rfl (rd_move rfl) ?_
      obtain ⟨x8, h9, q10⟩ := ob q7; clear q7
      refine t_rd rfl (rd_add64 h9 rfl rfl) ?_
      refine t_rd rfl (rd_assign rfl) ?_
      refine rwt_nil ?_
      refine qn_then ?_
      refine cw_seq ?_
      refine cw_region ?_
      refine t_rd rfl (rd_move rfl) ?_
      refine t_rd rfl (rd_assign rfl) ?_
      refine rwt_nil ?_
      refine qn_then ?_
      refine cw_ret ?_
      obtain rfl := os q10
      exact ret1 rfl rfl ⟨rfl, (hm0.pick [] (by decide) rfl)⟩
    · refine cw_f rfl hb6 ?_
      refine cw_skip ?_
      refine qn_then ?_
      refine cw_seq ?_
      refine cw_region ?_
      refine t_rd rfl (rd_move rfl) ?_
      refine t_rd rfl (rd_assign rfl) ?_
      refine rwt_nil ?_
      refine qn_then ?_
      refine cw_ret ?_
      obtain rfl := os q7
      exact ret1 rfl rfl ⟨rfl, (hm0.pick [] (by decide) rfl)⟩

theorem Maker_Next_ok {N : Nat} {a0_l : List Int} {a0_n : Int} {a1 : Int} {res : Int × Int} (h : Maker_Next N a0_l a0_n a1 = some res) {w : World} {v0_l : Value} {g0 : Nat} (hv0_l : Sl (Old w (fun k => k = g0)) w v0_l a0_l) (hk0 : (blk g0 52 [v0_l, (Value.int .i64 a0_n)]).φ w) :
    CallsR Try.prog 23 [(Value.pointer (some ⟨g0, 0, none⟩)), (Value.int .i64 a1)] w (fun u w' => u = (Value.int .i64 res.2) ∧ Mem w (fun k => k = g0) [blk g0 52 [v0_l, (Value.int .i64 res.1)]] w') := by
  unfold Maker_Next at h
  refine fn_ok Try.func23 rfl rfl rfl ?_
  have hm0 := Mem.one hk0
  refine cw_seq ?_
  refine cw_region ?_
  refine t_rd rfl (rd_assign rfl) ?_
  refine rwt_nil ?_
  refine qn_then ?_
  refine cw_seq ?_
  refine cw_region ?_
  refine t_rd rfl (rd_assign rfl) ?_
  refine rwt_nil ?_
  refine qn_then ?_
  refine cw_seq ?_
  refine cw_seq ?_
  refine cw_region ?_
  refine t_rd rfl (rd_move rfl) ?_
  refine t_rd rfl (rd_nilCheck rfl) ?_
  refine t_rd rfl (rd_fld tF52_0 rfl) ?_
  refine t_rd rfl (rd_ld1 tO22 rfl (hm0.blk 0 rfl) (off := 0) rfl) ?_
  refine t_rd rfl (rd_lenS tS22 rfl (hv0_l.of_old hm0)) ?_
  refine t_rd rfl (rd_gtr rfl rfl) ?_
  refine rwt_nil ?_
  refine qn_then ?_
  obtain ⟨j69, hit70, q71⟩ := ob h; clear h
  refine cw_join (X := fun eq envq wq => eq = .normal ∧ Sub [(0, (Value.pointer (some ⟨g0, 0, none⟩))), (1, (Value.int .i64 a1)), (5, (Value.int .i64 j69))] envq ∧ Mem w (fun k => k = g0) [blk g0 52 [v0_l, (Value.int .i64 a0_n)]] wq) ?_ ?_
  · clear q71
    obtain ⟨hb72, q73⟩ | ⟨hb72, q73⟩ := oi hit70 <;> clear hit70
    · refine cw_t rfl hb72 ?_
      obtain ⟨w75, he77⟩ : ∃ q, q = w.drew := ⟨_, rfl⟩
      have hm76 := hm0.drew; rw [← he77] at hm76
      refine cw_region_s (fun q => q = w75) (cls [] []) mixed ?_
      rintro _ rfl; rw [← he77]
      refine s_rp (i := 0) rfl (by kernel_rfl) rfl (fun _ => (rd_move rfl)) ?_
      refine s_rp (i := 1) rfl (by kernel_rfl) rfl (fun _ => (rd_nilCheck rfl)) ?_
      refine s_rp (i := 2) rfl (by kernel_rfl) rfl (fun _ => (rd_fld tF52_0 rfl)) ?_
      refine s_rd (i := 3) rfl (by kernel_rfl) rfl (fun _ hS => by rw [hS]; exact (rd_ld1 tO22 rfl (hm76.blk 0 rfl) (off := 0) rfl)) rfl ?_
      refine s_rp (i := 4) rfl (by kernel_rfl) rfl (fun _ => (rd_move rfl)) ?_
      refine s_rp (i := 5) rfl (by kernel_rfl) rfl (fun _ => (rd_nilCheck rfl)) ?_
      refine s_rp (i := 6) rfl (by kernel_rfl) rfl (fun _ => (rd_fld tF52_1 rfl)) ?_
      refine s_rd (i := 7) rfl (by kernel_rfl) rfl (fun _ hS => by rw [hS]; exact (rd_ld1 tO3 rfl (hm76.blk 0 rfl) (off := 1) rfl)) rfl ?_
      refine s_rp (i := 8) rfl (by kernel_rfl) rfl (fun _ => (rd_move rfl)) ?_
      refine s_rp (i := 9) rfl (by kernel_rfl) rfl (fun _ => (rd_nilCheck rfl)) ?_
      refine s_rp (i := 10) rfl (by kernel_rfl) rfl (fun _ => (rd_fld tF52_0 rfl)) ?_
      refine s_rd (i := 11) rfl (by kernel_rfl) rfl (fun _ hS => by rw [hS]; exact (rd_ld1 tO22 rfl (hm76.blk 0 rfl) (off := 0) rfl)) rfl ?_
      refine s_rp (i := 12) rfl (by kernel_rfl) rfl (fun _ => (rd_lenS tS22 rfl (hv0_l.of_old hm76))) ?_
      obtain ⟨x78, h79, q80⟩ := ob q73; clear q73
      refine s_rp (i := 13) rfl (by kernel_rfl) rfl (fun _ => (rd_rem64 h79 rfl rfl)) ?_
      obtain ⟨x81, h82, q83⟩ := ob q80; clear q80
      refine s_rp (i := 14) rfl (by kernel_rfl) rfl (fun _ => (rd_index tS22 rfl rfl (hv0_l.of_old hm76) h82)) ?_
      refine s_rd (i := 15) rfl (by kernel_rfl) rfl (fun _ hS => by rw [hS]; exact (rd_ld1 tO3 rfl ((hv0_l.of_old hm76).cells h82) (off := 0) rfl)) rfl ?_
      refine s_rp (i := 16) rfl (by kernel_rfl) rfl (fun _ => (rd_move rfl)) ?_
      refine s_rp (i := 17) rfl (by kernel_rfl) rfl (fun _ => (rd_nilCheck rfl)) ?_
      refine s_rp (i := 18) rfl (by kernel_rfl) rfl (fun _ => (rd_fld tF52_1 rfl)) ?_
      refine s_rd (i := 19) rfl (by kernel_rfl) rfl (fun _ hS => by rw [hS]; exact (rd_ld1 tO3 rfl (hm76.blk 0 rfl) (off := 1) rfl)) rfl ?_
      refine s_rp (i := 20) rfl (by kernel_rfl) rfl (fun _ => (rd_move rfl)) ?_
      refine s_rp (i := 21) rfl (by kernel_rfl) rfl (fun _ => (rd_nilCheck rfl)) ?_
      refine s_rp (i := 22) rfl (by kernel_rfl) rfl (fun _ => (rd_fld tF52_0 rfl)) ?_
      refine s_rd (i := 23) rfl (by kernel_rfl) rfl (fun _ hS => by rw [hS]; exact (rd_ld1 tO22 rfl (hm76.blk 0 rfl) (off := 0) rfl)) rfl ?_
      refine s_rp (i := 24) rfl (by kernel_rfl) rfl (fun _ => (rd_lenS tS22 rfl (hv0_l.of_old hm76))) ?_
      obtain ⟨x84, h85, q86⟩ := ob q83; clear q83
      refine s_rp (i := 25) rfl (by kernel_rfl) rfl (fun _ => (rd_quo64 h85 rfl rfl)) ?_
      refine s_rp (i := 26) rfl (by kernel_rfl) rfl (fun _ => (rd_mulw rfl rfl)) ?_
      refine s_rp (i := 27) rfl (by kernel_rfl) rfl (fun _ => (rd_addw rfl rfl)) ?_
      refine s_rp (i := 28) rfl (by kernel_rfl) rfl (fun _ => (rd_assign rfl)) ?_
      refine s_nil (by kernel_rfl) ?_
      obtain rfl := os q86
      exact ⟨rfl, (by repeat (first | exact Sub.nil _ | refine Sub.cons rfl ?_)), (hm76.pick [0] (by decide) rfl)⟩
    · refine cw_f rfl hb72 ?_
      refine cw_skip ?_
      obtain rfl := os q73
      exact ⟨rfl, (by repeat (first | exact Sub.nil _ | refine Sub.cons rfl ?_)), (hm0.pick [0] (by decide) rfl)⟩
  · clear hit70
    intro e env87 w88 hX89
    obtain ⟨rfl, hs90, hm91⟩ := hX89
    refine qn_then ?_
    refine cw_sub hs90 ?_
    refine cw_seq ?_
    refine cw_region ?_
    refine t_rd rfl (rd_move rfl) ?_
    refine t_rd rfl (rd_nilCheck rfl) ?_
    refine t_rd rfl (rd_fld tF52_1 rfl) ?_
    refine t_rd rfl (rd_ld1 tO3 rfl (hm91.blk 0 rfl) (off := 1) rfl) ?_
    obtain ⟨x92, h93, q94⟩ := ob q71; clear q71
    refine t_rd rfl (rd_add64 h93 rfl rfl) ?_
    refine t_rd rfl (rd_nilCheck rfl) ?_
    refine t_rd rfl (rd_fld tF52_1 rfl) ?_
    refine t_ef0 (ef_st1 (k := 0) (off := 1) hm91 tO3 rfl rfl rfl rfl rfl rfl) ?_
    intro _ w96 hm95
    refine rwt_nil ?_
    refine qn_then ?_
    refine cw_seq ?_
    refine cw_region ?_
    refine t_rd rfl (rd_move rfl) ?_
    refine t_rd rfl (rd_move rfl) ?_
    obtain ⟨x97, h98, q99⟩ := ob q94; clear q94
    refine t_rd rfl (rd_rem64 h98 rfl rfl) ?_
    refine t_rd rfl (rd_assign rfl) ?_
    refine rwt_nil ?_
    refine qn_then ?_
    refine cw_seq ?_
    refine cw_seq ?_
    refine cw_region ?_
    refine t_rd rfl (rd_move rfl) ?_
    refine t_rd rfl (rd_lss rfl rfl) ?_
    refine rwt_nil ?_
    refine qn_then ?_
    obtain ⟨hb100, q101⟩ | ⟨hb100, q101⟩ := oi q99 <;> clear q99
    · refine cw_t rfl hb100 ?_
      refine cw_region ?_
      refine t_rd rfl (rd_move rfl) ?_
      refine t_rd rfl (rd_move rfl) ?_
      obtain ⟨x102, h103, q104⟩ := ob q101; clear q101
      refine t_rd rfl (rd_add64 h103 rfl rfl) ?_
      refine t_rd rfl (rd_assign rfl) ?_
      refine rwt_nil ?_
      refine qn_then ?_
      refine cw_seq ?_
      refine cw_region ?_
      refine t_rd rfl (rd_move rfl) ?_
      refine t_rd rfl (rd_assign rfl) ?_
      refine rwt_nil ?_
      refine qn_then ?_
      refine cw_ret ?_
      obtain rfl := os q104
      exact ret1 rfl rfl ⟨rfl, (hm95.pick [0] (by decide) rfl)⟩
    · refine cw_f rfl hb100 ?_
      refine cw_skip ?_
      refine qn_then ?_
      refine cw_seq ?_
      refine cw_region ?_
      refine t_rd rfl (rd_move rfl) ?_
      refine t_rd rfl (rd_assign rfl) ?_
      refine rwt_nil ?_
      refine qn_then ?_
      refine cw_ret ?_
      obtain rfl := os q101
      exact ret1 rfl rfl ⟨rfl, (hm95.pick [0] (by decide) rfl)⟩

theorem Maker_Pick_ok {N : Nat} {a0_l : List Int} {a0_n : Int} {a1 : List Int} {res : Int × Int} (h : Maker_Pick N a0_l a0_n a1 = some res) {w : World} {v0_l : Value} {g0 : Nat} {v1 : Value} (hv0_l : Sl (Old w (fun k => k = g0)) w v0_l a0_l) (hk0 : (blk g0 52 [v0_l, (Value.int .i64 a0_n)]).φ w) (hv1 : Sl (Old w (fun k => k = g0)) w v1 a1) :
    CallsR Try.prog 15 [(Value.pointer (some ⟨g0, 0, none⟩)), v1] w (fun u w' => u = (Value.int .i64 res.2) ∧ Mem w (fun k => k = g0) [blk g0 52 [v0_l, (Value.int .i64 res.1)]] w') := by
  unfold Maker_Pick at h
  refine fn_ok Try.func15 rfl rfl rfl ?_
  have hm0 := Mem.one hk0
  refine cw_seq ?_
  refine cw_region ?_
  refine t_rd rfl (rd_assign rfl) ?_
  refine rwt_nil ?_
  refine qn_then ?_
  refine cw_seq ?_
  refine cw_region ?_
  refine t_rd rfl (rd_move rfl) ?_
  refine t_rd rfl (rd_move rfl) ?_
  refine t_rd rfl (rd_move rfl) ?_
  refine t_rd rfl (rd_lenS tS22 rfl (hv1.of_old hm0)) ?_
  obtain ⟨r10, h11, q12⟩ := ob h; clear h
  refine t_ef rfl (ef_call tf23 rfl (Maker_Next_ok h11 (hv0_l.to_callT (k := 0) hm0 rfl) (hm0.get (k := 0) rfl))) ?_
  rintro _ w14 ⟨e_, hm13⟩
  obtain rfl := e_.symm
  have hm15 := hm0.callT (k := 0) rfl (fun _ h => h) hm13 (fun _ => Iff.rfl)
  obtain ⟨x16, h17, q18⟩ := ob q12; clear q12
  refine t_rd rfl (rd_index tS22 rfl rfl (hv1.of_old hm15) h17) ?_
  refine t_rd rfl (rd_ld1 tO3 rfl ((hv1.of_old hm15).cells h17) (off := 0) rfl) ?_
  refine t_rd rfl (rd_assign rfl) ?_
  refine rwt_nil ?_
  refine qn_then ?_
  refine cw_ret ?_
  obtain rfl := os q18
  exact ret1 rfl rfl ⟨rfl, (hm15.pick [0] (by decide) rfl)⟩

theorem yardgen_Spans_ok {N : Nat} {a0_l : List Int} {a0_n : Int} {a1 : Int} {res : Int × List T_Span} (h : yardgen_Spans N a0_l a0_n a1 = some res) {w : World} {v0_l : Value} {g0 : Nat} (hv0_l : Sl (Old w (fun k => k = g0)) w v0_l a0_l) (hk0 : (blk g0 52 [v0_l, (Value.int .i64 a0_n)]).φ w) :
    CallsR Try.prog 11 [(Value.pointer (some ⟨g0, 0, none⟩)), (Value.int .i64 a1)] w (fun u w' => ∃ (y0 : Value), u = y0 ∧ Mem w (fun k => k = g0) [blk g0 52 [v0_l, (Value.int .i64 res.1)], ownL 32 y0 (res.2 : List T_Span)] w') := by
  unfold yardgen_Spans at h
  refine fn_ok Try.func11 rfl rfl rfl ?_
  have hm0 := Mem.one hk0
  refine cw_seq ?_
  refine cw_region ?_
  refine t_rd rfl (rd_assign rfl) ?_
  refine rwt_nil ?_
  refine qn_then ?_
  refine cw_seq ?_
  refine cw_region ?_
  refine t_rd rfl (rd_assign rfl) ?_
  refine rwt_nil ?_
  refine qn_then ?_
  refine cw_seq ?_
  refine cw_region ?_
  refine t_rd rfl (rd_move rfl) ?_
  obtain ⟨r280, h281, q282⟩ := ob h; clear h
  refine t_ef rfl (ef_call tf23 rfl (Maker_Next_ok h281 (hv0_l.to_callT (k := 0) hm0 rfl) (hm0.get (k := 0) rfl))) ?_
  rintro _ w284 ⟨e_, hm283⟩
  obtain rfl := e_.symm
  have hm285 := hm0.callT (k := 0) rfl (fun _ h => h) hm283 (fun _ => Iff.rfl)
  refine t_rd rfl (rd_assign rfl) ?_
  refine rwt_nil ?_
  refine qn_then ?_
  refine cw_seq ?_
  refine cw_seq ?_
  refine cw_region ?_
  refine t_rd rfl (rd_assign rfl) ?_
  refine rwt_nil ?_
  refine qn_then ?_
  refine cw_block ?_
  have hm347 := hm285.addNil (α := T_Span) 32
  obtain ⟨r490, hit491, q492⟩ := ob q282; clear q282
  refine cw_loop2 (I := fun q envq wq => ∃ (v483 : Value), Sub [(0, (Value.pointer (some ⟨g0, 0, none⟩))), (1, (Value.int .i64 a1)), (5, v483), (6, (Value.int .i64 q.1)), (7, (Value.int .i64 q.2.1))] envq ∧ Mem w (fun k => k = g0) [ownL 32 v483 (q.2.2.2 : List T_Span), blk g0 52 [v0_l, (Value.int .i64 q.2.2.1)]] wq) (X := fun eq envq wq => eq = .exit 0 ∧ ∃ (v478 : Value), Sub [(5, v478)] envq ∧ Mem w (fun k => k = g0) [ownL 32 v478 (r490.2 : List T_Span), blk g0 52 [v0_l, (Value.int .i64 r490.1)]] wq) hit491 ⟨(Value.slice none 0 0), (by repeat (first | exact Sub.nil _ | refine Sub.cons rfl ?_)), (hm347.pick [0, 1] (by decide) rfl)⟩ ?_ ?_
  · rintro ⟨i479, i480, i481, l482⟩ x485 env486 w487 hf488 hr489 ⟨v483, hs_, hm_⟩
    have hs_ : Sub [(0, (Value.pointer (some ⟨g0, 0, none⟩))), (1, (Value.int .i64 a1)), (5, v483), (6, (Value.int .i64 i479)), (7, (Value.int .i64 i480))] env486 := hs_
    have hm493 : Mem w (fun k => k = g0) [ownL 32 v483 (l482 : List T_Span), blk g0 52 [v0_l, (Value.int .i64 i481)]] w487 := hm_
    refine cw_sub hs_ ?_
    clear hs_ hm_ q492
    have h : yardgen_Spans_l1 N a0_l a1 i479 i480 i481 l482 = some x485 := hf488
    clear hf488
    refine cw_seq ?_
    refine cw_seq ?_
    refine cw_region ?_
    refine t_rd rfl (rd_move rfl) ?_
    refine t_rd rfl (rd_leq rfl rfl) ?_
    refine t_rd rfl (rd_move rfl) ?_
    refine t_rdg rfl rfl rfl rfl (gv_t _) (fun hg494 => (rd_move rfl)) ?_
    refine t_rdg rfl rfl rfl rfl (gv_t _) (fun hg495 => (rd_lenS tS26 (gvx rfl hg495) (hm493.sl 0 rfl))) ?_
    refine t_rdg rfl rfl rfl rfl (gv_t _) (fun hg496 => (rd_move rfl)) ?_
    refine t_rdg rfl rfl rfl rfl (gv_t _) (fun hg497 => (rd_lss (gvx rfl hg497) (gvx rfl hg497))) ?_
    refine t_rd rfl (rd_and rfl (fun hc498 => (gvx rfl hc498))) ?_
    refine rwt_nil ?_
    refine qn_then ?_
    obtain ⟨hb499, q500⟩ | ⟨hb499, q500⟩ := oi h <;> clear h
    · refine cw_t rfl hb499 ?_
      refine cw_skip ?_
      refine qn_then ?_
      refine cw_seq ?_
      refine cw_block ?_
      refine cw_seq ?_
      refine cw_seq ?_
      refine cw_region ?_
      refine t_rd rfl (rd_move rfl) ?_
      obtain ⟨r501, h502, q503⟩ := ob q500; clear q500
      refine t_ef rfl (ef_call tf23 rfl (Maker_Next_ok h502 (hv0_l.to_callT (k := 1) hm493 rfl) (hm493.get (k := 1) rfl))) ?_
      rintro _ w505 ⟨e_, hm504⟩
      obtain rfl := e_.symm
      have hm506 := hm493.callT (k := 1) rfl (fun _ h => h) hm504 (fun _ => Iff.rfl)
      refine t_rd rfl (rd_eql rfl rfl) ?_
      refine rwt_nil ?_
      refine qn_then ?_
      obtain ⟨hb507, q508⟩ | ⟨hb507, q508⟩ := oi q503 <;> clear q503
      · refine cw_t rfl hb507 ?_
        refine cw_exit ?_
        refine qx_then (qx_same (qn_then ?_))
        refine cw_region ?_
        refine t_rd rfl (rd_move rfl) ?_
        obtain ⟨x509, h510, q511⟩ := ob q508; clear q508
        refine t_rd rfl (rd_add64 h510 rfl rfl) ?_
        refine t_rd rfl (rd_assign rfl) ?_
        refine rwt_nil ?_
        refine qn_then ?_
        refine ⟨_, (os q511), v483, (by repeat (first | exact Sub.nil _ | refine Sub.cons rfl ?_)), (hm506.pick [0, 1] (by decide) rfl)⟩
      · refine cw_f rfl hb507 ?_
        refine cw_skip ?_
        refine qn_then ?_
        refine cw_seq ?_
        refine cw_region ?_
        refine t_rd rfl (rd_move rfl) ?_
        refine t_rd rfl (rd_move rfl) ?_
        refine t_rd rfl (rd_move rfl) ?_
        refine t_ef rfl (ef_bslice (l := ([0, 1, 2] : List Int)) hm506 tS22 rfl (cs := #[(Value.int .i64 0), (Value.int .i64 1), (Value.int .i64 2)]) (by unfold bsl; kernel_rfl) rfl rfl) ?_
        intro v512 w514 hm513
        obtain ⟨r515, h516, q517⟩ := ob q508; clear q508
        refine t_ef rfl (ef_call tf15 rfl (Maker_Pick_ok h516 (hv0_l.to_callT (k := 2) hm513 rfl) (hm513.get (k := 2) rfl) (hm513.sl_callT 0 2 rfl rfl (by decide)))) ?_
        rintro _ w519 ⟨e_, hm518⟩
        obtain rfl := e_.symm
        have hm520 := hm513.callT (k := 2) rfl (fun _ h => h) hm518 (fun _ => Iff.rfl)
        refine t_rd rfl (rd_move rfl) ?_
        refine t_rd rfl (rd_move rfl) ?_
        obtain ⟨x521, h522, q523⟩ := ob q517; clear q517
        refine t_rd rfl (rd_add64 h522 rfl rfl) ?_
        refine t_rd rfl (rd_move rfl) ?_
        obtain ⟨r524, h525, q526⟩ := ob q523; clear q523
        refine t_ef rfl (ef_call tf23 rfl (Maker_Next_ok h525 (hv0_l.to_callT (k := 2) hm520 rfl) (hm520.get (k := 2) rfl))) ?_
        rintro _ w528 ⟨e_, hm527⟩
        obtain rfl := e_.symm
        have hm529 := hm520.callT (k := 2) rfl (fun _ h => h) hm527 (fun _ => Iff.rfl)
        obtain ⟨x530, h531, q532⟩ := ob q526; clear q526
        refine t_rd rfl (rd_add64 h531 rfl rfl) ?_
        refine t_rd rfl (rd_build (cs := #[(Value.int .i64 i480), (Value.int .i64 r515.2), (Value.int .i64 i479), (Value.int .i64 x530)]) rfl (by kernel_rfl)) ?_
        refine t_ef rfl (ef_bslice (l := ([(T_Span.mk i480 r515.2 i479 x530)] : List T_Span)) hm529 tS26 rfl (cs := #[(Value.int .i64 i480), (Value.int .i64 r515.2), (Value.int .i64 i479), (Value.int .i64 x530)]) (by unfold bsl; kernel_rfl) rfl rfl) ?_
        intro v533 w535 hm534
        obtain ⟨l536, h537, q538⟩ := ob q532; clear q532
        refine t_ef rfl (ef_append (k := 2) hm534 tS26 tE32 rfl rfl rfl rfl (hm534.sl 0 rfl) h537) ?_
        intro v539 w541 hm540
        refine t_rd rfl (rd_assign rfl) ?_
        refine rwt_nil ?_
        refine qn_then ?_
        refine cw_region ?_
        refine t_rd rfl (rd_move rfl) ?_
        refine t_rd rfl (rd_move rfl) ?_
        obtain ⟨r542, h543, q544⟩ := ob q538; clear q538
        refine t_ef rfl (ef_call tf23 rfl (Maker_Next_ok h543 (hv0_l.to_callT (k := 3) hm540 rfl) (hm540.get (k := 3) rfl))) ?_
        rintro _ w546 ⟨e_, hm545⟩
        obtain rfl := e_.symm
        have hm547 := hm540.callT (k := 3) rfl (fun _ h => h) hm545 (fun _ => Iff.rfl)
        obtain ⟨x548, h549, q550⟩ := ob q544; clear q544
        refine t_rd rfl (rd_add64 h549 rfl rfl) ?_
        refine t_rd rfl (rd_assign rfl) ?_
        refine rwt_nil ?_
        refine qn_block (qn_then ?_)
        refine cw_region ?_
        refine t_rd rfl (rd_move rfl) ?_
        obtain ⟨x551, h552, q553⟩ := ob q550; clear q550
        refine t_rd rfl (rd_add64 h552 rfl rfl) ?_
        refine t_rd rfl (rd_assign rfl) ?_
        refine rwt_nil ?_
        refine qn_then ?_
        refine ⟨_, (os q553), v539, (by repeat (first | exact Sub.nil _ | refine Sub.cons rfl ?_)), (hm547.pick [2, 3] (by decide) rfl)⟩
    · refine cw_f rfl hb499 ?_
      refine cw_exit ?_
      refine qx_then (qx_then ?_)
      obtain rfl := hr489 _ (os q500)
      exact ⟨rfl, v483, (by repeat (first | exact Sub.nil _ | refine Sub.cons rfl ?_)), (hm493.pick [0, 1] (by decide) rfl)⟩
  · skip
    intro e env554 w555 hX556
    obtain ⟨rfl, v478, hs557, hm558⟩ := hX556
    refine qx_same (qn_then ?_)
    refine cw_sub hs557 ?_
    refine cw_seq ?_
    refine cw_region ?_
    refine t_rd rfl (rd_move rfl) ?_
    refine t_rd rfl (rd_assign rfl) ?_
    refine rwt_nil ?_
    refine qn_then ?_
    refine cw_ret ?_
    obtain rfl := os q492
    exact ret1 rfl rfl ⟨v478, rfl, (hm558.pick [1, 0] (by decide) rfl)⟩

theorem separation_valid_ok {N : Nat} {a0 : List T_Span} {res : Bool} (h : separation_valid N a0 = some res) {w : World} {v0 : Value} (hv0 : Sl (Old w No) w v0 a0) :
    CallsR Try.prog 38 [v0] w (fun u w' => u = (Value.bool res) ∧ Mem w No [] w') := by
  unfold separation_valid at h
  refine fn_ok Try.func38 rfl rfl rfl ?_
  have hm0 := Mem.nil w
  refine cw_seq ?_
  refine cw_region ?_
  refine t_rd rfl (rd_assign rfl) ?_
  refine rwt_nil ?_
  refine qn_then ?_
  refine cw_seq ?_
  refine cw_seq ?_
  refine cw_region ?_
  refine t_rd rfl (rd_move rfl) ?_
  refine t_rd rfl (rd_lenS tS26 rfl (hv0.of_old hm0)) ?_
  refine t_rd rfl (rd_gtr rfl rfl) ?_
  refine rwt_nil ?_
  refine qn_then ?_
  obtain ⟨hb1, q2⟩ | ⟨hb1, q2⟩ := oi h <;> clear h
  · refine cw_t rfl hb1 ?_
    refine cw_seq ?_
    refine cw_region ?_
    refine t_rd rfl (rd_assign rfl) ?_
    refine rwt_nil ?_
    refine qn_then ?_
    refine cw_ret ?_
    refine qr_then ?_
    obtain rfl := os q2
    exact ret1 rfl rfl ⟨rfl, (hm0.pick [] (by decide) rfl)⟩
  · refine cw_f rfl hb1 ?_
    refine cw_skip ?_
    refine qn_then ?_
    refine cw_seq ?_
    refine cw_region ?_
    refine t_ef rfl (ef_makeMap hm0 Bool) ?_
    rintro _ w5 ⟨g3, rfl, hm4⟩
    refine t_rd rfl (rd_assign rfl) ?_
    refine rwt_nil ?_
    refine qn_then ?_
    refine cw_seq ?_
    refine cw_seq ?_
    refine cw_region ?_
    refine t_rd rfl (rd_move rfl) ?_
    refine t_rd rfl (rd_lenS tS26 rfl (hv0.of_old hm4)) ?_
    refine t_rd rfl (rd_move rfl) ?_
    refine rwt_nil ?_
    refine qn_then ?_
    refine cw_block ?_
    obtain ⟨r104, hit105, q106⟩ := ob q2; clear q2
    refine cw_loop2 (I := fun q envq wq => Sub [(3, (Value.map (some g3))), (10, v0), (11, (Value.int .i64 (List.length a0 : Int))), (12, (Value.int .i64 q.1))] envq ∧ Mem w No [mapC g3 (q.2 : List (Int × Bool))] wq) (X := fun eq envq wq => (∃ p107, r104 = (Sum.inl p107) ∧ eq = .ret ∧ retQ Try.prog 56 Try.f38 (fun u w' => u = (Value.bool p107) ∧ Mem w No [] w') .ret envq wq) ∨ (∃ p108, r104 = (Sum.inr p108) ∧ eq = .exit 0 ∧ Sub [] envq ∧ Mem w No [] wq)) hit105 ⟨(by repeat (first | exact Sub.nil _ | refine Sub.cons rfl ?_)), (hm4.pick [0] (by decide) rfl)⟩ ?_ ?_
    · rintro ⟨i96, m97⟩ x99 env100 w101 hf102 hr103 ⟨hs_, hm_⟩
      have hs_ : Sub [(3, (Value.map (some g3))), (10, v0), (11, (Value.int .i64 (List.length a0 : Int))), (12, (Value.int .i64 i96))] env100 := hs_
      have hm109 : Mem w No [mapC g3 (m97 : List (Int × Bool))] w101 := hm_
      refine cw_sub hs_ ?_
      clear hs_ hm_ q106
      have h : separation_valid_l1 N a0 i96 m97 = some x99 := hf102
      clear hf102
      refine cw_seq ?_
      refine cw_region ?_
      refine t_rd rfl (rd_lss rfl rfl) ?_
      refine rwt_nil ?_
      refine qn_then ?_
      refine cw_seq ?_
      obtain ⟨hb110, q111⟩ | ⟨hb110, q111⟩ := oi h <;> clear h
      · refine cw_t rfl hb110 ?_
        refine cw_skip ?_
        refine qn_then ?_
        refine cw_seq ?_
        refine cw_block ?_
        refine cw_seq ?_
        refine cw_region ?_
        obtain ⟨x112, h113, q114⟩ := ob q111; clear q111
        refine t_rd rfl (rd_index tS26 rfl rfl (hv0.of_old hm109) h113) ?_
        refine t_rd rfl (rd_ld tA32 rfl ((hv0.of_old hm109).cells h113) rfl) ?_
        refine t_ef rfl (ef_alloc hm109 tZ32 rfl) ?_
        rintro _ w117 ⟨g115, rfl, hm116⟩
        refine t_ef0 (ef_stw (k := 0) hm116 tA32 rfl rfl (oc_cons rfl (oc_cons rfl (oc_cons rfl (oc_cons rfl oc_nil)))) rfl rfl rfl) ?_
        intro _ w119 hm118
        refine rwt_nil ?_
        refine qn_then ?_
        refine cw_seq ?_
        refine cw_seq ?_
        refine cw_region ?_
        refine t_rd rfl (rd_fld tF32_0 rfl) ?_
        refine t_rd rfl (rd_ld1 tO3 rfl (hm118.blk 0 rfl) (off := 0) rfl) ?_
        refine t_rd rfl (rd_lss rfl rfl) ?_
        refine t_rd rfl (rd_move rfl) ?_
        refine t_rdg rfl rfl rfl rfl (gv_f _) (fun hg120 => (rd_move rfl)) ?_
        refine t_rdg rfl rfl rfl rfl (gv_f _) (fun hg121 => (rd_fld tF32_0 rfl)) ?_
        refine t_rdg rfl rfl rfl rfl (gv_f _) (fun hg122 => (rd_ld1 tO3 (gvx rfl hg122) (hm118.blk 0 rfl) (off := 0) rfl)) ?_
        refine t_rdg rfl rfl rfl rfl (gv_f _) (fun hg123 => (mvB (o := (mget m97 x112.Element)) ▸ rd_lookup tM64 (hm118.get (k := 1) rfl) (gvx rfl hg123) (gvx rfl hg123))) ?_
        refine t_rd rfl (rd_or rfl (fun hc124 => (gvx rfl (bnotIt hc124)))) ?_
        refine t_rd rfl (rd_move rfl) ?_
        refine t_rdg rfl rfl rfl rfl (gv_f _) (fun hg125 => (rd_fld tF32_1 rfl)) ?_
        refine t_rdg rfl rfl rfl rfl (gv_f _) (fun hg126 => (rd_ld1 tO3 (gvx rfl hg126) (hm118.blk 0 rfl) (off := 1) rfl)) ?_
        refine t_rdg rfl rfl rfl rfl (gv_f _) (fun hg127 => (rd_lss (gvx rfl hg127) rfl)) ?_
        refine t_rd rfl (rd_or rfl (fun hc128 => (gvx rfl (bnotIt hc128)))) ?_
        refine t_rd rfl (rd_move rfl) ?_
        refine t_rdg rfl rfl rfl rfl (gv_f _) (fun hg129 => (rd_fld tF32_1 rfl)) ?_
        refine t_rdg rfl rfl rfl rfl (gv_f _) (fun hg130 => (rd_ld1 tO3 (gvx rfl hg130) (hm118.blk 0 rfl) (off := 1) rfl)) ?_
        refine t_rdg rfl rfl rfl rfl (gv_f _) (fun hg131 => (rd_gtr (gvx rfl hg131) rfl)) ?_
        refine t_rd rfl (rd_or rfl (fun hc132 => (gvx rfl (bnotIt hc132)))) ?_
        refine t_rd rfl (rd_move rfl) ?_
        refine t_rdg rfl rfl rfl rfl (gv_f _) (fun hg133 => (rd_fld tF32_2 rfl)) ?_
        refine t_rdg rfl rfl rfl rfl (gv_f _) (fun hg134 => (rd_ld1 tO3 (gvx rfl hg134) (hm118.blk 0 rfl) (off := 2) rfl)) ?_
        refine t_rdg rfl rfl rfl rfl (gv_f _) (fun hg135 => (rd_lss (gvx rfl hg135) rfl)) ?_
        refine t_rd rfl (rd_or rfl (fun hc136 => (gvx rfl (bnotIt hc136)))) ?_
        refine t_rd rfl (rd_move rfl) ?_
        refine t_rdg rfl rfl rfl rfl (gv_f _) (fun hg137 => (rd_fld tF32_2 rfl)) ?_
        refine t_rdg rfl rfl rfl rfl (gv_f _) (fun hg138 => (rd_ld1 tO3 (gvx rfl hg138) (hm118.blk 0 rfl) (off := 2) rfl)) ?_
        refine t_rdg rfl rfl rfl rfl (gv_f _) (fun hg139 => (rd_fld tF32_3 rfl)) ?_
        refine t_rdg rfl rfl rfl rfl (gv_f _) (fun hg140 => (rd_ld1 tO3 (gvx rfl hg140) (hm118.blk 0 rfl) (off := 3) rfl)) ?_
        refine t_rdg rfl rfl rfl rfl (gv_f _) (fun hg141 => (rd_geq (gvx rfl hg141) (gvx rfl hg141))) ?_
        refine t_rd rfl (rd_or rfl (fun hc142 => (gvx rfl (bnotIt hc142)))) ?_
        refine t_rd rfl (rd_move rfl) ?_
        refine t_rdg rfl rfl rfl rfl (gv_f _) (fun hg143 => (rd_fld tF32_3 rfl)) ?_
        refine t_rdg rfl rfl rfl rfl (gv_f _) (fun hg144 => (rd_ld1 tO3 (gvx rfl hg144) (hm118.blk 0 rfl) (off := 3) rfl)) ?_
        refine t_rdg rfl rfl rfl rfl (gv_f _) (fun hg145 => (rd_gtr (gvx rfl hg145) rfl)) ?_
        refine t_rd rfl (rd_or rfl (fun hc146 => (gvx rfl (bnotIt hc146)))) ?_
        refine rwt_nil ?_
        refine qn_then ?_
        obtain ⟨hb147, q148⟩ | ⟨hb147, q148⟩ := oi q114 <;> clear q114
        · refine cw_t rfl hb147 ?_
          refine cw_seq ?_
          refine cw_region ?_
          refine t_rd rfl (rd_assign rfl) ?_
          refine rwt_nil ?_
          refine qn_then ?_
          refine cw_ret ?_
          refine qr_then (qr_block (qr_then (qr_then ?_)))
          obtain rfl := hr103 _ (os q148)
          refine .inl (⟨_, rfl, ⟨rfl, ?_⟩⟩)
          exact ret1 rfl rfl ⟨rfl, (hm118.pick [] (by decide) rfl)⟩
        · refine cw_f rfl hb147 ?_
          refine cw_skip ?_
          refine qn_then ?_
          refine cw_region ?_
          refine t_rd rfl (rd_move rfl) ?_
          refine t_rd rfl (rd_fld tF32_0 rfl) ?_
          refine t_rd rfl (rd_ld1 tO3 rfl (hm118.blk 0 rfl) (off := 0) rfl) ?_
          refine t_ef0 (ef_mapUpdate (kq := 1) hm118 tM64 rfl (true : Bool) rfl rfl rfl) ?_
          intro _ w150 hm149
          refine rwt_nil ?_
          refine qn_block (qn_then ?_)
          refine cw_region ?_
          obtain ⟨x151, h152, q153⟩ := ob q148; clear q148
          refine t_rd rfl (rd_add64 h152 rfl rfl) ?_
          refine t_rd rfl (rd_move rfl) ?_
          refine rwt_nil ?_
          refine qn_then ?_
          refine ⟨_, (os q153), (by repeat (first | exact Sub.nil _ | refine Sub.cons rfl ?_)), (hm149.pick [1] (by decide) rfl)⟩
      · refine cw_f rfl hb110 ?_
        refine cw_exit ?_
        refine qx_then (qx_then ?_)
        obtain rfl := hr103 _ (os q111)
        exact .inr (⟨_, rfl, ⟨rfl, (by repeat (first | exact Sub.nil _ | refine Sub.cons rfl ?_)), (hm109.pick [] (by decide) rfl)⟩⟩)
    · skip
      intro e env154 w155 hX156
      rcases hX156 with hX156 | hX156
      · obtain ⟨p158, rfl, hX156⟩ := hX156
        obtain ⟨rfl, hq160⟩ := hX156
        exact qr_block (qr_then ((by have e := os q106; subst e; exact hq160)))
      · obtain ⟨p161, rfl, hX156⟩ := hX156
        obtain ⟨rfl, hs162, hm163⟩ := hX156
        refine qx_same (qn_then ?_)
        refine cw_sub hs162 ?_
        refine cw_seq ?_
        refine cw_region ?_
        refine t_rd rfl (rd_assign rfl) ?_
        refine rwt_nil ?_
        refine qn_then ?_
        refine cw_ret ?_
        obtain rfl := os q106
        exact ret1 rfl rfl ⟨rfl, (hm163.pick [] (by decide) rfl)⟩

theorem separation_sound_ok {N : Nat} {a0 : List (List T_Span)} {a1 : Int} {res : Bool} (h : separation_sound N a0 a1 = some res) {w : World} {v0 : Value} (hv0 : Sl (Old w No) w v0 a0) :
    CallsR Try.prog 27 [v0, (Value.int .i64 a1)] w (fun u w' => u = (Value.bool res) ∧ Mem w No [] w') := by
  unfold separation_sound at h
  refine fn_ok Try.func27 rfl rfl rfl ?_
  obtain ⟨zs_a0, hn0⟩ := hv0.nest
  have hm0 := Mem.nil w
  refine cw_seq ?_
  refine cw_region ?_
  refine t_rd rfl (rd_assign rfl) ?_
  refine rwt_nil ?_
  refine qn_then ?_
  refine cw_seq ?_
  refine cw_seq ?_
  refine cw_region ?_
  refine t_rd rfl (rd_move rfl) ?_
  refine t_rd rfl (rd_lenS tS35 rfl ((hn0.of_old hm0).sl)) ?_
  refine t_rd rfl (rd_move rfl) ?_
  refine rwt_nil ?_
  refine qn_then ?_
  refine cw_block ?_
  obtain ⟨r45, hit46, q47⟩ := ob h; clear h
  refine cw_loop2 (I := fun q envq wq => Sub [(1, (Value.int .i64 a1)), (7, v0), (8, (Value.int .i64 (List.length a0 : Int))), (9, (Value.int .i64 q))] envq ∧ Mem w No [] wq) (X := fun eq envq wq => (∃ p48, r45 = (Sum.inl p48) ∧ eq = .ret ∧ retQ Try.prog 23 Try.f27 (fun u w' => u = (Value.bool p48) ∧ Mem w No [] w') .ret envq wq) ∨ (∃ p49, r45 = (Sum.inr p49) ∧ eq = .exit 0 ∧ Sub [(1, (Value.int .i64 a1))] envq ∧ Mem w No [] wq)) hit46 ⟨(by repeat (first | exact Sub.nil _ | refine Sub.cons rfl ?_)), (hm0.pick [] (by decide) rfl)⟩ ?_ ?_
  · rintro i38 x40 env41 w42 hf43 hr44 ⟨hs_, hm_⟩
    have hs_ : Sub [(1, (Value.int .i64 a1)), (7, v0), (8, (Value.int .i64 (List.length a0 : Int))), (9, (Value.int .i64 i38))] env41 := hs_
    have hm50 : Mem w No [] w42 := hm_
    refine cw_sub hs_ ?_
    clear hs_ hm_ q47
    have h : separation_sound_l1 N a0 i38 = some x40 := hf43
    clear hf43
    refine cw_seq ?_
    refine cw_region ?_
    refine t_rd rfl (rd_lss rfl rfl) ?_
    refine rwt_nil ?_
    refine qn_then ?_
    refine cw_seq ?_
    obtain ⟨hb51, q52⟩ | ⟨hb51, q52⟩ := oi h <;> clear h
    · refine cw_t rfl hb51 ?_
      refine cw_skip ?_
      refine qn_then ?_
      refine cw_seq ?_
      refine cw_block ?_
      refine cw_seq ?_
      refine cw_region ?_
      obtain ⟨x53, h54, q55⟩ := ob q52; clear q52
      refine t_rd rfl (rd_index tS35 rfl rfl ((hn0.of_old hm50).sl) h54) ?_
      obtain ⟨zd56, hz57⟩ := (hn0.of_old hm50).row h54
      refine t_rd rfl (rd_ld1 tO26 rfl ((hn0.of_old hm50).cells hz57) (off := 0) rfl) ?_
      refine t_rd rfl (rd_assign rfl) ?_
      refine rwt_nil ?_
      refine qn_then ?_
      refine cw_seq ?_
      refine cw_region ?_
      refine t_rd rfl (rd_move rfl) ?_
      obtain ⟨r58, h59, q60⟩ := ob q55; clear q55
      refine t_ef rfl (ef_call tf38 rfl (separation_valid_ok h59 ((hn0.to_call hm50).get hz57 h54))) ?_
      rintro _ w62 ⟨e_, hm61⟩
      obtain rfl := e_.symm
      have hm63 := hm50.call hm61
      refine t_rd rfl (rd_not rfl) ?_
      refine rwt_nil ?_
      refine qn_then ?_
      obtain ⟨hb64, q65⟩ | ⟨hb64, q65⟩ := oi q60 <;> clear q60
      · refine cw_t rfl hb64 ?_
        refine cw_seq ?_
        refine cw_region ?_
        refine t_rd rfl (rd_assign rfl) ?_
        refine rwt_nil ?_
        refine qn_then ?_
        refine cw_ret ?_
        refine qr_block (qr_then (qr_then ?_))
        obtain rfl := hr44 _ (os q65)
        refine .inl (⟨_, rfl, ⟨rfl, ?_⟩⟩)
        exact ret1 rfl rfl ⟨rfl, (hm63.pick [] (by decide) rfl)⟩
      · refine cw_f rfl hb64 ?_
        refine cw_skip ?_
        refine qn_block (qn_then ?_)
        refine cw_region ?_
        obtain ⟨x66, h67, q68⟩ := ob q65; clear q65
        refine t_rd rfl (rd_add64 h67 rfl rfl) ?_
        refine t_rd rfl (rd_move rfl) ?_
        refine rwt_nil ?_
        refine qn_then ?_
        refine ⟨_, (os q68), (by repeat (first | exact Sub.nil _ | refine Sub.cons rfl ?_)), (hm63.pick [] (by decide) rfl)⟩
    · refine cw_f rfl hb51 ?_
      refine cw_exit ?_
      refine qx_then (qx_then ?_)
      obtain rfl := hr44 _ (os q52)
      exact .inr (⟨_, rfl, ⟨rfl, (by repeat (first | exact Sub.nil _ | refine Sub.cons rfl ?_)), (hm50.pick [] (by decide) rfl)⟩⟩)
  · skip
    intro e env69 w70 hX71
    rcases hX71 with hX71 | hX71
    · obtain ⟨p73, rfl, hX71⟩ := hX71
      obtain ⟨rfl, hq75⟩ := hX71
      exact qr_block (qr_then ((by have e := os q47; subst e; exact hq75)))
    · obtain ⟨p76, rfl, hX71⟩ := hX71
      obtain ⟨rfl, hs77, hm78⟩ := hX71
      refine qx_same (qn_then ?_)
      refine cw_sub hs77 ?_
      refine cw_seq ?_
      refine cw_region ?_
      refine t_rd rfl (rd_move rfl) ?_
      refine t_rd rfl (rd_geq rfl rfl) ?_
      refine t_rd rfl (rd_move rfl) ?_
      refine t_rdg rfl rfl rfl rfl (gv_t _) (fun hg79 => (rd_move rfl)) ?_
      refine t_rdg rfl rfl rfl rfl (gv_t _) (fun hg80 => (rd_leq (gvx rfl hg80) rfl)) ?_
      refine t_rd rfl (rd_and rfl (fun hc81 => (gvx rfl hc81))) ?_
      refine t_rd rfl (rd_assign rfl) ?_
      refine rwt_nil ?_
      refine qn_then ?_
      refine cw_ret ?_
      obtain rfl := os q47
      exact ret1 rfl rfl ⟨rfl, (hm78.pick [] (by decide) rfl)⟩

theorem separation_gap_ok {N : Nat} {a0 : List T_Span} {a1 : List T_Span} {a2 : Int} {res : Int × Int} (h : separation_gap N a0 a1 a2 = some res) {w : World} {v0 : Value} {v1 : Value} (hv0 : Sl (Old w No) w v0 a0) (hv1 : Sl (Old w No) w v1 a1) :
    CallsR Try.prog 28 [v0, v1, (Value.int .i64 a2)] w (fun u w' => u = (Value.tuple #[(Value.int .i64 res.1), (Value.int .i64 res.2)]) ∧ Mem w No [] w') := by
  unfold separation_gap at h
  refine fn_ok Try.func28 rfl rfl rfl ?_
  have hm0 := Mem.nil w
  refine cw_seq ?_
  refine cw_region ?_
  refine t_rd rfl (rd_assign rfl) ?_
  refine t_rd rfl (rd_assign rfl) ?_
  refine rwt_nil ?_
  refine qn_then ?_
  refine cw_seq ?_
  refine cw_region ?_
  refine t_rd rfl (rd_assign rfl) ?_
  refine rwt_nil ?_
  refine qn_then ?_
  refine cw_seq ?_
  refine cw_seq ?_
  refine cw_region ?_
  refine t_rd rfl (rd_move rfl) ?_
  refine t_rd rfl (rd_lenS tS26 rfl (hv0.of_old hm0)) ?_
  refine t_rd rfl (rd_move rfl) ?_
  refine rwt_nil ?_
  refine qn_then ?_
  refine cw_block ?_
  obtain ⟨r338, hit339, q340⟩ := ob h; clear h
  refine cw_loop2 (I := fun q envq wq => Sub [(1, v1), (2, (Value.int .i64 a2)), (8, (Value.int .i64 q.1)), (14, v0), (15, (Value.int .i64 (List.length a0 : Int))), (16, (Value.int .i64 q.2))] envq ∧ Mem w No [] wq) (X := fun eq envq wq => (∃ p341, r338 = (Sum.inl p341) ∧ eq = .ret ∧ retQ Try.prog 63 Try.f28 (fun u w' => u = (Value.tuple #[(Value.int .i64 p341.1), (Value.int .i64 p341.2)]) ∧ Mem w No [] w') .ret envq wq) ∨ (∃ p342, r338 = (Sum.inr p342) ∧ eq = .exit 0 ∧ Sub [(8, (Value.int .i64 p342))] envq ∧ Mem w No [] wq)) hit339 ⟨(by repeat (first | exact Sub.nil _ | refine Sub.cons rfl ?_)), (hm0.pick [] (by decide) rfl)⟩ ?_ ?_
  · rintro ⟨i330, i331⟩ x333 env334 w335 hf336 hr337 ⟨hs_, hm_⟩
    have hs_ : Sub [(1, v1), (2, (Value.int .i64 a2)), (8, (Value.int .i64 i330)), (14, v0), (15, (Value.int .i64 (List.length a0 : Int))), (16, (Value.int .i64 i331))] env334 := hs_
    have hm343 : Mem w No [] w335 := hm_
    refine cw_sub hs_ ?_
    clear hs_ hm_ q340
    have h : separation_gap_l3 N a0 a1 a2 i330 i331 = some x333 := hf336
    clear hf336
    refine cw_seq ?_
    refine cw_region ?_
    refine t_rd rfl (rd_lss rfl rfl) ?_
    refine rwt_nil ?_
    refine qn_then ?_
    refine cw_seq ?_
    obtain ⟨hb344, q345⟩ | ⟨hb344, q345⟩ := oi h <;> clear h
    · refine cw_t rfl hb344 ?_
      refine cw_skip ?_
      refine qn_then ?_
      refine cw_seq ?_
      refine cw_block ?_
      refine cw_seq ?_
      refine cw_region ?_
      obtain ⟨x346, h347, q348⟩ := ob q345; clear q345
      refine t_rd rfl (rd_index tS26 rfl rfl (hv0.of_old hm343) h347) ?_
      refine t_rd rfl (rd_ld tA32 rfl ((hv0.of_old hm343).cells h347) rfl) ?_
      refine t_ef rfl (ef_alloc hm343 tZ32 rfl) ?_
      rintro _ w351 ⟨g349, rfl, hm350⟩
      refine t_ef0 (ef_stw (k := 0) hm350 tA32 rfl rfl (oc_cons rfl (oc_cons rfl (oc_cons rfl (oc_cons rfl oc_nil)))) rfl rfl rfl) ?_
      intro _ w353 hm352
      refine rwt_nil ?_
      refine qn_then ?_
      refine cw_seq ?_
      refine cw_region ?_
      refine t_rd rfl (rd_move rfl) ?_
      refine t_rd rfl (rd_lenS tS26 rfl (hv1.of_old hm352)) ?_
      refine t_rd rfl (rd_move rfl) ?_
      refine rwt_nil ?_
      refine qn_then ?_
      refine cw_block ?_
      obtain ⟨r447, hit448, q449⟩ := ob q348; clear q348
      refine cw_loop2 (I := fun q envq wq => Sub [(1, v1), (2, (Value.int .i64 a2)), (8, (Value.int .i64 q.1)), (10, (Value.pointer (some ⟨g349, 0, none⟩))), (14, v0), (15, (Value.int .i64 (List.length a0 : Int))), (16, (Value.int .i64 i331)), (20, v1), (21, (Value.int .i64 (List.length a1 : Int))), (22, (Value.int .i64 q.2))] envq ∧ Mem w No [blk g349 32 [(Value.int .i64 x346.Element), (Value.int .i64 x346.Side), (Value.int .i64 x346.From), (Value.int .i64 x346.To)]] wq) (X := fun eq envq wq => (∃ p450, r447 = (Sum.inl p450) ∧ eq = .ret ∧ retQ Try.prog 63 Try.f28 (fun u w' => u = (Value.tuple #[(Value.int .i64 p450.1), (Value.int .i64 p450.2)]) ∧ Mem w No [] w') .ret envq wq) ∨ (∃ p451, r447 = (Sum.inr p451) ∧ eq = .exit 2 ∧ Sub [(1, v1), (2, (Value.int .i64 a2)), (8, (Value.int .i64 p451)), (14, v0), (15, (Value.int .i64 (List.length a0 : Int))), (16, (Value.int .i64 i331))] envq ∧ Mem w No [] wq)) hit448 ⟨(by repeat (first | exact Sub.nil _ | refine Sub.cons rfl ?_)), (hm352.pick [0] (by decide) rfl)⟩ ?_ ?_
      · rintro ⟨i439, i440⟩ x442 env443 w444 hf445 hr446 ⟨hs_, hm_⟩
        have hs_ : Sub [(1, v1), (2, (Value.int .i64 a2)), (8, (Value.int .i64 i439)), (10, (Value.pointer (some ⟨g349, 0, none⟩))), (14, v0), (15, (Value.int .i64 (List.length a0 : Int))), (16, (Value.int .i64 i331)), (20, v1), (21, (Value.int .i64 (List.length a1 : Int))), (22, (Value.int .i64 i440))] env443 := hs_
        have hm452 : Mem w No [blk g349 32 [(Value.int .i64 x346.Element), (Value.int .i64 x346.Side), (Value.int .i64 x346.From), (Value.int .i64 x346.To)]] w444 := hm_
        refine cw_sub hs_ ?_
        clear hs_ hm_ q449
        have h : separation_gap_l4 N a1 a2 x346 i439 i440 = some x442 := hf445
        clear hf445
        refine cw_seq ?_
        refine cw_region ?_
        refine t_rd rfl (rd_lss rfl rfl) ?_
        refine rwt_nil ?_
        refine qn_then ?_
        refine cw_seq ?_
        obtain ⟨hb453, q454⟩ | ⟨hb453, q454⟩ := oi h <;> clear h
        · refine cw_t rfl hb453 ?_
          refine cw_skip ?_
          refine qn_then ?_
          refine cw_seq ?_
          refine cw_block ?_
          refine cw_seq ?_
          refine cw_region ?_
          obtain ⟨x455, h456, q457⟩ := ob q454; clear q454
          refine t_rd rfl (rd_index tS26 rfl rfl (hv1.of_old hm452) h456) ?_
          refine t_rd rfl (rd_ld tA32 rfl ((hv1.of_old hm452).cells h456) rfl) ?_
          refine t_ef rfl (ef_alloc hm452 tZ32 rfl) ?_
          rintro _ w460 ⟨g458, rfl, hm459⟩
          refine t_ef0 (ef_stw (k := 0) hm459 tA32 rfl rfl (oc_cons rfl (oc_cons rfl (oc_cons rfl (oc_cons rfl oc_nil)))) rfl rfl rfl) ?_
          intro _ w462 hm461
          refine rwt_nil ?_
          refine qn_then ?_
          refine cw_seq ?_
          refine cw_seq ?_
          refine cw_region ?_
          refine t_rd rfl (rd_fld tF32_0 rfl) ?_
          refine t_rd rfl (rd_ld1 tO3 rfl (hm461.blk 1 rfl) (off := 0) rfl) ?_
          refine t_rd rfl (rd_fld tF32_0 rfl) ?_
          refine t_rd rfl (rd_ld1 tO3 rfl (hm461.blk 0 rfl) (off := 0) rfl) ?_
          refine t_rd rfl (rd_neq rfl rfl) ?_
          refine rwt_nil ?_
          refine qn_then ?_
          obtain ⟨hb463, q464⟩ | ⟨hb463, q464⟩ := oi q457 <;> clear q457
          · refine cw_t rfl hb463 ?_
            refine cw_exit ?_
            refine qx_then (qx_same (qn_then ?_))
            refine cw_region ?_
            obtain ⟨x465, h466, q467⟩ := ob q464; clear q464
            refine t_rd rfl (rd_add64 h466 rfl rfl) ?_
            refine t_rd rfl (rd_move rfl) ?_
            refine rwt_nil ?_
            refine qn_then ?_
            refine ⟨_, (os q467), (by repeat (first | exact Sub.nil _ | refine Sub.cons rfl ?_)), (hm461.pick [1] (by decide) rfl)⟩
          · refine cw_f rfl hb463 ?_
            refine cw_skip ?_
            refine qn_then ?_
            refine cw_seq ?_
            refine cw_seq ?_
            refine cw_region ?_
            refine t_rd rfl (rd_fld tF32_3 rfl) ?_
            refine t_rd rfl (rd_ld1 tO3 rfl (hm461.blk 1 rfl) (off := 3) rfl) ?_
            refine t_rd rfl (rd_eql rfl rfl) ?_
            refine rwt_nil ?_
            refine qn_then ?_
            obtain ⟨hb468, q469⟩ | ⟨hb468, q469⟩ := oi q464 <;> clear q464
            · refine cw_t rfl hb468 ?_
              refine cw_seq ?_
              refine cw_region ?_
              refine t_rd rfl (rd_assign rfl) ?_
              refine t_rd rfl (rd_assign rfl) ?_
              refine rwt_nil ?_
              refine qn_then ?_
              refine cw_ret ?_
              refine qr_then (qr_block (qr_then (qr_then ?_)))
              obtain rfl := hr446 _ (os q469)
              refine .inl (⟨_, rfl, ⟨rfl, ?_⟩⟩)
              exact ret2 rfl rfl rfl ⟨rfl, (hm461.pick [] (by decide) rfl)⟩
            · refine cw_f rfl hb468 ?_
              refine cw_skip ?_
              refine qn_then ?_
              refine cw_seq ?_
              refine cw_region ?_
              refine t_rd rfl (rd_fld tF32_3 rfl) ?_
              refine t_rd rfl (rd_ld1 tO3 rfl (hm461.blk 1 rfl) (off := 3) rfl) ?_
              refine t_rd rfl (rd_fld tF32_2 rfl) ?_
              refine t_rd rfl (rd_ld1 tO3 rfl (hm461.blk 0 rfl) (off := 2) rfl) ?_
              obtain ⟨x470, h471, q472⟩ := ob q469; clear q469
              refine t_rd rfl (rd_sub64 h471 rfl rfl) ?_
              refine t_rd rfl (rd_assign rfl) ?_
              refine rwt_nil ?_
              refine qn_then ?_
              refine cw_seq ?_
              refine cw_seq ?_
              refine cw_region ?_
              refine t_rd rfl (rd_fld tF32_1 rfl) ?_
              refine t_rd rfl (rd_ld1 tO3 rfl (hm461.blk 1 rfl) (off := 1) rfl) ?_
              refine t_rd rfl (rd_neq rfl rfl) ?_
              refine t_rd rfl (rd_move rfl) ?_
              refine t_rdg rfl rfl rfl rfl (gv_t _) (fun hg473 => (rd_fld tF32_1 rfl)) ?_
              refine t_rdg rfl rfl rfl rfl (gv_t _) (fun hg474 => (rd_ld1 tO3 (gvx rfl hg474) (hm461.blk 0 rfl) (off := 1) rfl)) ?_
              refine t_rdg rfl rfl rfl rfl (gv_t _) (fun hg475 => (rd_neq (gvx rfl hg475) rfl)) ?_
              refine t_rd rfl (rd_and rfl (fun hc476 => (gvx rfl hc476))) ?_
              refine t_rd rfl (rd_move rfl) ?_
              refine t_rdg rfl rfl rfl rfl (gv_t _) (fun hg477 => (rd_fld tF32_1 rfl)) ?_
              refine t_rdg rfl rfl rfl rfl (gv_t _) (fun hg478 => (rd_ld1 tO3 (gvx rfl hg478) (hm461.blk 1 rfl) (off := 1) rfl)) ?_
              refine t_rdg rfl rfl rfl rfl (gv_t _) (fun hg479 => (rd_fld tF32_1 rfl)) ?_
              refine t_rdg rfl rfl rfl rfl (gv_t _) (fun hg480 => (rd_ld1 tO3 (gvx rfl hg480) (hm461.blk 0 rfl) (off := 1) rfl)) ?_
              refine t_rdg rfl rfl rfl rfl (gv_t _) (fun hg481 => (rd_neq (gvx rfl hg481) (gvx rfl hg481))) ?_
              refine t_rd rfl (rd_and rfl (fun hc482 => (gvx rfl hc482))) ?_
              refine rwt_nil ?_
              refine qn_then ?_
              obtain ⟨hb483, q484⟩ | ⟨hb483, q484⟩ := oi q472 <;> clear q472
              · refine cw_t rfl hb483 ?_
                refine cw_region ?_
                refine t_rd rfl (rd_move rfl) ?_
                refine t_rd rfl (rd_move rfl) ?_
                obtain ⟨x485, h486, q487⟩ := ob q484; clear q484
                refine t_rd rfl (rd_add64 h486 rfl rfl) ?_
                refine t_rd rfl (rd_assign rfl) ?_
                refine rwt_nil ?_
                refine qn_then ?_
                refine cw_region ?_
                refine t_rd rfl (rd_move rfl) ?_
                refine t_rd rfl (rd_move rfl) ?_
                refine t_rd rfl (rd_max rfl rfl) ?_
                refine t_rd rfl (rd_assign rfl) ?_
                refine rwt_nil ?_
                refine qn_block (qn_then ?_)
                refine cw_region ?_
                obtain ⟨x488, h489, q490⟩ := ob q487; clear q487
                refine t_rd rfl (rd_add64 h489 rfl rfl) ?_
                refine t_rd rfl (rd_move rfl) ?_
                refine rwt_nil ?_
                refine qn_then ?_
                refine ⟨_, (os q490), (by repeat (first | exact Sub.nil _ | refine Sub.cons rfl ?_)), (hm461.pick [1] (by decide) rfl)⟩
              · refine cw_f rfl hb483 ?_
                refine cw_skip ?_
                refine qn_then ?_
                refine cw_region ?_
                refine t_rd rfl (rd_move rfl) ?_
                refine t_rd rfl (rd_move rfl) ?_
                refine t_rd rfl (rd_max rfl rfl) ?_
                refine t_rd rfl (rd_assign rfl) ?_
                refine rwt_nil ?_
                refine qn_block (qn_then ?_)
                refine cw_region ?_
                obtain ⟨x491, h492, q493⟩ := ob q484; clear q484
                refine t_rd rfl (rd_add64 h492 rfl rfl) ?_
                refine t_rd rfl (rd_move rfl) ?_
                refine rwt_nil ?_
                refine qn_then ?_
                refine ⟨_, (os q493), (by repeat (first | exact Sub.nil _ | refine Sub.cons rfl ?_)), (hm461.pick [1] (by decide) rfl)⟩
        · refine cw_f rfl hb453 ?_
          refine cw_exit ?_
          refine qx_then (qx_then ?_)
          obtain rfl := hr446 _ (os q454)
          exact .inr (⟨_, rfl, ⟨rfl, (by repeat (first | exact Sub.nil _ | refine Sub.cons rfl ?_)), (hm452.pick [] (by decide) rfl)⟩⟩)
      · skip
        intro e env494 w495 hX496
        rcases hX496 with hX496 | hX496
        · obtain ⟨p498, rfl, hX496⟩ := hX496
          obtain ⟨rfl, hq500⟩ := hX496
          obtain rfl := hr337 _ (os q449)
          exact qr_block (qr_block (qr_then (qr_then (.inl (⟨_, rfl, ⟨rfl, hq500⟩⟩)))))
        · obtain ⟨p501, rfl, hX496⟩ := hX496
          obtain ⟨rfl, hs502, hm503⟩ := hX496
          refine qx_same (qn_block (qn_then ?_))
          refine cw_sub hs502 ?_
          refine cw_region ?_
          obtain ⟨x504, h505, q506⟩ := ob q449; clear q449
          refine t_rd rfl (rd_add64 h505 rfl rfl) ?_
          refine t_rd rfl (rd_move rfl) ?_
          refine rwt_nil ?_
          refine qn_then ?_
          refine ⟨_, (os q506), (by repeat (first | exact Sub.nil _ | refine Sub.cons rfl ?_)), (hm503.pick [] (by decide) rfl)⟩
    · refine cw_f rfl hb344 ?_
      refine cw_exit ?_
      refine qx_then (qx_then ?_)
      obtain rfl := hr337 _ (os q345)
      exact .inr (⟨_, rfl, ⟨rfl, (by repeat (first | exact Sub.nil _ | refine Sub.cons rfl ?_)), (hm343.pick [] (by decide) rfl)⟩⟩)
  · skip
    intro e env507 w508 hX509
    rcases hX509 with hX509 | hX509
    · obtain ⟨p511, rfl, hX509⟩ := hX509
      obtain ⟨rfl, hq513⟩ := hX509
      exact qr_block (qr_then ((by have e := os q340; subst e; exact hq513)))
    · obtain ⟨p514, rfl, hX509⟩ := hX509
      obtain ⟨rfl, hs515, hm516⟩ := hX509
      refine qx_same (qn_then ?_)
      refine cw_sub hs515 ?_
      refine cw_seq ?_
      refine cw_region ?_
      refine t_rd rfl (rd_move rfl) ?_
      refine t_rd rfl (rd_assign rfl) ?_
      refine t_rd rfl (rd_assign rfl) ?_
      refine rwt_nil ?_
      refine qn_then ?_
      refine cw_ret ?_
      obtain rfl := os q340
      exact ret2 rfl rfl rfl ⟨rfl, (hm516.pick [] (by decide) rfl)⟩

theorem separation_Gap_ok {N : Nat} {a0 : List T_Span} {a1 : List T_Span} {a2 : Int} {res : Int × Int} (h : separation_Gap N a0 a1 a2 = some res) {w : World} {v0 : Value} {v1 : Value} (hv0 : Sl (Old w No) w v0 a0) (hv1 : Sl (Old w No) w v1 a1) :
    CallsR Try.prog 12 [v0, v1, (Value.int .i64 a2)] w (fun u w' => u = (Value.tuple #[(Value.int .i64 res.1), (Value.int .i64 res.2)]) ∧ Mem w No [] w') := by
  unfold separation_Gap at h
  refine fn_ok Try.func12 rfl rfl rfl ?_
  have hm0 := Mem.nil w
  refine cw_seq ?_
  refine cw_region ?_
  refine t_rd rfl (rd_assign rfl) ?_
  refine t_rd rfl (rd_assign rfl) ?_
  refine rwt_nil ?_
  refine qn_then ?_
  refine cw_seq ?_
  refine cw_seq ?_
  refine cw_region ?_
  refine t_rd rfl (rd_move rfl) ?_
  refine t_rd rfl (rd_move rfl) ?_
  obtain ⟨zd1, ez2⟩ : ∃ z : Hdr, z.1 = v0 := ⟨⟨v0, sl_one (hv0.of_old hm0)⟩, rfl⟩
  obtain ⟨zd3, ez4⟩ : ∃ z : Hdr, z.1 = v1 := ⟨⟨v1, sl_one (hv1.of_old hm0)⟩, rfl⟩
  refine t_ef rfl (ef_bslice (l := ([zd1, zd3] : List Hdr)) hm0 tS35 rfl (cs := #[v0, v1]) (by obtain ⟨_, _, e⟩ : ∃ A c, v0 = Value.slice A (List.length a0) c := ((hv0.of_old hm0)).val; rw [e]; clear e; obtain ⟨_, _, e⟩ : ∃ A c, v1 = Value.slice A (List.length a1) c := ((hv1.of_old hm0)).val; rw [e]; clear e; unfold bsl; kernel_rfl) (by show [zd1.1, zd3.1] = [v0, v1]; rw [ez2, ez4]) rfl) ?_
  intro v5 w7 hm6
  refine t_rd rfl (rd_move rfl) ?_
  obtain ⟨r8, h9, q10⟩ := ob h; clear h
  refine t_ef rfl (ef_call tf27 rfl (separation_sound_ok h9 ((Nl.mk (hm6.sl_call 0 rfl) (Rows.cons (hv0.to_call hm6) ez2 (Rows.cons (hv1.to_call hm6) ez4 Rows.nil))).sl))) ?_
  rintro _ w12 ⟨e_, hm11⟩
  obtain rfl := e_.symm
  have hm13 := hm6.call hm11
  refine t_rd rfl (rd_not rfl) ?_
  refine rwt_nil ?_
  refine qn_then ?_
  obtain ⟨hb14, q15⟩ | ⟨hb14, q15⟩ := oi q10 <;> clear q10
  · refine cw_t rfl hb14 ?_
    refine cw_seq ?_
    refine cw_region ?_
    refine t_rd rfl (rd_assign rfl) ?_
    refine t_rd rfl (rd_assign rfl) ?_
    refine rwt_nil ?_
    refine qn_then ?_
    refine cw_ret ?_
    refine qr_then ?_
    obtain rfl := os q15
    exact ret2 rfl rfl rfl ⟨rfl, (hm13.pick [] (by decide) rfl)⟩
  · refine cw_f rfl hb14 ?_
    refine cw_skip ?_
    refine qn_then ?_
    refine cw_seq ?_
    refine cw_region ?_
    refine t_rd rfl (rd_move rfl) ?_
    refine t_rd rfl (rd_move rfl) ?_
    refine t_rd rfl (rd_move rfl) ?_
    obtain ⟨r16, h17, q18⟩ := ob q15; clear q15
    refine t_ef rfl (ef_call tf28 rfl (separation_gap_ok h17 (hv0.to_call hm13) (hv1.to_call hm13))) ?_
    rintro _ w20 ⟨e_, hm19⟩
    obtain rfl := e_.symm
    have hm21 := hm13.call hm19
    refine t_rd rfl (rd_extract rfl rfl) ?_
    refine t_rd rfl (rd_extract rfl rfl) ?_
    refine t_rd rfl (rd_assign rfl) ?_
    refine t_rd rfl (rd_assign rfl) ?_
    refine rwt_nil ?_
    refine qn_then ?_
    refine cw_ret ?_
    obtain rfl := os q18
    exact ret2 rfl rfl rfl ⟨rfl, (hm21.pick [] (by decide) rfl)⟩

theorem separation_gaps_ok {N : Nat} {a0 : List (List T_Span)} {a1 : Int} {res : List (List Int) × Int} (h : separation_gaps N a0 a1 = some res) {w : World} {v0 : Value} (hv0 : Sl (Old w No) w v0 a0) :
    CallsR Try.prog 37 [v0, (Value.int .i64 a1)] w (fun u w' => ∃ (zy0 : List Hdr) (y1 : Value), u = (Value.tuple #[y1, (Value.int .i64 res.2)]) ∧ Mem w No [ownL 22 y1 (zy0 : List Hdr), rowsC 3 zy0 (res.1 : List (List Int)) none] w') := by
  unfold separation_gaps at h
  refine fn_ok Try.func37 rfl rfl rfl ?_
  obtain ⟨zs_a0, hn0⟩ := hv0.nest
  have hm0 := Mem.nil w
  refine cw_seq ?_
  refine cw_region ?_
  refine t_rd rfl (rd_assign rfl) ?_
  refine t_rd rfl (rd_assign rfl) ?_
  refine rwt_nil ?_
  refine qn_then ?_
  refine cw_seq ?_
  refine cw_seq ?_
  refine cw_region ?_
  refine t_rd rfl (rd_move rfl) ?_
  refine t_rd rfl (rd_lenS tS35 rfl ((hn0.of_old hm0).sl)) ?_
  refine t_rd rfl (rd_gtr rfl rfl) ?_
  refine rwt_nil ?_
  refine qn_then ?_
  obtain ⟨hb1, q2⟩ | ⟨hb1, q2⟩ := oi h <;> clear h
  · refine cw_t rfl hb1 ?_
    refine cw_seq ?_
    refine cw_region ?_
    refine t_rd rfl (rd_assign rfl) ?_
    refine t_rd rfl (rd_assign rfl) ?_
    refine rwt_nil ?_
    refine qn_then ?_
    refine cw_ret ?_
    refine qr_then ?_
    obtain rfl := os q2
    have hm3 := hm0.addNil (α := Hdr) 22
    have hm4 := hm3.rowsNil (α := Int) 3
    exact ret2 rfl rfl rfl ⟨[], (Value.slice none 0 0), rfl, (hm4.pick [1, 0] (by decide) rfl)⟩
  · refine cw_f rfl hb1 ?_
    refine cw_skip ?_
    refine qn_then ?_
    refine cw_seq ?_
    refine cw_seq ?_
    refine cw_region ?_
    refine t_rd rfl (rd_move rfl) ?_
    refine t_rd rfl (rd_move rfl) ?_
    obtain ⟨r5, h6, q7⟩ := ob q2; clear q2
    refine t_ef rfl (ef_call tf27 rfl (separation_sound_ok h6 ((hn0.to_call hm0).sl))) ?_
    rintro _ w9 ⟨e_, hm8⟩
    obtain rfl := e_.symm
    have hm10 := hm0.call hm8
    refine t_rd rfl (rd_not rfl) ?_
    refine rwt_nil ?_
    refine qn_then ?_
    obtain ⟨hb11, q12⟩ | ⟨hb11, q12⟩ := oi q7 <;> clear q7
    · refine cw_t rfl hb11 ?_
      refine cw_seq ?_
      refine cw_region ?_
      refine t_rd rfl (rd_assign rfl) ?_
      refine t_rd rfl (rd_assign rfl) ?_
      refine rwt_nil ?_
      refine qn_then ?_
      refine cw_ret ?_
      refine qr_then ?_
      obtain rfl := os q12
      have hm13 := hm10.addNil (α := Hdr) 22
      have hm14 := hm13.rowsNil (α := Int) 3
      exact ret2 rfl rfl rfl ⟨[], (Value.slice none 0 0), rfl, (hm14.pick [1, 0] (by decide) rfl)⟩
    · refine cw_f rfl hb11 ?_
      refine cw_skip ?_
      refine qn_then ?_
      refine cw_seq ?_
      refine cw_region ?_
      refine t_rd rfl (rd_move rfl) ?_
      refine t_rd rfl (rd_lenS tS35 rfl ((hn0.of_old hm10).sl)) ?_
      obtain ⟨l15, h16, q17⟩ := ob q12; clear q12
      refine t_ef rfl (ef_make (z := nilH) hm10 tS54 tE22 rfl rfl rfl (mkL_h h16)) ?_
      intro v18 w20 hm19
      have hm21 := hm19.rowsRep (α := Int) 3 h16
      refine t_rd rfl (rd_assign rfl) ?_
      refine rwt_nil ?_
      refine qn_then ?_
      refine cw_seq ?_
      refine cw_seq ?_
      refine cw_region ?_
      refine t_rd rfl (rd_move rfl) ?_
      refine t_rd rfl (rd_lenS tS35 rfl ((hn0.of_old hm21).sl)) ?_
      refine t_rd rfl (rd_move rfl) ?_
      refine rwt_nil ?_
      refine qn_then ?_
      refine cw_block ?_
      obtain ⟨r469, hit470, q471⟩ := ob q17; clear q17
      refine cw_loop2 (I := fun q envq wq => ∃ (v461 : Value) (zs462 : List Hdr), Sub [(0, v0), (1, (Value.int .i64 a1)), (6, v461), (22, (Value.int .i64 (List.length a0 : Int))), (23, (Value.int .i64 q.1))] envq ∧ Mem w No [rowsC 3 zs462 (q.2 : List (List Int)) none, ownL 22 v461 (zs462 : List Hdr)] wq) (X := fun eq envq wq => (∃ p472, r469 = (Sum.inl p472) ∧ eq = .ret ∧ retQ Try.prog 62 Try.f37 (fun u w' => ∃ (zy0 : List Hdr) (y1 : Value), u = (Value.tuple #[y1, (Value.int .i64 p472.2)]) ∧ Mem w No [ownL 22 y1 (zy0 : List Hdr), rowsC 3 zy0 (p472.1 : List (List Int)) none] w') .ret envq wq) ∨ (∃ p473, r469 = (Sum.inr p473) ∧ eq = .exit 0 ∧ ∃ (v457 : Value) (zs458 : List Hdr), Sub [(6, v457)] envq ∧ Mem w No [rowsC 3 zs458 (p473 : List (List Int)) none, ownL 22 v457 (zs458 : List Hdr)] wq)) hit470 ⟨v18, (List.replicate (Int.toNat (List.length a0 : Int)) nilH), (by repeat (first | exact Sub.nil _ | refine Sub.cons rfl ?_)), (hm21.pick [0, 1] (by decide) rfl)⟩ ?_ ?_
      · rintro ⟨i459, l460⟩ x464 env465 w466 hf467 hr468 ⟨v461, zs462, hs_, hm_⟩
        have hs_ : Sub [(0, v0), (1, (Value.int .i64 a1)), (6, v461), (22, (Value.int .i64 (List.length a0 : Int))), (23, (Value.int .i64 i459))] env465 := hs_
        have hm474 : Mem w No [rowsC 3 zs462 (l460 : List (List Int)) none, ownL 22 v461 (zs462 : List Hdr)] w466 := hm_
        refine cw_sub hs_ ?_
        clear hs_ hm_ q471
        have h : separation_gaps_l3 N a0 a1 i459 l460 = some x464 := hf467
        clear hf467
        refine cw_seq ?_
        refine cw_region ?_
        refine t_rd rfl (rd_lss rfl rfl) ?_
        refine rwt_nil ?_
        refine qn_then ?_
        refine cw_seq ?_
        obtain ⟨hb475, q476⟩ | ⟨hb475, q476⟩ := oi h <;> clear h
        · refine cw_t rfl hb475 ?_
          refine cw_skip ?_
          refine qn_then ?_
          refine cw_seq ?_
          refine cw_block ?_
          refine cw_seq ?_
          refine cw_region ?_
          refine t_rd rfl (rd_move rfl) ?_
          refine t_rd rfl (rd_assign rfl) ?_
          refine rwt_nil ?_
          refine qn_then ?_
          refine cw_seq ?_
          refine cw_region ?_
          refine t_rd rfl (rd_move rfl) ?_
          refine t_rd rfl (rd_move rfl) ?_
          refine rwt_nil ?_
          refine qn_then ?_
          refine cw_block ?_
          obtain ⟨r610, hit611, q612⟩ := ob q476; clear q476
          refine cw_loop2 (I := fun q envq wq => ∃ (v602 : Value) (zs603 : List Hdr), Sub [(0, v0), (1, (Value.int .i64 a1)), (6, v602), (7, (Value.int .i64 i459)), (22, (Value.int .i64 (List.length a0 : Int))), (23, (Value.int .i64 i459)), (26, (Value.int .i64 i459)), (27, (Value.int .i64 q.1))] envq ∧ Mem w No [rowsC 3 zs603 (q.2 : List (List Int)) none, ownL 22 v602 (zs603 : List Hdr)] wq) (X := fun eq envq wq => (∃ p613, r610 = (Sum.inl p613) ∧ eq = .ret ∧ retQ Try.prog 62 Try.f37 (fun u w' => ∃ (zy0 : List Hdr) (y1 : Value), u = (Value.tuple #[y1, (Value.int .i64 p613.2)]) ∧ Mem w No [ownL 22 y1 (zy0 : List Hdr), rowsC 3 zy0 (p613.1 : List (List Int)) none] w') .ret envq wq) ∨ (∃ p614, r610 = (Sum.inr p614) ∧ eq = .exit 2 ∧ ∃ (v598 : Value) (zs599 : List Hdr), Sub [(0, v0), (1, (Value.int .i64 a1)), (6, v598), (22, (Value.int .i64 (List.length a0 : Int))), (23, (Value.int .i64 i459))] envq ∧ Mem w No [rowsC 3 zs599 (p614 : List (List Int)) none, ownL 22 v598 (zs599 : List Hdr)] wq)) hit611 ⟨v461, zs462, (by repeat (first | exact Sub.nil _ | refine Sub.cons rfl ?_)), (hm474.pick [0, 1] (by decide) rfl)⟩ ?_ ?_
          · rintro ⟨i600, l601⟩ x605 env606 w607 hf608 hr609 ⟨v602, zs603, hs_, hm_⟩
            have hs_ : Sub [(0, v0), (1, (Value.int .i64 a1)), (6, v602), (7, (Value.int .i64 i459)), (22, (Value.int .i64 (List.length a0 : Int))), (23, (Value.int .i64 i459)), (26, (Value.int .i64 i459)), (27, (Value.int .i64 i600))] env606 := hs_
            have hm615 : Mem w No [rowsC 3 zs603 (l601 : List (List Int)) none, ownL 22 v602 (zs603 : List Hdr)] w607 := hm_
            refine cw_sub hs_ ?_
            clear hs_ hm_ q612
            have h : separation_gaps_l4 N a0 a1 i459 i600 l601 = some x605 := hf608
            clear hf608
            refine cw_seq ?_
            refine cw_region ?_
            refine t_rd rfl (rd_lss rfl rfl) ?_
            refine rwt_nil ?_
            refine qn_then ?_
            refine cw_seq ?_
            obtain ⟨hb616, q617⟩ | ⟨hb616, q617⟩ := oi h <;> clear h
            · refine cw_t rfl hb616 ?_
              refine cw_skip ?_
              refine qn_then ?_
              refine cw_seq ?_
              refine cw_block ?_
              refine cw_seq ?_
              refine cw_region ?_
              refine t_rd rfl (rd_move rfl) ?_
              refine t_rd rfl (rd_assign rfl) ?_
              refine rwt_nil ?_
              refine qn_then ?_
              refine cw_seq ?_
              obtain ⟨w619, he621⟩ : ∃ q, q = w607.drew := ⟨_, rfl⟩
              have hm620 := hm615.drew; rw [← he621] at hm620
              refine cw_region_s (fun q => q = w619) (cls [] [9]) mixed ?_
              rintro _ rfl; rw [← he621]
              refine s_rp (i := 0) rfl (by kernel_rfl) rfl (fun _ => (rd_move rfl)) ?_
              refine s_rp (i := 1) rfl (by kernel_rfl) rfl (fun _ => (rd_move rfl)) ?_
              obtain ⟨x622, h623, q624⟩ := ob q617; clear q617
              refine s_rp (i := 2) rfl (by kernel_rfl) rfl (fun _ => (rd_index tS35 rfl rfl ((hn0.of_old hm620).sl) h623)) ?_
              obtain ⟨zd625, hz626⟩ := (hn0.of_old hm620).row h623
              refine s_rd (i := 3) rfl (by kernel_rfl) rfl (fun _ hS => by rw [hS]; exact (rd_ld1 tO26 rfl ((hn0.of_old hm620).cells hz626) (off := 0) rfl)) rfl ?_
              refine s_rp (i := 4) rfl (by kernel_rfl) rfl (fun _ => (rd_move rfl)) ?_
              refine s_rp (i := 5) rfl (by kernel_rfl) rfl (fun _ => (rd_move rfl)) ?_
              obtain ⟨x627, h628, q629⟩ := ob q624; clear q624
              refine s_rp (i := 6) rfl (by kernel_rfl) rfl (fun _ => (rd_index tS35 rfl rfl ((hn0.of_old hm620).sl) h628)) ?_
              obtain ⟨zd630, hz631⟩ := (hn0.of_old hm620).row h628
              refine s_rd (i := 7) rfl (by kernel_rfl) rfl (fun _ hS => by rw [hS]; exact (rd_ld1 tO26 rfl ((hn0.of_old hm620).cells hz631) (off := 0) rfl)) rfl ?_
              refine s_rp (i := 8) rfl (by kernel_rfl) rfl (fun _ => (rd_move rfl)) ?_
              obtain ⟨r632, h633, q634⟩ := ob q629; clear q629
              refine s_ef (i := 9) rfl (by kernel_rfl) rfl (ef_call tf28 rfl (separation_gap_ok h633 ((hn0.to_call hm620).get hz626 h623) ((hn0.to_call hm620).get hz631 h628))) (by decide) (fun _ _ _ q => absurd q (by decide)) ?_
              rintro _ w636 ⟨e_, hm635⟩
              obtain rfl := e_.symm
              have hm637 := hm620.call hm635
              refine s_rp (i := 10) rfl (by kernel_rfl) rfl (fun _ => (rd_move rfl)) ?_
              refine s_rp (i := 11) rfl (by kernel_rfl) rfl (fun _ => (rd_extract rfl rfl)) ?_
              refine s_rp (i := 12) rfl (by kernel_rfl) rfl (fun _ => (rd_extract rfl rfl)) ?_
              refine s_rp (i := 13) rfl (by kernel_rfl) rfl (fun _ => (rd_assign rfl)) ?_
              refine s_rp (i := 14) rfl (by kernel_rfl) rfl (fun _ => (rd_assign rfl)) ?_
              refine s_nil (by kernel_rfl) ?_
              refine qn_then ?_
              refine cw_seq ?_
              refine cw_seq ?_
              refine cw_region ?_
              refine t_rd rfl (rd_move rfl) ?_
              refine t_rd rfl (rd_neq rfl rfl) ?_
              refine rwt_nil ?_
              refine qn_then ?_
              obtain ⟨hb638, q639⟩ | ⟨hb638, q639⟩ := oi q634 <;> clear q634
              · refine cw_t rfl hb638 ?_
                refine cw_seq ?_
                refine cw_region ?_
                refine t_rd rfl (rd_move rfl) ?_
                refine t_rd rfl (rd_move rfl) ?_
                obtain ⟨l640, h641, q642⟩ := ob q639; clear q639
                refine t_rd rfl (rd_slcH tS54 rfl rfl ((Nl.mk (hm637.sl_call 1 rfl) (hm637.rows_call 0 rfl)).sl) h641) ?_
                refine t_rd rfl (rd_move rfl) ?_
                refine t_rd rfl (rd_assign rfl) ?_
                refine t_rd rfl (rd_assign rfl) ?_
                refine rwt_nil ?_
                refine qn_then ?_
                refine cw_ret ?_
                refine qr_then (qr_block (qr_then (qr_then ?_)))
                obtain rfl := hr609 _ (os q642)
                refine .inl (⟨_, rfl, ⟨rfl, ?_⟩⟩)
                have hl643 := (hm637.get (k := 0) rfl).1
                have hm644 := hm637.rowsCut h641
                have hm645 := hm644.cut (k := 1) rfl (slc_h h641 hl643)
                exact ret2 rfl rfl rfl ⟨(List.drop (Int.toNat 0) (List.take (Int.toNat i459) zs603)), (subV v602 0 i459 1), rfl, (hm645.pick [1, 0] (by decide) rfl)⟩
              · refine cw_f rfl hb638 ?_
                refine cw_skip ?_
                refine qn_then ?_
                refine cw_region ?_
                refine t_rd rfl (rd_move rfl) ?_
                refine t_rd rfl (rd_move rfl) ?_
                refine t_rd rfl (rd_move rfl) ?_
                refine t_rd rfl (rd_move rfl) ?_
                obtain ⟨x646, h647, q648⟩ := ob q639; clear q639
                refine t_rd rfl (rd_index tS54 rfl rfl ((Nl.mk (hm637.sl_call 1 rfl) (hm637.rows_call 0 rfl)).sl) h647) ?_
                obtain ⟨zd649, hz650⟩ := (Nl.mk (hm637.sl_call 1 rfl) (hm637.rows_call 0 rfl)).row h647
                refine t_rd rfl (rd_ld1 tO22 rfl ((Nl.mk (hm637.sl_call 1 rfl) (hm637.rows_call 0 rfl)).cells hz650) (off := 0) rfl) ?_
                refine t_rd rfl (rd_move rfl) ?_
                refine t_ef rfl (ef_bslice (l := ([r632.1] : List Int)) hm637 tS22 rfl (cs := #[(Value.int .i64 r632.1)]) (by unfold bsl; kernel_rfl) rfl rfl) ?_
                intro v651 w653 hm652
                have hm654 := hm652.pick [1, 0, 2] (L' := [rowsC 3 zs603 (l601 : List (List Int)) none, ownL 3 v651 ([r632.1] : List Int), ownL 22 v602 (zs603 : List Hdr)]) (by decide) rfl
                have hm655 := hm654.focus hz650 h647
                obtain ⟨l656, h657, q658⟩ := ob q648; clear q648
                refine t_ef rfl (ef_append (k := 1) hm655 tS22 tE3 rfl rfl rfl rfl (hm655.sl 2 rfl) h657) ?_
                intro v659 w661 hm660
                obtain ⟨x662, h663, q664⟩ := ob q658; clear q658
                obtain ⟨zd665, hz666⟩ := rowI (hm660.get (k := 0) rfl).1 h663
                refine t_rd rfl (rd_index (α := Hdr) tS54 rfl rfl (hm660.sl 3 rfl) hz666) ?_
                obtain ⟨zd667, ez668⟩ : ∃ z : Hdr, z.1 = v659 := ⟨⟨v659, sl_one (hm660.sl 1 rfl)⟩, rfl⟩
                obtain ⟨zd669, hz670⟩ := rowI (hm660.get (k := 0) rfl).1 h663
                refine t_ef0 (ef_stl (k := 3) (off := 0) (x' := zd667) hm660 tO22 rfl rfl (sl_one (hm660.sl 1 rfl)) rfl hz670 (by show [v659] = [zd667.1]; rw [ez668]) rfl) ?_
                intro _ w672 hm671
                have hm673 := hm671.fill ez668
                refine rwt_nil ?_
                refine qn_block (qn_then ?_)
                refine cw_region ?_
                obtain ⟨x674, h675, q676⟩ := ob q664; clear q664
                refine t_rd rfl (rd_add64 h675 rfl rfl) ?_
                refine t_rd rfl (rd_move rfl) ?_
                refine rwt_nil ?_
                refine qn_then ?_
                refine ⟨_, (os q676), v602, (List.set zs603 (Int.toNat i459) zd667), (by repeat (first | exact Sub.nil _ | refine Sub.cons rfl ?_)), (hm673.pick [0, 2] (by decide) rfl)⟩
            · refine cw_f rfl hb616 ?_
              refine cw_exit ?_
              refine qx_then (qx_then ?_)
              obtain rfl := hr609 _ (os q617)
              exact .inr (⟨_, rfl, ⟨rfl, v602, zs603, (by repeat (first | exact Sub.nil _ | refine Sub.cons rfl ?_)), (hm615.pick [0, 1] (by decide) rfl)⟩⟩)
          · skip
            intro e env677 w678 hX679
            rcases hX679 with hX679 | hX679
            · obtain ⟨p681, rfl, hX679⟩ := hX679
              obtain ⟨rfl, hq683⟩ := hX679
              obtain rfl := hr468 _ (os q612)
              exact qr_block (qr_block (qr_then (qr_then (.inl (⟨_, rfl, ⟨rfl, hq683⟩⟩)))))
            · obtain ⟨p684, rfl, hX679⟩ := hX679
              obtain ⟨rfl, v598, zs599, hs685, hm686⟩ := hX679
              refine qx_same (qn_block (qn_then ?_))
              refine cw_sub hs685 ?_
              refine cw_region ?_
              obtain ⟨x687, h688, q689⟩ := ob q612; clear q612
              refine t_rd rfl (rd_add64 h688 rfl rfl) ?_
              refine t_rd rfl (rd_move rfl) ?_
              refine rwt_nil ?_
              refine qn_then ?_
              refine ⟨_, (os q689), v598, zs599, (by repeat (first | exact Sub.nil _ | refine Sub.cons rfl ?_)), (hm686.pick [0, 1] (by decide) rfl)⟩
        · refine cw_f rfl hb475 ?_
          refine cw_exit ?_
          refine qx_then (qx_then ?_)
          obtain rfl := hr468 _ (os q476)
          exact .inr (⟨_, rfl, ⟨rfl, v461, zs462, (by repeat (first | exact Sub.nil _ | refine Sub.cons rfl ?_)), (hm474.pick [0, 1] (by decide) rfl)⟩⟩)
      · skip
        intro e env690 w691 hX692
        rcases hX692 with hX692 | hX692
        · obtain ⟨p694, rfl, hX692⟩ := hX692
          obtain ⟨rfl, hq696⟩ := hX692
          exact qr_block (qr_then ((by have e := os q471; subst e; exact hq696)))
        · obtain ⟨p697, rfl, hX692⟩ := hX692
          obtain ⟨rfl, v457, zs458, hs698, hm699⟩ := hX692
          refine qx_same (qn_then ?_)
          refine cw_sub hs698 ?_
          refine cw_seq ?_
          refine cw_region ?_
          refine t_rd rfl (rd_move rfl) ?_
          refine t_rd rfl (rd_assign rfl) ?_
          refine t_rd rfl (rd_assign rfl) ?_
          refine rwt_nil ?_
          refine qn_then ?_
          refine cw_ret ?_
          obtain rfl := os q471
          exact ret2 rfl rfl rfl ⟨zs458, v457, rfl, (hm699.pick [1, 0] (by decide) rfl)⟩

theorem separation_times_ok {N : Nat} {a0 : List (List Int)} {res : List Int × Int} (h : separation_times N a0 = some res) {w : World} {v0 : Value} (hv0 : Sl (Old w No) w v0 a0) :
    CallsR Try.prog 39 [v0] w (fun u w' => ∃ (y0 : Value), u = (Value.tuple #[y0, (Value.int .i64 res.2)]) ∧ Mem w No [ownL 3 y0 (res.1 : List Int)] w') := by
  unfold separation_times at h
  refine fn_ok Try.func39 rfl rfl rfl ?_
  obtain ⟨zs_a0, hn0⟩ := hv0.nest
  have hm0 := Mem.nil w
  refine cw_seq ?_
  refine cw_region ?_
  refine t_rd rfl (rd_assign rfl) ?_
  refine t_rd rfl (rd_assign rfl) ?_
  refine rwt_nil ?_
  refine qn_then ?_
  refine cw_seq ?_
  refine cw_region ?_
  refine t_rd rfl (rd_assign rfl) ?_
  refine rwt_nil ?_
  refine qn_then ?_
  refine cw_seq ?_
  refine cw_seq ?_
  refine cw_region ?_
  refine t_rd rfl (rd_move rfl) ?_
  refine t_rd rfl (rd_lenS tS54 rfl ((hn0.of_old hm0).sl)) ?_
  refine t_rd rfl (rd_move rfl) ?_
  refine rwt_nil ?_
  refine qn_then ?_
  refine cw_block ?_
  have hm85 := hm0.addNil (α := Int) 3
  obtain ⟨r267, hit268, q269⟩ := ob h; clear h
  refine cw_loop2 (I := fun q envq wq => ∃ (v260 : Value), Sub [(0, v0), (4, v260), (10, (Value.int .i64 (List.length a0 : Int))), (11, (Value.int .i64 q.1))] envq ∧ Mem w No [ownL 3 v260 (q.2 : List Int)] wq) (X := fun eq envq wq => (∃ p270, r267 = (Sum.inl p270) ∧ eq = .ret ∧ retQ Try.prog 41 Try.f39 (fun u w' => ∃ (y0 : Value), u = (Value.tuple #[y0, (Value.int .i64 p270.2)]) ∧ Mem w No [ownL 3 y0 (p270.1 : List Int)] w') .ret envq wq) ∨ (∃ p271, r267 = (Sum.inr p271) ∧ eq = .exit 0 ∧ ∃ (v257 : Value), Sub [(4, v257)] envq ∧ Mem w No [ownL 3 v257 (p271 : List Int)] wq)) hit268 ⟨(Value.slice none 0 0), (by repeat (first | exact Sub.nil _ | refine Sub.cons rfl ?_)), (hm85.pick [0] (by decide) rfl)⟩ ?_ ?_
  · rintro ⟨i258, l259⟩ x262 env263 w264 hf265 hr266 ⟨v260, hs_, hm_⟩
    have hs_ : Sub [(0, v0), (4, v260), (10, (Value.int .i64 (List.length a0 : Int))), (11, (Value.int .i64 i258))] env263 := hs_
    have hm272 : Mem w No [ownL 3 v260 (l259 : List Int)] w264 := hm_
    refine cw_sub hs_ ?_
    clear hs_ hm_ q269
    have h : separation_times_l4 N a0 i258 l259 = some x262 := hf265
    clear hf265
    refine cw_seq ?_
    refine cw_region ?_
    refine t_rd rfl (rd_lss rfl rfl) ?_
    refine rwt_nil ?_
    refine qn_then ?_
    refine cw_seq ?_
    obtain ⟨hb273, q274⟩ | ⟨hb273, q274⟩ := oi h <;> clear h
    · refine cw_t rfl hb273 ?_
      refine cw_skip ?_
      refine qn_then ?_
      refine cw_seq ?_
      refine cw_block ?_
      refine cw_seq ?_
      refine cw_region ?_
      refine t_rd rfl (rd_move rfl) ?_
      refine t_rd rfl (rd_assign rfl) ?_
      refine rwt_nil ?_
      refine qn_then ?_
      refine cw_seq ?_
      refine cw_region ?_
      refine t_rd rfl (rd_assign rfl) ?_
      refine rwt_nil ?_
      refine qn_then ?_
      refine cw_seq ?_
      refine cw_seq ?_
      refine cw_region ?_
      refine t_rd rfl (rd_move rfl) ?_
      refine t_rd rfl (rd_move rfl) ?_
      obtain ⟨x275, h276, q277⟩ := ob q274; clear q274
      refine t_rd rfl (rd_index tS54 rfl rfl ((hn0.of_old hm272).sl) h276) ?_
      obtain ⟨zd278, hz279⟩ := (hn0.of_old hm272).row h276
      refine t_rd rfl (rd_ld1 tO22 rfl ((hn0.of_old hm272).cells hz279) (off := 0) rfl) ?_
      refine t_rd rfl (rd_lenS tS22 rfl ((hn0.of_old hm272).get hz279 h276)) ?_
      refine t_rd rfl (rd_move rfl) ?_
      refine rwt_nil ?_
      refine qn_then ?_
      refine cw_block ?_
      obtain ⟨r319, hit320, q321⟩ := ob q277; clear q277
      refine cw_loop2 (I := fun q envq wq => Sub [(0, v0), (4, v260), (6, (Value.int .i64 q.1)), (10, (Value.int .i64 (List.length a0 : Int))), (11, (Value.int .i64 i258)), (17, zd278.1), (18, (Value.int .i64 (List.length x275 : Int))), (19, (Value.int .i64 q.2))] envq ∧ Mem w No [ownL 3 v260 (l259 : List Int)] wq) (X := fun eq envq wq => eq = .exit 2 ∧ Sub [(0, v0), (4, v260), (6, (Value.int .i64 r319)), (10, (Value.int .i64 (List.length a0 : Int))), (11, (Value.int .i64 i258))] envq ∧ Mem w No [ownL 3 v260 (l259 : List Int)] wq) hit320 ⟨(by repeat (first | exact Sub.nil _ | refine Sub.cons rfl ?_)), (hm272.pick [0] (by decide) rfl)⟩ ?_ ?_
      · rintro ⟨i311, i312⟩ x314 env315 w316 hf317 hr318 ⟨hs_, hm_⟩
        have hs_ : Sub [(0, v0), (4, v260), (6, (Value.int .i64 i311)), (10, (Value.int .i64 (List.length a0 : Int))), (11, (Value.int .i64 i258)), (17, zd278.1), (18, (Value.int .i64 (List.length x275 : Int))), (19, (Value.int .i64 i312))] env315 := hs_
        have hm322 : Mem w No [ownL 3 v260 (l259 : List Int)] w316 := hm_
        refine cw_sub hs_ ?_
        clear hs_ hm_ q321
        have h : separation_times_l5 N l259 x275 i311 i312 = some x314 := hf317
        clear hf317
        refine cw_seq ?_
        refine cw_region ?_
        refine t_rd rfl (rd_lss rfl rfl) ?_
        refine rwt_nil ?_
        refine qn_then ?_
        refine cw_seq ?_
        obtain ⟨hb323, q324⟩ | ⟨hb323, q324⟩ := oi h <;> clear h
        · refine cw_t rfl hb323 ?_
          refine cw_skip ?_
          refine qn_then ?_
          refine cw_seq ?_
          refine cw_block ?_
          refine cw_seq ?_
          refine cw_region ?_
          refine t_rd rfl (rd_move rfl) ?_
          obtain ⟨x325, h326, q327⟩ := ob q324; clear q324
          refine t_rd rfl (rd_index tS22 rfl rfl ((hn0.of_old hm322).get hz279 h276) h326) ?_
          refine t_rd rfl (rd_ld1 tO3 rfl (((hn0.of_old hm322).get hz279 h276).cells h326) (off := 0) rfl) ?_
          refine t_rd rfl (rd_assign rfl) ?_
          refine t_rd rfl (rd_assign rfl) ?_
          refine rwt_nil ?_
          refine qn_then ?_
          refine cw_region ?_
          refine t_rd rfl (rd_move rfl) ?_
          refine t_rd rfl (rd_move rfl) ?_
          refine t_rd rfl (rd_move rfl) ?_
          obtain ⟨x328, h329, q330⟩ := ob q327; clear q327
          refine t_rd rfl (rd_index tS22 rfl rfl (hm322.sl 0 rfl) h329) ?_
          refine t_rd rfl (rd_ld1 tO3 rfl ((hm322.sl 0 rfl).cells h329) (off := 0) rfl) ?_
          refine t_rd rfl (rd_move rfl) ?_
          obtain ⟨x331, h332, q333⟩ := ob q330; clear q330
          refine t_rd rfl (rd_add64 h332 rfl rfl) ?_
          refine t_rd rfl (rd_max rfl rfl) ?_
          refine t_rd rfl (rd_assign rfl) ?_
          refine rwt_nil ?_
          refine qn_block (qn_then ?_)
          refine cw_region ?_
          obtain ⟨x334, h335, q336⟩ := ob q333; clear q333
          refine t_rd rfl (rd_add64 h335 rfl rfl) ?_
          refine t_rd rfl (rd_move rfl) ?_
          refine rwt_nil ?_
          refine qn_then ?_
          refine ⟨_, (os q336), (by repeat (first | exact Sub.nil _ | refine Sub.cons rfl ?_)), (hm322.pick [0] (by decide) rfl)⟩
        · refine cw_f rfl hb323 ?_
          refine cw_exit ?_
          refine qx_then (qx_then ?_)
          obtain rfl := hr318 _ (os q324)
          exact ⟨rfl, (by repeat (first | exact Sub.nil _ | refine Sub.cons rfl ?_)), (hm322.pick [0] (by decide) rfl)⟩
      · skip
        intro e env337 w338 hX339
        obtain ⟨rfl, hs340, hm341⟩ := hX339
        refine qx_same (qn_then ?_)
        refine cw_sub hs340 ?_
        refine cw_seq ?_
        refine cw_seq ?_
        refine cw_region ?_
        refine t_rd rfl (rd_move rfl) ?_
        refine t_rd rfl (rd_gtr rfl rfl) ?_
        refine rwt_nil ?_
        refine qn_then ?_
        obtain ⟨hb342, q343⟩ | ⟨hb342, q343⟩ := oi q321 <;> clear q321
        · refine cw_t rfl hb342 ?_
          refine cw_seq ?_
          refine cw_region ?_
          refine t_rd rfl (rd_assign rfl) ?_
          refine t_rd rfl (rd_assign rfl) ?_
          refine rwt_nil ?_
          refine qn_then ?_
          refine cw_ret ?_
          refine qr_then (qr_block (qr_then (qr_then ?_)))
          obtain rfl := hr266 _ (os q343)
          refine .inl (⟨_, rfl, ⟨rfl, ?_⟩⟩)
          have hm344 := hm341.addNil (α := Int) 3
          exact ret2 rfl rfl rfl ⟨(Value.slice none 0 0), rfl, (hm344.pick [0] (by decide) rfl)⟩
        · refine cw_f rfl hb342 ?_
          refine cw_skip ?_
          refine qn_then ?_
          refine cw_region ?_
          refine t_rd rfl (rd_move rfl) ?_
          refine t_rd rfl (rd_move rfl) ?_
          refine t_ef rfl (ef_bslice (l := ([r319] : List Int)) hm341 tS22 rfl (cs := #[(Value.int .i64 r319)]) (by unfold bsl; kernel_rfl) rfl rfl) ?_
          intro v345 w347 hm346
          obtain ⟨l348, h349, q350⟩ := ob q343; clear q343
          refine t_ef rfl (ef_append (k := 1) hm346 tS22 tE3 rfl rfl rfl rfl (hm346.sl 0 rfl) h349) ?_
          intro v351 w353 hm352
          refine t_rd rfl (rd_assign rfl) ?_
          refine rwt_nil ?_
          refine qn_block (qn_then ?_)
          refine cw_region ?_
          obtain ⟨x354, h355, q356⟩ := ob q350; clear q350
          refine t_rd rfl (rd_add64 h355 rfl rfl) ?_
          refine t_rd rfl (rd_move rfl) ?_
          refine rwt_nil ?_
          refine qn_then ?_
          refine ⟨_, (os q356), v351, (by repeat (first | exact Sub.nil _ | refine Sub.cons rfl ?_)), (hm352.pick [1] (by decide) rfl)⟩
    · refine cw_f rfl hb273 ?_
      refine cw_exit ?_
      refine qx_then (qx_then ?_)
      obtain rfl := hr266 _ (os q274)
      exact .inr (⟨_, rfl, ⟨rfl, v260, (by repeat (first | exact Sub.nil _ | refine Sub.cons rfl ?_)), (hm272.pick [0] (by decide) rfl)⟩⟩)
  · skip
    intro e env357 w358 hX359
    rcases hX359 with hX359 | hX359
    · obtain ⟨p361, rfl, hX359⟩ := hX359
      obtain ⟨rfl, hq363⟩ := hX359
      exact qr_block (qr_then ((by have e := os q269; subst e; exact hq363)))
    · obtain ⟨p364, rfl, hX359⟩ := hX359
      obtain ⟨rfl, v257, hs365, hm366⟩ := hX359
      refine qx_same (qn_then ?_)
      refine cw_sub hs365 ?_
      refine cw_seq ?_
      refine cw_region ?_
      refine t_rd rfl (rd_move rfl) ?_
      refine t_rd rfl (rd_assign rfl) ?_
      refine t_rd rfl (rd_assign rfl) ?_
      refine rwt_nil ?_
      refine qn_then ?_
      refine cw_ret ?_
      obtain rfl := os q269
      exact ret2 rfl rfl rfl ⟨v257, rfl, (hm366.pick [0] (by decide) rfl)⟩

theorem separation_released_ok {N : Nat} {a0 : List (List T_Span)} {a1 : Int} {res : List (List Int) × List Int × Int} (h : separation_released N a0 a1 = some res) {w : World} {v0 : Value} (hv0 : Sl (Old w No) w v0 a0) :
    CallsR Try.prog 30 [v0, (Value.int .i64 a1)] w (fun u w' => ∃ (zy0 : List Hdr) (y1 : Value) (y2 : Value), u = (Value.tuple #[y1, y2, (Value.int .i64 res.2.2)]) ∧ Mem w No [ownL 22 y1 (zy0 : List Hdr), rowsC 3 zy0 (res.1 : List (List Int)) none, ownL 3 y2 (res.2.1 : List Int)] w') := by
  unfold separation_released at h
  refine fn_ok Try.func30 rfl rfl rfl ?_
  obtain ⟨zs_a0, hn0⟩ := hv0.nest
  have hm0 := Mem.nil w
  refine cw_seq ?_
  refine cw_region ?_
  refine t_rd rfl (rd_assign rfl) ?_
  refine t_rd rfl (rd_assign rfl) ?_
  refine t_rd rfl (rd_assign rfl) ?_
  refine rwt_nil ?_
  refine qn_then ?_
  refine cw_seq ?_
  refine cw_region ?_
  refine t_rd rfl (rd_move rfl) ?_
  refine t_rd rfl (rd_move rfl) ?_
  obtain ⟨r1, h2, q3⟩ := ob h; clear h
  refine t_ef rfl (ef_call tf37 rfl (separation_gaps_ok h2 ((hn0.to_call hm0).sl))) ?_
  rintro _ w7 ⟨zs5, v4, e_, hm6⟩
  obtain rfl := e_.symm
  have hm8 := hm0.call hm6
  refine t_rd rfl (rd_move rfl) ?_
  refine t_rd rfl (rd_extract rfl rfl) ?_
  refine t_rd rfl (rd_extract rfl rfl) ?_
  refine t_rd rfl (rd_assign rfl) ?_
  refine t_rd rfl (rd_assign rfl) ?_
  refine rwt_nil ?_
  refine qn_then ?_
  refine cw_seq ?_
  refine cw_region ?_
  refine t_rd rfl (rd_move rfl) ?_
  obtain ⟨r9, h10, q11⟩ := ob q3; clear q3
  refine t_ef rfl (ef_call tf39 rfl (separation_times_ok h10 ((Nl.mk (hm8.sl_call 0 rfl) (hm8.rows_call 1 rfl)).sl))) ?_
  rintro _ w14 ⟨v12, e_, hm13⟩
  obtain rfl := e_.symm
  have hm15 := hm8.call hm13
  refine t_rd rfl (rd_move rfl) ?_
  refine t_rd rfl (rd_extract rfl rfl) ?_
  refine t_rd rfl (rd_extract rfl rfl) ?_
  refine t_rd rfl (rd_assign rfl) ?_
  refine t_rd rfl (rd_assign rfl) ?_
  refine rwt_nil ?_
  refine qn_then ?_
  refine cw_seq ?_
  refine cw_seq ?_
  refine cw_region ?_
  refine t_rd rfl (rd_move rfl) ?_
  refine t_rd rfl (rd_neq rfl rfl) ?_
  refine rwt_nil ?_
  refine qn_then ?_
  obtain ⟨j19, hit20, q21⟩ := ob q11; clear q11
  refine cw_join (X := fun eq envq wq => eq = .normal ∧ Sub [(7, v4), (8, (Value.int .i64 j19)), (9, v12)] envq ∧ Mem w No [ownL 3 v12 (r9.1 : List Int), ownL 22 v4 (zs5 : List Hdr), rowsC 3 zs5 (r1.1 : List (List Int)) none] wq) ?_ ?_
  · clear q21
    obtain ⟨hb22, q23⟩ | ⟨hb22, q23⟩ := oi hit20 <;> clear hit20
    · refine cw_t rfl hb22 ?_
      refine cw_region ?_
      refine t_rd rfl (rd_move rfl) ?_
      refine t_rd rfl (rd_assign rfl) ?_
      refine rwt_nil ?_
      obtain rfl := os q23
      exact ⟨rfl, (by repeat (first | exact Sub.nil _ | refine Sub.cons rfl ?_)), (hm15.pick [0, 1, 2] (by decide) rfl)⟩
    · refine cw_f rfl hb22 ?_
      refine cw_skip ?_
      obtain rfl := os q23
      exact ⟨rfl, (by repeat (first | exact Sub.nil _ | refine Sub.cons rfl ?_)), (hm15.pick [0, 1, 2] (by decide) rfl)⟩
  · clear hit20
    intro e env24 w25 hX26
    obtain ⟨rfl, hs27, hm28⟩ := hX26
    refine qn_then ?_
    refine cw_sub hs27 ?_
    refine cw_seq ?_
    refine cw_seq ?_
    refine cw_region ?_
    refine t_rd rfl (rd_move rfl) ?_
    refine t_rd rfl (rd_neq rfl rfl) ?_
    refine rwt_nil ?_
    refine qn_then ?_
    obtain ⟨hb29, q30⟩ | ⟨hb29, q30⟩ := oi q21 <;> clear q21
    · refine cw_t rfl hb29 ?_
      refine cw_seq ?_
      refine cw_region ?_
      refine t_rd rfl (rd_move rfl) ?_
      refine t_rd rfl (rd_assign rfl) ?_
      refine t_rd rfl (rd_assign rfl) ?_
      refine t_rd rfl (rd_assign rfl) ?_
      refine rwt_nil ?_
      refine qn_then ?_
      refine cw_ret ?_
      refine qr_then ?_
      obtain rfl := os q30
      have hm31 := hm28.addNil (α := Hdr) 22
      have hm32 := hm31.rowsNil (α := Int) 3
      have hm33 := hm32.addNil (α := Int) 3
      exact ret3 rfl rfl rfl rfl ⟨[], (Value.slice none 0 0), (Value.slice none 0 0), rfl, (hm33.pick [2, 1, 0] (by decide) rfl)⟩
    · refine cw_f rfl hb29 ?_
      refine cw_skip ?_
      refine qn_then ?_
      refine cw_seq ?_
      refine cw_region ?_
      refine t_rd rfl (rd_move rfl) ?_
      refine t_rd rfl (rd_move rfl) ?_
      refine t_rd rfl (rd_assign rfl) ?_
      refine t_rd rfl (rd_assign rfl) ?_
      refine t_rd rfl (rd_assign rfl) ?_
      refine rwt_nil ?_
      refine qn_then ?_
      refine cw_ret ?_
      obtain rfl := os q30
      exact ret3 rfl rfl rfl rfl ⟨zs5, v4, v12, rfl, (hm28.pick [1, 2, 0] (by decide) rfl)⟩

theorem separation_Releases_ok {N : Nat} {a0 : List (List T_Span)} {a1 : Int} {res : List Int × Int} (h : separation_Releases N a0 a1 = some res) {w : World} {v0 : Value} (hv0 : Sl (Old w No) w v0 a0) :
    CallsR Try.prog 17 [v0, (Value.int .i64 a1)] w (fun u w' => ∃ (y0 : Value), u = (Value.tuple #[y0, (Value.int .i64 res.2)]) ∧ Mem w No [ownL 3 y0 (res.1 : List Int)] w') := by
  unfold separation_Releases at h
  refine fn_ok Try.func17 rfl rfl rfl ?_
  obtain ⟨zs_a0, hn0⟩ := hv0.nest
  have hm0 := Mem.nil w
  refine cw_seq ?_
  refine cw_region ?_
  refine t_rd rfl (rd_assign rfl) ?_
  refine t_rd rfl (rd_assign rfl) ?_
  refine rwt_nil ?_
  refine qn_then ?_
  refine cw_seq ?_
  refine cw_region ?_
  refine t_rd rfl (rd_move rfl) ?_
  refine t_rd rfl (rd_move rfl) ?_
  obtain ⟨r1, h2, q3⟩ := ob h; clear h
  refine t_ef rfl (ef_call tf30 rfl (separation_released_ok h2 ((hn0.to_call hm0).sl))) ?_
  rintro _ w8 ⟨zs5, v4, v6, e_, hm7⟩
  obtain rfl := e_.symm
  have hm9 := hm0.call hm7
  refine t_rd rfl (rd_move rfl) ?_
  refine t_rd rfl (rd_extract rfl rfl) ?_
  refine t_rd rfl (rd_extract rfl rfl) ?_
  refine t_rd rfl (rd_extract rfl rfl) ?_
  refine t_rd rfl (rd_assign rfl) ?_
  refine t_rd rfl (rd_assign rfl) ?_
  refine t_rd rfl (rd_assign rfl) ?_
  refine rwt_nil ?_
  refine qn_then ?_
  refine cw_seq ?_
  refine cw_region ?_
  refine t_rd rfl (rd_move rfl) ?_
  refine t_rd rfl (rd_move rfl) ?_
  refine t_rd rfl (rd_assign rfl) ?_
  refine t_rd rfl (rd_assign rfl) ?_
  refine rwt_nil ?_
  refine qn_then ?_
  refine cw_ret ?_
  obtain rfl := os q3
  exact ret2 rfl rfl rfl ⟨v6, rfl, (hm9.pick [2] (by decide) rfl)⟩

theorem g_slices_Reverse_int_int_ok {N : Nat} {a0 : List Int} {res : List Int} (h : g_slices_Reverse_int_int N a0 = some res) {w : World} {v0 : Value} (hk0 : (ownL 3 v0 (a0 : List Int)).φ w) :
    CallsR Try.prog 31 [v0] w (fun u w' => u = (Value.tuple #[]) ∧ Mem w (ownL 3 v0 (a0 : List Int)).D [ownL 3 v0 (res : List Int)] w') := by
  unfold g_slices_Reverse_int_int at h
  refine fn_ok Try.func31 rfl rfl rfl ?_
  have hm0 := Mem.one hk0
  refine cw_seq ?_
  refine cw_region ?_
  refine t_rd rfl (rd_move rfl) ?_
  refine t_rd rfl (rd_lenS tS22 rfl (hm0.sl 0 rfl)) ?_
  obtain ⟨x1, h2, q3⟩ := ob h; clear h
  refine t_rd rfl (rd_sub64 h2 rfl rfl) ?_
  refine t_rd rfl (rd_assign rfl) ?_
  refine t_rd rfl (rd_assign rfl) ?_
  refine rwt_nil ?_
  refine qn_then ?_
  refine cw_block ?_
  obtain ⟨r73, hit74, q75⟩ := ob q3; clear q3
  refine cw_loop2 (I := fun q envq wq => Sub [(0, v0), (2, (Value.int .i64 q.1)), (3, (Value.int .i64 q.2.1))] envq ∧ Mem w (ownL 3 v0 (a0 : List Int)).D [ownL 3 v0 (q.2.2 : List Int)] wq) (X := fun eq envq wq => eq = .exit 0 ∧ Sub [] envq ∧ Mem w (ownL 3 v0 (a0 : List Int)).D [ownL 3 v0 (r73 : List Int)] wq) hit74 ⟨(by repeat (first | exact Sub.nil _ | refine Sub.cons rfl ?_)), (hm0.pick [0] (by decide) rfl)⟩ ?_ ?_
  · rintro ⟨i64, i65, l66⟩ x68 env69 w70 hf71 hr72 ⟨hs_, hm_⟩
    have hs_ : Sub [(0, v0), (2, (Value.int .i64 i64)), (3, (Value.int .i64 i65))] env69 := hs_
    have hm76 : Mem w (ownL 3 v0 (a0 : List Int)).D [ownL 3 v0 (l66 : List Int)] w70 := hm_
    refine cw_sub hs_ ?_
    clear hs_ hm_ q75
    have h : g_slices_Reverse_int_int_l1 N i64 i65 l66 = some x68 := hf71
    clear hf71
    refine cw_seq ?_
    refine cw_seq ?_
    refine cw_region ?_
    refine t_rd rfl (rd_move rfl) ?_
    refine t_rd rfl (rd_move rfl) ?_
    refine t_rd rfl (rd_lss rfl rfl) ?_
    refine rwt_nil ?_
    refine qn_then ?_
    obtain ⟨hb77, q78⟩ | ⟨hb77, q78⟩ := oi h <;> clear h
    · refine cw_t rfl hb77 ?_
      refine cw_skip ?_
      refine qn_then ?_
      refine cw_seq ?_
      refine cw_block ?_
      obtain ⟨w80, he82⟩ : ∃ q, q = w70.drew := ⟨_, rfl⟩
      have hm81 := hm76.drew; rw [← he82] at hm81
      refine cw_region_s (fun q => q = w80) (cls [] [13, 15]) mixed ?_
      rintro _ rfl; rw [← he82]
      refine s_rp (i := 0) rfl (by kernel_rfl) rfl (fun _ => (rd_move rfl)) ?_
      refine s_rp (i := 1) rfl (by kernel_rfl) rfl (fun _ => (rd_move rfl)) ?_
      refine s_rp (i := 2) rfl (by kernel_rfl) rfl (fun _ => (rd_move rfl)) ?_
      refine s_rp (i := 3) rfl (by kernel_rfl) rfl (fun _ => (rd_move rfl)) ?_
      refine s_rp (i := 4) rfl (by kernel_rfl) rfl (fun _ => (rd_move rfl)) ?_
      refine s_rp (i := 5) rfl (by kernel_rfl) rfl (fun _ => (rd_move rfl)) ?_
      obtain ⟨x83, h84, q85⟩ := ob q78; clear q78
      refine s_rp (i := 6) rfl (by kernel_rfl) rfl (fun _ => (rd_index tS22 rfl rfl (hm81.sl 0 rfl) h84)) ?_
      refine s_rd (i := 7) rfl (by kernel_rfl) rfl (fun _ hS => by rw [hS]; exact (rd_ld1 tO3 rfl ((hm81.sl 0 rfl).cells h84) (off := 0) rfl)) rfl ?_
      refine s_rp (i := 8) rfl (by kernel_rfl) rfl (fun _ => (rd_move rfl)) ?_
      refine s_rp (i := 9) rfl (by kernel_rfl) rfl (fun _ => (rd_move rfl)) ?_
      obtain ⟨x86, h87, q88⟩ := ob q85; clear q85
      refine s_rp (i := 10) rfl (by kernel_rfl) rfl (fun _ => (rd_index tS22 rfl rfl (hm81.sl 0 rfl) h87)) ?_
      refine s_rd (i := 11) rfl (by kernel_rfl) rfl (fun _ hS => by rw [hS]; exact (rd_ld1 tO3 rfl ((hm81.sl 0 rfl).cells h87) (off := 0) rfl)) rfl ?_
      obtain ⟨x89, h90, q91⟩ := ob q88; clear q88
      refine s_rp (i := 12) rfl (by kernel_rfl) rfl (fun _ => (rd_index tS22 rfl rfl (hm81.sl 0 rfl) h90)) ?_
      refine s_ef0 (i := 13) rfl (by kernel_rfl) (ef_stl (k := 0) (off := 0) (x' := x83) hm81 tO3 rfl rfl rfl rfl h90 rfl rfl) (by decide) (fun _ _ _ q => absurd q (by decide)) ?_
      intro _ w93 hm92
      obtain ⟨x94, h95, q96⟩ := ob q91; clear q91
      refine s_rp (i := 14) rfl (by kernel_rfl) rfl (fun _ => (rd_index tS22 rfl rfl (hm92.sl 0 rfl) h95)) ?_
      refine s_ef0 (i := 15) rfl (by kernel_rfl) (ef_stl (k := 0) (off := 0) (x' := x86) hm92 tO3 rfl rfl rfl rfl h95 rfl rfl) (by decide) (fun _ _ _ q => absurd q (by decide)) ?_
      intro _ w98 hm97
      refine s_nil (by kernel_rfl) ?_
      refine qn_block (qn_then ?_)
      refine cw_region ?_
      refine t_rd rfl (rd_move rfl) ?_
      obtain ⟨x99, h100, q101⟩ := ob q96; clear q96
      refine t_rd rfl (rd_add64 h100 rfl rfl) ?_
      refine t_rd rfl (rd_move rfl) ?_
      obtain ⟨x102, h103, q104⟩ := ob q101; clear q101
      refine t_rd rfl (rd_sub64 h103 rfl rfl) ?_
      refine t_rd rfl (rd_assign rfl) ?_
      refine t_rd rfl (rd_assign rfl) ?_
      refine rwt_nil ?_
      refine qn_then ?_
      refine ⟨_, (os q104), (by repeat (first | exact Sub.nil _ | refine Sub.cons rfl ?_)), (hm97.pick [0] (by decide) rfl)⟩
    · refine cw_f rfl hb77 ?_
      refine cw_exit ?_
      refine qx_then (qx_then ?_)
      obtain rfl := hr72 _ (os q78)
      exact ⟨rfl, (by repeat (first | exact Sub.nil _ | refine Sub.cons rfl ?_)), (hm76.pick [0] (by decide) rfl)⟩
  · skip
    intro e env105 w106 hX107
    obtain ⟨rfl, hs108, hm109⟩ := hX107
    refine qx_same ?_
    obtain rfl := os q75
    refine retn ?_
    refine ret_sub hs108 ?_
    exact ret0 rfl ⟨rfl, (hm109.pick [0] (by decide) rfl)⟩

theorem separation_Critical_ok {N : Nat} {a0 : List (List T_Span)} {a1 : Int} {a2 : Int} {res : List Int × Int} (h : separation_Critical N a0 a1 a2 = some res) {w : World} {v0 : Value} (hv0 : Sl (Old w No) w v0 a0) :
    CallsR Try.prog 16 [v0, (Value.int .i64 a1), (Value.int .i64 a2)] w (fun u w' => ∃ (y0 : Value), u = (Value.tuple #[y0, (Value.int .i64 res.2)]) ∧ Mem w No [ownL 3 y0 (res.1 : List Int)] w') := by
  unfold separation_Critical at h
  refine fn_ok Try.func16 rfl rfl rfl ?_
  obtain ⟨zs_a0, hn0⟩ := hv0.nest
  have hm0 := Mem.nil w
  refine cw_seq ?_
  refine cw_region ?_
  refine t_rd rfl (rd_assign rfl) ?_
  refine t_rd rfl (rd_assign rfl) ?_
  refine rwt_nil ?_
  refine qn_then ?_
  refine cw_seq ?_
  refine cw_region ?_
  refine t_rd rfl (rd_move rfl) ?_
  refine t_rd rfl (rd_move rfl) ?_
  obtain ⟨r1, h2, q3⟩ := ob h; clear h
  refine t_ef rfl (ef_call tf30 rfl (separation_released_ok h2 ((hn0.to_call hm0).sl))) ?_
  rintro _ w8 ⟨zs5, v4, v6, e_, hm7⟩
  obtain rfl := e_.symm
  have hm9 := hm0.call hm7
  refine t_rd rfl (rd_move rfl) ?_
  refine t_rd rfl (rd_extract rfl rfl) ?_
  refine t_rd rfl (rd_extract rfl rfl) ?_
  refine t_rd rfl (rd_extract rfl rfl) ?_
  refine t_rd rfl (rd_assign rfl) ?_
  refine t_rd rfl (rd_assign rfl) ?_
  refine t_rd rfl (rd_assign rfl) ?_
  refine rwt_nil ?_
  refine qn_then ?_
  refine cw_seq ?_
  refine cw_seq ?_
  refine cw_region ?_
  refine t_rd rfl (rd_move rfl) ?_
  refine t_rd rfl (rd_neq rfl rfl) ?_
  refine rwt_nil ?_
  refine qn_then ?_
  obtain ⟨hb10, q11⟩ | ⟨hb10, q11⟩ := oi q3 <;> clear q3
  · refine cw_t rfl hb10 ?_
    refine cw_seq ?_
    refine cw_region ?_
    refine t_rd rfl (rd_move rfl) ?_
    refine t_rd rfl (rd_assign rfl) ?_
    refine t_rd rfl (rd_assign rfl) ?_
    refine rwt_nil ?_
    refine qn_then ?_
    refine cw_ret ?_
    refine qr_then ?_
    obtain rfl := os q11
    have hm12 := hm9.addNil (α := Int) 3
    exact ret2 rfl rfl rfl ⟨(Value.slice none 0 0), rfl, (hm12.pick [0] (by decide) rfl)⟩
  · refine cw_f rfl hb10 ?_
    refine cw_skip ?_
    refine qn_then ?_
    refine cw_seq ?_
    refine cw_seq ?_
    refine cw_region ?_
    refine t_rd rfl (rd_move rfl) ?_
    refine t_rd rfl (rd_lss rfl rfl) ?_
    refine t_rd rfl (rd_move rfl) ?_
    refine t_rdg rfl rfl rfl rfl (gv_f _) (fun hg13 => (rd_move rfl)) ?_
    refine t_rdg rfl rfl rfl rfl (gv_f _) (fun hg14 => (rd_move rfl)) ?_
    refine t_rdg rfl rfl rfl rfl (gv_f _) (fun hg15 => (rd_lenS tS35 (gvx rfl hg15) ((hn0.of_old hm9).sl))) ?_
    refine t_rdg rfl rfl rfl rfl (gv_f _) (fun hg16 => (rd_geq (gvx rfl hg16) (gvx rfl hg16))) ?_
    refine t_rd rfl (rd_or rfl (fun hc17 => (gvx rfl (bnotIt hc17)))) ?_
    refine rwt_nil ?_
    refine qn_then ?_
    obtain ⟨hb18, q19⟩ | ⟨hb18, q19⟩ := oi q11 <;> clear q11
    · refine cw_t rfl hb18 ?_
      refine cw_seq ?_
      refine cw_region ?_
      refine t_rd rfl (rd_assign rfl) ?_
      refine t_rd rfl (rd_assign rfl) ?_
      refine rwt_nil ?_
      refine qn_then ?_
      refine cw_ret ?_
      refine qr_then ?_
      obtain rfl := os q19
      have hm20 := hm9.addNil (α := Int) 3
      exact ret2 rfl rfl rfl ⟨(Value.slice none 0 0), rfl, (hm20.pick [0] (by decide) rfl)⟩
    · refine cw_f rfl hb18 ?_
      refine cw_skip ?_
      refine qn_then ?_
      refine cw_seq ?_
      refine cw_region ?_
      refine t_rd rfl (rd_move rfl) ?_
      refine t_ef rfl (ef_bslice (l := ([a2] : List Int)) hm9 tS22 rfl (cs := #[(Value.int .i64 a2)]) (by unfold bsl; kernel_rfl) rfl rfl) ?_
      intro v21 w23 hm22
      refine t_rd rfl (rd_assign rfl) ?_
      refine rwt_nil ?_
      refine qn_then ?_
      refine cw_seq ?_
      refine cw_block ?_
      obtain ⟨r250, hit251, q252⟩ := ob q19; clear q19
      refine cw_loop2 (I := fun q envq wq => ∃ (v243 : Value), Sub [(2, (Value.int .i64 q.1)), (8, v4), (9, v6), (11, v243)] envq ∧ Mem w No [ownL 3 v243 (q.2 : List Int), ownL 22 v4 (zs5 : List Hdr), rowsC 3 zs5 (r1.1 : List (List Int)) none, ownL 3 v6 (r1.2.1 : List Int)] wq) (X := fun eq envq wq => eq = .exit 0 ∧ ∃ (v240 : Value), Sub [(11, v240)] envq ∧ Mem w No [ownL 3 v240 (r250 : List Int)] wq) hit251 ⟨v21, (by repeat (first | exact Sub.nil _ | refine Sub.cons rfl ?_)), (hm22.pick [0, 1, 2, 3] (by decide) rfl)⟩ ?_ ?_
      · rintro ⟨i241, l242⟩ x245 env246 w247 hf248 hr249 ⟨v243, hs_, hm_⟩
        have hs_ : Sub [(2, (Value.int .i64 i241)), (8, v4), (9, v6), (11, v243)] env246 := hs_
        have hm253 : Mem w No [ownL 3 v243 (l242 : List Int), ownL 22 v4 (zs5 : List Hdr), rowsC 3 zs5 (r1.1 : List (List Int)) none, ownL 3 v6 (r1.2.1 : List Int)] w247 := hm_
        refine cw_sub hs_ ?_
        clear hs_ hm_ q252
        have h : separation_Critical_l3 N r1 i241 l242 = some x245 := hf248
        clear hf248
        refine cw_seq ?_
        refine cw_seq ?_
        refine cw_region ?_
        refine t_rd rfl (rd_move rfl) ?_
        refine t_rd rfl (rd_move rfl) ?_
        obtain ⟨x254, h255, q256⟩ := ob h; clear h
        refine t_rd rfl (rd_index tS22 rfl rfl (hm253.sl 3 rfl) h255) ?_
        refine t_rd rfl (rd_ld1 tO3 rfl ((hm253.sl 3 rfl).cells h255) (off := 0) rfl) ?_
        refine t_rd rfl (rd_neq rfl rfl) ?_
        refine rwt_nil ?_
        refine qn_then ?_
        obtain ⟨hb257, q258⟩ | ⟨hb257, q258⟩ := oi q256 <;> clear q256
        · refine cw_t rfl hb257 ?_
          refine cw_skip ?_
          refine qn_then ?_
          refine cw_block ?_
          refine cw_seq ?_
          refine cw_seq ?_
          refine cw_region ?_
          refine t_rd rfl (rd_move rfl) ?_
          refine t_rd rfl (rd_move rfl) ?_
          obtain ⟨x259, h260, q261⟩ := ob q258; clear q258
          refine t_rd rfl (rd_index tS54 rfl rfl ((Nl.mk (hm253.sl_call 1 rfl) (hm253.rows_call 2 rfl)).sl) h260) ?_
          obtain ⟨zd262, hz263⟩ := (Nl.mk (hm253.sl_call 1 rfl) (hm253.rows_call 2 rfl)).row h260
          refine t_rd rfl (rd_ld1 tO22 rfl ((Nl.mk (hm253.sl_call 1 rfl) (hm253.rows_call 2 rfl)).cells hz263) (off := 0) rfl) ?_
          refine t_rd rfl (rd_lenS tS22 rfl ((Nl.mk (hm253.sl_call 1 rfl) (hm253.rows_call 2 rfl)).get hz263 h260)) ?_
          refine t_rd rfl (rd_move rfl) ?_
          refine rwt_nil ?_
          refine qn_then ?_
          refine cw_block ?_
          obtain ⟨r319, hit320, q321⟩ := ob q261; clear q261
          refine cw_loop2 (I := fun q envq wq => Sub [(2, (Value.int .i64 i241)), (8, v4), (9, v6), (11, v243), (42, zd262.1), (43, (Value.int .i64 (List.length x259 : Int))), (44, (Value.int .i64 q))] envq ∧ Mem w No [ownL 3 v243 (l242 : List Int), ownL 22 v4 (zs5 : List Hdr), rowsC 3 zs5 (r1.1 : List (List Int)) none, ownL 3 v6 (r1.2.1 : List Int)] wq) (X := fun eq envq wq => eq = .exit 2 ∧ Sub [(2, (Value.int .i64 r319)), (8, v4), (9, v6), (11, v243)] envq ∧ Mem w No [ownL 3 v243 (l242 : List Int), ownL 22 v4 (zs5 : List Hdr), rowsC 3 zs5 (r1.1 : List (List Int)) none, ownL 3 v6 (r1.2.1 : List Int)] wq) hit320 ⟨(by repeat (first | exact Sub.nil _ | refine Sub.cons rfl ?_)), (hm253.pick [0, 1, 2, 3] (by decide) rfl)⟩ ?_ ?_
          · rintro i312 x314 env315 w316 hf317 hr318 ⟨hs_, hm_⟩
            have hs_ : Sub [(2, (Value.int .i64 i241)), (8, v4), (9, v6), (11, v243), (42, zd262.1), (43, (Value.int .i64 (List.length x259 : Int))), (44, (Value.int .i64 i312))] env315 := hs_
            have hm322 : Mem w No [ownL 3 v243 (l242 : List Int), ownL 22 v4 (zs5 : List Hdr), rowsC 3 zs5 (r1.1 : List (List Int)) none, ownL 3 v6 (r1.2.1 : List Int)] w316 := hm_
            refine cw_sub hs_ ?_
            clear hs_ hm_ q321
            have h : separation_Critical_l4 N r1 i241 x259 i312 = some x314 := hf317
            clear hf317
            refine cw_seq ?_
            refine cw_region ?_
            refine t_rd rfl (rd_lss rfl rfl) ?_
            refine rwt_nil ?_
            refine qn_then ?_
            refine cw_seq ?_
            obtain ⟨hb323, q324⟩ | ⟨hb323, q324⟩ := oi h <;> clear h
            · refine cw_t rfl hb323 ?_
              refine cw_skip ?_
              refine qn_then ?_
              refine cw_seq ?_
              refine cw_block ?_
              refine cw_seq ?_
              refine cw_region ?_
              refine t_rd rfl (rd_move rfl) ?_
              obtain ⟨x325, h326, q327⟩ := ob q324; clear q324
              refine t_rd rfl (rd_index tS22 rfl rfl ((Nl.mk (hm322.sl_call 1 rfl) (hm322.rows_call 2 rfl)).get hz263 h260) h326) ?_
              refine t_rd rfl (rd_ld1 tO3 rfl (((Nl.mk (hm322.sl_call 1 rfl) (hm322.rows_call 2 rfl)).get hz263 h260).cells h326) (off := 0) rfl) ?_
              refine t_rd rfl (rd_assign rfl) ?_
              refine t_rd rfl (rd_assign rfl) ?_
              refine rwt_nil ?_
              refine qn_then ?_
              refine cw_seq ?_
              obtain ⟨w329, he331⟩ : ∃ q, q = w316.drew := ⟨_, rfl⟩
              have hm330 := hm322.drew; rw [← he331] at hm330
              refine cw_region_s (fun q => q = w329) (cls [] []) mixed ?_
              rintro _ rfl; rw [← he331]
              refine s_rp (i := 0) rfl (by kernel_rfl) rfl (fun _ => (rd_move rfl)) ?_
              refine s_rp (i := 1) rfl (by kernel_rfl) rfl (fun _ => (rd_move rfl)) ?_
              obtain ⟨x332, h333, q334⟩ := ob q327; clear q327
              refine s_rp (i := 2) rfl (by kernel_rfl) rfl (fun _ => (rd_index tS22 rfl rfl (hm330.sl 3 rfl) h333)) ?_
              refine s_rd (i := 3) rfl (by kernel_rfl) rfl (fun _ hS => by rw [hS]; exact (rd_ld1 tO3 rfl ((hm330.sl 3 rfl).cells h333) (off := 0) rfl)) rfl ?_
              refine s_rp (i := 4) rfl (by kernel_rfl) rfl (fun _ => (rd_move rfl)) ?_
              obtain ⟨x335, h336, q337⟩ := ob q334; clear q334
              refine s_rp (i := 5) rfl (by kernel_rfl) rfl (fun _ => (rd_add64 h336 rfl rfl)) ?_
              refine s_rp (i := 6) rfl (by kernel_rfl) rfl (fun _ => (rd_move rfl)) ?_
              refine s_rp (i := 7) rfl (by kernel_rfl) rfl (fun _ => (rd_move rfl)) ?_
              obtain ⟨x338, h339, q340⟩ := ob q337; clear q337
              refine s_rp (i := 8) rfl (by kernel_rfl) rfl (fun _ => (rd_index tS22 rfl rfl (hm330.sl 3 rfl) h339)) ?_
              refine s_rd (i := 9) rfl (by kernel_rfl) rfl (fun _ hS => by rw [hS]; exact (rd_ld1 tO3 rfl ((hm330.sl 3 rfl).cells h339) (off := 0) rfl)) rfl ?_
              refine s_rp (i := 10) rfl (by kernel_rfl) rfl (fun _ => (rd_eql rfl rfl)) ?_
              refine s_nil (by kernel_rfl) ?_
              refine qn_then ?_
              obtain ⟨hb341, q342⟩ | ⟨hb341, q342⟩ := oi q340 <;> clear q340
              · refine cw_t rfl hb341 ?_
                refine cw_seq ?_
                refine cw_region ?_
                refine t_rd rfl (rd_move rfl) ?_
                refine t_rd rfl (rd_assign rfl) ?_
                refine rwt_nil ?_
                refine qn_then ?_
                refine cw_exit ?_
                refine qx_other rfl (qx_then (qx_then ?_))
                obtain rfl := hr318 _ (os q342)
                exact ⟨rfl, (by repeat (first | exact Sub.nil _ | refine Sub.cons rfl ?_)), (hm330.pick [0, 1, 2, 3] (by decide) rfl)⟩
              · refine cw_f rfl hb341 ?_
                refine cw_skip ?_
                refine qn_block (qn_then ?_)
                refine cw_region ?_
                obtain ⟨x343, h344, q345⟩ := ob q342; clear q342
                refine t_rd rfl (rd_add64 h344 rfl rfl) ?_
                refine t_rd rfl (rd_move rfl) ?_
                refine rwt_nil ?_
                refine qn_then ?_
                refine ⟨_, (os q345), (by repeat (first | exact Sub.nil _ | refine Sub.cons rfl ?_)), (hm330.pick [0, 1, 2, 3] (by decide) rfl)⟩
            · refine cw_f rfl hb323 ?_
              refine cw_exit ?_
              refine qx_then (qx_then ?_)
              obtain rfl := hr318 _ (os q324)
              exact ⟨rfl, (by repeat (first | exact Sub.nil _ | refine Sub.cons rfl ?_)), (hm322.pick [0, 1, 2, 3] (by decide) rfl)⟩
          · skip
            intro e env346 w347 hX348
            obtain ⟨rfl, hs349, hm350⟩ := hX348
            refine qx_same (qn_then ?_)
            refine cw_sub hs349 ?_
            refine cw_region ?_
            refine t_rd rfl (rd_move rfl) ?_
            refine t_rd rfl (rd_move rfl) ?_
            refine t_ef rfl (ef_bslice (l := ([r319] : List Int)) hm350 tS22 rfl (cs := #[(Value.int .i64 r319)]) (by unfold bsl; kernel_rfl) rfl rfl) ?_
            intro v351 w353 hm352
            obtain ⟨l354, h355, q356⟩ := ob q321; clear q321
            refine t_ef rfl (ef_append (k := 1) hm352 tS22 tE3 rfl rfl rfl rfl (hm352.sl 0 rfl) h355) ?_
            intro v357 w359 hm358
            refine t_rd rfl (rd_assign rfl) ?_
            refine rwt_nil ?_
            refine qn_block (qn_then ?_)
            refine ⟨_, (os q356), v357, (by repeat (first | exact Sub.nil _ | refine Sub.cons rfl ?_)), (hm358.pick [1, 2, 3, 4] (by decide) rfl)⟩
        · refine cw_f rfl hb257 ?_
          refine cw_exit ?_
          refine qx_then (qx_then ?_)
          obtain rfl := hr249 _ (os q258)
          exact ⟨rfl, v243, (by repeat (first | exact Sub.nil _ | refine Sub.cons rfl ?_)), (hm253.pick [0] (by decide) rfl)⟩
      · skip
        intro e env360 w361 hX362
        obtain ⟨rfl, v240, hs363, hm364⟩ := hX362
        refine qx_same (qn_then ?_)
        refine cw_sub hs363 ?_
        refine cw_seq ?_
        refine cw_region ?_
        refine t_rd rfl (rd_move rfl) ?_
        obtain ⟨r365, h366, q367⟩ := ob q252; clear q252
        refine t_ef rfl (ef_call tf31 rfl (g_slices_Reverse_int_int_ok h366 (hm364.get (k := 0) rfl))) ?_
        rintro _ w369 ⟨e_, hm368⟩
        obtain rfl := e_.symm
        have hm370 := hm364.callT (k := 0) rfl (fun _ h => h) hm368 (fun _ => Iff.rfl)
        refine rwt_nil ?_
        refine qn_then ?_
        refine cw_seq ?_
        refine cw_region ?_
        refine t_rd rfl (rd_move rfl) ?_
        refine t_rd rfl (rd_assign rfl) ?_
        refine t_rd rfl (rd_assign rfl) ?_
        refine rwt_nil ?_
        refine qn_then ?_
        refine cw_ret ?_
        obtain rfl := os q367
        exact ret2 rfl rfl rfl ⟨v240, rfl, (hm370.pick [0] (by decide) rfl)⟩

theorem humpgen_Ints_ok {N : Nat} {a0 : List Int} {a1 : List Int} {res : Bool} (h : humpgen_Ints N a0 a1 = some res) {w : World} {v0 : Value} {v1 : Value} (hv0 : Sl (Old w No) w v0 a0) (hv1 : Sl (Old w No) w v1 a1) :
    CallsR Try.prog 29 [v0, v1] w (fun u w' => u = (Value.bool res) ∧ Mem w No [] w') := by
  unfold humpgen_Ints at h
  refine fn_ok Try.func29 rfl rfl rfl ?_
  have hm0 := Mem.nil w
  refine cw_seq ?_
  refine cw_region ?_
  refine t_rd rfl (rd_assign rfl) ?_
  refine rwt_nil ?_
  refine qn_then ?_
  refine cw_seq ?_
  refine cw_seq ?_
  refine cw_region ?_
  refine t_rd rfl (rd_move rfl) ?_
  refine t_rd rfl (rd_lenS tS22 rfl (hv0.of_old hm0)) ?_
  refine t_rd rfl (rd_move rfl) ?_
  refine t_rd rfl (rd_lenS tS22 rfl (hv1.of_old hm0)) ?_
  refine t_rd rfl (rd_neq rfl rfl) ?_
  refine rwt_nil ?_
  refine qn_then ?_
  obtain ⟨hb1, q2⟩ | ⟨hb1, q2⟩ := oi h <;> clear h
  · refine cw_t rfl hb1 ?_
    refine cw_seq ?_
    refine cw_region ?_
    refine t_rd rfl (rd_assign rfl) ?_
    refine rwt_nil ?_
    refine qn_then ?_
    refine cw_ret ?_
    refine qr_then ?_
    obtain rfl := os q2
    exact ret1 rfl rfl ⟨rfl, (hm0.pick [] (by decide) rfl)⟩
  · refine cw_f rfl hb1 ?_
    refine cw_skip ?_
    refine qn_then ?_
    refine cw_seq ?_
    refine cw_seq ?_
    refine cw_region ?_
    refine t_rd rfl (rd_assign rfl) ?_
    refine rwt_nil ?_
    refine qn_then ?_
    refine cw_block ?_
    obtain ⟨r45, hit46, q47⟩ := ob q2; clear q2
    refine cw_loop2 (I := fun q envq wq => Sub [(0, v0), (1, v1), (5, (Value.int .i64 q))] envq ∧ Mem w No [] wq) (X := fun eq envq wq => (∃ p48, r45 = (Sum.inl p48) ∧ eq = .ret ∧ retQ Try.prog 26 Try.f29 (fun u w' => u = (Value.bool p48) ∧ Mem w No [] w') .ret envq wq) ∨ (∃ p49, r45 = (Sum.inr p49) ∧ eq = .exit 0 ∧ Sub [] envq ∧ Mem w No [] wq)) hit46 ⟨(by repeat (first | exact Sub.nil _ | refine Sub.cons rfl ?_)), (hm0.pick [] (by decide) rfl)⟩ ?_ ?_
    · rintro i38 x40 env41 w42 hf43 hr44 ⟨hs_, hm_⟩
      have hs_ : Sub [(0, v0), (1, v1), (5, (Value.int .i64 i38))] env41 := hs_
      have hm50 : Mem w No [] w42 := hm_
      refine cw_sub hs_ ?_
      clear hs_ hm_ q47
      have h : humpgen_Ints_l1 N a0 a1 i38 = some x40 := hf43
      clear hf43
      refine cw_seq ?_
      refine cw_seq ?_
      refine cw_region ?_
      refine t_rd rfl (rd_move rfl) ?_
      refine t_rd rfl (rd_move rfl) ?_
      refine t_rd rfl (rd_lenS tS22 rfl (hv0.of_old hm50)) ?_
      refine t_rd rfl (rd_lss rfl rfl) ?_
      refine rwt_nil ?_
      refine qn_then ?_
      obtain ⟨hb51, q52⟩ | ⟨hb51, q52⟩ := oi h <;> clear h
      · refine cw_t rfl hb51 ?_
        refine cw_skip ?_
        refine qn_then ?_
        refine cw_seq ?_
        refine cw_block ?_
        refine cw_seq ?_
        obtain ⟨w54, he56⟩ : ∃ q, q = w42.drew := ⟨_, rfl⟩
        have hm55 := hm50.drew; rw [← he56] at hm55
        refine cw_region_s (fun q => q = w54) (cls [] []) mixed ?_
        rintro _ rfl; rw [← he56]
        refine s_rp (i := 0) rfl (by kernel_rfl) rfl (fun _ => (rd_move rfl)) ?_
        refine s_rp (i := 1) rfl (by kernel_rfl) rfl (fun _ => (rd_move rfl)) ?_
        obtain ⟨x57, h58, q59⟩ := ob q52; clear q52
        refine s_rp (i := 2) rfl (by kernel_rfl) rfl (fun _ => (rd_index tS22 rfl rfl (hv0.of_old hm55) h58)) ?_
        refine s_rd (i := 3) rfl (by kernel_rfl) rfl (fun _ hS => by rw [hS]; exact (rd_ld1 tO3 rfl ((hv0.of_old hm55).cells h58) (off := 0) rfl)) rfl ?_
        refine s_rp (i := 4) rfl (by kernel_rfl) rfl (fun _ => (rd_move rfl)) ?_
        refine s_rp (i := 5) rfl (by kernel_rfl) rfl (fun _ => (rd_move rfl)) ?_
        obtain ⟨x60, h61, q62⟩ := ob q59; clear q59
        refine s_rp (i := 6) rfl (by kernel_rfl) rfl (fun _ => (rd_index tS22 rfl rfl (hv1.of_old hm55) h61)) ?_
        refine s_rd (i := 7) rfl (by kernel_rfl) rfl (fun _ hS => by rw [hS]; exact (rd_ld1 tO3 rfl ((hv1.of_old hm55).cells h61) (off := 0) rfl)) rfl ?_
        refine s_rp (i := 8) rfl (by kernel_rfl) rfl (fun _ => (rd_neq rfl rfl)) ?_
        refine s_nil (by kernel_rfl) ?_
        refine qn_then ?_
        obtain ⟨hb63, q64⟩ | ⟨hb63, q64⟩ := oi q62 <;> clear q62
        · refine cw_t rfl hb63 ?_
          refine cw_seq ?_
          refine cw_region ?_
          refine t_rd rfl (rd_assign rfl) ?_
          refine rwt_nil ?_
          refine qn_then ?_
          refine cw_ret ?_
          refine qr_block (qr_then (qr_then ?_))
          obtain rfl := hr44 _ (os q64)
          refine .inl (⟨_, rfl, ⟨rfl, ?_⟩⟩)
          exact ret1 rfl rfl ⟨rfl, (hm55.pick [] (by decide) rfl)⟩
        · refine cw_f rfl hb63 ?_
          refine cw_skip ?_
          refine qn_block (qn_then ?_)
          refine cw_region ?_
          refine t_rd rfl (rd_move rfl) ?_
          obtain ⟨x65, h66, q67⟩ := ob q64; clear q64
          refine t_rd rfl (rd_add64 h66 rfl rfl) ?_
          refine t_rd rfl (rd_assign rfl) ?_
          refine rwt_nil ?_
          refine qn_then ?_
          refine ⟨_, (os q67), (by repeat (first | exact Sub.nil _ | refine Sub.cons rfl ?_)), (hm55.pick [] (by decide) rfl)⟩
      · refine cw_f rfl hb51 ?_
        refine cw_exit ?_
        refine qx_then (qx_then ?_)
        obtain rfl := hr44 _ (os q52)
        exact .inr (⟨_, rfl, ⟨rfl, (by repeat (first | exact Sub.nil _ | refine Sub.cons rfl ?_)), (hm50.pick [] (by decide) rfl)⟩⟩)
    · skip
      intro e env68 w69 hX70
      rcases hX70 with hX70 | hX70
      · obtain ⟨p72, rfl, hX70⟩ := hX70
        obtain ⟨rfl, hq74⟩ := hX70
        exact qr_block (qr_then ((by have e := os q47; subst e; exact hq74)))
      · obtain ⟨p75, rfl, hX70⟩ := hX70
        obtain ⟨rfl, hs76, hm77⟩ := hX70
        refine qx_same (qn_then ?_)
        refine cw_sub hs76 ?_
        refine cw_seq ?_
        refine cw_region ?_
        refine t_rd rfl (rd_assign rfl) ?_
        refine rwt_nil ?_
        refine qn_then ?_
        refine cw_ret ?_
        obtain rfl := os q47
        exact ret1 rfl rfl ⟨rfl, (hm77.pick [] (by decide) rfl)⟩

theorem law23_sane_ok {N : Nat} {res : Bool} (h : law23_sane N = some res) {w : World}   :
    CallsR Try.prog 13 [] w (fun u w' => u = (Value.bool res) ∧ Mem w No [] w') := by
  unfold law23_sane at h
  refine fn_ok Try.func13 rfl rfl rfl ?_
  have hm0 := Mem.nil w
  refine cw_seq ?_
  refine cw_region ?_
  refine t_rd rfl (rd_assign rfl) ?_
  refine rwt_nil ?_
  refine qn_then ?_
  refine cw_seq ?_
  refine cw_region ?_
  refine t_rd rfl (rd_build (cs := #[(Value.int .i64 0), (Value.int .i64 0), (Value.int .i64 0), (Value.int .i64 5000)]) rfl (by kernel_rfl)) ?_
  refine t_ef rfl (ef_bslice (l := ([(T_Span.mk 0 0 0 5000)] : List T_Span)) hm0 tS26 rfl (cs := #[(Value.int .i64 0), (Value.int .i64 0), (Value.int .i64 0), (Value.int .i64 5000)]) (by unfold bsl; kernel_rfl) rfl rfl) ?_
  intro v1 w3 hm2
  refine t_rd rfl (rd_build (cs := #[(Value.int .i64 0), (Value.int .i64 0), (Value.int .i64 1000), (Value.int .i64 6000)]) rfl (by kernel_rfl)) ?_
  refine t_ef rfl (ef_bslice (l := ([(T_Span.mk 0 0 1000 6000)] : List T_Span)) hm2 tS26 rfl (cs := #[(Value.int .i64 0), (Value.int .i64 0), (Value.int .i64 1000), (Value.int .i64 6000)]) (by unfold bsl; kernel_rfl) rfl rfl) ?_
  intro v4 w6 hm5
  refine t_rd rfl (rd_assign rfl) ?_
  refine t_rd rfl (rd_assign rfl) ?_
  refine rwt_nil ?_
  refine qn_then ?_
  refine cw_seq ?_
  refine cw_region ?_
  refine t_rd rfl (rd_move rfl) ?_
  refine t_rd rfl (rd_move rfl) ?_
  obtain ⟨r7, h8, q9⟩ := ob h; clear h
  refine t_ef rfl (ef_call tf12 rfl (separation_Gap_ok h8 (hm5.sl_call 1 rfl) (hm5.sl_call 0 rfl))) ?_
  rintro _ w11 ⟨e_, hm10⟩
  obtain rfl := e_.symm
  have hm12 := hm5.call hm10
  refine t_rd rfl (rd_move rfl) ?_
  refine t_rd rfl (rd_extract rfl rfl) ?_
  refine t_rd rfl (rd_extract rfl rfl) ?_
  refine t_rd rfl (rd_assign rfl) ?_
  refine t_rd rfl (rd_assign rfl) ?_
  refine rwt_nil ?_
  refine qn_then ?_
  refine cw_seq ?_
  refine cw_region ?_
  refine t_rd rfl (rd_move rfl) ?_
  refine t_rd rfl (rd_move rfl) ?_
  obtain ⟨x13, h14, q15⟩ := ob q9; clear q9
  refine t_rd rfl (rd_index tS26 rfl rfl (hm12.sl 1 rfl) h14) ?_
  refine t_rd rfl (rd_fld tF32_1 rfl) ?_
  refine t_ef0 (ef_stl (k := 1) (off := 1) (x' := (T_Span.mk x13.Element 1 x13.From x13.To)) hm12 tO3 rfl rfl rfl rfl h14 rfl rfl) ?_
  intro _ w17 hm16
  obtain ⟨x18, h19, q20⟩ := ob q15; clear q15
  refine t_rd rfl (rd_index tS26 rfl rfl (hm16.sl 0 rfl) h19) ?_
  refine t_rd rfl (rd_fld tF32_1 rfl) ?_
  refine t_ef0 (ef_stl (k := 0) (off := 1) (x' := (T_Span.mk x18.Element 2 x18.From x18.To)) hm16 tO3 rfl rfl rfl rfl h19 rfl rfl) ?_
  intro _ w22 hm21
  refine rwt_nil ?_
  refine qn_then ?_
  refine cw_seq ?_
  refine cw_region ?_
  refine t_rd rfl (rd_move rfl) ?_
  refine t_rd rfl (rd_move rfl) ?_
  obtain ⟨r23, h24, q25⟩ := ob q20; clear q20
  refine t_ef rfl (ef_call tf12 rfl (separation_Gap_ok h24 (hm21.sl_call 1 rfl) (hm21.sl_call 0 rfl))) ?_
  rintro _ w27 ⟨e_, hm26⟩
  obtain rfl := e_.symm
  have hm28 := hm21.call hm26
  refine t_rd rfl (rd_move rfl) ?_
  refine t_rd rfl (rd_extract rfl rfl) ?_
  refine t_rd rfl (rd_extract rfl rfl) ?_
  refine t_rd rfl (rd_assign rfl) ?_
  refine t_rd rfl (rd_assign rfl) ?_
  refine rwt_nil ?_
  refine qn_then ?_
  refine cw_seq ?_
  refine cw_region ?_
  refine t_rd rfl (rd_move rfl) ?_
  refine t_rd rfl (rd_move rfl) ?_
  refine t_rd rfl (rd_move rfl) ?_
  obtain ⟨zd29, ez30⟩ : ∃ z : Hdr, z.1 = v1 := ⟨⟨v1, sl_one (hm28.sl 1 rfl)⟩, rfl⟩
  obtain ⟨zd31, ez32⟩ : ∃ z : Hdr, z.1 = v4 := ⟨⟨v4, sl_one (hm28.sl 0 rfl)⟩, rfl⟩
  obtain ⟨zd33, ez34⟩ : ∃ z : Hdr, z.1 = v1 := ⟨⟨v1, sl_one (hm28.sl 1 rfl)⟩, rfl⟩
  refine t_ef rfl (ef_bslice (l := ([zd29, zd31, zd33] : List Hdr)) hm28 tS35 rfl (cs := #[v1, v4, v1]) (by obtain ⟨_, _, e⟩ : ∃ A c, v1 = Value.slice A (List.length (List.set [(T_Span.mk 0 0 0 5000)] (Int.toNat 0) (T_Span.mk x13.Element 1 x13.From x13.To))) c := ((hm28.sl 1 rfl)).val; rw [e]; clear e; obtain ⟨_, _, e⟩ : ∃ A c, v4 = Value.slice A (List.length (List.set [(T_Span.mk 0 0 1000 6000)] (Int.toNat 0) (T_Span.mk x18.Element 2 x18.From x18.To))) c := ((hm28.sl 0 rfl)).val; rw [e]; clear e; unfold bsl; kernel_rfl) (by show [zd29.1, zd31.1, zd33.1] = [v1, v4, v1]; rw [ez30, ez32, ez34]) rfl) ?_
  intro v35 w37 hm36
  obtain ⟨r38, h39, q40⟩ := ob q25; clear q25
  refine t_ef rfl (ef_call tf17 rfl (separation_Releases_ok h39 ((Nl.mk (hm36.sl_call 0 rfl) (Rows.cons (hm36.sl_call 2 rfl) ez30 (Rows.cons (hm36.sl_call 1 rfl) ez32 (Rows.cons (hm36.sl_call 2 rfl) ez34 Rows.nil)))).sl))) ?_
  rintro _ w43 ⟨v41, e_, hm42⟩
  obtain rfl := e_.symm
  have hm44 := hm36.call hm42
  refine t_rd rfl (rd_move rfl) ?_
  refine t_rd rfl (rd_extract rfl rfl) ?_
  refine t_rd rfl (rd_extract rfl rfl) ?_
  refine t_rd rfl (rd_assign rfl) ?_
  refine t_rd rfl (rd_assign rfl) ?_
  refine rwt_nil ?_
  refine qn_then ?_
  refine cw_seq ?_
  refine cw_region ?_
  refine t_rd rfl (rd_move rfl) ?_
  refine t_rd rfl (rd_move rfl) ?_
  refine t_rd rfl (rd_move rfl) ?_
  obtain ⟨zd45, ez46⟩ : ∃ z : Hdr, z.1 = v1 := ⟨⟨v1, sl_one (hm44.sl 3 rfl)⟩, rfl⟩
  obtain ⟨zd47, ez48⟩ : ∃ z : Hdr, z.1 = v4 := ⟨⟨v4, sl_one (hm44.sl 2 rfl)⟩, rfl⟩
  obtain ⟨zd49, ez50⟩ : ∃ z : Hdr, z.1 = v1 := ⟨⟨v1, sl_one (hm44.sl 3 rfl)⟩, rfl⟩
  refine t_ef rfl (ef_bslice (l := ([zd45, zd47, zd49] : List Hdr)) hm44 tS35 rfl (cs := #[v1, v4, v1]) (by obtain ⟨_, _, e⟩ : ∃ A c, v1 = Value.slice A (List.length (List.set [(T_Span.mk 0 0 0 5000)] (Int.toNat 0) (T_Span.mk x13.Element 1 x13.From x13.To))) c := ((hm44.sl 3 rfl)).val; rw [e]; clear e; obtain ⟨_, _, e⟩ : ∃ A c, v4 = Value.slice A (List.length (List.set [(T_Span.mk 0 0 1000 6000)] (Int.toNat 0) (T_Span.mk x18.Element 2 x18.From x18.To))) c := ((hm44.sl 2 rfl)).val; rw [e]; clear e; unfold bsl; kernel_rfl) (by show [zd45.1, zd47.1, zd49.1] = [v1, v4, v1]; rw [ez46, ez48, ez50]) rfl) ?_
  intro v51 w53 hm52
  obtain ⟨r54, h55, q56⟩ := ob q40; clear q40
  refine t_ef rfl (ef_call tf16 rfl (separation_Critical_ok h55 ((Nl.mk (hm52.sl_call 0 rfl) (Rows.cons (hm52.sl_call 4 rfl) ez46 (Rows.cons (hm52.sl_call 3 rfl) ez48 (Rows.cons (hm52.sl_call 4 rfl) ez50 Rows.nil)))).sl))) ?_
  rintro _ w59 ⟨v57, e_, hm58⟩
  obtain rfl := e_.symm
  have hm60 := hm52.call hm58
  refine t_rd rfl (rd_move rfl) ?_
  refine t_rd rfl (rd_extract rfl rfl) ?_
  refine t_rd rfl (rd_extract rfl rfl) ?_
  refine t_rd rfl (rd_assign rfl) ?_
  refine t_rd rfl (rd_assign rfl) ?_
  refine rwt_nil ?_
  refine qn_then ?_
  refine cw_seq ?_
  refine cw_region ?_
  refine t_rd rfl (rd_move rfl) ?_
  refine t_rd rfl (rd_eql rfl rfl) ?_
  refine t_rd rfl (rd_move rfl) ?_
  refine t_rdg rfl rfl rfl rfl (gv_t _) (fun hg61 => (rd_move rfl)) ?_
  refine t_rdg rfl rfl rfl rfl (gv_t _) (fun hg62 => (rd_eql (gvx rfl hg62) rfl)) ?_
  refine t_rd rfl (rd_and rfl (fun hc63 => (gvx rfl hc63))) ?_
  refine t_rd rfl (rd_move rfl) ?_
  refine t_rdg rfl rfl rfl rfl (gv_t _) (fun hg64 => (rd_move rfl)) ?_
  refine t_rdg rfl rfl rfl rfl (gv_t _) (fun hg65 => (rd_eql (gvx rfl hg65) rfl)) ?_
  refine t_rd rfl (rd_and rfl (fun hc66 => (gvx rfl hc66))) ?_
  refine t_rd rfl (rd_move rfl) ?_
  refine t_rdg rfl rfl rfl rfl (gv_t _) (fun hg67 => (rd_move rfl)) ?_
  refine t_rdg rfl rfl rfl rfl (gv_t _) (fun hg68 => (rd_eql (gvx rfl hg68) rfl)) ?_
  refine t_rd rfl (rd_and rfl (fun hc69 => (gvx rfl hc69))) ?_
  refine t_rd rfl (rd_move rfl) ?_
  refine t_rdg rfl rfl rfl rfl (gv_t _) (fun hg70 => (rd_move rfl)) ?_
  refine t_rdg rfl rfl rfl rfl (gv_t _) (fun hg71 => (rd_eql (gvx rfl hg71) rfl)) ?_
  refine t_rd rfl (rd_and rfl (fun hc72 => (gvx rfl hc72))) ?_
  refine t_rd rfl (rd_move rfl) ?_
  refine t_rdg rfl rfl rfl rfl (gv_t _) (fun hg73 => (rd_move rfl)) ?_
  obtain ⟨hb75, q76⟩ | ⟨hb75, q76⟩ := oi q56 <;> clear q56
  · skip
    refine t_efg rfl rfl rfl rfl (gv_t _) (fun _ => (ef_bslice (l := ([0, 4800, 11600] : List Int)) hm60 tS22 rfl (cs := #[(Value.int .i64 0), (Value.int .i64 4800), (Value.int .i64 11600)]) (by unfold bsl; kernel_rfl) rfl rfl)) (fun q => bcontra q hb75) ?_
    intro v78 w80 hm79
    obtain ⟨r82, h83, q84⟩ := ob q76; clear q76
    refine t_efg rfl rfl rfl rfl (gv_t _) (fun _ => (ef_call tf29 (evc (gvx rfl hb75) (evc rfl evn)) (humpgen_Ints_ok h83 (hm79.sl_call 3 rfl) (hm79.sl_call 0 rfl)))) (fun q => bcontra q hb75) ?_
    rintro _ w86 ⟨e_, hm85⟩
    obtain rfl := e_.symm
    have hm87 := hm79.call hm85
    refine t_rd rfl (rd_and rfl (fun hc88 => rfl)) ?_
    refine t_rd rfl (rd_move rfl) ?_
    refine t_rdg rfl rfl rfl rfl (gv_t _) (fun hg89 => (rd_move rfl)) ?_
    refine t_rdg rfl rfl rfl rfl (gv_t _) (fun hg90 => (rd_eql (gvx rfl hg90) rfl)) ?_
    refine t_rd rfl (rd_and rfl (fun hc91 => (gvx rfl hc91))) ?_
    refine t_rd rfl (rd_move rfl) ?_
    refine t_rdg rfl rfl rfl rfl (gv_t _) (fun hg92 => (rd_move rfl)) ?_
    obtain ⟨hb94, q95⟩ | ⟨hb94, q95⟩ := oi q84 <;> clear q84
    · skip
      refine t_efg rfl rfl rfl rfl (gv_t _) (fun _ => (ef_bslice (l := ([0, 1, 2] : List Int)) hm87 tS22 rfl (cs := #[(Value.int .i64 0), (Value.int .i64 1), (Value.int .i64 2)]) (by unfold bsl; kernel_rfl) rfl rfl)) (fun q => bcontra q hb94) ?_
      intro v97 w99 hm98
      obtain ⟨r101, h102, q103⟩ := ob q95; clear q95
      refine t_efg rfl rfl rfl rfl (gv_t _) (fun _ => (ef_call tf29 (evc (gvx rfl hb94) (evc rfl evn)) (humpgen_Ints_ok h102 (hm98.sl_call 2 rfl) (hm98.sl_call 0 rfl)))) (fun q => bcontra q hb94) ?_
      rintro _ w105 ⟨e_, hm104⟩
      obtain rfl := e_.symm
      have hm106 := hm98.call hm104
      refine t_rd rfl (rd_and rfl (fun hc107 => rfl)) ?_
      refine t_rd rfl (rd_assign rfl) ?_
      refine rwt_nil ?_
      refine qn_then ?_
      refine cw_ret ?_
      obtain rfl := os q103
      exact ret1 rfl rfl ⟨rfl, (hm106.pick [] (by decide) rfl)⟩
    · skip
      refine t_efg rfl rfl rfl rfl (R := fun v w' => v = undef ∧ w' = w86) (gv_t _) (fun hg108 => bcontra hb94 hg108) (fun _ => ⟨rfl, rfl⟩) ?_
      rintro v_ w_ ⟨e1_, e2_⟩; rw [e1_, e2_]; clear e1_ e2_ v_ w_
      refine t_efg rfl rfl rfl rfl (R := fun v w' => v = undef ∧ w' = w86) (gv_t _) (fun hg109 => bcontra hb94 hg109) (fun _ => ⟨rfl, rfl⟩) ?_
      rintro v_ w_ ⟨e1_, e2_⟩; rw [e1_, e2_]; clear e1_ e2_ v_ w_
      refine t_rd rfl (rd_and (b := false) rfl (fun hc110 => bcontra hb94 hc110)) ?_
      refine t_rd rfl (rd_assign rfl) ?_
      refine rwt_nil ?_
      refine qn_then ?_
      refine cw_ret ?_
      obtain rfl := os q95
      exact ret1 rfl rfl ⟨rfl, (hm87.pick [] (by decide) rfl)⟩
  · skip
    refine t_efg rfl rfl rfl rfl (R := fun v w' => v = undef ∧ w' = w59) (gv_t _) (fun hg111 => bcontra hb75 hg111) (fun _ => ⟨rfl, rfl⟩) ?_
    rintro v_ w_ ⟨e1_, e2_⟩; rw [e1_, e2_]; clear e1_ e2_ v_ w_
    refine t_efg rfl rfl rfl rfl (R := fun v w' => v = undef ∧ w' = w59) (gv_t _) (fun hg112 => bcontra hb75 hg112) (fun _ => ⟨rfl, rfl⟩) ?_
    rintro v_ w_ ⟨e1_, e2_⟩; rw [e1_, e2_]; clear e1_ e2_ v_ w_
    refine t_rd rfl (rd_and (b := false) rfl (fun hc113 => bcontra hb75 hc113)) ?_
    refine t_rd rfl (rd_move rfl) ?_
    refine t_rdg rfl rfl rfl rfl (gv_t _) (v := undef) (fun hg114 => (bcontra (bandF hb75) hg114)) ?_
    refine t_rdg rfl rfl rfl rfl (gv_t _) (v := undef) (fun hg115 => (bcontra (bandF hb75) hg115)) ?_
    refine t_rd rfl (rd_and (b := false) rfl (fun hc116 => bcontra (bandF hb75) hc116)) ?_
    refine t_rd rfl (rd_move rfl) ?_
    refine t_rdg rfl rfl rfl rfl (gv_t _) (v := undef) (fun hg117 => (bcontra (bandF (bandF hb75)) hg117)) ?_
    refine t_efg rfl rfl rfl rfl (R := fun v w' => v = undef ∧ w' = w59) (gv_t _) (fun hg118 => bcontra (bandF (bandF hb75)) hg118) (fun _ => ⟨rfl, rfl⟩) ?_
    rintro v_ w_ ⟨e1_, e2_⟩; rw [e1_, e2_]; clear e1_ e2_ v_ w_
    refine t_efg rfl rfl rfl rfl (R := fun v w' => v = undef ∧ w' = w59) (gv_t _) (fun hg119 => bcontra (bandF (bandF hb75)) hg119) (fun _ => ⟨rfl, rfl⟩) ?_
    rintro v_ w_ ⟨e1_, e2_⟩; rw [e1_, e2_]; clear e1_ e2_ v_ w_
    refine t_rd rfl (rd_and (b := false) rfl (fun hc120 => bcontra (bandF (bandF hb75)) hc120)) ?_
    refine t_rd rfl (rd_assign rfl) ?_
    refine rwt_nil ?_
    refine qn_then ?_
    refine cw_ret ?_
    obtain rfl := os q76
    exact ret1 rfl rfl ⟨rfl, (hm60.pick [] (by decide) rfl)⟩

theorem law23_SeparationGaps_ok {N : Nat} {a0 : List Int} {a1 : Int} {res : Bool} (h : law23_SeparationGaps N a0 a1 = some res) {w : World} {v0 : Value} (hv0 : Sl (Old w No) w v0 a0) :
    CallsR Try.prog 3 [v0, (Value.int .i64 a1)] w (fun u w' => u = (Value.bool res) ∧ Mem w No [] w') := by
  unfold law23_SeparationGaps at h
  refine fn_ok Try.func3 rfl rfl rfl ?_
  have hm0 := Mem.nil w
  refine cw_seq ?_
  refine cw_region ?_
  refine t_rd rfl (rd_assign rfl) ?_
  refine rwt_nil ?_
  refine qn_then ?_
  refine cw_seq ?_
  refine cw_region ?_
  refine t_rd rfl (rd_move rfl) ?_
  obtain ⟨r1, h2, q3⟩ := ob h; clear h
  refine t_ef rfl (ef_call tf9 rfl (humpgen_New_ok h2 (hv0.to_call hm0))) ?_
  rintro _ w6 ⟨g4, e_, hm5⟩
  obtain rfl := e_.symm
  have hm7 := hm0.call hm5
  refine t_rd rfl (rd_assign rfl) ?_
  refine rwt_nil ?_
  refine qn_then ?_
  refine cw_seq ?_
  refine cw_region ?_
  refine t_rd rfl (rd_move rfl) ?_
  obtain ⟨r8, h9, q10⟩ := ob q3; clear q3
  refine t_ef rfl (ef_call tf10 rfl (yardgen_Place_ok h9)) ?_
  rintro _ w12 ⟨e_, hm11⟩
  obtain rfl := e_.symm
  have hm13 := hm7.call hm11
  refine t_rd rfl (rd_assign rfl) ?_
  refine rwt_nil ?_
  refine qn_then ?_
  refine cw_seq ?_
  refine cw_region ?_
  refine t_rd rfl (rd_move rfl) ?_
  obtain ⟨r14, h15, q16⟩ := ob q10; clear q10
  refine t_ef rfl (ef_call tf11 rfl (yardgen_Spans_ok h15 (hv0.to_callT (k := 0) hm13 rfl) (hm13.get (k := 0) rfl))) ?_
  rintro _ w19 ⟨v17, e_, hm18⟩
  obtain rfl := e_.symm
  have hm20 := hm13.callT (k := 0) rfl (fun _ h => h) hm18 (fun _ => Iff.rfl)
  refine t_rd rfl (rd_move rfl) ?_
  obtain ⟨r21, h22, q23⟩ := ob q16; clear q16
  refine t_ef rfl (ef_call tf11 rfl (yardgen_Spans_ok h22 (hv0.to_callT (k := 1) hm20 rfl) (hm20.get (k := 1) rfl))) ?_
  rintro _ w26 ⟨v24, e_, hm25⟩
  obtain rfl := e_.symm
  have hm27 := hm20.callT (k := 1) rfl (fun _ h => h) hm25 (fun _ => Iff.rfl)
  refine t_rd rfl (rd_assign rfl) ?_
  refine t_rd rfl (rd_assign rfl) ?_
  refine rwt_nil ?_
  refine qn_then ?_
  refine cw_seq ?_
  refine cw_region ?_
  refine t_rd rfl (rd_move rfl) ?_
  refine t_rd rfl (rd_move rfl) ?_
  refine t_rd rfl (rd_move rfl) ?_
  obtain ⟨r28, h29, q30⟩ := ob q23; clear q23
  refine t_ef rfl (ef_call tf12 rfl (separation_Gap_ok h29 (hm27.sl_call 1 rfl) (hm27.sl_call 0 rfl))) ?_
  rintro _ w32 ⟨e_, hm31⟩
  obtain rfl := e_.symm
  have hm33 := hm27.call hm31
  refine t_rd rfl (rd_move rfl) ?_
  refine t_rd rfl (rd_extract rfl rfl) ?_
  refine t_rd rfl (rd_extract rfl rfl) ?_
  refine t_rd rfl (rd_assign rfl) ?_
  refine t_rd rfl (rd_assign rfl) ?_
  refine rwt_nil ?_
  refine qn_then ?_
  refine cw_seq ?_
  refine cw_seq ?_
  refine cw_region ?_
  refine t_rd rfl (rd_move rfl) ?_
  refine t_rd rfl (rd_neq rfl rfl) ?_
  refine t_rd rfl (rd_move rfl) ?_
  refine t_rdg rfl rfl rfl rfl (gv_f _) (fun hg34 => (rd_move rfl)) ?_
  refine t_rdg rfl rfl rfl rfl (gv_f _) (fun hg35 => (rd_lss (gvx rfl hg35) rfl)) ?_
  refine t_rd rfl (rd_or rfl (fun hc36 => (gvx rfl (bnotIt hc36)))) ?_
  refine rwt_nil ?_
  refine qn_then ?_
  obtain ⟨hb37, q38⟩ | ⟨hb37, q38⟩ := oi q30 <;> clear q30
  · refine cw_t rfl hb37 ?_
    refine cw_seq ?_
    refine cw_region ?_
    refine t_rd rfl (rd_assign rfl) ?_
    refine rwt_nil ?_
    refine qn_then ?_
    refine cw_ret ?_
    refine qr_then ?_
    obtain rfl := os q38
    exact ret1 rfl rfl ⟨rfl, (hm33.pick [] (by decide) rfl)⟩
  · refine cw_f rfl hb37 ?_
    refine cw_skip ?_
    refine qn_then ?_
    refine cw_seq ?_
    refine cw_region ?_
    refine t_rd rfl (rd_move rfl) ?_
    refine t_rd rfl (rd_eql rfl rfl) ?_
    refine t_rd rfl (rd_assign rfl) ?_
    refine rwt_nil ?_
    refine qn_then ?_
    refine cw_seq ?_
    refine cw_seq ?_
    refine cw_region ?_
    refine t_rd rfl (rd_assign rfl) ?_
    refine rwt_nil ?_
    refine qn_then ?_
    refine cw_block ?_
    obtain ⟨r708, hit709, q710⟩ := ob q38; clear q38
    refine cw_loop2 (I := fun q envq wq => Sub [(1, (Value.int .i64 r8)), (6, v17), (7, v24), (8, (Value.int .i64 r28.1)), (10, (Value.bool q.1)), (11, (Value.int .i64 q.2))] envq ∧ Mem w No [ownL 32 v24 (r21.2 : List T_Span), ownL 32 v17 (r14.2 : List T_Span)] wq) (X := fun eq envq wq => (∃ p711, r708 = (Sum.inl p711) ∧ eq = .ret ∧ retQ Try.prog 121 Try.f3 (fun u w' => u = (Value.bool p711) ∧ Mem w No [] w') .ret envq wq) ∨ (∃ p712, r708 = (Sum.inr p712) ∧ eq = .exit 0 ∧ Sub [(10, (Value.bool p712))] envq ∧ Mem w No [] wq)) hit709 ⟨(by repeat (first | exact Sub.nil _ | refine Sub.cons rfl ?_)), (hm33.pick [0, 1] (by decide) rfl)⟩ ?_ ?_
    · rintro ⟨b700, i701⟩ x703 env704 w705 hf706 hr707 ⟨hs_, hm_⟩
      have hs_ : Sub [(1, (Value.int .i64 r8)), (6, v17), (7, v24), (8, (Value.int .i64 r28.1)), (10, (Value.bool b700)), (11, (Value.int .i64 i701))] env704 := hs_
      have hm713 : Mem w No [ownL 32 v24 (r21.2 : List T_Span), ownL 32 v17 (r14.2 : List T_Span)] w705 := hm_
      refine cw_sub hs_ ?_
      clear hs_ hm_ q710
      have h : law23_SeparationGaps_l3 N r8 r14 r21 r28 b700 i701 = some x703 := hf706
      clear hf706
      refine cw_seq ?_
      refine cw_seq ?_
      refine cw_region ?_
      refine t_rd rfl (rd_move rfl) ?_
      refine t_rd rfl (rd_move rfl) ?_
      refine t_rd rfl (rd_lenS tS26 rfl (hm713.sl 1 rfl)) ?_
      refine t_rd rfl (rd_lss rfl rfl) ?_
      refine rwt_nil ?_
      refine qn_then ?_
      obtain ⟨hb714, q715⟩ | ⟨hb714, q715⟩ := oi h <;> clear h
      · refine cw_t rfl hb714 ?_
        refine cw_skip ?_
        refine qn_then ?_
        refine cw_seq ?_
        refine cw_block ?_
        refine cw_seq ?_
        refine cw_region ?_
        refine t_rd rfl (rd_assign rfl) ?_
        refine rwt_nil ?_
        refine qn_then ?_
        refine cw_block ?_
        obtain ⟨r925, hit926, q927⟩ := ob q715; clear q715
        refine cw_loop2 (I := fun q envq wq => Sub [(1, (Value.int .i64 r8)), (6, v17), (7, v24), (8, (Value.int .i64 r28.1)), (10, (Value.bool q.1)), (11, (Value.int .i64 i701)), (12, (Value.int .i64 q.2))] envq ∧ Mem w No [ownL 32 v24 (r21.2 : List T_Span), ownL 32 v17 (r14.2 : List T_Span)] wq) (X := fun eq envq wq => (∃ p928, r925 = (Sum.inl p928) ∧ eq = .ret ∧ retQ Try.prog 121 Try.f3 (fun u w' => u = (Value.bool p928) ∧ Mem w No [] w') .ret envq wq) ∨ (∃ p929, r925 = (Sum.inr p929) ∧ eq = .exit 2 ∧ Sub [(1, (Value.int .i64 r8)), (6, v17), (7, v24), (8, (Value.int .i64 r28.1)), (10, (Value.bool p929)), (11, (Value.int .i64 i701))] envq ∧ Mem w No [ownL 32 v24 (r21.2 : List T_Span), ownL 32 v17 (r14.2 : List T_Span)] wq)) hit926 ⟨(by repeat (first | exact Sub.nil _ | refine Sub.cons rfl ?_)), (hm713.pick [0, 1] (by decide) rfl)⟩ ?_ ?_
        · rintro ⟨b917, i918⟩ x920 env921 w922 hf923 hr924 ⟨hs_, hm_⟩
          have hs_ : Sub [(1, (Value.int .i64 r8)), (6, v17), (7, v24), (8, (Value.int .i64 r28.1)), (10, (Value.bool b917)), (11, (Value.int .i64 i701)), (12, (Value.int .i64 i918))] env921 := hs_
          have hm930 : Mem w No [ownL 32 v24 (r21.2 : List T_Span), ownL 32 v17 (r14.2 : List T_Span)] w922 := hm_
          refine cw_sub hs_ ?_
          clear hs_ hm_ q927
          have h : law23_SeparationGaps_l4 N r8 r14 r21 r28 i701 b917 i918 = some x920 := hf923
          clear hf923
          refine cw_seq ?_
          refine cw_seq ?_
          refine cw_region ?_
          refine t_rd rfl (rd_move rfl) ?_
          refine t_rd rfl (rd_move rfl) ?_
          refine t_rd rfl (rd_lenS tS26 rfl (hm930.sl 0 rfl)) ?_
          refine t_rd rfl (rd_lss rfl rfl) ?_
          refine rwt_nil ?_
          refine qn_then ?_
          obtain ⟨hb931, q932⟩ | ⟨hb931, q932⟩ := oi h <;> clear h
          · refine cw_t rfl hb931 ?_
            refine cw_skip ?_
            refine qn_then ?_
            refine cw_seq ?_
            refine cw_block ?_
            refine cw_seq ?_
            refine cw_seq ?_
            obtain ⟨w934, he936⟩ : ∃ q, q = w922.drew := ⟨_, rfl⟩
            have hm935 := hm930.drew; rw [← he936] at hm935
            refine cw_region_s (fun q => q = w934) (cls [] []) mixed ?_
            rintro _ rfl; rw [← he936]
            refine s_rp (i := 0) rfl (by kernel_rfl) rfl (fun _ => (rd_move rfl)) ?_
            refine s_rp (i := 1) rfl (by kernel_rfl) rfl (fun _ => (rd_move rfl)) ?_
            obtain ⟨x937, h938, q939⟩ := ob q932; clear q932
            refine s_rp (i := 2) rfl (by kernel_rfl) rfl (fun _ => (rd_index tS26 rfl rfl (hm935.sl 1 rfl) h938)) ?_
            refine s_rp (i := 3) rfl (by kernel_rfl) rfl (fun _ => (rd_fld tF32_0 rfl)) ?_
            refine s_rd (i := 4) rfl (by kernel_rfl) rfl (fun _ hS => by rw [hS]; exact (rd_ld1 tO3 rfl ((hm935.sl 1 rfl).cells h938) (off := 0) rfl)) rfl ?_
            refine s_rp (i := 5) rfl (by kernel_rfl) rfl (fun _ => (rd_move rfl)) ?_
            refine s_rp (i := 6) rfl (by kernel_rfl) rfl (fun _ => (rd_move rfl)) ?_
            obtain ⟨x940, h941, q942⟩ := ob q939; clear q939
            refine s_rp (i := 7) rfl (by kernel_rfl) rfl (fun _ => (rd_index tS26 rfl rfl (hm935.sl 0 rfl) h941)) ?_
            refine s_rp (i := 8) rfl (by kernel_rfl) rfl (fun _ => (rd_fld tF32_0 rfl)) ?_
            refine s_rd (i := 9) rfl (by kernel_rfl) rfl (fun _ hS => by rw [hS]; exact (rd_ld1 tO3 rfl ((hm935.sl 0 rfl).cells h941) (off := 0) rfl)) rfl ?_
            refine s_rp (i := 10) rfl (by kernel_rfl) rfl (fun _ => (rd_neq rfl rfl)) ?_
            refine s_nil (by kernel_rfl) ?_
            refine qn_then ?_
            obtain ⟨hb943, q944⟩ | ⟨hb943, q944⟩ := oi q942 <;> clear q942
            · refine cw_t rfl hb943 ?_
              refine cw_exit ?_
              refine qx_then (qx_same (qn_then ?_))
              refine cw_region ?_
              refine t_rd rfl (rd_move rfl) ?_
              obtain ⟨x945, h946, q947⟩ := ob q944; clear q944
              refine t_rd rfl (rd_add64 h946 rfl rfl) ?_
              refine t_rd rfl (rd_assign rfl) ?_
              refine rwt_nil ?_
              refine qn_then ?_
              refine ⟨_, (os q947), (by repeat (first | exact Sub.nil _ | refine Sub.cons rfl ?_)), (hm935.pick [0, 1] (by decide) rfl)⟩
            · refine cw_f rfl hb943 ?_
              refine cw_skip ?_
              refine qn_then ?_
              refine cw_seq ?_
              refine cw_region ?_
              refine t_rd rfl (rd_move rfl) ?_
              refine t_rd rfl (rd_move rfl) ?_
              obtain ⟨x948, h949, q950⟩ := ob q944; clear q944
              refine t_rd rfl (rd_index tS26 rfl rfl (hm935.sl 1 rfl) h949) ?_
              refine t_rd rfl (rd_fld tF32_3 rfl) ?_
              refine t_rd rfl (rd_ld1 tO3 rfl ((hm935.sl 1 rfl).cells h949) (off := 3) rfl) ?_
              refine t_rd rfl (rd_assign rfl) ?_
              refine rwt_nil ?_
              refine qn_then ?_
              refine cw_seq ?_
              refine cw_seq ?_
              obtain ⟨w952, he954⟩ : ∃ q, q = w934.drew := ⟨_, rfl⟩
              have hm953 := hm935.drew; rw [← he954] at hm953
              refine cw_region_s (fun q => q = w952) (cls [] []) mixed ?_
              rintro _ rfl; rw [← he954]
              refine s_rp (i := 0) rfl (by kernel_rfl) rfl (fun _ => (rd_move rfl)) ?_
              refine s_rp (i := 1) rfl (by kernel_rfl) rfl (fun _ => (rd_move rfl)) ?_
              obtain ⟨x955, h956, q957⟩ := ob q950; clear q950
              refine s_rp (i := 2) rfl (by kernel_rfl) rfl (fun _ => (rd_index tS26 rfl rfl (hm953.sl 1 rfl) h956)) ?_
              refine s_rp (i := 3) rfl (by kernel_rfl) rfl (fun _ => (rd_fld tF32_1 rfl)) ?_
              refine s_rd (i := 4) rfl (by kernel_rfl) rfl (fun _ hS => by rw [hS]; exact (rd_ld1 tO3 rfl ((hm953.sl 1 rfl).cells h956) (off := 1) rfl)) rfl ?_
              refine s_rp (i := 5) rfl (by kernel_rfl) rfl (fun _ => (rd_move rfl)) ?_
              refine s_rp (i := 6) rfl (by kernel_rfl) rfl (fun _ => (rd_move rfl)) ?_
              obtain ⟨x958, h959, q960⟩ := ob q957; clear q957
              refine s_rp (i := 7) rfl (by kernel_rfl) rfl (fun _ => (rd_index tS26 rfl rfl (hm953.sl 0 rfl) h959)) ?_
              refine s_rp (i := 8) rfl (by kernel_rfl) rfl (fun _ => (rd_fld tF32_1 rfl)) ?_
              refine s_rd (i := 9) rfl (by kernel_rfl) rfl (fun _ hS => by rw [hS]; exact (rd_ld1 tO3 rfl ((hm953.sl 0 rfl).cells h959) (off := 1) rfl)) rfl ?_
              obtain ⟨x961, h962, q963⟩ := ob q960; clear q960
              refine s_rp (i := 10) rfl (by kernel_rfl) rfl (fun _ => (rd_add64 h962 rfl rfl)) ?_
              refine s_rp (i := 11) rfl (by kernel_rfl) rfl (fun _ => (rd_eql rfl rfl)) ?_
              refine s_rp (i := 12) rfl (by kernel_rfl) rfl (fun _ => (rd_move rfl)) ?_
              refine s_rpg (i := 13) rfl (by kernel_rfl) rfl rfl rfl rfl (gv_t _) (fun hg964 _ => (rd_move rfl)) ?_
              refine s_rpg (i := 14) rfl (by kernel_rfl) rfl rfl rfl rfl (gv_t _) (fun hg965 _ => (rd_move rfl)) ?_
              obtain ⟨x967, h968, q969⟩ := ob q963; clear q963
              refine s_rpg (i := 15) rfl (by kernel_rfl) rfl rfl rfl rfl (gv_t _) (fun hg966 _ => (rd_index tS26 (gvx rfl hg966) (gvx rfl hg966) (hm953.sl 1 rfl) (gO_t h968 hg966))) ?_
              refine s_rpg (i := 16) rfl (by kernel_rfl) rfl rfl rfl rfl (gv_t _) (fun hg970 _ => (rd_fld tF32_1 (gvx rfl hg970))) ?_
              refine s_rdg (i := 17) rfl (by kernel_rfl) rfl rfl rfl rfl (gv_t _) (fun hg971 => (fun _ hS => by rw [hS]; exact (rd_ld1 tO3 (gvx rfl hg971) ((hm953.sl 1 rfl).cells (gO_t h968 hg971)) (off := 1) rfl))) rfl ?_
              refine s_rpg (i := 18) rfl (by kernel_rfl) rfl rfl rfl rfl (gv_t _) (fun hg972 _ => (rd_neq (gvx rfl hg972) rfl)) ?_
              refine s_rp (i := 19) rfl (by kernel_rfl) rfl (fun _ => (rd_and rfl (fun hc973 => (gvx rfl hc973)))) ?_
              refine s_rp (i := 20) rfl (by kernel_rfl) rfl (fun _ => (rd_move rfl)) ?_
              refine s_rpg (i := 21) rfl (by kernel_rfl) rfl rfl rfl rfl (gv_t _) (fun hg974 _ => (rd_move rfl)) ?_
              refine s_rpg (i := 22) rfl (by kernel_rfl) rfl rfl rfl rfl (gv_t _) (fun hg975 _ => (rd_move rfl)) ?_
              obtain ⟨x977, h978, q979⟩ := ob q969; clear q969
              refine s_rpg (i := 23) rfl (by kernel_rfl) rfl rfl rfl rfl (gv_t _) (fun hg976 _ => (rd_index tS26 (gvx rfl hg976) (gvx rfl hg976) (hm953.sl 0 rfl) (gO_t h978 hg976))) ?_
              refine s_rpg (i := 24) rfl (by kernel_rfl) rfl rfl rfl rfl (gv_t _) (fun hg980 _ => (rd_fld tF32_1 (gvx rfl hg980))) ?_
              refine s_rdg (i := 25) rfl (by kernel_rfl) rfl rfl rfl rfl (gv_t _) (fun hg981 => (fun _ hS => by rw [hS]; exact (rd_ld1 tO3 (gvx rfl hg981) ((hm953.sl 0 rfl).cells (gO_t h978 hg981)) (off := 1) rfl))) rfl ?_
              refine s_rpg (i := 26) rfl (by kernel_rfl) rfl rfl rfl rfl (gv_t _) (fun hg982 _ => (rd_neq (gvx rfl hg982) rfl)) ?_
              refine s_rp (i := 27) rfl (by kernel_rfl) rfl (fun _ => (rd_and rfl (fun hc983 => (gvx rfl hc983)))) ?_
              refine s_nil (by kernel_rfl) ?_
              refine qn_then ?_
              obtain ⟨j990, hit991, q992⟩ := ob q979; clear q979
              refine cw_join (X := fun eq envq wq => eq = .normal ∧ Sub [(1, (Value.int .i64 r8)), (6, v17), (7, v24), (8, (Value.int .i64 r28.1)), (10, (Value.bool b917)), (11, (Value.int .i64 i701)), (12, (Value.int .i64 i918)), (13, (Value.int .i64 j990))] envq ∧ Mem w No [ownL 32 v24 (r21.2 : List T_Span), ownL 32 v17 (r14.2 : List T_Span)] wq) ?_ ?_
              · clear q992
                obtain ⟨hb993, q994⟩ | ⟨hb993, q994⟩ := oi hit991 <;> clear hit991
                · refine cw_t rfl hb993 ?_
                  refine cw_region ?_
                  refine t_rd rfl (rd_move rfl) ?_
                  refine t_rd rfl (rd_move rfl) ?_
                  obtain ⟨x995, h996, q997⟩ := ob q994; clear q994
                  refine t_rd rfl (rd_add64 h996 rfl rfl) ?_
                  refine t_rd rfl (rd_assign rfl) ?_
                  refine rwt_nil ?_
                  obtain rfl := os q997
                  exact ⟨rfl, (by repeat (first | exact Sub.nil _ | refine Sub.cons rfl ?_)), (hm953.pick [0, 1] (by decide) rfl)⟩
                · refine cw_f rfl hb993 ?_
                  refine cw_skip ?_
                  obtain rfl := os q994
                  exact ⟨rfl, (by repeat (first | exact Sub.nil _ | refine Sub.cons rfl ?_)), (hm953.pick [0, 1] (by decide) rfl)⟩
              · clear hit991
                intro e env998 w999 hX1000
                obtain ⟨rfl, hs1001, hm1002⟩ := hX1000
                refine qn_then ?_
                refine cw_sub hs1001 ?_
                refine cw_seq ?_
                refine cw_seq ?_
                refine cw_region ?_
                refine t_rd rfl (rd_move rfl) ?_
                refine t_rd rfl (rd_move rfl) ?_
                refine t_rd rfl (rd_move rfl) ?_
                refine t_rd rfl (rd_move rfl) ?_
                obtain ⟨x1003, h1004, q1005⟩ := ob q992; clear q992
                refine t_rd rfl (rd_index tS26 rfl rfl (hm1002.sl 0 rfl) h1004) ?_
                refine t_rd rfl (rd_fld tF32_2 rfl) ?_
                refine t_rd rfl (rd_ld1 tO3 rfl ((hm1002.sl 0 rfl).cells h1004) (off := 2) rfl) ?_
                obtain ⟨x1006, h1007, q1008⟩ := ob q1005; clear q1005
                refine t_rd rfl (rd_add64 h1007 rfl rfl) ?_
                refine t_rd rfl (rd_gtr rfl rfl) ?_
                refine rwt_nil ?_
                refine qn_then ?_
                obtain ⟨hb1009, q1010⟩ | ⟨hb1009, q1010⟩ := oi q1008 <;> clear q1008
                · refine cw_t rfl hb1009 ?_
                  refine cw_seq ?_
                  refine cw_region ?_
                  refine t_rd rfl (rd_assign rfl) ?_
                  refine rwt_nil ?_
                  refine qn_then ?_
                  refine cw_ret ?_
                  refine qr_then (qr_block (qr_then (qr_then ?_)))
                  obtain rfl := hr924 _ (os q1010)
                  refine .inl (⟨_, rfl, ⟨rfl, ?_⟩⟩)
                  exact ret1 rfl rfl ⟨rfl, (hm1002.pick [] (by decide) rfl)⟩
                · refine cw_f rfl hb1009 ?_
                  refine cw_skip ?_
                  refine qn_then ?_
                  refine cw_region ?_
                  refine t_rd rfl (rd_move rfl) ?_
                  refine t_rd rfl (rd_move rfl) ?_
                  refine t_rdg rfl rfl rfl rfl (gv_f _) (fun hg1011 => (rd_move rfl)) ?_
                  refine t_rdg rfl rfl rfl rfl (gv_f _) (fun hg1012 => (rd_move rfl)) ?_
                  refine t_rdg rfl rfl rfl rfl (gv_f _) (fun hg1013 => (rd_move rfl)) ?_
                  refine t_rdg rfl rfl rfl rfl (gv_f _) (fun hg1014 => (rd_move rfl)) ?_
                  obtain ⟨x1016, h1017, q1018⟩ := ob q1010; clear q1010
                  refine t_rdg rfl rfl rfl rfl (gv_f _) (fun hg1015 => (rd_index tS26 (gvx rfl hg1015) (gvx rfl hg1015) (hm1002.sl 0 rfl) (gO_t h1017 hg1015))) ?_
                  refine t_rdg rfl rfl rfl rfl (gv_f _) (fun hg1019 => (rd_fld tF32_2 (gvx rfl hg1019))) ?_
                  refine t_rdg rfl rfl rfl rfl (gv_f _) (fun hg1020 => (rd_ld1 tO3 (gvx rfl hg1020) ((hm1002.sl 0 rfl).cells (gO_t h1017 hg1020)) (off := 2) rfl)) ?_
                  obtain ⟨x1022, h1023, q1024⟩ := ob q1018; clear q1018
                  refine t_rdg rfl rfl rfl rfl (gv_f _) (fun hg1021 => (rd_add64 (gO_t h1023 hg1021) (gvx rfl hg1021) (gvx rfl hg1021))) ?_
                  refine t_rdg rfl rfl rfl rfl (gv_f _) (fun hg1025 => (rd_eql (gvx rfl hg1025) (gvx rfl hg1025))) ?_
                  refine t_rd rfl (rd_or rfl (fun hc1026 => (gvx rfl (bnotIt hc1026)))) ?_
                  refine t_rd rfl (rd_assign rfl) ?_
                  refine rwt_nil ?_
                  refine qn_block (qn_then ?_)
                  refine cw_region ?_
                  refine t_rd rfl (rd_move rfl) ?_
                  obtain ⟨x1027, h1028, q1029⟩ := ob q1024; clear q1024
                  refine t_rd rfl (rd_add64 h1028 rfl rfl) ?_
                  refine t_rd rfl (rd_assign rfl) ?_
                  refine rwt_nil ?_
                  refine qn_then ?_
                  refine ⟨_, (os q1029), (by repeat (first | exact Sub.nil _ | refine Sub.cons rfl ?_)), (hm1002.pick [0, 1] (by decide) rfl)⟩
          · refine cw_f rfl hb931 ?_
            refine cw_exit ?_
            refine qx_then (qx_then ?_)
            obtain rfl := hr924 _ (os q932)
            exact .inr (⟨_, rfl, ⟨rfl, (by repeat (first | exact Sub.nil _ | refine Sub.cons rfl ?_)), (hm930.pick [0, 1] (by decide) rfl)⟩⟩)
        · skip
          intro e env1030 w1031 hX1032
          rcases hX1032 with hX1032 | hX1032
          · obtain ⟨p1034, rfl, hX1032⟩ := hX1032
            obtain ⟨rfl, hq1036⟩ := hX1032
            obtain rfl := hr707 _ (os q927)
            exact qr_block (qr_block (qr_then (qr_then (.inl (⟨_, rfl, ⟨rfl, hq1036⟩⟩)))))
          · obtain ⟨p1037, rfl, hX1032⟩ := hX1032
            obtain ⟨rfl, hs1038, hm1039⟩ := hX1032
            refine qx_same (qn_block (qn_then ?_))
            refine cw_sub hs1038 ?_
            refine cw_region ?_
            refine t_rd rfl (rd_move rfl) ?_
            obtain ⟨x1040, h1041, q1042⟩ := ob q927; clear q927
            refine t_rd rfl (rd_add64 h1041 rfl rfl) ?_
            refine t_rd rfl (rd_assign rfl) ?_
            refine rwt_nil ?_
            refine qn_then ?_
            refine ⟨_, (os q1042), (by repeat (first | exact Sub.nil _ | refine Sub.cons rfl ?_)), (hm1039.pick [0, 1] (by decide) rfl)⟩
      · refine cw_f rfl hb714 ?_
        refine cw_exit ?_
        refine qx_then (qx_then ?_)
        obtain rfl := hr707 _ (os q715)
        exact .inr (⟨_, rfl, ⟨rfl, (by repeat (first | exact Sub.nil _ | refine Sub.cons rfl ?_)), (hm713.pick [] (by decide) rfl)⟩⟩)
    · skip
      intro e env1043 w1044 hX1045
      rcases hX1045 with hX1045 | hX1045
      · obtain ⟨p1047, rfl, hX1045⟩ := hX1045
        obtain ⟨rfl, hq1049⟩ := hX1045
        exact qr_block (qr_then ((by have e := os q710; subst e; exact hq1049)))
      · obtain ⟨p1050, rfl, hX1045⟩ := hX1045
        obtain ⟨rfl, hs1051, hm1052⟩ := hX1045
        refine qx_same (qn_then ?_)
        refine cw_sub hs1051 ?_
        refine cw_seq ?_
        refine cw_region ?_
        refine t_rd rfl (rd_move rfl) ?_
        refine t_rd rfl (rd_move rfl) ?_
        obtain ⟨r1054, h1055, q1056⟩ := ob q710; clear q710
        refine t_efg rfl rfl rfl rfl (R := (fun v w' => v = gV p1050 (Value.bool r1054) ∧ Mem w1044 No [] w')) (gv_t _) (fun hg1053 => (ef_call tf13 rfl (law23_sane_ok (gO_t h1055 hg1053))).mono (by rintro _ _ ⟨rfl, q⟩; exact ⟨(gV_t hg1053).symm, q⟩)) (fun q => ⟨(gV_f q).symm, Mem.nil _⟩) ?_
        rintro _ w1058 ⟨rfl, hm1057⟩
        have hm1059 := hm1052.call hm1057
        refine t_rd rfl (rd_and rfl (fun hc1060 => (gvx rfl hc1060))) ?_
        refine t_rd rfl (rd_assign rfl) ?_
        refine rwt_nil ?_
        refine qn_then ?_
        refine cw_ret ?_
        obtain rfl := os q1056
        exact ret1 rfl rfl ⟨rfl, (hm1059.pick [] (by decide) rfl)⟩

theorem yardgen_SpanLists_ok {N : Nat} {a0_l : List Int} {a0_n : Int} {a1 : Int} {res : Int × List (List T_Span)} (h : yardgen_SpanLists N a0_l a0_n a1 = some res) {w : World} {v0_l : Value} {g0 : Nat} (hv0_l : Sl (Old w (fun k => k = g0)) w v0_l a0_l) (hk0 : (blk g0 52 [v0_l, (Value.int .i64 a0_n)]).φ w) :
    CallsR Try.prog 14 [(Value.pointer (some ⟨g0, 0, none⟩)), (Value.int .i64 a1)] w (fun u w' => ∃ (zy0 : List Hdr) (y1 : Value), u = y1 ∧ Mem w (fun k => k = g0) [blk g0 52 [v0_l, (Value.int .i64 res.1)], ownL 26 y1 (zy0 : List Hdr), rowsC 32 zy0 (res.2 : List (List T_Span)) none] w') := by
  unfold yardgen_SpanLists at h
  refine fn_ok Try.func14 rfl rfl rfl ?_
  have hm0 := Mem.one hk0
  refine cw_seq ?_
  refine cw_region ?_
  refine t_rd rfl (rd_assign rfl) ?_
  refine rwt_nil ?_
  refine qn_then ?_
  refine cw_seq ?_
  refine cw_region ?_
  refine t_rd rfl (rd_assign rfl) ?_
  refine rwt_nil ?_
  refine qn_then ?_
  refine cw_seq ?_
  refine cw_seq ?_
  refine cw_region ?_
  refine t_rd rfl (rd_move rfl) ?_
  refine t_rd rfl (rd_move rfl) ?_
  obtain ⟨x629, h630, q631⟩ := ob h; clear h
  refine t_rd rfl (rd_add64 h630 rfl rfl) ?_
  obtain ⟨r632, h633, q634⟩ := ob q631; clear q631
  refine t_ef rfl (ef_call tf23 rfl (Maker_Next_ok h633 (hv0_l.to_callT (k := 0) hm0 rfl) (hm0.get (k := 0) rfl))) ?_
  rintro _ w636 ⟨e_, hm635⟩
  obtain rfl := e_.symm
  have hm637 := hm0.callT (k := 0) rfl (fun _ h => h) hm635 (fun _ => Iff.rfl)
  refine t_rd rfl (rd_assign rfl) ?_
  refine rwt_nil ?_
  refine qn_then ?_
  refine cw_block ?_
  have hm786 := hm637.addNil (α := Hdr) 26
  have hm787 := hm786.rowsNil (α := T_Span) 32
  obtain ⟨r1102, hit1103, q1104⟩ := ob q634; clear q634
  refine cw_loop2 (I := fun q envq wq => ∃ (v1094 : Value) (zs1095 : List Hdr), Sub [(0, (Value.pointer (some ⟨g0, 0, none⟩))), (5, v1094), (6, (Value.int .i64 q.1))] envq ∧ Mem w (fun k => k = g0) [rowsC 32 zs1095 (q.2.2 : List (List T_Span)) none, ownL 26 v1094 (zs1095 : List Hdr), blk g0 52 [v0_l, (Value.int .i64 q.2.1)]] wq) (X := fun eq envq wq => eq = .exit 0 ∧ ∃ (v1089 : Value) (zs1090 : List Hdr), Sub [(5, v1089)] envq ∧ Mem w (fun k => k = g0) [rowsC 32 zs1090 (r1102.2 : List (List T_Span)) none, ownL 26 v1089 (zs1090 : List Hdr), blk g0 52 [v0_l, (Value.int .i64 r1102.1)]] wq) hit1103 ⟨(Value.slice none 0 0), [], (by repeat (first | exact Sub.nil _ | refine Sub.cons rfl ?_)), (hm787.pick [0, 1, 2] (by decide) rfl)⟩ ?_ ?_
  · rintro ⟨i1091, i1092, l1093⟩ x1097 env1098 w1099 hf1100 hr1101 ⟨v1094, zs1095, hs_, hm_⟩
    have hs_ : Sub [(0, (Value.pointer (some ⟨g0, 0, none⟩))), (5, v1094), (6, (Value.int .i64 i1091))] env1098 := hs_
    have hm1105 : Mem w (fun k => k = g0) [rowsC 32 zs1095 (l1093 : List (List T_Span)) none, ownL 26 v1094 (zs1095 : List Hdr), blk g0 52 [v0_l, (Value.int .i64 i1092)]] w1099 := hm_
    refine cw_sub hs_ ?_
    clear hs_ hm_ q1104
    have h : yardgen_SpanLists_l4 N a0_l i1091 i1092 l1093 = some x1097 := hf1100
    clear hf1100
    refine cw_seq ?_
    refine cw_seq ?_
    refine cw_region ?_
    refine t_rd rfl (rd_move rfl) ?_
    refine t_rd rfl (rd_gtr rfl rfl) ?_
    refine rwt_nil ?_
    refine qn_then ?_
    obtain ⟨hb1106, q1107⟩ | ⟨hb1106, q1107⟩ := oi h <;> clear h
    · refine cw_t rfl hb1106 ?_
      refine cw_skip ?_
      refine qn_then ?_
      refine cw_seq ?_
      refine cw_block ?_
      refine cw_seq ?_
      refine cw_region ?_
      refine t_rd rfl (rd_move rfl) ?_
      obtain ⟨r1108, h1109, q1110⟩ := ob q1107; clear q1107
      refine t_ef rfl (ef_call tf11 rfl (yardgen_Spans_ok h1109 (hv0_l.to_callT (k := 2) hm1105 rfl) (hm1105.get (k := 2) rfl))) ?_
      rintro _ w1113 ⟨v1111, e_, hm1112⟩
      obtain rfl := e_.symm
      have hm1114 := hm1105.callT (k := 2) rfl (fun _ h => h) hm1112 (fun _ => Iff.rfl)
      refine t_rd rfl (rd_assign rfl) ?_
      refine rwt_nil ?_
      refine qn_then ?_
      refine cw_seq ?_
      refine cw_seq ?_
      refine cw_region ?_
      refine t_rd rfl (rd_assign rfl) ?_
      refine rwt_nil ?_
      refine qn_then ?_
      refine cw_block ?_
      obtain ⟨r1193, hit1194, q1195⟩ := ob q1110; clear q1110
      refine cw_loop2 (I := fun q envq wq => Sub [(0, (Value.pointer (some ⟨g0, 0, none⟩))), (5, v1094), (6, (Value.int .i64 i1091)), (7, v1111), (8, (Value.int .i64 q.1))] envq ∧ Mem w (fun k => k = g0) [ownL 32 v1111 (q.2.2 : List T_Span), rowsC 32 zs1095 (l1093 : List (List T_Span)) none, ownL 26 v1094 (zs1095 : List Hdr), blk g0 52 [v0_l, (Value.int .i64 q.2.1)]] wq) (X := fun eq envq wq => eq = .exit 2 ∧ Sub [(0, (Value.pointer (some ⟨g0, 0, none⟩))), (5, v1094), (6, (Value.int .i64 i1091)), (7, v1111)] envq ∧ Mem w (fun k => k = g0) [ownL 32 v1111 (r1193.2 : List T_Span), rowsC 32 zs1095 (l1093 : List (List T_Span)) none, ownL 26 v1094 (zs1095 : List Hdr), blk g0 52 [v0_l, (Value.int .i64 r1193.1)]] wq) hit1194 ⟨(by repeat (first | exact Sub.nil _ | refine Sub.cons rfl ?_)), (hm1114.pick [0, 1, 2, 3] (by decide) rfl)⟩ ?_ ?_
      · rintro ⟨i1184, i1185, l1186⟩ x1188 env1189 w1190 hf1191 hr1192 ⟨hs_, hm_⟩
        have hs_ : Sub [(0, (Value.pointer (some ⟨g0, 0, none⟩))), (5, v1094), (6, (Value.int .i64 i1091)), (7, v1111), (8, (Value.int .i64 i1184))] env1189 := hs_
        have hm1196 : Mem w (fun k => k = g0) [ownL 32 v1111 (l1186 : List T_Span), rowsC 32 zs1095 (l1093 : List (List T_Span)) none, ownL 26 v1094 (zs1095 : List Hdr), blk g0 52 [v0_l, (Value.int .i64 i1185)]] w1190 := hm_
        refine cw_sub hs_ ?_
        clear hs_ hm_ q1195
        have h : yardgen_SpanLists_l5 N a0_l i1184 i1185 l1186 = some x1188 := hf1191
        clear hf1191
        refine cw_seq ?_
        refine cw_seq ?_
        refine cw_region ?_
        refine t_rd rfl (rd_move rfl) ?_
        refine t_rd rfl (rd_move rfl) ?_
        refine t_rd rfl (rd_lenS tS26 rfl (hm1196.sl 0 rfl)) ?_
        refine t_rd rfl (rd_lss rfl rfl) ?_
        refine rwt_nil ?_
        refine qn_then ?_
        obtain ⟨hb1197, q1198⟩ | ⟨hb1197, q1198⟩ := oi h <;> clear h
        · refine cw_t rfl hb1197 ?_
          refine cw_skip ?_
          refine qn_then ?_
          refine cw_seq ?_
          refine cw_block ?_
          refine cw_seq ?_
          refine cw_region ?_
          refine t_rd rfl (rd_move rfl) ?_
          refine t_rd rfl (rd_move rfl) ?_
          obtain ⟨x1199, h1200, q1201⟩ := ob q1198; clear q1198
          refine t_rd rfl (rd_index tS26 rfl rfl (hm1196.sl 0 rfl) h1200) ?_
          refine t_rd rfl (rd_fld tF32_1 rfl) ?_
          refine t_ef0 (ef_stl (k := 0) (off := 1) (x' := (T_Span.mk x1199.Element 0 x1199.From x1199.To)) hm1196 tO3 rfl rfl rfl rfl h1200 rfl rfl) ?_
          intro _ w1203 hm1202
          refine rwt_nil ?_
          refine qn_then ?_
          refine cw_seq ?_
          refine cw_region ?_
          refine t_rd rfl (rd_move rfl) ?_
          refine t_rd rfl (rd_move rfl) ?_
          obtain ⟨x1204, h1205, q1206⟩ := ob q1201; clear q1201
          refine t_rd rfl (rd_index tS26 rfl rfl (hm1202.sl 0 rfl) h1205) ?_
          refine t_rd rfl (rd_fld tF32_0 rfl) ?_
          refine t_rd rfl (rd_ld1 tO3 rfl ((hm1202.sl 0 rfl).cells h1205) (off := 0) rfl) ?_
          refine t_rd rfl (rd_rem rfl rfl (by decide)) ?_
          refine t_rd rfl (rd_eql rfl rfl) ?_
          refine rwt_nil ?_
          refine qn_then ?_
          obtain ⟨hb1207, q1208⟩ | ⟨hb1207, q1208⟩ := oi q1206 <;> clear q1206
          · refine cw_t rfl hb1207 ?_
            refine cw_region ?_
            refine t_rd rfl (rd_move rfl) ?_
            refine t_rd rfl (rd_move rfl) ?_
            refine t_rd rfl (rd_move rfl) ?_
            refine t_ef rfl (ef_bslice (l := ([1, 2] : List Int)) hm1202 tS22 rfl (cs := #[(Value.int .i64 1), (Value.int .i64 2)]) (by unfold bsl; kernel_rfl) rfl rfl) ?_
            intro v1209 w1211 hm1210
            obtain ⟨r1212, h1213, q1214⟩ := ob q1208; clear q1208
            refine t_ef rfl (ef_call tf15 rfl (Maker_Pick_ok h1213 (hv0_l.to_callT (k := 4) hm1210 rfl) (hm1210.get (k := 4) rfl) (hm1210.sl_callT 0 4 rfl rfl (by decide)))) ?_
            rintro _ w1216 ⟨e_, hm1215⟩
            obtain rfl := e_.symm
            have hm1217 := hm1210.callT (k := 4) rfl (fun _ h => h) hm1215 (fun _ => Iff.rfl)
            obtain ⟨x1218, h1219, q1220⟩ := ob q1214; clear q1214
            refine t_rd rfl (rd_index tS26 rfl rfl (hm1217.sl 1 rfl) h1219) ?_
            refine t_rd rfl (rd_fld tF32_1 rfl) ?_
            refine t_ef0 (ef_stl (k := 1) (off := 1) (x' := (T_Span.mk x1218.Element r1212.2 x1218.From x1218.To)) hm1217 tO3 rfl rfl rfl rfl h1219 rfl rfl) ?_
            intro _ w1222 hm1221
            refine rwt_nil ?_
            refine qn_block (qn_then ?_)
            refine cw_region ?_
            refine t_rd rfl (rd_move rfl) ?_
            obtain ⟨x1223, h1224, q1225⟩ := ob q1220; clear q1220
            refine t_rd rfl (rd_add64 h1224 rfl rfl) ?_
            refine t_rd rfl (rd_assign rfl) ?_
            refine rwt_nil ?_
            refine qn_then ?_
            refine ⟨_, (os q1225), (by repeat (first | exact Sub.nil _ | refine Sub.cons rfl ?_)), (hm1221.pick [1, 2, 3, 4] (by decide) rfl)⟩
          · refine cw_f rfl hb1207 ?_
            refine cw_skip ?_
            refine qn_block (qn_then ?_)
            refine cw_region ?_
            refine t_rd rfl (rd_move rfl) ?_
            obtain ⟨x1226, h1227, q1228⟩ := ob q1208; clear q1208
            refine t_rd rfl (rd_add64 h1227 rfl rfl) ?_
            refine t_rd rfl (rd_assign rfl) ?_
            refine rwt_nil ?_
            refine qn_then ?_
            refine ⟨_, (os q1228), (by repeat (first | exact Sub.nil _ | refine Sub.cons rfl ?_)), (hm1202.pick [0, 1, 2, 3] (by decide) rfl)⟩
        · refine cw_f rfl hb1197 ?_
          refine cw_exit ?_
          refine qx_then (qx_then ?_)
          obtain rfl := hr1192 _ (os q1198)
          exact ⟨rfl, (by repeat (first | exact Sub.nil _ | refine Sub.cons rfl ?_)), (hm1196.pick [0, 1, 2, 3] (by decide) rfl)⟩
      · skip
        intro e env1229 w1230 hX1231
        obtain ⟨rfl, hs1232, hm1233⟩ := hX1231
        refine qx_same (qn_then ?_)
        refine cw_sub hs1232 ?_
        refine cw_region ?_
        refine t_rd rfl (rd_move rfl) ?_
        refine t_rd rfl (rd_move rfl) ?_
        obtain ⟨zd1234, ez1235⟩ : ∃ z : Hdr, z.1 = v1111 := ⟨⟨v1111, sl_one (hm1233.sl 0 rfl)⟩, rfl⟩
        refine t_ef rfl (ef_bslice (l := ([zd1234] : List Hdr)) hm1233 tS35 rfl (cs := #[v1111]) (by obtain ⟨_, _, e⟩ : ∃ A c, v1111 = Value.slice A (List.length r1193.2) c := ((hm1233.sl 0 rfl)).val; rw [e]; clear e; unfold bsl; kernel_rfl) (by show [zd1234.1] = [v1111]; rw [ez1235]) rfl) ?_
        intro v1236 w1238 hm1237
        obtain ⟨l1239, h1240, q1241⟩ := ob q1195; clear q1195
        obtain ⟨ha1242, he1243⟩ := app_h h1240 (hm1237.get (k := 2) rfl).1 ((Nl.mk (hm1237.sl_call 0 rfl) (Rows.cons (hm1237.sl_call 1 rfl) ez1235 Rows.nil))).rows.1
        refine t_ef rfl (ef_append (k := 3) hm1237 tS35 tE26 rfl rfl rfl rfl ((Nl.mk (hm1237.sl_call 0 rfl) (Rows.cons (hm1237.sl_call 1 rfl) ez1235 Rows.nil))).sp ha1242) ?_
        intro v1244 w1246 hm1245
        have hm1247 := hm1245.pick [2, 1, 0, 3, 4] (L' := [rowsC 32 zs1095 (l1093 : List (List T_Span)) none, ownL 32 v1111 (r1193.2 : List T_Span), ownL 26 v1236 ([zd1234] : List Hdr), ownL 26 v1244 ((zs1095 ++ [zd1234]) : List Hdr), blk g0 52 [v0_l, (Value.int .i64 r1193.1)]]) (by decide) rfl
        have hm1248 := hm1247.absorb ez1235 he1243
        refine t_rd rfl (rd_assign rfl) ?_
        refine rwt_nil ?_
        refine qn_block (qn_then ?_)
        refine cw_region ?_
        refine t_rd rfl (rd_move rfl) ?_
        obtain ⟨x1249, h1250, q1251⟩ := ob q1241; clear q1241
        refine t_rd rfl (rd_sub64 h1250 rfl rfl) ?_
        refine t_rd rfl (rd_assign rfl) ?_
        refine rwt_nil ?_
        refine qn_then ?_
        refine ⟨_, (os q1251), v1244, (zs1095 ++ [zd1234]), (by repeat (first | exact Sub.nil _ | refine Sub.cons rfl ?_)), (hm1248.pick [0, 2, 3] (by decide) rfl)⟩
    · refine cw_f rfl hb1106 ?_
      refine cw_exit ?_
      refine qx_then (qx_then ?_)
      obtain rfl := hr1101 _ (os q1107)
      exact ⟨rfl, v1094, zs1095, (by repeat (first | exact Sub.nil _ | refine Sub.cons rfl ?_)), (hm1105.pick [0, 1, 2] (by decide) rfl)⟩
  · skip
    intro e env1252 w1253 hX1254
    obtain ⟨rfl, v1089, zs1090, hs1255, hm1256⟩ := hX1254
    refine qx_same (qn_then ?_)
    refine cw_sub hs1255 ?_
    refine cw_seq ?_
    refine cw_region ?_
    refine t_rd rfl (rd_move rfl) ?_
    refine t_rd rfl (rd_assign rfl) ?_
    refine rwt_nil ?_
    refine qn_then ?_
    refine cw_ret ?_
    obtain rfl := os q1104
    exact ret1 rfl rfl ⟨zs1090, v1089, rfl, (hm1256.pick [2, 1, 0] (by decide) rfl)⟩

theorem r23_Valid_ok {N : Nat} {a0 : List T_Span} {res : Bool} (h : r23_Valid N a0 = some res) {w : World} {v0 : Value} (hv0 : Sl (Old w No) w v0 a0) :
    CallsR Try.prog 32 [v0] w (fun u w' => u = (Value.bool res) ∧ Mem w No [] w') := by
  unfold r23_Valid at h
  refine fn_ok Try.func32 rfl rfl rfl ?_
  have hm0 := Mem.nil w
  refine cw_seq ?_
  refine cw_region ?_
  refine t_rd rfl (rd_assign rfl) ?_
  refine rwt_nil ?_
  refine qn_then ?_
  refine cw_seq ?_
  refine cw_seq ?_
  refine cw_region ?_
  refine t_rd rfl (rd_move rfl) ?_
  refine t_rd rfl (rd_lenS tS26 rfl (hv0.of_old hm0)) ?_
  refine t_rd rfl (rd_gtr rfl rfl) ?_
  refine rwt_nil ?_
  refine qn_then ?_
  obtain ⟨hb1, q2⟩ | ⟨hb1, q2⟩ := oi h <;> clear h
  · refine cw_t rfl hb1 ?_
    refine cw_seq ?_
    refine cw_region ?_
    refine t_rd rfl (rd_assign rfl) ?_
    refine rwt_nil ?_
    refine qn_then ?_
    refine cw_ret ?_
    refine qr_then ?_
    obtain rfl := os q2
    exact ret1 rfl rfl ⟨rfl, (hm0.pick [] (by decide) rfl)⟩
  · refine cw_f rfl hb1 ?_
    refine cw_skip ?_
    refine qn_then ?_
    refine cw_seq ?_
    refine cw_seq ?_
    refine cw_region ?_
    refine t_rd rfl (rd_assign rfl) ?_
    refine rwt_nil ?_
    refine qn_then ?_
    refine cw_block ?_
    obtain ⟨r217, hit218, q219⟩ := ob q2; clear q2
    refine cw_loop2 (I := fun q envq wq => Sub [(0, v0), (3, (Value.int .i64 q))] envq ∧ Mem w No [] wq) (X := fun eq envq wq => (∃ p220, r217 = (Sum.inl p220) ∧ eq = .ret ∧ retQ Try.prog 62 Try.f32 (fun u w' => u = (Value.bool p220) ∧ Mem w No [] w') .ret envq wq) ∨ (∃ p221, r217 = (Sum.inr p221) ∧ eq = .exit 0 ∧ Sub [] envq ∧ Mem w No [] wq)) hit218 ⟨(by repeat (first | exact Sub.nil _ | refine Sub.cons rfl ?_)), (hm0.pick [] (by decide) rfl)⟩ ?_ ?_
    · rintro i210 x212 env213 w214 hf215 hr216 ⟨hs_, hm_⟩
      have hs_ : Sub [(0, v0), (3, (Value.int .i64 i210))] env213 := hs_
      have hm222 : Mem w No [] w214 := hm_
      refine cw_sub hs_ ?_
      clear hs_ hm_ q219
      have h : r23_Valid_l3 N a0 i210 = some x212 := hf215
      clear hf215
      refine cw_seq ?_
      refine cw_seq ?_
      refine cw_region ?_
      refine t_rd rfl (rd_move rfl) ?_
      refine t_rd rfl (rd_move rfl) ?_
      refine t_rd rfl (rd_lenS tS26 rfl (hv0.of_old hm222)) ?_
      refine t_rd rfl (rd_lss rfl rfl) ?_
      refine rwt_nil ?_
      refine qn_then ?_
      obtain ⟨hb223, q224⟩ | ⟨hb223, q224⟩ := oi h <;> clear h
      · refine cw_t rfl hb223 ?_
        refine cw_skip ?_
        refine qn_then ?_
        refine cw_seq ?_
        refine cw_block ?_
        refine cw_seq ?_
        refine cw_region ?_
        refine t_rd rfl (rd_move rfl) ?_
        refine t_rd rfl (rd_move rfl) ?_
        obtain ⟨x225, h226, q227⟩ := ob q224; clear q224
        refine t_rd rfl (rd_index tS26 rfl rfl (hv0.of_old hm222) h226) ?_
        refine t_rd rfl (rd_ld tA32 rfl ((hv0.of_old hm222).cells h226) rfl) ?_
        refine t_ef rfl (ef_alloc hm222 tZ32 rfl) ?_
        rintro _ w230 ⟨g228, rfl, hm229⟩
        refine t_ef0 (ef_stw (k := 0) hm229 tA32 rfl rfl (oc_cons rfl (oc_cons rfl (oc_cons rfl (oc_cons rfl oc_nil)))) rfl rfl rfl) ?_
        intro _ w232 hm231
        refine rwt_nil ?_
        refine qn_then ?_
        refine cw_seq ?_
        refine cw_seq ?_
        refine cw_region ?_
        refine t_rd rfl (rd_fld tF32_0 rfl) ?_
        refine t_rd rfl (rd_ld1 tO3 rfl (hm231.blk 0 rfl) (off := 0) rfl) ?_
        refine t_rd rfl (rd_lss rfl rfl) ?_
        refine t_rd rfl (rd_move rfl) ?_
        refine t_rdg rfl rfl rfl rfl (gv_f _) (fun hg233 => (rd_fld tF32_1 rfl)) ?_
        refine t_rdg rfl rfl rfl rfl (gv_f _) (fun hg234 => (rd_ld1 tO3 (gvx rfl hg234) (hm231.blk 0 rfl) (off := 1) rfl)) ?_
        refine t_rdg rfl rfl rfl rfl (gv_f _) (fun hg235 => (rd_lss (gvx rfl hg235) rfl)) ?_
        refine t_rd rfl (rd_or rfl (fun hc236 => (gvx rfl (bnotIt hc236)))) ?_
        refine t_rd rfl (rd_move rfl) ?_
        refine t_rdg rfl rfl rfl rfl (gv_f _) (fun hg237 => (rd_fld tF32_1 rfl)) ?_
        refine t_rdg rfl rfl rfl rfl (gv_f _) (fun hg238 => (rd_ld1 tO3 (gvx rfl hg238) (hm231.blk 0 rfl) (off := 1) rfl)) ?_
        refine t_rdg rfl rfl rfl rfl (gv_f _) (fun hg239 => (rd_gtr (gvx rfl hg239) rfl)) ?_
        refine t_rd rfl (rd_or rfl (fun hc240 => (gvx rfl (bnotIt hc240)))) ?_
        refine t_rd rfl (rd_move rfl) ?_
        refine t_rdg rfl rfl rfl rfl (gv_f _) (fun hg241 => (rd_fld tF32_2 rfl)) ?_
        refine t_rdg rfl rfl rfl rfl (gv_f _) (fun hg242 => (rd_ld1 tO3 (gvx rfl hg242) (hm231.blk 0 rfl) (off := 2) rfl)) ?_
        refine t_rdg rfl rfl rfl rfl (gv_f _) (fun hg243 => (rd_lss (gvx rfl hg243) rfl)) ?_
        refine t_rd rfl (rd_or rfl (fun hc244 => (gvx rfl (bnotIt hc244)))) ?_
        refine t_rd rfl (rd_move rfl) ?_
        refine t_rdg rfl rfl rfl rfl (gv_f _) (fun hg245 => (rd_fld tF32_2 rfl)) ?_
        refine t_rdg rfl rfl rfl rfl (gv_f _) (fun hg246 => (rd_ld1 tO3 (gvx rfl hg246) (hm231.blk 0 rfl) (off := 2) rfl)) ?_
        refine t_rdg rfl rfl rfl rfl (gv_f _) (fun hg247 => (rd_fld tF32_3 rfl)) ?_
        refine t_rdg rfl rfl rfl rfl (gv_f _) (fun hg248 => (rd_ld1 tO3 (gvx rfl hg248) (hm231.blk 0 rfl) (off := 3) rfl)) ?_
        refine t_rdg rfl rfl rfl rfl (gv_f _) (fun hg249 => (rd_geq (gvx rfl hg249) (gvx rfl hg249))) ?_
        refine t_rd rfl (rd_or rfl (fun hc250 => (gvx rfl (bnotIt hc250)))) ?_
        refine t_rd rfl (rd_move rfl) ?_
        refine t_rdg rfl rfl rfl rfl (gv_f _) (fun hg251 => (rd_fld tF32_3 rfl)) ?_
        refine t_rdg rfl rfl rfl rfl (gv_f _) (fun hg252 => (rd_ld1 tO3 (gvx rfl hg252) (hm231.blk 0 rfl) (off := 3) rfl)) ?_
        refine t_rdg rfl rfl rfl rfl (gv_f _) (fun hg253 => (rd_gtr (gvx rfl hg253) rfl)) ?_
        refine t_rd rfl (rd_or rfl (fun hc254 => (gvx rfl (bnotIt hc254)))) ?_
        refine rwt_nil ?_
        refine qn_then ?_
        obtain ⟨hb255, q256⟩ | ⟨hb255, q256⟩ := oi q227 <;> clear q227
        · refine cw_t rfl hb255 ?_
          refine cw_seq ?_
          refine cw_region ?_
          refine t_rd rfl (rd_assign rfl) ?_
          refine rwt_nil ?_
          refine qn_then ?_
          refine cw_ret ?_
          refine qr_then (qr_block (qr_then (qr_then ?_)))
          obtain rfl := hr216 _ (os q256)
          refine .inl (⟨_, rfl, ⟨rfl, ?_⟩⟩)
          exact ret1 rfl rfl ⟨rfl, (hm231.pick [] (by decide) rfl)⟩
        · refine cw_f rfl hb255 ?_
          refine cw_skip ?_
          refine qn_then ?_
          refine cw_seq ?_
          refine cw_region ?_
          refine t_rd rfl (rd_assign rfl) ?_
          refine rwt_nil ?_
          refine qn_then ?_
          refine cw_block ?_
          obtain ⟨r293, hit294, q295⟩ := ob q256; clear q256
          refine cw_loop2 (I := fun q envq wq => Sub [(0, v0), (3, (Value.int .i64 i210)), (4, (Value.pointer (some ⟨g228, 0, none⟩))), (5, (Value.int .i64 q))] envq ∧ Mem w No [blk g228 32 [(Value.int .i64 x225.Element), (Value.int .i64 x225.Side), (Value.int .i64 x225.From), (Value.int .i64 x225.To)]] wq) (X := fun eq envq wq => (∃ p296, r293 = (Sum.inl p296) ∧ eq = .ret ∧ retQ Try.prog 62 Try.f32 (fun u w' => u = (Value.bool p296) ∧ Mem w No [] w') .ret envq wq) ∨ (∃ p297, r293 = (Sum.inr p297) ∧ eq = .exit 2 ∧ Sub [(0, v0), (3, (Value.int .i64 i210))] envq ∧ Mem w No [] wq)) hit294 ⟨(by repeat (first | exact Sub.nil _ | refine Sub.cons rfl ?_)), (hm231.pick [0] (by decide) rfl)⟩ ?_ ?_
          · rintro i286 x288 env289 w290 hf291 hr292 ⟨hs_, hm_⟩
            have hs_ : Sub [(0, v0), (3, (Value.int .i64 i210)), (4, (Value.pointer (some ⟨g228, 0, none⟩))), (5, (Value.int .i64 i286))] env289 := hs_
            have hm298 : Mem w No [blk g228 32 [(Value.int .i64 x225.Element), (Value.int .i64 x225.Side), (Value.int .i64 x225.From), (Value.int .i64 x225.To)]] w290 := hm_
            refine cw_sub hs_ ?_
            clear hs_ hm_ q295
            have h : r23_Valid_l4 N a0 i210 x225 i286 = some x288 := hf291
            clear hf291
            refine cw_seq ?_
            refine cw_seq ?_
            refine cw_region ?_
            refine t_rd rfl (rd_move rfl) ?_
            refine t_rd rfl (rd_move rfl) ?_
            refine t_rd rfl (rd_lss rfl rfl) ?_
            refine rwt_nil ?_
            refine qn_then ?_
            obtain ⟨hb299, q300⟩ | ⟨hb299, q300⟩ := oi h <;> clear h
            · refine cw_t rfl hb299 ?_
              refine cw_skip ?_
              refine qn_then ?_
              refine cw_seq ?_
              refine cw_block ?_
              refine cw_seq ?_
              obtain ⟨w302, he304⟩ : ∃ q, q = w290.drew := ⟨_, rfl⟩
              have hm303 := hm298.drew; rw [← he304] at hm303
              refine cw_region_s (fun q => q = w302) (cls [] []) mixed ?_
              rintro _ rfl; rw [← he304]
              refine s_rp (i := 0) rfl (by kernel_rfl) rfl (fun _ => (rd_move rfl)) ?_
              refine s_rp (i := 1) rfl (by kernel_rfl) rfl (fun _ => (rd_move rfl)) ?_
              obtain ⟨x305, h306, q307⟩ := ob q300; clear q300
              refine s_rp (i := 2) rfl (by kernel_rfl) rfl (fun _ => (rd_index tS26 rfl rfl (hv0.of_old hm303) h306)) ?_
              refine s_rp (i := 3) rfl (by kernel_rfl) rfl (fun _ => (rd_fld tF32_0 rfl)) ?_
              refine s_rd (i := 4) rfl (by kernel_rfl) rfl (fun _ hS => by rw [hS]; exact (rd_ld1 tO3 rfl ((hv0.of_old hm303).cells h306) (off := 0) rfl)) rfl ?_
              refine s_rp (i := 5) rfl (by kernel_rfl) rfl (fun _ => (rd_fld tF32_0 rfl)) ?_
              refine s_rd (i := 6) rfl (by kernel_rfl) rfl (fun _ hS => by rw [hS]; exact (rd_ld1 tO3 rfl (hm303.blk 0 rfl) (off := 0) rfl)) rfl ?_
              refine s_rp (i := 7) rfl (by kernel_rfl) rfl (fun _ => (rd_eql rfl rfl)) ?_
              refine s_nil (by kernel_rfl) ?_
              refine qn_then ?_
              obtain ⟨hb308, q309⟩ | ⟨hb308, q309⟩ := oi q307 <;> clear q307
              · refine cw_t rfl hb308 ?_
                refine cw_seq ?_
                refine cw_region ?_
                refine t_rd rfl (rd_assign rfl) ?_
                refine rwt_nil ?_
                refine qn_then ?_
                refine cw_ret ?_
                refine qr_block (qr_then (qr_then ?_))
                obtain rfl := hr292 _ (os q309)
                refine .inl (⟨_, rfl, ⟨rfl, ?_⟩⟩)
                exact ret1 rfl rfl ⟨rfl, (hm303.pick [] (by decide) rfl)⟩
              · refine cw_f rfl hb308 ?_
                refine cw_skip ?_
                refine qn_block (qn_then ?_)
                refine cw_region ?_
                refine t_rd rfl (rd_move rfl) ?_
                obtain ⟨x310, h311, q312⟩ := ob q309; clear q309
                refine t_rd rfl (rd_add64 h311 rfl rfl) ?_
                refine t_rd rfl (rd_assign rfl) ?_
                refine rwt_nil ?_
                refine qn_then ?_
                refine ⟨_, (os q312), (by repeat (first | exact Sub.nil _ | refine Sub.cons rfl ?_)), (hm303.pick [0] (by decide) rfl)⟩
            · refine cw_f rfl hb299 ?_
              refine cw_exit ?_
              refine qx_then (qx_then ?_)
              obtain rfl := hr292 _ (os q300)
              exact .inr (⟨_, rfl, ⟨rfl, (by repeat (first | exact Sub.nil _ | refine Sub.cons rfl ?_)), (hm298.pick [] (by decide) rfl)⟩⟩)
          · skip
            intro e env313 w314 hX315
            rcases hX315 with hX315 | hX315
            · obtain ⟨p317, rfl, hX315⟩ := hX315
              obtain ⟨rfl, hq319⟩ := hX315
              obtain rfl := hr216 _ (os q295)
              exact qr_block (qr_block (qr_then (qr_then (.inl (⟨_, rfl, ⟨rfl, hq319⟩⟩)))))
            · obtain ⟨p320, rfl, hX315⟩ := hX315
              obtain ⟨rfl, hs321, hm322⟩ := hX315
              refine qx_same (qn_block (qn_then ?_))
              refine cw_sub hs321 ?_
              refine cw_region ?_
              refine t_rd rfl (rd_move rfl) ?_
              obtain ⟨x323, h324, q325⟩ := ob q295; clear q295
              refine t_rd rfl (rd_add64 h324 rfl rfl) ?_
              refine t_rd rfl (rd_assign rfl) ?_
              refine rwt_nil ?_
              refine qn_then ?_
              refine ⟨_, (os q325), (by repeat (first | exact Sub.nil _ | refine Sub.cons rfl ?_)), (hm322.pick [] (by decide) rfl)⟩
      · refine cw_f rfl hb223 ?_
        refine cw_exit ?_
        refine qx_then (qx_then ?_)
        obtain rfl := hr216 _ (os q224)
        exact .inr (⟨_, rfl, ⟨rfl, (by repeat (first | exact Sub.nil _ | refine Sub.cons rfl ?_)), (hm222.pick [] (by decide) rfl)⟩⟩)
    · skip
      intro e env326 w327 hX328
      rcases hX328 with hX328 | hX328
      · obtain ⟨p330, rfl, hX328⟩ := hX328
        obtain ⟨rfl, hq332⟩ := hX328
        exact qr_block (qr_then ((by have e := os q219; subst e; exact hq332)))
      · obtain ⟨p333, rfl, hX328⟩ := hX328
        obtain ⟨rfl, hs334, hm335⟩ := hX328
        refine qx_same (qn_then ?_)
        refine cw_sub hs334 ?_
        refine cw_seq ?_
        refine cw_region ?_
        refine t_rd rfl (rd_assign rfl) ?_
        refine rwt_nil ?_
        refine qn_then ?_
        refine cw_ret ?_
        obtain rfl := os q219
        exact ret1 rfl rfl ⟨rfl, (hm335.pick [] (by decide) rfl)⟩

theorem r23_Find_ok {N : Nat} {a0 : List T_Span} {a1 : Int} {res : Int} (h : r23_Find N a0 a1 = some res) {w : World} {v0 : Value} (hv0 : Sl (Old w No) w v0 a0) :
    CallsR Try.prog 20 [v0, (Value.int .i64 a1)] w (fun u w' => u = (Value.int .i64 res) ∧ Mem w No [] w') := by
  unfold r23_Find at h
  refine fn_ok Try.func20 rfl rfl rfl ?_
  have hm0 := Mem.nil w
  refine cw_seq ?_
  refine cw_region ?_
  refine t_rd rfl (rd_assign rfl) ?_
  refine rwt_nil ?_
  refine qn_then ?_
  refine cw_seq ?_
  refine cw_seq ?_
  refine cw_region ?_
  refine t_rd rfl (rd_assign rfl) ?_
  refine rwt_nil ?_
  refine qn_then ?_
  refine cw_block ?_
  obtain ⟨r29, hit30, q31⟩ := ob h; clear h
  refine cw_loop2 (I := fun q envq wq => Sub [(0, v0), (1, (Value.int .i64 a1)), (5, (Value.int .i64 q))] envq ∧ Mem w No [] wq) (X := fun eq envq wq => (∃ p32, r29 = (Sum.inl p32) ∧ eq = .ret ∧ retQ Try.prog 20 Try.f20 (fun u w' => u = (Value.int .i64 p32) ∧ Mem w No [] w') .ret envq wq) ∨ (∃ p33, r29 = (Sum.inr p33) ∧ eq = .exit 0 ∧ Sub [] envq ∧ Mem w No [] wq)) hit30 ⟨(by repeat (first | exact Sub.nil _ | refine Sub.cons rfl ?_)), (hm0.pick [] (by decide) rfl)⟩ ?_ ?_
  · rintro i22 x24 env25 w26 hf27 hr28 ⟨hs_, hm_⟩
    have hs_ : Sub [(0, v0), (1, (Value.int .i64 a1)), (5, (Value.int .i64 i22))] env25 := hs_
    have hm34 : Mem w No [] w26 := hm_
    refine cw_sub hs_ ?_
    clear hs_ hm_ q31
    have h : r23_Find_l1 N a0 a1 i22 = some x24 := hf27
    clear hf27
    refine cw_seq ?_
    refine cw_seq ?_
    refine cw_region ?_
    refine t_rd rfl (rd_move rfl) ?_
    refine t_rd rfl (rd_move rfl) ?_
    refine t_rd rfl (rd_lenS tS26 rfl (hv0.of_old hm34)) ?_
    refine t_rd rfl (rd_lss rfl rfl) ?_
    refine rwt_nil ?_
    refine qn_then ?_
    obtain ⟨hb35, q36⟩ | ⟨hb35, q36⟩ := oi h <;> clear h
    · refine cw_t rfl hb35 ?_
      refine cw_skip ?_
      refine qn_then ?_
      refine cw_seq ?_
      refine cw_block ?_
      refine cw_seq ?_
      refine cw_region ?_
      refine t_rd rfl (rd_move rfl) ?_
      refine t_rd rfl (rd_move rfl) ?_
      obtain ⟨x37, h38, q39⟩ := ob q36; clear q36
      refine t_rd rfl (rd_index tS26 rfl rfl (hv0.of_old hm34) h38) ?_
      refine t_rd rfl (rd_fld tF32_0 rfl) ?_
      refine t_rd rfl (rd_ld1 tO3 rfl ((hv0.of_old hm34).cells h38) (off := 0) rfl) ?_
      refine t_rd rfl (rd_move rfl) ?_
      refine t_rd rfl (rd_eql rfl rfl) ?_
      refine rwt_nil ?_
      refine qn_then ?_
      obtain ⟨hb40, q41⟩ | ⟨hb40, q41⟩ := oi q39 <;> clear q39
      · refine cw_t rfl hb40 ?_
        refine cw_seq ?_
        refine cw_region ?_
        refine t_rd rfl (rd_move rfl) ?_
        refine t_rd rfl (rd_assign rfl) ?_
        refine rwt_nil ?_
        refine qn_then ?_
        refine cw_ret ?_
        refine qr_block (qr_then (qr_then ?_))
        obtain rfl := hr28 _ (os q41)
        refine .inl (⟨_, rfl, ⟨rfl, ?_⟩⟩)
        exact ret1 rfl rfl ⟨rfl, (hm34.pick [] (by decide) rfl)⟩
      · refine cw_f rfl hb40 ?_
        refine cw_skip ?_
        refine qn_block (qn_then ?_)
        refine cw_region ?_
        refine t_rd rfl (rd_move rfl) ?_
        obtain ⟨x42, h43, q44⟩ := ob q41; clear q41
        refine t_rd rfl (rd_add64 h43 rfl rfl) ?_
        refine t_rd rfl (rd_assign rfl) ?_
        refine rwt_nil ?_
        refine qn_then ?_
        refine ⟨_, (os q44), (by repeat (first | exact Sub.nil _ | refine Sub.cons rfl ?_)), (hm34.pick [] (by decide) rfl)⟩
    · refine cw_f rfl hb35 ?_
      refine cw_exit ?_
      refine qx_then (qx_then ?_)
      obtain rfl := hr28 _ (os q36)
      exact .inr (⟨_, rfl, ⟨rfl, (by repeat (first | exact Sub.nil _ | refine Sub.cons rfl ?_)), (hm34.pick [] (by decide) rfl)⟩⟩)
  · skip
    intro e env45 w46 hX47
    rcases hX47 with hX47 | hX47
    · obtain ⟨p49, rfl, hX47⟩ := hX47
      obtain ⟨rfl, hq51⟩ := hX47
      exact qr_block (qr_then ((by have e := os q31; subst e; exact hq51)))
    · obtain ⟨p52, rfl, hX47⟩ := hX47
      obtain ⟨rfl, hs53, hm54⟩ := hX47
      refine qx_same (qn_then ?_)
      refine cw_sub hs53 ?_
      refine cw_seq ?_
      refine cw_region ?_
      refine t_rd rfl (rd_assign rfl) ?_
      refine rwt_nil ?_
      refine qn_then ?_
      refine cw_ret ?_
      obtain rfl := os q31
      exact ret1 rfl rfl ⟨rfl, (hm54.pick [] (by decide) rfl)⟩

theorem r23_After_ok {N : Nat} {a0 : T_Span} {a1 : T_Span} {a2 : Int} {res : Int} (h : r23_After N a0 a1 a2 = some res) {w : World}   :
    CallsR Try.prog 21 [(Value.agg (Flat.enc a0).toArray), (Value.agg (Flat.enc a1).toArray), (Value.int .i64 a2)] w (fun u w' => u = (Value.int .i64 res) ∧ Mem w No [] w') := by
  unfold r23_After at h
  refine fn_ok Try.func21 rfl rfl rfl ?_
  have hm0 := Mem.nil w
  refine cw_seq ?_
  refine cw_region ?_
  refine t_ef rfl (ef_box hm0 rfl rfl) ?_
  rintro _ w3 ⟨g1, rfl, hm2⟩
  refine t_ef rfl (ef_box hm2 rfl rfl) ?_
  rintro _ w6 ⟨g4, rfl, hm5⟩
  refine t_rd rfl (rd_assign rfl) ?_
  refine rwt_nil ?_
  refine qn_then ?_
  refine cw_seq ?_
  refine cw_seq ?_
  refine cw_region ?_
  refine t_rd rfl (rd_fld tF32_1 rfl) ?_
  refine t_rd rfl (rd_ld1 tO3 rfl (hm5.blk 1 rfl) (off := 1) rfl) ?_
  refine t_rd rfl (rd_neq rfl rfl) ?_
  refine t_rd rfl (rd_move rfl) ?_
  refine t_rdg rfl rfl rfl rfl (gv_t _) (fun hg7 => (rd_fld tF32_1 rfl)) ?_
  refine t_rdg rfl rfl rfl rfl (gv_t _) (fun hg8 => (rd_ld1 tO3 (gvx rfl hg8) (hm5.blk 0 rfl) (off := 1) rfl)) ?_
  refine t_rdg rfl rfl rfl rfl (gv_t _) (fun hg9 => (rd_neq (gvx rfl hg9) rfl)) ?_
  refine t_rd rfl (rd_and rfl (fun hc10 => (gvx rfl hc10))) ?_
  refine t_rd rfl (rd_move rfl) ?_
  refine t_rdg rfl rfl rfl rfl (gv_t _) (fun hg11 => (rd_fld tF32_1 rfl)) ?_
  refine t_rdg rfl rfl rfl rfl (gv_t _) (fun hg12 => (rd_ld1 tO3 (gvx rfl hg12) (hm5.blk 1 rfl) (off := 1) rfl)) ?_
  refine t_rdg rfl rfl rfl rfl (gv_t _) (fun hg13 => (rd_fld tF32_1 rfl)) ?_
  refine t_rdg rfl rfl rfl rfl (gv_t _) (fun hg14 => (rd_ld1 tO3 (gvx rfl hg14) (hm5.blk 0 rfl) (off := 1) rfl)) ?_
  refine t_rdg rfl rfl rfl rfl (gv_t _) (fun hg15 => (rd_neq (gvx rfl hg15) (gvx rfl hg15))) ?_
  refine t_rd rfl (rd_and rfl (fun hc16 => (gvx rfl hc16))) ?_
  refine rwt_nil ?_
  refine qn_then ?_
  obtain ⟨hb17, q18⟩ | ⟨hb17, q18⟩ := oi h <;> clear h
  · refine cw_t rfl hb17 ?_
    refine cw_seq ?_
    refine cw_region ?_
    refine t_rd rfl (rd_fld tF32_3 rfl) ?_
    refine t_rd rfl (rd_ld1 tO3 rfl (hm5.blk 1 rfl) (off := 3) rfl) ?_
    refine t_rd rfl (rd_move rfl) ?_
    obtain ⟨x19, h20, q21⟩ := ob q18; clear q18
    refine t_rd rfl (rd_add64 h20 rfl rfl) ?_
    refine t_rd rfl (rd_assign rfl) ?_
    refine rwt_nil ?_
    refine qn_then ?_
    refine cw_ret ?_
    refine qr_then ?_
    obtain rfl := os q21
    exact ret1 rfl rfl ⟨rfl, (hm5.pick [] (by decide) rfl)⟩
  · refine cw_f rfl hb17 ?_
    refine cw_skip ?_
    refine qn_then ?_
    refine cw_seq ?_
    refine cw_region ?_
    refine t_rd rfl (rd_fld tF32_3 rfl) ?_
    refine t_rd rfl (rd_ld1 tO3 rfl (hm5.blk 1 rfl) (off := 3) rfl) ?_
    refine t_rd rfl (rd_assign rfl) ?_
    refine rwt_nil ?_
    refine qn_then ?_
    refine cw_ret ?_
    obtain rfl := os q18
    exact ret1 rfl rfl ⟨rfl, (hm5.pick [] (by decide) rfl)⟩

theorem r23_gap_ok {N : Nat} {a0 : List T_Span} {a1 : List T_Span} {a2 : Int} {res : Int × Int} (h : r23_gap N a0 a1 a2 = some res) {w : World} {v0 : Value} {v1 : Value} (hv0 : Sl (Old w No) w v0 a0) (hv1 : Sl (Old w No) w v1 a1) :
    CallsR Try.prog 33 [v0, v1, (Value.int .i64 a2)] w (fun u w' => u = (Value.tuple #[(Value.int .i64 res.1), (Value.int .i64 res.2)]) ∧ Mem w No [] w') := by
  unfold r23_gap at h
  refine fn_ok Try.func33 rfl rfl rfl ?_
  have hm0 := Mem.nil w
  refine cw_seq ?_
  refine cw_region ?_
  refine t_rd rfl (rd_assign rfl) ?_
  refine t_rd rfl (rd_assign rfl) ?_
  refine rwt_nil ?_
  refine qn_then ?_
  refine cw_seq ?_
  refine cw_region ?_
  refine t_rd rfl (rd_assign rfl) ?_
  refine rwt_nil ?_
  refine qn_then ?_
  refine cw_seq ?_
  refine cw_seq ?_
  refine cw_region ?_
  refine t_rd rfl (rd_assign rfl) ?_
  refine rwt_nil ?_
  refine qn_then ?_
  refine cw_block ?_
  obtain ⟨r140, hit141, q142⟩ := ob h; clear h
  refine cw_loop2 (I := fun q envq wq => Sub [(0, v0), (1, v1), (2, (Value.int .i64 a2)), (8, (Value.int .i64 q.1)), (9, (Value.int .i64 q.2))] envq ∧ Mem w No [] wq) (X := fun eq envq wq => (∃ p143, r140 = (Sum.inl p143) ∧ eq = .ret ∧ retQ Try.prog 51 Try.f33 (fun u w' => u = (Value.tuple #[(Value.int .i64 p143.1), (Value.int .i64 p143.2)]) ∧ Mem w No [] w') .ret envq wq) ∨ (∃ p144, r140 = (Sum.inr p144) ∧ eq = .exit 0 ∧ Sub [(8, (Value.int .i64 p144))] envq ∧ Mem w No [] wq)) hit141 ⟨(by repeat (first | exact Sub.nil _ | refine Sub.cons rfl ?_)), (hm0.pick [] (by decide) rfl)⟩ ?_ ?_
  · rintro ⟨i132, i133⟩ x135 env136 w137 hf138 hr139 ⟨hs_, hm_⟩
    have hs_ : Sub [(0, v0), (1, v1), (2, (Value.int .i64 a2)), (8, (Value.int .i64 i132)), (9, (Value.int .i64 i133))] env136 := hs_
    have hm145 : Mem w No [] w137 := hm_
    refine cw_sub hs_ ?_
    clear hs_ hm_ q142
    have h : r23_gap_l1 N a0 a1 a2 i132 i133 = some x135 := hf138
    clear hf138
    refine cw_seq ?_
    refine cw_seq ?_
    refine cw_region ?_
    refine t_rd rfl (rd_move rfl) ?_
    refine t_rd rfl (rd_move rfl) ?_
    refine t_rd rfl (rd_lenS tS26 rfl (hv1.of_old hm145)) ?_
    refine t_rd rfl (rd_lss rfl rfl) ?_
    refine rwt_nil ?_
    refine qn_then ?_
    obtain ⟨hb146, q147⟩ | ⟨hb146, q147⟩ := oi h <;> clear h
    · refine cw_t rfl hb146 ?_
      refine cw_skip ?_
      refine qn_then ?_
      refine cw_seq ?_
      refine cw_block ?_
      refine cw_seq ?_
      refine cw_region ?_
      refine t_rd rfl (rd_move rfl) ?_
      refine t_rd rfl (rd_move rfl) ?_
      refine t_rd rfl (rd_move rfl) ?_
      obtain ⟨x148, h149, q150⟩ := ob q147; clear q147
      refine t_rd rfl (rd_index tS26 rfl rfl (hv1.of_old hm145) h149) ?_
      refine t_rd rfl (rd_fld tF32_0 rfl) ?_
      refine t_rd rfl (rd_ld1 tO3 rfl ((hv1.of_old hm145).cells h149) (off := 0) rfl) ?_
      obtain ⟨r151, h152, q153⟩ := ob q150; clear q150
      refine t_ef rfl (ef_call tf20 rfl (r23_Find_ok h152 (hv0.to_call hm145))) ?_
      rintro _ w155 ⟨e_, hm154⟩
      obtain rfl := e_.symm
      have hm156 := hm145.call hm154
      refine t_rd rfl (rd_assign rfl) ?_
      refine rwt_nil ?_
      refine qn_then ?_
      refine cw_seq ?_
      refine cw_seq ?_
      refine cw_region ?_
      refine t_rd rfl (rd_move rfl) ?_
      refine t_rd rfl (rd_lss rfl rfl) ?_
      refine rwt_nil ?_
      refine qn_then ?_
      obtain ⟨hb157, q158⟩ | ⟨hb157, q158⟩ := oi q153 <;> clear q153
      · refine cw_t rfl hb157 ?_
        refine cw_exit ?_
        refine qx_then (qx_same (qn_then ?_))
        refine cw_region ?_
        refine t_rd rfl (rd_move rfl) ?_
        obtain ⟨x159, h160, q161⟩ := ob q158; clear q158
        refine t_rd rfl (rd_add64 h160 rfl rfl) ?_
        refine t_rd rfl (rd_assign rfl) ?_
        refine rwt_nil ?_
        refine qn_then ?_
        refine ⟨_, (os q161), (by repeat (first | exact Sub.nil _ | refine Sub.cons rfl ?_)), (hm156.pick [] (by decide) rfl)⟩
      · refine cw_f rfl hb157 ?_
        refine cw_skip ?_
        refine qn_then ?_
        refine cw_seq ?_
        refine cw_seq ?_
        refine cw_region ?_
        refine t_rd rfl (rd_move rfl) ?_
        refine t_rd rfl (rd_move rfl) ?_
        obtain ⟨x162, h163, q164⟩ := ob q158; clear q158
        refine t_rd rfl (rd_index tS26 rfl rfl (hv0.of_old hm156) h163) ?_
        refine t_rd rfl (rd_fld tF32_3 rfl) ?_
        refine t_rd rfl (rd_ld1 tO3 rfl ((hv0.of_old hm156).cells h163) (off := 3) rfl) ?_
        refine t_rd rfl (rd_eql rfl rfl) ?_
        refine rwt_nil ?_
        refine qn_then ?_
        obtain ⟨hb165, q166⟩ | ⟨hb165, q166⟩ := oi q164 <;> clear q164
        · refine cw_t rfl hb165 ?_
          refine cw_seq ?_
          refine cw_region ?_
          refine t_rd rfl (rd_assign rfl) ?_
          refine t_rd rfl (rd_assign rfl) ?_
          refine rwt_nil ?_
          refine qn_then ?_
          refine cw_ret ?_
          refine qr_then (qr_block (qr_then (qr_then ?_)))
          obtain rfl := hr139 _ (os q166)
          refine .inl (⟨_, rfl, ⟨rfl, ?_⟩⟩)
          exact ret2 rfl rfl rfl ⟨rfl, (hm156.pick [] (by decide) rfl)⟩
        · refine cw_f rfl hb165 ?_
          refine cw_skip ?_
          refine qn_then ?_
          obtain ⟨w168, he170⟩ : ∃ q, q = w155.drew := ⟨_, rfl⟩
          have hm169 := hm156.drew; rw [← he170] at hm169
          refine cw_region_s (fun q => Sl (Old w No) q v0 a0 ∧ Sl (Old w No) q v1 a1) (cls [10] []) mixed ?_
          rintro _ rfl; rw [← he170]
          refine s_rp (i := 0) rfl (by kernel_rfl) rfl (fun _ => (rd_move rfl)) ?_
          refine s_rp (i := 1) rfl (by kernel_rfl) rfl (fun _ => (rd_move rfl)) ?_
          refine s_rp (i := 2) rfl (by kernel_rfl) rfl (fun _ => (rd_move rfl)) ?_
          obtain ⟨x189, h190, q191⟩ := ob q166; clear q166
          refine s_rp (i := 3) rfl (by kernel_rfl) rfl (fun _ => (rd_index tS26 rfl rfl (hv0.of_old hm169) h190)) ?_
          refine s_rd (i := 4) rfl (by kernel_rfl) rfl (fun w167 hS => (rd_ld tA32 rfl (hS.1.cells h190) rfl)) ⟨(hv0.of_old hm169), (hv1.of_old hm169)⟩ ?_
          refine s_rp (i := 5) rfl (by kernel_rfl) rfl (fun _ => (rd_move rfl)) ?_
          refine s_rp (i := 6) rfl (by kernel_rfl) rfl (fun _ => (rd_move rfl)) ?_
          obtain ⟨x192, h193, q194⟩ := ob q191; clear q191
          refine s_rp (i := 7) rfl (by kernel_rfl) rfl (fun _ => (rd_index tS26 rfl rfl (hv1.of_old hm169) h193)) ?_
          refine s_rd (i := 8) rfl (by kernel_rfl) rfl (fun w167 hS => (rd_ld tA32 rfl (hS.2.cells h193) rfl)) ⟨(hv0.of_old hm169), (hv1.of_old hm169)⟩ ?_
          refine s_rp (i := 9) rfl (by kernel_rfl) rfl (fun _ => (rd_move rfl)) ?_
          refine s_rp (i := 11) rfl (by kernel_rfl) rfl (fun _ => (rd_move rfl)) ?_
          refine s_rp (i := 12) rfl (by kernel_rfl) rfl (fun _ => (rd_move rfl)) ?_
          obtain ⟨x195, h196, q197⟩ := ob q194; clear q194
          refine s_rp (i := 13) rfl (by kernel_rfl) rfl (fun _ => (rd_index tS26 rfl rfl (hv1.of_old hm169) h196)) ?_
          refine s_rp (i := 14) rfl (by kernel_rfl) rfl (fun _ => (rd_fld tF32_2 rfl)) ?_
          refine s_rd (i := 15) rfl (by kernel_rfl) rfl (fun w167 hS => (rd_ld1 tO3 rfl (hS.2.cells h196) (off := 2) rfl)) ⟨(hv0.of_old hm169), (hv1.of_old hm169)⟩ ?_
          obtain ⟨r198, h199, q200⟩ := ob q197; clear q197
          refine s_ef (i := 10) rfl (by kernel_rfl) rfl (ef_call tf21 rfl (r23_After_ok h199)) (by decide) ?_ ?_
          · rintro _ w202 ⟨e_, hm201⟩
            obtain rfl := e_.symm
            have hm203 := hm169.call hm201
            intro _
            exact ⟨(hv0.of_old hm203), (hv1.of_old hm203)⟩
          rintro _ w202 ⟨e_, hm201⟩
          obtain rfl := e_.symm
          have hm203 := hm169.call hm201
          obtain ⟨x204, h205, q206⟩ := ob q200; clear q200
          refine s_rp (i := 16) rfl (by kernel_rfl) rfl (fun _ => (rd_sub64 h205 rfl rfl)) ?_
          refine s_rp (i := 17) rfl (by kernel_rfl) rfl (fun _ => (rd_max rfl rfl)) ?_
          refine s_rp (i := 18) rfl (by kernel_rfl) rfl (fun _ => (rd_assign rfl)) ?_
          refine s_nil (by kernel_rfl) ?_
          refine qn_block (qn_then ?_)
          refine cw_region ?_
          refine t_rd rfl (rd_move rfl) ?_
          obtain ⟨x207, h208, q209⟩ := ob q206; clear q206
          refine t_rd rfl (rd_add64 h208 rfl rfl) ?_
          refine t_rd rfl (rd_assign rfl) ?_
          refine rwt_nil ?_
          refine qn_then ?_
          refine ⟨_, (os q209), (by repeat (first | exact Sub.nil _ | refine Sub.cons rfl ?_)), (hm203.pick [] (by decide) rfl)⟩
    · refine cw_f rfl hb146 ?_
      refine cw_exit ?_
      refine qx_then (qx_then ?_)
      obtain rfl := hr139 _ (os q147)
      exact .inr (⟨_, rfl, ⟨rfl, (by repeat (first | exact Sub.nil _ | refine Sub.cons rfl ?_)), (hm145.pick [] (by decide) rfl)⟩⟩)
  · skip
    intro e env210 w211 hX212
    rcases hX212 with hX212 | hX212
    · obtain ⟨p214, rfl, hX212⟩ := hX212
      obtain ⟨rfl, hq216⟩ := hX212
      exact qr_block (qr_then ((by have e := os q142; subst e; exact hq216)))
    · obtain ⟨p217, rfl, hX212⟩ := hX212
      obtain ⟨rfl, hs218, hm219⟩ := hX212
      refine qx_same (qn_then ?_)
      refine cw_sub hs218 ?_
      refine cw_seq ?_
      refine cw_region ?_
      refine t_rd rfl (rd_move rfl) ?_
      refine t_rd rfl (rd_assign rfl) ?_
      refine t_rd rfl (rd_assign rfl) ?_
      refine rwt_nil ?_
      refine qn_then ?_
      refine cw_ret ?_
      obtain rfl := os q142
      exact ret2 rfl rfl rfl ⟨rfl, (hm219.pick [] (by decide) rfl)⟩

theorem r23_Gap_ok {N : Nat} {a0 : List T_Span} {a1 : List T_Span} {a2 : Int} {res : Int × Int} (h : r23_Gap N a0 a1 a2 = some res) {w : World} {v0 : Value} {v1 : Value} (hv0 : Sl (Old w No) w v0 a0) (hv1 : Sl (Old w No) w v1 a1) :
    CallsR Try.prog 18 [v0, v1, (Value.int .i64 a2)] w (fun u w' => u = (Value.tuple #[(Value.int .i64 res.1), (Value.int .i64 res.2)]) ∧ Mem w No [] w') := by
  unfold r23_Gap at h
  refine fn_ok Try.func18 rfl rfl rfl ?_
  have hm0 := Mem.nil w
  refine cw_seq ?_
  refine cw_region ?_
  refine t_rd rfl (rd_assign rfl) ?_
  refine t_rd rfl (rd_assign rfl) ?_
  refine rwt_nil ?_
  refine qn_then ?_
  refine cw_seq ?_
  refine cw_seq ?_
  refine cw_region ?_
  refine t_rd rfl (rd_move rfl) ?_
  obtain ⟨r1, h2, q3⟩ := ob h; clear h
  refine t_ef rfl (ef_call tf32 rfl (r23_Valid_ok h2 (hv0.to_call hm0))) ?_
  rintro _ w5 ⟨e_, hm4⟩
  obtain rfl := e_.symm
  have hm6 := hm0.call hm4
  refine t_rd rfl (rd_not rfl) ?_
  refine t_rd rfl (rd_move rfl) ?_
  refine t_rdg rfl rfl rfl rfl (gv_f _) (fun hg7 => (rd_move rfl)) ?_
  obtain ⟨r9, h10, q11⟩ := ob q3; clear q3
  refine t_efg rfl rfl rfl rfl (R := (fun v w' => v = gV (!(!r1)) (Value.bool r9) ∧ Mem w5 No [] w')) (gv_f _) (fun hg8 => (ef_call tf32 (evc (gvx rfl hg8) evn) (r23_Valid_ok (gO_t h10 hg8) (hv1.to_call hm6))).mono (by rintro _ _ ⟨rfl, q⟩; exact ⟨(gV_t hg8).symm, q⟩)) (fun q => ⟨(gV_f q).symm, Mem.nil _⟩) ?_
  rintro _ w13 ⟨rfl, hm12⟩
  have hm14 := hm6.call hm12
  refine t_rdg rfl rfl rfl rfl (gv_f _) (fun hg15 => (rd_not (gvx rfl hg15))) ?_
  refine t_rd rfl (rd_or rfl (fun hc16 => (gvx rfl (bnotIt hc16)))) ?_
  refine t_rd rfl (rd_move rfl) ?_
  refine t_rdg rfl rfl rfl rfl (gv_f _) (fun hg17 => (rd_move rfl)) ?_
  refine t_rdg rfl rfl rfl rfl (gv_f _) (fun hg18 => (rd_lss (gvx rfl hg18) rfl)) ?_
  refine t_rd rfl (rd_or rfl (fun hc19 => (gvx rfl (bnotIt hc19)))) ?_
  refine t_rd rfl (rd_move rfl) ?_
  refine t_rdg rfl rfl rfl rfl (gv_f _) (fun hg20 => (rd_move rfl)) ?_
  refine t_rdg rfl rfl rfl rfl (gv_f _) (fun hg21 => (rd_gtr (gvx rfl hg21) rfl)) ?_
  refine t_rd rfl (rd_or rfl (fun hc22 => (gvx rfl (bnotIt hc22)))) ?_
  refine rwt_nil ?_
  refine qn_then ?_
  obtain ⟨hb23, q24⟩ | ⟨hb23, q24⟩ := oi q11 <;> clear q11
  · refine cw_t rfl hb23 ?_
    refine cw_seq ?_
    refine cw_region ?_
    refine t_rd rfl (rd_assign rfl) ?_
    refine t_rd rfl (rd_assign rfl) ?_
    refine rwt_nil ?_
    refine qn_then ?_
    refine cw_ret ?_
    refine qr_then ?_
    obtain rfl := os q24
    exact ret2 rfl rfl rfl ⟨rfl, (hm14.pick [] (by decide) rfl)⟩
  · refine cw_f rfl hb23 ?_
    refine cw_skip ?_
    refine qn_then ?_
    refine cw_seq ?_
    refine cw_region ?_
    refine t_rd rfl (rd_move rfl) ?_
    refine t_rd rfl (rd_move rfl) ?_
    refine t_rd rfl (rd_move rfl) ?_
    obtain ⟨r25, h26, q27⟩ := ob q24; clear q24
    refine t_ef rfl (ef_call tf33 rfl (r23_gap_ok h26 (hv0.to_call hm14) (hv1.to_call hm14))) ?_
    rintro _ w29 ⟨e_, hm28⟩
    obtain rfl := e_.symm
    have hm30 := hm14.call hm28
    refine t_rd rfl (rd_extract rfl rfl) ?_
    refine t_rd rfl (rd_extract rfl rfl) ?_
    refine t_rd rfl (rd_assign rfl) ?_
    refine t_rd rfl (rd_assign rfl) ?_
    refine rwt_nil ?_
    refine qn_then ?_
    refine cw_ret ?_
    obtain rfl := os q27
    exact ret2 rfl rfl rfl ⟨rfl, (hm30.pick [] (by decide) rfl)⟩

end Go.Proofs.Ytgabhhciodicoaa
