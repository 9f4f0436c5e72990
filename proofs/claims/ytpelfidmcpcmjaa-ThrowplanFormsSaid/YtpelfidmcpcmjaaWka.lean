/- Each call computes what its mirror does; written by a program of mine (gowalk.py). -/
import Derived.Test.YtpelfidmcpcmjaaTy
namespace Go.Proofs.Ytpelfidmcpcmjaa
open Go.Gv Go.RowKit
set_option linter.unusedVariables false
set_option maxRecDepth 100000

theorem humpgen_New_ok {N : Nat} {a0 : List Int} {res : Int} (h : humpgen_New N a0 = some res) {w : World} {v0 : Value} (hv0 : Sl (Old w No) w v0 a0) :
    CallsR Try.prog 8 [v0] w (fun u w' => ∃ gr : Nat, u = (Value.pointer (some ⟨gr, 0, none⟩)) ∧ Mem w No [blk gr 55 [v0, (Value.int .i64 res)]] w') := by
  unfold humpgen_New at h
  refine fn_ok Try.func8 rfl rfl rfl ?_
  have hm0 := Mem.nil w
  refine cw_seq ?_
  refine cw_region ?_
  refine t_rd rfl (rd_assign rfl) ?_
  refine rwt_nil ?_
  refine qn_then ?_
  refine cw_seq ?_
  refine cw_region ?_
  refine t_rd rfl (rd_move rfl) ?_
  refine t_rd rfl (rd_build (cs := #[v0, (Value.int .i64 0)]) rfl (by obtain ⟨_, _, e⟩ := ((hv0.of_old hm0)).val; rw [e]; clear e; kernel_rfl)) ?_
  refine t_ef rfl (ef_box hm0 rfl rfl) ?_
  rintro _ w6 ⟨g4, rfl, hm5⟩
  refine t_rd rfl (rd_assign rfl) ?_
  refine rwt_nil ?_
  refine qn_then ?_
  refine cw_ret ?_
  obtain rfl := os h
  exact ret1 rfl rfl ⟨g4, rfl, (hm5.pick [0] (by decide) rfl)⟩

theorem Maker_Next_ok {N : Nat} {a0_l : List Int} {a0_n : Int} {a1 : Int} {res : Int × Int} (h : Maker_Next N a0_l a0_n a1 = some res) {w : World} {v0_l : Value} {g0 : Nat} (hv0_l : Sl (Old w (fun k => k = g0)) w v0_l a0_l) (hk0 : (blk g0 55 [v0_l, (Value.int .i64 a0_n)]).φ w) :
    CallsR Try.prog 11 [(Value.pointer (some ⟨g0, 0, none⟩)), (Value.int .i64 a1)] w (fun u w' => u = (Value.int .i64 res.2) ∧ Mem w (fun k => k = g0) [blk g0 55 [v0_l, (Value.int .i64 res.1)]] w') := by
  unfold Maker_Next at h
  refine fn_ok Try.func11 rfl rfl rfl ?_
  have hm0 := Mem.one hk0
  refine cw_seq ?_
  refine cw_region ?_
  refine t_rd rfl (rd_assign rfl) ?_
  refine rwt_nil ?_
  refine qn_then ?_
  refine cw_seq ?_
  refine cw_region ?_
  refine t_rd rfl (rd_assign rfl) ?_
  refine rwt_nil ?_
  refine qn_then ?_
  refine cw_seq ?_
  refine cw_seq ?_
  refine cw_region ?_
  refine t_rd rfl (rd_move rfl) ?_
  refine t_rd rfl (rd_nilCheck rfl) ?_
  refine t_rd rfl (rd_fld tF55_0 rfl) ?_
  refine t_rd rfl (rd_ld1 tO22 rfl (hm0.blk 0 rfl) (off := 0) rfl) ?_
  refine t_rd rfl (rd_lenS tS22 rfl (hv0_l.of_old hm0)) ?_
  refine t_rd rfl (rd_gtr rfl rfl) ?_
  refine rwt_nil ?_
  refine qn_then ?_
  obtain ⟨j69, hit70, q71⟩ := ob h; clear h
  refine cw_join (X := fun eq envq wq => eq = .normal ∧ Sub [(0, (Value.pointer (some ⟨g0, 0, none⟩))), (1, (Value.int .i64 a1)), (5, (Value.int .i64 j69))] envq ∧ Mem w (fun k => k = g0) [blk g0 55 [v0_l, (Value.int .i64 a0_n)]] wq) ?_ ?_
  · clear q71
    obtain ⟨hb72, q73⟩ | ⟨hb72, q73⟩ := oi hit70 <;> clear hit70
    · refine cw_t rfl hb72 ?_
      obtain ⟨w75, he77⟩ : ∃ q, q = w.drew := ⟨_, rfl⟩
      have hm76 := hm0.drew; rw [← he77] at hm76
      refine cw_region_s (fun q => q = w75) (cls [] []) mixed ?_
      rintro _ rfl; rw [← he77]
      refine s_rp (i := 0) rfl (by kernel_rfl) rfl (fun _ => (rd_move rfl)) ?_
      refine s_rp (i := 1) rfl (by kernel_rfl) rfl (fun _ => (rd_nilCheck rfl)) ?_
      refine s_rp (i := 2) rfl (by kernel_rfl) rfl (fun _ => (rd_fld tF55_0 rfl)) ?_
      refine s_rd (i := 3) rfl (by kernel_rfl) rfl (fun _ hS => by rw [hS]; exact (rd_ld1 tO22 rfl (hm76.blk 0 rfl) (off := 0) rfl)) rfl ?_
      refine s_rp (i := 4) rfl (by kernel_rfl) rfl (fun _ => (rd_move rfl)) ?_
      refine s_rp (i := 5) rfl (by kernel_rfl) rfl (fun _ => (rd_nilCheck rfl)) ?_
      refine s_rp (i := 6) rfl (by kernel_rfl) rfl (fun _ => (rd_fld tF55_1 rfl)) ?_
      refine s_rd (i := 7) rfl (by kernel_rfl) rfl (fun _ hS => by rw [hS]; exact (rd_ld1 tO3 rfl (hm76.blk 0 rfl) (off := 1) rfl)) rfl ?_
      refine s_rp (i := 8) rfl (by kernel_rfl) rfl (fun _ => (rd_move rfl)) ?_
      refine s_rp (i := 9) rfl (by kernel_rfl) rfl (fun _ => (rd_nilCheck rfl)) ?_
      refine s_rp (i := 10) rfl (by kernel_rfl) rfl (fun _ => (rd_fld tF55_0 rfl)) ?_
      refine s_rd (i := 11) rfl (by kernel_rfl) rfl (fun _ hS => by rw [hS]; exact (rd_ld1 tO22 rfl (hm76.blk 0 rfl) (off := 0) rfl)) rfl ?_
      refine s_rp (i := 12) rfl (by kernel_rfl) rfl (fun _ => (rd_lenS tS22 rfl (hv0_l.of_old hm76))) ?_
      obtain ⟨x78, h79, q80⟩ := ob q73; clear q73
      refine s_rp (i := 13) rfl (by kernel_rfl) rfl (fun _ => (rd_rem64 h79 rfl rfl)) ?_
      obtain ⟨x81, h82, q83⟩ := ob q80; clear q80
      refine s_rp (i := 14) rfl (by kernel_rfl) rfl (fun _ => (rd_index tS22 rfl rfl (hv0_l.of_old hm76) h82)) ?_
      refine s_rd (i := 15) rfl (by kernel_rfl) rfl (fun _ hS => by rw [hS]; exact (rd_ld1 tO3 rfl ((hv0_l.of_old hm76).cells h82) (off := 0) rfl)) rfl ?_
      refine s_rp (i := 16) rfl (by kernel_rfl) rfl (fun _ => (rd_move rfl)) ?_
      refine s_rp (i := 17) rfl (by kernel_rfl) rfl (fun _ => (rd_nilCheck rfl)) ?_
      refine s_rp (i := 18) rfl (by kernel_rfl) rfl (fun _ => (rd_fld tF55_1 rfl)) ?_
      refine s_rd (i := 19) rfl (by kernel_rfl) rfl (fun _ hS => by rw [hS]; exact (rd_ld1 tO3 rfl (hm76.blk 0 rfl) (off := 1) rfl)) rfl ?_
      refine s_rp (i := 20) rfl (by kernel_rfl) rfl (fun _ => (rd_move rfl)) ?_
      refine s_rp (i := 21) rfl (by kernel_rfl) rfl (fun _ => (rd_nilCheck rfl)) ?_
      refine s_rp (i := 22) rfl (by kernel_rfl) rfl (fun _ => (rd_fld tF55_0 rfl)) ?_
      refine s_rd (i := 23) rfl (by kernel_rfl) rfl (fun _ hS => by rw [hS]; exact (rd_ld1 tO22 rfl (hm76.blk 0 rfl) (off := 0) rfl)) rfl ?_
      refine s_rp (i := 24) rfl (by kernel_rfl) rfl (fun _ => (rd_lenS tS22 rfl (hv0_l.of_old hm76))) ?_
      obtain ⟨x84, h85, q86⟩ := ob q83; clear q83
      refine s_rp (i := 25) rfl (by kernel_rfl) rfl (fun _ => (rd_quo64 h85 rfl rfl)) ?_
      refine s_rp (i := 26) rfl (by kernel_rfl) rfl (fun _ => (rd_mulw rfl rfl)) ?_
      refine s_rp (i := 27) rfl (by kernel_rfl) rfl (fun _ => (rd_addw rfl rfl)) ?_
      refine s_rp (i := 28) rfl (by kernel_rfl) rfl (fun _ => (rd_assign rfl)) ?_
      refine s_nil (by kernel_rfl) ?_
      obtain rfl := os q86
      exact ⟨rfl, (by repeat (first | exact Sub.nil _ | refine Sub.cons rfl ?_)), (hm76.pick [0] (by decide) rfl)⟩
    · refine cw_f rfl hb72 ?_
      refine cw_skip ?_
      obtain rfl := os q73
      exact ⟨rfl, (by repeat (first | exact Sub.nil _ | refine Sub.cons rfl ?_)), (hm0.pick [0] (by decide) rfl)⟩
  · clear hit70
    intro e env87 w88 hX89
    obtain ⟨rfl, hs90, hm91⟩ := hX89
    refine qn_then ?_
    refine cw_sub hs90 ?_
    refine cw_seq ?_
    refine cw_region ?_
    refine t_rd rfl (rd_move rfl) ?_
    refine t_rd rfl (rd_nilCheck rfl) ?_
    refine t_rd rfl (rd_fld tF55_1 rfl) ?_
    refine t_rd rfl (rd_ld1 tO3 rfl (hm91.blk 0 rfl) (off := 1) rfl) ?_
    obtain ⟨x92, h93, q94⟩ := ob q71; clear q71
    refine t_rd rfl (rd_add64 h93 rfl rfl) ?_
    refine t_rd rfl (rd_nilCheck rfl) ?_
    refine t_rd rfl (rd_fld tF55_1 rfl) ?_
    refine t_ef0 (ef_st1 (k := 0) (off := 1) hm91 tO3 rfl rfl rfl rfl rfl rfl) ?_
    intro _ w96 hm95
    refine rwt_nil ?_
    refine qn_then ?_
    refine cw_seq ?_
    refine cw_region ?_
    refine t_rd rfl (rd_move rfl) ?_
    refine t_rd rfl (rd_move rfl) ?_
    obtain ⟨x97, h98, q99⟩ := ob q94; clear q94
    refine t_rd rfl (rd_rem64 h98 rfl rfl) ?_
    refine t_rd rfl (rd_assign rfl) ?_
    refine rwt_nil ?_
    refine qn_then ?_
    refine cw_seq ?_
    refine cw_seq ?_
    refine cw_region ?_
    refine t_rd rfl (rd_move rfl) ?_
    refine t_rd rfl (rd_lss rfl rfl) ?_
    refine rwt_nil ?_
    refine qn_then ?_
    obtain ⟨hb100, q101⟩ | ⟨hb100, q101⟩ := oi q99 <;> clear q99
    · refine cw_t rfl hb100 ?_
      refine cw_region ?_
      refine t_rd rfl (rd_move rfl) ?_
      refine t_rd rfl (rd_move rfl) ?_
      obtain ⟨x102, h103, q104⟩ := ob q101; clear q101
      refine t_rd rfl (rd_add64 h103 rfl rfl) ?_
      refine t_rd rfl (rd_assign rfl) ?_
      refine rwt_nil ?_
      refine qn_then ?_
      refine cw_seq ?_
      refine cw_region ?_
      refine t_rd rfl (rd_move rfl) ?_
      refine t_rd rfl (rd_assign rfl) ?_
      refine rwt_nil ?_
      refine qn_then ?_
      refine cw_ret ?_
      obtain rfl := os q104
      exact ret1 rfl rfl ⟨rfl, (hm95.pick [0] (by decide) rfl)⟩
    · refine cw_f rfl hb100 ?_
      refine cw_skip ?_
      refine qn_then ?_
      refine cw_seq ?_
      refine cw_region ?_
      refine t_rd rfl (rd_move rfl) ?_
      refine t_rd rfl (rd_assign rfl) ?_
      refine rwt_nil ?_
      refine qn_then ?_
      refine cw_ret ?_
      obtain rfl := os q101
      exact ret1 rfl rfl ⟨rfl, (hm95.pick [0] (by decide) rfl)⟩

theorem Maker_Pick_ok {N : Nat} {a0_l : List Int} {a0_n : Int} {a1 : List Int} {res : Int × Int} (h : Maker_Pick N a0_l a0_n a1 = some res) {w : World} {v0_l : Value} {g0 : Nat} {v1 : Value} (hv0_l : Sl (Old w (fun k => k = g0)) w v0_l a0_l) (hk0 : (blk g0 55 [v0_l, (Value.int .i64 a0_n)]).φ w) (hv1 : Sl (Old w (fun k => k = g0)) w v1 a1) :
    CallsR Try.prog 13 [(Value.pointer (some ⟨g0, 0, none⟩)), v1] w (fun u w' => u = (Value.int .i64 res.2) ∧ Mem w (fun k => k = g0) [blk g0 55 [v0_l, (Value.int .i64 res.1)]] w') := by
  unfold Maker_Pick at h
  refine fn_ok Try.func13 rfl rfl rfl ?_
  have hm0 := Mem.one hk0
  refine cw_seq ?_
  refine cw_region ?_
  refine t_rd rfl (rd_assign rfl) ?_
  refine rwt_nil ?_
  refine qn_then ?_
  refine cw_seq ?_
  refine cw_region ?_
  refine t_rd rfl (rd_move rfl) ?_
  refine t_rd rfl (rd_move rfl) ?_
  refine t_rd rfl (rd_move rfl) ?_
  refine t_rd rfl (rd_lenS tS22 rfl (hv1.of_old hm0)) ?_
  obtain ⟨r10, h11, q12⟩ := ob h; clear h
  refine t_ef rfl (ef_call tf11 rfl (Maker_Next_ok h11 (hv0_l.to_callT (k := 0) hm0 rfl) (hm0.get (k := 0) rfl))) ?_
  rintro _ w14 ⟨e_, hm13⟩
  obtain rfl := e_.symm
  have hm15 := hm0.callT (k := 0) rfl (fun _ h => h) hm13 (fun _ => Iff.rfl)
  obtain ⟨x16, h17, q18⟩ := ob q12; clear q12
  refine t_rd rfl (rd_index tS22 rfl rfl (hv1.of_old hm15) h17) ?_
  refine t_rd rfl (rd_ld1 tO3 rfl ((hv1.of_old hm15).cells h17) (off := 0) rfl) ?_
  refine t_rd rfl (rd_assign rfl) ?_
  refine rwt_nil ?_
  refine qn_then ?_
  refine cw_ret ?_
  obtain rfl := os q18
  exact ret1 rfl rfl ⟨rfl, (hm15.pick [0] (by decide) rfl)⟩

theorem yardgen_Spans_ok {N : Nat} {a0_l : List Int} {a0_n : Int} {a1 : Int} {res : Int × List T_Span} (h : yardgen_Spans N a0_l a0_n a1 = some res) {w : World} {v0_l : Value} {g0 : Nat} (hv0_l : Sl (Old w (fun k => k = g0)) w v0_l a0_l) (hk0 : (blk g0 55 [v0_l, (Value.int .i64 a0_n)]).φ w) :
    CallsR Try.prog 36 [(Value.pointer (some ⟨g0, 0, none⟩)), (Value.int .i64 a1)] w (fun u w' => ∃ (y0 : Value), u = y0 ∧ Mem w (fun k => k = g0) [blk g0 55 [v0_l, (Value.int .i64 res.1)], ownL 52 y0 (res.2 : List T_Span)] w') := by
  unfold yardgen_Spans at h
  refine fn_ok Try.func36 rfl rfl rfl ?_
  have hm0 := Mem.one hk0
  refine cw_seq ?_
  refine cw_region ?_
  refine t_rd rfl (rd_assign rfl) ?_
  refine rwt_nil ?_
  refine qn_then ?_
  refine cw_seq ?_
  refine cw_region ?_
  refine t_rd rfl (rd_assign rfl) ?_
  refine rwt_nil ?_
  refine qn_then ?_
  refine cw_seq ?_
  refine cw_region ?_
  refine t_rd rfl (rd_move rfl) ?_
  obtain ⟨r280, h281, q282⟩ := ob h; clear h
  refine t_ef rfl (ef_call tf11 rfl (Maker_Next_ok h281 (hv0_l.to_callT (k := 0) hm0 rfl) (hm0.get (k := 0) rfl))) ?_
  rintro _ w284 ⟨e_, hm283⟩
  obtain rfl := e_.symm
  have hm285 := hm0.callT (k := 0) rfl (fun _ h => h) hm283 (fun _ => Iff.rfl)
  refine t_rd rfl (rd_assign rfl) ?_
  refine rwt_nil ?_
  refine qn_then ?_
  refine cw_seq ?_
  refine cw_seq ?_
  refine cw_region ?_
  refine t_rd rfl (rd_assign rfl) ?_
  refine rwt_nil ?_
  refine qn_then ?_
  refine cw_block ?_
  have hm347 := hm285.addNil (α := T_Span) 52
  obtain ⟨r490, hit491, q492⟩ := ob q282; clear q282
  refine cw_loop2 (I := fun q envq wq => ∃ (v483 : Value), Sub [(0, (Value.pointer (some ⟨g0, 0, none⟩))), (1, (Value.int .i64 a1)), (5, v483), (6, (Value.int .i64 q.1)), (7, (Value.int .i64 q.2.1))] envq ∧ Mem w (fun k => k = g0) [ownL 52 v483 (q.2.2.2 : List T_Span), blk g0 55 [v0_l, (Value.int .i64 q.2.2.1)]] wq) (X := fun eq envq wq => eq = .exit 0 ∧ ∃ (v478 : Value), Sub [(5, v478)] envq ∧ Mem w (fun k => k = g0) [ownL 52 v478 (r490.2 : List T_Span), blk g0 55 [v0_l, (Value.int .i64 r490.1)]] wq) hit491 ⟨(Value.slice none 0 0), (by repeat (first | exact Sub.nil _ | refine Sub.cons rfl ?_)), (hm347.pick [0, 1] (by decide) rfl)⟩ ?_ ?_
  · rintro ⟨i479, i480, i481, l482⟩ x485 env486 w487 hf488 hr489 ⟨v483, hs_, hm_⟩
    have hs_ : Sub [(0, (Value.pointer (some ⟨g0, 0, none⟩))), (1, (Value.int .i64 a1)), (5, v483), (6, (Value.int .i64 i479)), (7, (Value.int .i64 i480))] env486 := hs_
    have hm493 : Mem w (fun k => k = g0) [ownL 52 v483 (l482 : List T_Span), blk g0 55 [v0_l, (Value.int .i64 i481)]] w487 := hm_
    refine cw_sub hs_ ?_
    clear hs_ hm_ q492
    have h : yardgen_Spans_l1 N a0_l a1 i479 i480 i481 l482 = some x485 := hf488
    clear hf488
    refine cw_seq ?_
    refine cw_seq ?_
    refine cw_region ?_
    refine t_rd rfl (rd_move rfl) ?_
    refine t_rd rfl (rd_leq rfl rfl) ?_
    refine t_rd rfl (rd_move rfl) ?_
    refine t_rdg rfl rfl rfl rfl (gv_t _) (fun hg494 => (rd_move rfl)) ?_
    refine t_rdg rfl rfl rfl rfl (gv_t _) (fun hg495 => (rd_lenS tS34 (gvx rfl hg495) (hm493.sl 0 rfl))) ?_
    refine t_rdg rfl rfl rfl rfl (gv_t _) (fun hg496 => (rd_move rfl)) ?_
    refine t_rdg rfl rfl rfl rfl (gv_t _) (fun hg497 => (rd_lss (gvx rfl hg497) (gvx rfl hg497))) ?_
    refine t_rd rfl (rd_and rfl (fun hc498 => (gvx rfl hc498))) ?_
    refine rwt_nil ?_
    refine qn_then ?_
    obtain ⟨hb499, q500⟩ | ⟨hb499, q500⟩ := oi h <;> clear h
    · refine cw_t rfl hb499 ?_
      refine cw_skip ?_
      refine qn_then ?_
      refine cw_seq ?_
      refine cw_block ?_
      refine cw_seq ?_
      refine cw_seq ?_
      refine cw_region ?_
      refine t_rd rfl (rd_move rfl) ?_
      obtain ⟨r501, h502, q503⟩ := ob q500; clear q500
      refine t_ef rfl (ef_call tf11 rfl (Maker_Next_ok h502 (hv0_l.to_callT (k := 1) hm493 rfl) (hm493.get (k := 1) rfl))) ?_
      rintro _ w505 ⟨e_, hm504⟩
      obtain rfl := e_.symm
      have hm506 := hm493.callT (k := 1) rfl (fun _ h => h) hm504 (fun _ => Iff.rfl)
      refine t_rd rfl (rd_eql rfl rfl) ?_
      refine rwt_nil ?_
      refine qn_then ?_
      obtain ⟨hb507, q508⟩ | ⟨hb507, q508⟩ := oi q503 <;> clear q503
      · refine cw_t rfl hb507 ?_
        refine cw_exit ?_
        refine qx_then (qx_same (qn_then ?_))
        refine cw_region ?_
        refine t_rd rfl (rd_move rfl) ?_
        obtain ⟨x509, h510, q511⟩ := ob q508; clear q508
        refine t_rd rfl (rd_add64 h510 rfl rfl) ?_
        refine t_rd rfl (rd_assign rfl) ?_
        refine rwt_nil ?_
        refine qn_then ?_
        refine ⟨_, (os q511), v483, (by repeat (first | exact Sub.nil _ | refine Sub.cons rfl ?_)), (hm506.pick [0, 1] (by decide) rfl)⟩
      · refine cw_f rfl hb507 ?_
        refine cw_skip ?_
        refine qn_then ?_
        refine cw_seq ?_
        refine cw_region ?_
        refine t_rd rfl (rd_move rfl) ?_
        refine t_rd rfl (rd_move rfl) ?_
        refine t_rd rfl (rd_move rfl) ?_
        refine t_ef rfl (ef_bslice (l := ([0, 1, 2] : List Int)) hm506 tS22 rfl (cs := #[(Value.int .i64 0), (Value.int .i64 1), (Value.int .i64 2)]) (by unfold bsl; kernel_rfl) rfl rfl) ?_
        intro v512 w514 hm513
        obtain ⟨r515, h516, q517⟩ := ob q508; clear q508
        refine t_ef rfl (ef_call tf13 rfl (Maker_Pick_ok h516 (hv0_l.to_callT (k := 2) hm513 rfl) (hm513.get (k := 2) rfl) (hm513.sl_callT 0 2 rfl rfl (by decide)))) ?_
        rintro _ w519 ⟨e_, hm518⟩
        obtain rfl := e_.symm
        have hm520 := hm513.callT (k := 2) rfl (fun _ h => h) hm518 (fun _ => Iff.rfl)
        refine t_rd rfl (rd_move rfl) ?_
        refine t_rd rfl (rd_move rfl) ?_
        obtain ⟨x521, h522, q523⟩ := ob q517; clear q517
        refine t_rd rfl (rd_add64 h522 rfl rfl) ?_
        refine t_rd rfl (rd_move rfl) ?_
        obtain ⟨r524, h525, q526⟩ := ob q523; clear q523
        refine t_ef rfl (ef_call tf11 rfl (Maker_Next_ok h525 (hv0_l.to_callT (k := 2) hm520 rfl) (hm520.get (k := 2) rfl))) ?_
        rintro _ w528 ⟨e_, hm527⟩
        obtain rfl := e_.symm
        have hm529 := hm520.callT (k := 2) rfl (fun _ h => h) hm527 (fun _ => Iff.rfl)
        obtain ⟨x530, h531, q532⟩ := ob q526; clear q526
        refine t_rd rfl (rd_add64 h531 rfl rfl) ?_
        refine t_rd rfl (rd_build (cs := #[(Value.int .i64 i480), (Value.int .i64 r515.2), (Value.int .i64 i479), (Value.int .i64 x530)]) rfl (by kernel_rfl)) ?_
        refine t_ef rfl (ef_bslice (l := ([(T_Span.mk i480 r515.2 i479 x530)] : List T_Span)) hm529 tS34 rfl (cs := #[(Value.int .i64 i480), (Value.int .i64 r515.2), (Value.int .i64 i479), (Value.int .i64 x530)]) (by unfold bsl; kernel_rfl) rfl rfl) ?_
        intro v533 w535 hm534
        obtain ⟨l536, h537, q538⟩ := ob q532; clear q532
        refine t_ef rfl (ef_append (k := 2) hm534 tS34 tE52 rfl rfl rfl rfl (hm534.sl 0 rfl) h537) ?_
        intro v539 w541 hm540
        refine t_rd rfl (rd_assign rfl) ?_
        refine rwt_nil ?_
        refine qn_then ?_
        refine cw_region ?_
        refine t_rd rfl (rd_move rfl) ?_
        refine t_rd rfl (rd_move rfl) ?_
        obtain ⟨r542, h543, q544⟩ := ob q538; clear q538
        refine t_ef rfl (ef_call tf11 rfl (Maker_Next_ok h543 (hv0_l.to_callT (k := 3) hm540 rfl) (hm540.get (k := 3) rfl))) ?_
        rintro _ w546 ⟨e_, hm545⟩
        obtain rfl := e_.symm
        have hm547 := hm540.callT (k := 3) rfl (fun _ h => h) hm545 (fun _ => Iff.rfl)
        obtain ⟨x548, h549, q550⟩ := ob q544; clear q544
        refine t_rd rfl (rd_add64 h549 rfl rfl) ?_
        refine t_rd rfl (rd_assign rfl) ?_
        refine rwt_nil ?_
        refine qn_block (qn_then ?_)
        refine cw_region ?_
        refine t_rd rfl (rd_move rfl) ?_
        obtain ⟨x551, h552, q553⟩ := ob q550; clear q550
        refine t_rd rfl (rd_add64 h552 rfl rfl) ?_
        refine t_rd rfl (rd_assign rfl) ?_
        refine rwt_nil ?_
        refine qn_then ?_
        refine ⟨_, (os q553), v539, (by repeat (first | exact Sub.nil _ | refine Sub.cons rfl ?_)), (hm547.pick [2, 3] (by decide) rfl)⟩
    · refine cw_f rfl hb499 ?_
      refine cw_exit ?_
      refine qx_then (qx_then ?_)
      obtain rfl := hr489 _ (os q500)
      exact ⟨rfl, v483, (by repeat (first | exact Sub.nil _ | refine Sub.cons rfl ?_)), (hm493.pick [0, 1] (by decide) rfl)⟩
  · skip
    intro e env554 w555 hX556
    obtain ⟨rfl, v478, hs557, hm558⟩ := hX556
    refine qx_same (qn_then ?_)
    refine cw_sub hs557 ?_
    refine cw_seq ?_
    refine cw_region ?_
    refine t_rd rfl (rd_move rfl) ?_
    refine t_rd rfl (rd_assign rfl) ?_
    refine rwt_nil ?_
    refine qn_then ?_
    refine cw_ret ?_
    obtain rfl := os q492
    exact ret1 rfl rfl ⟨v478, rfl, (hm558.pick [1, 0] (by decide) rfl)⟩

theorem yardgen_SpanLists_ok {N : Nat} {a0_l : List Int} {a0_n : Int} {a1 : Int} {res : Int × List (List T_Span)} (h : yardgen_SpanLists N a0_l a0_n a1 = some res) {w : World} {v0_l : Value} {g0 : Nat} (hv0_l : Sl (Old w (fun k => k = g0)) w v0_l a0_l) (hk0 : (blk g0 55 [v0_l, (Value.int .i64 a0_n)]).φ w) :
    CallsR Try.prog 22 [(Value.pointer (some ⟨g0, 0, none⟩)), (Value.int .i64 a1)] w (fun u w' => ∃ (zy0 : List Hdr) (y1 : Value), u = y1 ∧ Mem w (fun k => k = g0) [blk g0 55 [v0_l, (Value.int .i64 res.1)], ownL 34 y1 (zy0 : List Hdr), rowsC 52 zy0 (res.2 : List (List T_Span)) none] w') := by
  unfold yardgen_SpanLists at h
  refine fn_ok Try.func22 rfl rfl rfl ?_
  have hm0 := Mem.one hk0
  refine cw_seq ?_
  refine cw_region ?_
  refine t_rd rfl (rd_assign rfl) ?_
  refine rwt_nil ?_
  refine qn_then ?_
  refine cw_seq ?_
  refine cw_region ?_
  refine t_rd rfl (rd_assign rfl) ?_
  refine rwt_nil ?_
  refine qn_then ?_
  refine cw_seq ?_
  refine cw_seq ?_
  refine cw_region ?_
  refine t_rd rfl (rd_move rfl) ?_
  refine t_rd rfl (rd_move rfl) ?_
  obtain ⟨x629, h630, q631⟩ := ob h; clear h
  refine t_rd rfl (rd_add64 h630 rfl rfl) ?_
  obtain ⟨r632, h633, q634⟩ := ob q631; clear q631
  refine t_ef rfl (ef_call tf11 rfl (Maker_Next_ok h633 (hv0_l.to_callT (k := 0) hm0 rfl) (hm0.get (k := 0) rfl))) ?_
  rintro _ w636 ⟨e_, hm635⟩
  obtain rfl := e_.symm
  have hm637 := hm0.callT (k := 0) rfl (fun _ h => h) hm635 (fun _ => Iff.rfl)
  refine t_rd rfl (rd_assign rfl) ?_
  refine rwt_nil ?_
  refine qn_then ?_
  refine cw_block ?_
  have hm786 := hm637.addNil (α := Hdr) 34
  have hm787 := hm786.rowsNil (α := T_Span) 52
  obtain ⟨r1102, hit1103, q1104⟩ := ob q634; clear q634
  refine cw_loop2 (I := fun q envq wq => ∃ (v1094 : Value) (zs1095 : List Hdr), Sub [(0, (Value.pointer (some ⟨g0, 0, none⟩))), (5, v1094), (6, (Value.int .i64 q.1))] envq ∧ Mem w (fun k => k = g0) [rowsC 52 zs1095 (q.2.2 : List (List T_Span)) none, ownL 34 v1094 (zs1095 : List Hdr), blk g0 55 [v0_l, (Value.int .i64 q.2.1)]] wq) (X := fun eq envq wq => eq = .exit 0 ∧ ∃ (v1089 : Value) (zs1090 : List Hdr), Sub [(5, v1089)] envq ∧ Mem w (fun k => k = g0) [rowsC 52 zs1090 (r1102.2 : List (List T_Span)) none, ownL 34 v1089 (zs1090 : List Hdr), blk g0 55 [v0_l, (Value.int .i64 r1102.1)]] wq) hit1103 ⟨(Value.slice none 0 0), [], (by repeat (first | exact Sub.nil _ | refine Sub.cons rfl ?_)), (hm787.pick [0, 1, 2] (by decide) rfl)⟩ ?_ ?_
  · rintro ⟨i1091, i1092, l1093⟩ x1097 env1098 w1099 hf1100 hr1101 ⟨v1094, zs1095, hs_, hm_⟩
    have hs_ : Sub [(0, (Value.pointer (some ⟨g0, 0, none⟩))), (5, v1094), (6, (Value.int .i64 i1091))] env1098 := hs_
    have hm1105 : Mem w (fun k => k = g0) [rowsC 52 zs1095 (l1093 : List (List T_Span)) none, ownL 34 v1094 (zs1095 : List Hdr), blk g0 55 [v0_l, (Value.int .i64 i1092)]] w1099 := hm_
    refine cw_sub hs_ ?_
    clear hs_ hm_ q1104
    have h : yardgen_SpanLists_l4 N a0_l i1091 i1092 l1093 = some x1097 := hf1100
    clear hf1100
    refine cw_seq ?_
    refine cw_seq ?_
    refine cw_region ?_
    refine t_rd rfl (rd_move rfl) ?_
    refine t_rd rfl (rd_gtr rfl rfl) ?_
    refine rwt_nil ?_
    refine qn_then ?_
    obtain ⟨hb1106, q1107⟩ | ⟨hb1106, q1107⟩ := oi h <;> clear h
    · refine cw_t rfl hb1106 ?_
      refine cw_skip ?_
      refine qn_then ?_
      refine cw_seq ?_
      refine cw_block ?_
      refine cw_seq ?_
      refine cw_region ?_
      refine t_rd rfl (rd_move rfl) ?_
      obtain ⟨r1108, h1109, q1110⟩ := ob q1107; clear q1107
      refine t_ef rfl (ef_call tf36 rfl (yardgen_Spans_ok h1109 (hv0_l.to_callT (k := 2) hm1105 rfl) (hm1105.get (k := 2) rfl))) ?_
      rintro _ w1113 ⟨v1111, e_, hm1112⟩
      obtain rfl := e_.symm
      have hm1114 := hm1105.callT (k := 2) rfl (fun _ h => h) hm1112 (fun _ => Iff.rfl)
      refine t_rd rfl (rd_assign rfl) ?_
      refine rwt_nil ?_
      refine qn_then ?_
      refine cw_seq ?_
      refine cw_seq ?_
      refine cw_region ?_
      refine t_rd rfl (rd_assign rfl) ?_
      refine rwt_nil ?_
      refine qn_then ?_
      refine cw_block ?_
      obtain ⟨r1193, hit1194, q1195⟩ := ob q1110; clear q1110
      refine cw_loop2 (I := fun q envq wq => Sub [(0, (Value.pointer (some ⟨g0, 0, none⟩))), (5, v1094), (6, (Value.int .i64 i1091)), (7, v1111), (8, (Value.int .i64 q.1))] envq ∧ Mem w (fun k => k = g0) [ownL 52 v1111 (q.2.2 : List T_Span), rowsC 52 zs1095 (l1093 : List (List T_Span)) none, ownL 34 v1094 (zs1095 : List Hdr), blk g0 55 [v0_l, (Value.int .i64 q.2.1)]] wq) (X := fun eq envq wq => eq = .exit 2 ∧ Sub [(0, (Value.pointer (some ⟨g0, 0, none⟩))), (5, v1094), (6, (Value.int .i64 i1091)), (7, v1111)] envq ∧ Mem w (fun k => k = g0) [ownL 52 v1111 (r1193.2 : List T_Span), rowsC 52 zs1095 (l1093 : List (List T_Span)) none, ownL 34 v1094 (zs1095 : List Hdr), blk g0 55 [v0_l, (Value.int .i64 r1193.1)]] wq) hit1194 ⟨(by repeat (first | exact Sub.nil _ | refine Sub.cons rfl ?_)), (hm1114.pick [0, 1, 2, 3] (by decide) rfl)⟩ ?_ ?_
      · rintro ⟨i1184, i1185, l1186⟩ x1188 env1189 w1190 hf1191 hr1192 ⟨hs_, hm_⟩
        have hs_ : Sub [(0, (Value.pointer (some ⟨g0, 0, none⟩))), (5, v1094), (6, (Value.int .i64 i1091)), (7, v1111), (8, (Value.int .i64 i1184))] env1189 := hs_
        have hm1196 : Mem w (fun k => k = g0) [ownL 52 v1111 (l1186 : List T_Span), rowsC 52 zs1095 (l1093 : List (List T_Span)) none, ownL 34 v1094 (zs1095 : List Hdr), blk g0 55 [v0_l, (Value.int .i64 i1185)]] w1190 := hm_
        refine cw_sub hs_ ?_
        clear hs_ hm_ q1195
        have h : yardgen_SpanLists_l5 N a0_l i1184 i1185 l1186 = some x1188 := hf1191
        clear hf1191
        refine cw_seq ?_
        refine cw_seq ?_
        refine cw_region ?_
        refine t_rd rfl (rd_move rfl) ?_
        refine t_rd rfl (rd_move rfl) ?_
        refine t_rd rfl (rd_lenS tS34 rfl (hm1196.sl 0 rfl)) ?_
        refine t_rd rfl (rd_lss rfl rfl) ?_
        refine rwt_nil ?_
        refine qn_then ?_
        obtain ⟨hb1197, q1198⟩ | ⟨hb1197, q1198⟩ := oi h <;> clear h
        · refine cw_t rfl hb1197 ?_
          refine cw_skip ?_
          refine qn_then ?_
          refine cw_seq ?_
          refine cw_block ?_
          refine cw_seq ?_
          refine cw_region ?_
          refine t_rd rfl (rd_move rfl) ?_
          refine t_rd rfl (rd_move rfl) ?_
          obtain ⟨x1199, h1200, q1201⟩ := ob q1198; clear q1198
          refine t_rd rfl (rd_index tS34 rfl rfl (hm1196.sl 0 rfl) h1200) ?_
          refine t_rd rfl (rd_fld tF52_1 rfl) ?_
          refine t_ef0 (ef_stl (k := 0) (off := 1) (x' := (T_Span.mk x1199.Element 0 x1199.From x1199.To)) hm1196 tO3 rfl rfl rfl rfl h1200 rfl rfl) ?_
          intro _ w1203 hm1202
          refine rwt_nil ?_
          refine qn_then ?_
          refine cw_seq ?_
          refine cw_region ?_
          refine t_rd rfl (rd_move rfl) ?_
          refine t_rd rfl (rd_move rfl) ?_
          obtain ⟨x1204, h1205, q1206⟩ := ob q1201; clear q1201
          refine t_rd rfl (rd_index tS34 rfl rfl (hm1202.sl 0 rfl) h1205) ?_
          refine t_rd rfl (rd_fld tF52_0 rfl) ?_
          refine t_rd rfl (rd_ld1 tO3 rfl ((hm1202.sl 0 rfl).cells h1205) (off := 0) rfl) ?_
          refine t_rd rfl (rd_rem rfl rfl (by decide)) ?_
          refine t_rd rfl (rd_eql rfl rfl) ?_
          refine rwt_nil ?_
          refine qn_then ?_
          obtain ⟨hb1207, q1208⟩ | ⟨hb1207, q1208⟩ := oi q1206 <;> clear q1206
          · refine cw_t rfl hb1207 ?_
            refine cw_region ?_
            refine t_rd rfl (rd_move rfl) ?_
            refine t_rd rfl (rd_move rfl) ?_
            refine t_rd rfl (rd_move rfl) ?_
            refine t_ef rfl (ef_bslice (l := ([1, 2] : List Int)) hm1202 tS22 rfl (cs := #[(Value.int .i64 1), (Value.int .i64 2)]) (by unfold bsl; kernel_rfl) rfl rfl) ?_
            intro v1209 w1211 hm1210
            obtain ⟨r1212, h1213, q1214⟩ := ob q1208; clear q1208
            refine t_ef rfl (ef_call tf13 rfl (Maker_Pick_ok h1213 (hv0_l.to_callT (k := 4) hm1210 rfl) (hm1210.get (k := 4) rfl) (hm1210.sl_callT 0 4 rfl rfl (by decide)))) ?_
            rintro _ w1216 ⟨e_, hm1215⟩
            obtain rfl := e_.symm
            have hm1217 := hm1210.callT (k := 4) rfl (fun _ h => h) hm1215 (fun _ => Iff.rfl)
            obtain ⟨x1218, h1219, q1220⟩ := ob q1214; clear q1214
            refine t_rd rfl (rd_index tS34 rfl rfl (hm1217.sl 1 rfl) h1219) ?_
            refine t_rd rfl (rd_fld tF52_1 rfl) ?_
            refine t_ef0 (ef_stl (k := 1) (off := 1) (x' := (T_Span.mk x1218.Element r1212.2 x1218.From x1218.To)) hm1217 tO3 rfl rfl rfl rfl h1219 rfl rfl) ?_
            intro _ w1222 hm1221
            refine rwt_nil ?_
            refine qn_block (qn_then ?_)
            refine cw_region ?_
            refine t_rd rfl (rd_move rfl) ?_
            obtain ⟨x1223, h1224, q1225⟩ := ob q1220; clear q1220
            refine t_rd rfl (rd_add64 h1224 rfl rfl) ?_
            refine t_rd rfl (rd_assign rfl) ?_
            refine rwt_nil ?_
            refine qn_then ?_
            refine ⟨_, (os q1225), (by repeat (first | exact Sub.nil _ | refine Sub.cons rfl ?_)), (hm1221.pick [1, 2, 3, 4] (by decide) rfl)⟩
          · refine cw_f rfl hb1207 ?_
            refine cw_skip ?_
            refine qn_block (qn_then ?_)
            refine cw_region ?_
            refine t_rd rfl (rd_move rfl) ?_
            obtain ⟨x1226, h1227, q1228⟩ := ob q1208; clear q1208
            refine t_rd rfl (rd_add64 h1227 rfl rfl) ?_
            refine t_rd rfl (rd_assign rfl) ?_
            refine rwt_nil ?_
            refine qn_then ?_
            refine ⟨_, (os q1228), (by repeat (first | exact Sub.nil _ | refine Sub.cons rfl ?_)), (hm1202.pick [0, 1, 2, 3] (by decide) rfl)⟩
        · refine cw_f rfl hb1197 ?_
          refine cw_exit ?_
          refine qx_then (qx_then ?_)
          obtain rfl := hr1192 _ (os q1198)
          exact ⟨rfl, (by repeat (first | exact Sub.nil _ | refine Sub.cons rfl ?_)), (hm1196.pick [0, 1, 2, 3] (by decide) rfl)⟩
      · skip
        intro e env1229 w1230 hX1231
        obtain ⟨rfl, hs1232, hm1233⟩ := hX1231
        refine qx_same (qn_then ?_)
        refine cw_sub hs1232 ?_
        refine cw_region ?_
        refine t_rd rfl (rd_move rfl) ?_
        refine t_rd rfl (rd_move rfl) ?_
        obtain ⟨zd1234, ez1235⟩ : ∃ z : Hdr, z.1 = v1111 := ⟨⟨v1111, sl_one (hm1233.sl 0 rfl)⟩, rfl⟩
        refine t_ef rfl (ef_bslice (l := ([zd1234] : List Hdr)) hm1233 tS23 rfl (cs := #[v1111]) (by obtain ⟨_, _, e⟩ : ∃ A c, v1111 = Value.slice A (List.length r1193.2) c := ((hm1233.sl 0 rfl)).val; rw [e]; clear e; unfold bsl; kernel_rfl) (by show [zd1234.1] = [v1111]; rw [ez1235]) rfl) ?_
        intro v1236 w1238 hm1237
        obtain ⟨l1239, h1240, q1241⟩ := ob q1195; clear q1195
        obtain ⟨ha1242, he1243⟩ := app_h h1240 (hm1237.get (k := 2) rfl).1 ((Nl.mk (hm1237.sl_call 0 rfl) (Rows.cons (hm1237.sl_call 1 rfl) ez1235 Rows.nil))).rows.1
        refine t_ef rfl (ef_append (k := 3) hm1237 tS23 tE34 rfl rfl rfl rfl ((Nl.mk (hm1237.sl_call 0 rfl) (Rows.cons (hm1237.sl_call 1 rfl) ez1235 Rows.nil))).sp ha1242) ?_
        intro v1244 w1246 hm1245
        have hm1247 := hm1245.pick [2, 1, 0, 3, 4] (L' := [rowsC 52 zs1095 (l1093 : List (List T_Span)) none, ownL 52 v1111 (r1193.2 : List T_Span), ownL 34 v1236 ([zd1234] : List Hdr), ownL 34 v1244 ((zs1095 ++ [zd1234]) : List Hdr), blk g0 55 [v0_l, (Value.int .i64 r1193.1)]]) (by decide) rfl
        have hm1248 := hm1247.absorb ez1235 he1243
        refine t_rd rfl (rd_assign rfl) ?_
        refine rwt_nil ?_
        refine qn_block (qn_then ?_)
        refine cw_region ?_
        refine t_rd rfl (rd_move rfl) ?_
        obtain ⟨x1249, h1250, q1251⟩ := ob q1241; clear q1241
        refine t_rd rfl (rd_sub64 h1250 rfl rfl) ?_
        refine t_rd rfl (rd_assign rfl) ?_
        refine rwt_nil ?_
        refine qn_then ?_
        refine ⟨_, (os q1251), v1244, (zs1095 ++ [zd1234]), (by repeat (first | exact Sub.nil _ | refine Sub.cons rfl ?_)), (hm1248.pick [0, 2, 3] (by decide) rfl)⟩
    · refine cw_f rfl hb1106 ?_
      refine cw_exit ?_
      refine qx_then (qx_then ?_)
      obtain rfl := hr1101 _ (os q1107)
      exact ⟨rfl, v1094, zs1095, (by repeat (first | exact Sub.nil _ | refine Sub.cons rfl ?_)), (hm1105.pick [0, 1, 2] (by decide) rfl)⟩
  · skip
    intro e env1252 w1253 hX1254
    obtain ⟨rfl, v1089, zs1090, hs1255, hm1256⟩ := hX1254
    refine qx_same (qn_then ?_)
    refine cw_sub hs1255 ?_
    refine cw_seq ?_
    refine cw_region ?_
    refine t_rd rfl (rd_move rfl) ?_
    refine t_rd rfl (rd_assign rfl) ?_
    refine rwt_nil ?_
    refine qn_then ?_
    refine cw_ret ?_
    obtain rfl := os q1104
    exact ret1 rfl rfl ⟨zs1090, v1089, rfl, (hm1256.pick [2, 1, 0] (by decide) rfl)⟩

theorem r23_Valid_ok {N : Nat} {a0 : List T_Span} {res : Bool} (h : r23_Valid N a0 = some res) {w : World} {v0 : Value} (hv0 : Sl (Old w No) w v0 a0) :
    CallsR Try.prog 43 [v0] w (fun u w' => u = (Value.bool res) ∧ Mem w No [] w') := by
  unfold r23_Valid at h
  refine fn_ok Try.func43 rfl rfl rfl ?_
  have hm0 := Mem.nil w
  refine cw_seq ?_
  refine cw_region ?_
  refine t_rd rfl (rd_assign rfl) ?_
  refine rwt_nil ?_
  refine qn_then ?_
  refine cw_seq ?_
  refine cw_seq ?_
  refine cw_region ?_
  refine t_rd rfl (rd_move rfl) ?_
  refine t_rd rfl (rd_lenS tS34 rfl (hv0.of_old hm0)) ?_
  refine t_rd rfl (rd_gtr rfl rfl) ?_
  refine rwt_nil ?_
  refine qn_then ?_
  obtain ⟨hb1, q2⟩ | ⟨hb1, q2⟩ := oi h <;> clear h
  · refine cw_t rfl hb1 ?_
    refine cw_seq ?_
    refine cw_region ?_
    refine t_rd rfl (rd_assign rfl) ?_
    refine rwt_nil ?_
    refine qn_then ?_
    refine cw_ret ?_
    refine qr_then ?_
    obtain rfl := os q2
    exact ret1 rfl rfl ⟨rfl, (hm0.pick [] (by decide) rfl)⟩
  · refine cw_f rfl hb1 ?_
    refine cw_skip ?_
    refine qn_then ?_
    refine cw_seq ?_
    refine cw_seq ?_
    refine cw_region ?_
    refine t_rd rfl (rd_assign rfl) ?_
    refine rwt_nil ?_
    refine qn_then ?_
    refine cw_block ?_
    obtain ⟨r217, hit218, q219⟩ := ob q2; clear q2
    refine cw_loop2 (I := fun q envq wq => Sub [(0, v0), (3, (Value.int .i64 q))] envq ∧ Mem w No [] wq) (X := fun eq envq wq => (∃ p220, r217 = (Sum.inl p220) ∧ eq = .ret ∧ retQ Try.prog 62 Try.f43 (fun u w' => u = (Value.bool p220) ∧ Mem w No [] w') .ret envq wq) ∨ (∃ p221, r217 = (Sum.inr p221) ∧ eq = .exit 0 ∧ Sub [] envq ∧ Mem w No [] wq)) hit218 ⟨(by repeat (first | exact Sub.nil _ | refine Sub.cons rfl ?_)), (hm0.pick [] (by decide) rfl)⟩ ?_ ?_
    · rintro i210 x212 env213 w214 hf215 hr216 ⟨hs_, hm_⟩
      have hs_ : Sub [(0, v0), (3, (Value.int .i64 i210))] env213 := hs_
      have hm222 : Mem w No [] w214 := hm_
      refine cw_sub hs_ ?_
      clear hs_ hm_ q219
      have h : r23_Valid_l3 N a0 i210 = some x212 := hf215
      clear hf215
      refine cw_seq ?_
      refine cw_seq ?_
      refine cw_region ?_
      refine t_rd rfl (rd_move rfl) ?_
      refine t_rd rfl (rd_move rfl) ?_
      refine t_rd rfl (rd_lenS tS34 rfl (hv0.of_old hm222)) ?_
      refine t_rd rfl (rd_lss rfl rfl) ?_
      refine rwt_nil ?_
      refine qn_then ?_
      obtain ⟨hb223, q224⟩ | ⟨hb223, q224⟩ := oi h <;> clear h
      · refine cw_t rfl hb223 ?_
        refine cw_skip ?_
        refine qn_then ?_
        refine cw_seq ?_
        refine cw_block ?_
        refine cw_seq ?_
        refine cw_region ?_
        refine t_rd rfl (rd_move rfl) ?_
        refine t_rd rfl (rd_move rfl) ?_
        obtain ⟨x225, h226, q227⟩ := ob q224; clear q224
        refine t_rd rfl (rd_index tS34 rfl rfl (hv0.of_old hm222) h226) ?_
        refine t_rd rfl (rd_ld tA52 rfl ((hv0.of_old hm222).cells h226) rfl) ?_
        refine t_ef rfl (ef_alloc hm222 tZ52 rfl) ?_
        rintro _ w230 ⟨g228, rfl, hm229⟩
        refine t_ef0 (ef_stw (k := 0) hm229 tA52 rfl rfl (oc_cons rfl (oc_cons rfl (oc_cons rfl (oc_cons rfl oc_nil)))) rfl rfl rfl) ?_
        intro _ w232 hm231
        refine rwt_nil ?_
        refine qn_then ?_
        refine cw_seq ?_
        refine cw_seq ?_
        refine cw_region ?_
        refine t_rd rfl (rd_fld tF52_0 rfl) ?_
        refine t_rd rfl (rd_ld1 tO3 rfl (hm231.blk 0 rfl) (off := 0) rfl) ?_
        refine t_rd rfl (rd_lss rfl rfl) ?_
        refine t_rd rfl (rd_move rfl) ?_
        refine t_rdg rfl rfl rfl rfl (gv_f _) (fun hg233 => (rd_fld tF52_1 rfl)) ?_
        refine t_rdg rfl rfl rfl rfl (gv_f _) (fun hg234 => (rd_ld1 tO3 (gvx rfl hg234) (hm231.blk 0 rfl) (off := 1) rfl)) ?_
        refine t_rdg rfl rfl rfl rfl (gv_f _) (fun hg235 => (rd_lss (gvx rfl hg235) rfl)) ?_
        refine t_rd rfl (rd_or rfl (fun hc236 => (gvx rfl (bnotIt hc236)))) ?_
        refine t_rd rfl (rd_move rfl) ?_
        refine t_rdg rfl rfl rfl rfl (gv_f _) (fun hg237 => (rd_fld tF52_1 rfl)) ?_
        refine t_rdg rfl rfl rfl rfl (gv_f _) (fun hg238 => (rd_ld1 tO3 (gvx rfl hg238) (hm231.blk 0 rfl) (off := 1) rfl)) ?_
        refine t_rdg rfl rfl rfl rfl (gv_f _) (fun hg239 => (rd_gtr (gvx rfl hg239) rfl)) ?_
        refine t_rd rfl (rd_or rfl (fun hc240 => (gvx rfl (bnotIt hc240)))) ?_
        refine t_rd rfl (rd_move rfl) ?_
        refine t_rdg rfl rfl rfl rfl (gv_f _) (fun hg241 => (rd_fld tF52_2 rfl)) ?_
        refine t_rdg rfl rfl rfl rfl (gv_f _) (fun hg242 => (rd_ld1 tO3 (gvx rfl hg242) (hm231.blk 0 rfl) (off := 2) rfl)) ?_
        refine t_rdg rfl rfl rfl rfl (gv_f _) (fun hg243 => (rd_lss (gvx rfl hg243) rfl)) ?_
        refine t_rd rfl (rd_or rfl (fun hc244 => (gvx rfl (bnotIt hc244)))) ?_
        refine t_rd rfl (rd_move rfl) ?_
        refine t_rdg rfl rfl rfl rfl (gv_f _) (fun hg245 => (rd_fld tF52_2 rfl)) ?_
        refine t_rdg rfl rfl rfl rfl (gv_f _) (fun hg246 => (rd_ld1 tO3 (gvx rfl hg246) (hm231.blk 0 rfl) (off := 2) rfl)) ?_
        refine t_rdg rfl rfl rfl rfl (gv_f _) (fun hg247 => (rd_fld tF52_3 rfl)) ?_
        refine t_rdg rfl rfl rfl rfl (gv_f _) (fun hg248 => (rd_ld1 tO3 (gvx rfl hg248) (hm231.blk 0 rfl) (off := 3) rfl)) ?_
        refine t_rdg rfl rfl rfl rfl (gv_f _) (fun hg249 => (rd_geq (gvx rfl hg249) (gvx rfl hg249))) ?_
        refine t_rd rfl (rd_or rfl (fun hc250 => (gvx rfl (bnotIt hc250)))) ?_
        refine t_rd rfl (rd_move rfl) ?_
        refine t_rdg rfl rfl rfl rfl (gv_f _) (fun hg251 => (rd_fld tF52_3 rfl)) ?_
        refine t_rdg rfl rfl rfl rfl (gv_f _) (fun hg252 => (rd_ld1 tO3 (gvx rfl hg252) (hm231.blk 0 rfl) (off := 3) rfl)) ?_
        refine t_rdg rfl rfl rfl rfl (gv_f _) (fun hg253 => (rd_gtr (gvx rfl hg253) rfl)) ?_
        refine t_rd rfl (rd_or rfl (fun hc254 => (gvx rfl (bnotIt hc254)))) ?_
        refine rwt_nil ?_
        refine qn_then ?_
        obtain ⟨hb255, q256⟩ | ⟨hb255, q256⟩ := oi q227 <;> clear q227
        · refine cw_t rfl hb255 ?_
          refine cw_seq ?_
          refine cw_region ?_
          refine t_rd rfl (rd_assign rfl) ?_
          refine rwt_nil ?_
          refine qn_then ?_
          refine cw_ret ?_
          refine qr_then (qr_block (qr_then (qr_then ?_)))
          obtain rfl := hr216 _ (os q256)
          refine .inl (⟨_, rfl, ⟨rfl, ?_⟩⟩)
          exact ret1 rfl rfl ⟨rfl, (hm231.pick [] (by decide) rfl)⟩
        · refine cw_f rfl hb255 ?_
          refine cw_skip ?_
          refine qn_then ?_
          refine cw_seq ?_
          refine cw_region ?_
          refine t_rd rfl (rd_assign rfl) ?_
          refine rwt_nil ?_
          refine qn_then ?_
          refine cw_block ?_
          obtain ⟨r293, hit294, q295⟩ := ob q256; clear q256
          refine cw_loop2 (I := fun q envq wq => Sub [(0, v0), (3, (Value.int .i64 i210)), (4, (Value.pointer (some ⟨g228, 0, none⟩))), (5, (Value.int .i64 q))] envq ∧ Mem w No [blk g228 52 [(Value.int .i64 x225.Element), (Value.int .i64 x225.Side), (Value.int .i64 x225.From), (Value.int .i64 x225.To)]] wq) (X := fun eq envq wq => (∃ p296, r293 = (Sum.inl p296) ∧ eq = .ret ∧ retQ Try.prog 62 Try.f43 (fun u w' => u = (Value.bool p296) ∧ Mem w No [] w') .ret envq wq) ∨ (∃ p297, r293 = (Sum.inr p297) ∧ eq = .exit 2 ∧ Sub [(0, v0), (3, (Value.int .i64 i210))] envq ∧ Mem w No [] wq)) hit294 ⟨(by repeat (first | exact Sub.nil _ | refine Sub.cons rfl ?_)), (hm231.pick [0] (by decide) rfl)⟩ ?_ ?_
          · rintro i286 x288 env289 w290 hf291 hr292 ⟨hs_, hm_⟩
            have hs_ : Sub [(0, v0), (3, (Value.int .i64 i210)), (4, (Value.pointer (some ⟨g228, 0, none⟩))), (5, (Value.int .i64 i286))] env289 := hs_
            have hm298 : Mem w No [blk g228 52 [(Value.int .i64 x225.Element), (Value.int .i64 x225.Side), (Value.int .i64 x225.From), (Value.int .i64 x225.To)]] w290 := hm_
            refine cw_sub hs_ ?_
            clear hs_ hm_ q295
            have h : r23_Valid_l4 N a0 i210 x225 i286 = some x288 := hf291
            clear hf291
            refine cw_seq ?_
            refine cw_seq ?_
            refine cw_region ?_
            refine t_rd rfl (rd_move rfl) ?_
            refine t_rd rfl (rd_move rfl) ?_
            refine t_rd rfl (rd_lss rfl rfl) ?_
            refine rwt_nil ?_
            refine qn_then ?_
            obtain ⟨hb299, q300⟩ | ⟨hb299, q300⟩ := oi h <;> clear h
            · refine cw_t rfl hb299 ?_
              refine cw_skip ?_
              refine qn_then ?_
              refine cw_seq ?_
              refine cw_block ?_
              refine cw_seq ?_
              obtain ⟨w302, he304⟩ : ∃ q, q = w290.drew := ⟨_, rfl⟩
              have hm303 := hm298.drew; rw [← he304] at hm303
              refine cw_region_s (fun q => q = w302) (cls [] []) mixed ?_
              rintro _ rfl; rw [← he304]
              refine s_rp (i := 0) rfl (by kernel_rfl) rfl (fun _ => (rd_move rfl)) ?_
              refine s_rp (i := 1) rfl (by kernel_rfl) rfl (fun _ => (rd_move rfl)) ?_
              obtain ⟨x305, h306, q307⟩ := ob q300; clear q300
              refine s_rp (i := 2) rfl (by kernel_rfl) rfl (fun _ => (rd_index tS34 rfl rfl (hv0.of_old hm303) h306)) ?_
              refine s_rp (i := 3) rfl (by kernel_rfl) rfl (fun _ => (rd_fld tF52_0 rfl)) ?_
              refine s_rd (i := 4) rfl (by kernel_rfl) rfl (fun _ hS => by rw [hS]; exact (rd_ld1 tO3 rfl ((hv0.of_old hm303).cells h306) (off := 0) rfl)) rfl ?_
              refine s_rp (i := 5) rfl (by kernel_rfl) rfl (fun _ => (rd_fld tF52_0 rfl)) ?_
              refine s_rd (i := 6) rfl (by kernel_rfl) rfl (fun _ hS => by rw [hS]; exact (rd_ld1 tO3 rfl (hm303.blk 0 rfl) (off := 0) rfl)) rfl ?_
              refine s_rp (i := 7) rfl (by kernel_rfl) rfl (fun _ => (rd_eql rfl rfl)) ?_
              refine s_nil (by kernel_rfl) ?_
              refine qn_then ?_
              obtain ⟨hb308, q309⟩ | ⟨hb308, q309⟩ := oi q307 <;> clear q307
              · refine cw_t rfl hb308 ?_
                refine cw_seq ?_
                refine cw_region ?_
                refine t_rd rfl (rd_assign rfl) ?_
                refine rwt_nil ?_
                refine qn_then ?_
                refine cw_ret ?_
                refine qr_block (qr_then (qr_then ?_))
                obtain rfl := hr292 _ (os q309)
                refine .inl (⟨_, rfl, ⟨rfl, ?_⟩⟩)
                exact ret1 rfl rfl ⟨rfl, (hm303.pick [] (by decide) rfl)⟩
              · refine cw_f rfl hb308 ?_
                refine cw_skip ?_
                refine qn_block (qn_then ?_)
                refine cw_region ?_
                refine t_rd rfl (rd_move rfl) ?_
                obtain ⟨x310, h311, q312⟩ := ob q309; clear q309
                refine t_rd rfl (rd_add64 h311 rfl rfl) ?_
                refine t_rd rfl (rd_assign rfl) ?_
                refine rwt_nil ?_
                refine qn_then ?_
                refine ⟨_, (os q312), (by repeat (first | exact Sub.nil _ | refine Sub.cons rfl ?_)), (hm303.pick [0] (by decide) rfl)⟩
            · refine cw_f rfl hb299 ?_
              refine cw_exit ?_
              refine qx_then (qx_then ?_)
              obtain rfl := hr292 _ (os q300)
              exact .inr (⟨_, rfl, ⟨rfl, (by repeat (first | exact Sub.nil _ | refine Sub.cons rfl ?_)), (hm298.pick [] (by decide) rfl)⟩⟩)
          · skip
            intro e env313 w314 hX315
            rcases hX315 with hX315 | hX315
            · obtain ⟨p317, rfl, hX315⟩ := hX315
              obtain ⟨rfl, hq319⟩ := hX315
              obtain rfl := hr216 _ (os q295)
              exact qr_block (qr_block (qr_then (qr_then (.inl (⟨_, rfl, ⟨rfl, hq319⟩⟩)))))
            · obtain ⟨p320, rfl, hX315⟩ := hX315
              obtain ⟨rfl, hs321, hm322⟩ := hX315
              refine qx_same (qn_block (qn_then ?_))
              refine cw_sub hs321 ?_
              refine cw_region ?_
              refine t_rd rfl (rd_move rfl) ?_
              obtain ⟨x323, h324, q325⟩ := ob q295; clear q295
              refine t_rd rfl (rd_add64 h324 rfl rfl) ?_
              refine t_rd rfl (rd_assign rfl) ?_
              refine rwt_nil ?_
              refine qn_then ?_
              refine ⟨_, (os q325), (by repeat (first | exact Sub.nil _ | refine Sub.cons rfl ?_)), (hm322.pick [] (by decide) rfl)⟩
      · refine cw_f rfl hb223 ?_
        refine cw_exit ?_
        refine qx_then (qx_then ?_)
        obtain rfl := hr216 _ (os q224)
        exact .inr (⟨_, rfl, ⟨rfl, (by repeat (first | exact Sub.nil _ | refine Sub.cons rfl ?_)), (hm222.pick [] (by decide) rfl)⟩⟩)
    · skip
      intro e env326 w327 hX328
      rcases hX328 with hX328 | hX328
      · obtain ⟨p330, rfl, hX328⟩ := hX328
        obtain ⟨rfl, hq332⟩ := hX328
        exact qr_block (qr_then ((by have e := os q219; subst e; exact hq332)))
      · obtain ⟨p333, rfl, hX328⟩ := hX328
        obtain ⟨rfl, hs334, hm335⟩ := hX328
        refine qx_same (qn_then ?_)
        refine cw_sub hs334 ?_
        refine cw_seq ?_
        refine cw_region ?_
        refine t_rd rfl (rd_assign rfl) ?_
        refine rwt_nil ?_
        refine qn_then ?_
        refine cw_ret ?_
        obtain rfl := os q219
        exact ret1 rfl rfl ⟨rfl, (hm335.pick [] (by decide) rfl)⟩

theorem r23_Lists_ok {N : Nat} {a0 : List (List T_Span)} {a1 : Int} {res : Int} (h : r23_Lists N a0 a1 = some res) {w : World} {v0 : Value} (hv0 : Sl (Old w No) w v0 a0) :
    CallsR Try.prog 37 [v0, (Value.int .i64 a1)] w (fun u w' => u = (Value.int .i64 res) ∧ Mem w No [] w') := by
  unfold r23_Lists at h
  refine fn_ok Try.func37 rfl rfl rfl ?_
  obtain ⟨zs_a0, hn0⟩ := hv0.nest
  have hm0 := Mem.nil w
  refine cw_seq ?_
  refine cw_region ?_
  refine t_rd rfl (rd_assign rfl) ?_
  refine rwt_nil ?_
  refine qn_then ?_
  refine cw_seq ?_
  refine cw_seq ?_
  refine cw_region ?_
  refine t_rd rfl (rd_move rfl) ?_
  refine t_rd rfl (rd_lenS tS23 rfl ((hn0.of_old hm0).sl)) ?_
  refine t_rd rfl (rd_gtr rfl rfl) ?_
  refine rwt_nil ?_
  refine qn_then ?_
  obtain ⟨hb1, q2⟩ | ⟨hb1, q2⟩ := oi h <;> clear h
  · refine cw_t rfl hb1 ?_
    refine cw_seq ?_
    refine cw_region ?_
    refine t_rd rfl (rd_assign rfl) ?_
    refine rwt_nil ?_
    refine qn_then ?_
    refine cw_ret ?_
    refine qr_then ?_
    obtain rfl := os q2
    exact ret1 rfl rfl ⟨rfl, (hm0.pick [] (by decide) rfl)⟩
  · refine cw_f rfl hb1 ?_
    refine cw_skip ?_
    refine qn_then ?_
    refine cw_seq ?_
    refine cw_region ?_
    refine t_rd rfl (rd_move rfl) ?_
    refine t_rd rfl (rd_geq rfl rfl) ?_
    refine t_rd rfl (rd_move rfl) ?_
    refine t_rdg rfl rfl rfl rfl (gv_t _) (fun hg3 => (rd_move rfl)) ?_
    refine t_rdg rfl rfl rfl rfl (gv_t _) (fun hg4 => (rd_leq (gvx rfl hg4) rfl)) ?_
    refine t_rd rfl (rd_and rfl (fun hc5 => (gvx rfl hc5))) ?_
    refine t_rd rfl (rd_assign rfl) ?_
    refine rwt_nil ?_
    refine qn_then ?_
    refine cw_seq ?_
    refine cw_seq ?_
    refine cw_region ?_
    refine t_rd rfl (rd_assign rfl) ?_
    refine rwt_nil ?_
    refine qn_then ?_
    refine cw_block ?_
    obtain ⟨r61, hit62, q63⟩ := ob q2; clear q2
    refine cw_loop2 (I := fun q envq wq => Sub [(0, v0), (5, (Value.bool q.1)), (6, (Value.int .i64 q.2))] envq ∧ Mem w No [] wq) (X := fun eq envq wq => eq = .exit 0 ∧ Sub [(5, (Value.bool r61))] envq ∧ Mem w No [] wq) hit62 ⟨(by repeat (first | exact Sub.nil _ | refine Sub.cons rfl ?_)), (hm0.pick [] (by decide) rfl)⟩ ?_ ?_
    · rintro ⟨b53, i54⟩ x56 env57 w58 hf59 hr60 ⟨hs_, hm_⟩
      have hs_ : Sub [(0, v0), (5, (Value.bool b53)), (6, (Value.int .i64 i54))] env57 := hs_
      have hm64 : Mem w No [] w58 := hm_
      refine cw_sub hs_ ?_
      clear hs_ hm_ q63
      have h : r23_Lists_l1 N a0 b53 i54 = some x56 := hf59
      clear hf59
      refine cw_seq ?_
      refine cw_seq ?_
      refine cw_region ?_
      refine t_rd rfl (rd_move rfl) ?_
      refine t_rd rfl (rd_move rfl) ?_
      refine t_rd rfl (rd_lenS tS23 rfl ((hn0.of_old hm64).sl)) ?_
      refine t_rd rfl (rd_lss rfl rfl) ?_
      refine rwt_nil ?_
      refine qn_then ?_
      obtain ⟨hb65, q66⟩ | ⟨hb65, q66⟩ := oi h <;> clear h
      · refine cw_t rfl hb65 ?_
        refine cw_skip ?_
        refine qn_then ?_
        refine cw_seq ?_
        refine cw_block ?_
        refine cw_region ?_
        refine t_rd rfl (rd_move rfl) ?_
        refine t_rd rfl (rd_move rfl) ?_
        refine t_rdg rfl rfl rfl rfl (gv_t _) (fun hg67 => (rd_move rfl)) ?_
        refine t_rdg rfl rfl rfl rfl (gv_t _) (fun hg68 => (rd_move rfl)) ?_
        obtain ⟨x70, h71, q72⟩ := ob q66; clear q66
        refine t_rdg rfl rfl rfl rfl (gv_t _) (fun hg69 => (rd_index tS23 (gvx rfl hg69) (gvx rfl hg69) ((hn0.of_old hm64).sl) (gO_t h71 hg69))) ?_
        obtain ⟨zd74, hz75⟩ := (hn0.of_old hm64).rowg (g := b53) (fun q => gO_t h71 q)
        refine t_rdg rfl rfl rfl rfl (gv_t _) (fun hg73 => (rd_ld1 tO34 (gvx rfl hg73) ((hn0.of_old hm64).cells (hz75 hg73)) (off := 0) rfl)) ?_
        obtain ⟨r77, h78, q79⟩ := ob q72; clear q72
        refine t_efg rfl rfl rfl rfl (R := (fun v w' => v = gV b53 (Value.bool r77) ∧ Mem w58 No [] w')) (gv_t _) (fun hg76 => (ef_call tf43 (evc (gvx rfl hg76) evn) (r23_Valid_ok (gO_t h78 hg76) ((hn0.to_call hm64).get (hz75 hg76) (gO_t h71 hg76)))).mono (by rintro _ _ ⟨rfl, q⟩; exact ⟨(gV_t hg76).symm, q⟩)) (fun q => ⟨(gV_f q).symm, Mem.nil _⟩) ?_
        rintro _ w81 ⟨rfl, hm80⟩
        have hm82 := hm64.call hm80
        refine t_rd rfl (rd_and rfl (fun hc83 => (gvx rfl hc83))) ?_
        refine t_rd rfl (rd_assign rfl) ?_
        refine rwt_nil ?_
        refine qn_block (qn_then ?_)
        refine cw_region ?_
        refine t_rd rfl (rd_move rfl) ?_
        obtain ⟨x84, h85, q86⟩ := ob q79; clear q79
        refine t_rd rfl (rd_add64 h85 rfl rfl) ?_
        refine t_rd rfl (rd_assign rfl) ?_
        refine rwt_nil ?_
        refine qn_then ?_
        refine ⟨_, (os q86), (by repeat (first | exact Sub.nil _ | refine Sub.cons rfl ?_)), (hm82.pick [] (by decide) rfl)⟩
      · refine cw_f rfl hb65 ?_
        refine cw_exit ?_
        refine qx_then (qx_then ?_)
        obtain rfl := hr60 _ (os q66)
        exact ⟨rfl, (by repeat (first | exact Sub.nil _ | refine Sub.cons rfl ?_)), (hm64.pick [] (by decide) rfl)⟩
    · skip
      intro e env87 w88 hX89
      obtain ⟨rfl, hs90, hm91⟩ := hX89
      refine qx_same (qn_then ?_)
      refine cw_sub hs90 ?_
      refine cw_seq ?_
      refine cw_seq ?_
      refine cw_region ?_
      refine t_rd rfl (rd_move rfl) ?_
      refine t_rd rfl (rd_not rfl) ?_
      refine rwt_nil ?_
      refine qn_then ?_
      obtain ⟨hb92, q93⟩ | ⟨hb92, q93⟩ := oi q63 <;> clear q63
      · refine cw_t rfl hb92 ?_
        refine cw_seq ?_
        refine cw_region ?_
        refine t_rd rfl (rd_assign rfl) ?_
        refine rwt_nil ?_
        refine qn_then ?_
        refine cw_ret ?_
        refine qr_then ?_
        obtain rfl := os q93
        exact ret1 rfl rfl ⟨rfl, (hm91.pick [] (by decide) rfl)⟩
      · refine cw_f rfl hb92 ?_
        refine cw_skip ?_
        refine qn_then ?_
        refine cw_seq ?_
        refine cw_region ?_
        refine t_rd rfl (rd_assign rfl) ?_
        refine rwt_nil ?_
        refine qn_then ?_
        refine cw_ret ?_
        obtain rfl := os q93
        exact ret1 rfl rfl ⟨rfl, (hm91.pick [] (by decide) rfl)⟩

theorem r23_Find_ok {N : Nat} {a0 : List T_Span} {a1 : Int} {res : Int} (h : r23_Find N a0 a1 = some res) {w : World} {v0 : Value} (hv0 : Sl (Old w No) w v0 a0) :
    CallsR Try.prog 20 [v0, (Value.int .i64 a1)] w (fun u w' => u = (Value.int .i64 res) ∧ Mem w No [] w') := by
  unfold r23_Find at h
  refine fn_ok Try.func20 rfl rfl rfl ?_
  have hm0 := Mem.nil w
  refine cw_seq ?_
  refine cw_region ?_
  refine t_rd rfl (rd_assign rfl) ?_
  refine rwt_nil ?_
  refine qn_then ?_
  refine cw_seq ?_
  refine cw_seq ?_
  refine cw_region ?_
  refine t_rd rfl (rd_assign rfl) ?_
  refine rwt_nil ?_
  refine qn_then ?_
  refine cw_block ?_
  obtain ⟨r29, hit30, q31⟩ := ob h; clear h
  refine cw_loop2 (I := fun q envq wq => Sub [(0, v0), (1, (Value.int .i64 a1)), (5, (Value.int .i64 q))] envq ∧ Mem w No [] wq) (X := fun eq envq wq => (∃ p32, r29 = (Sum.inl p32) ∧ eq = .ret ∧ retQ Try.prog 20 Try.f20 (fun u w' => u = (Value.int .i64 p32) ∧ Mem w No [] w') .ret envq wq) ∨ (∃ p33, r29 = (Sum.inr p33) ∧ eq = .exit 0 ∧ Sub [] envq ∧ Mem w No [] wq)) hit30 ⟨(by repeat (first | exact Sub.nil _ | refine Sub.cons rfl ?_)), (hm0.pick [] (by decide) rfl)⟩ ?_ ?_
  · rintro i22 x24 env25 w26 hf27 hr28 ⟨hs_, hm_⟩
    have hs_ : Sub [(0, v0), (1, (Value.int .i64 a1)), (5, (Value.int .i64 i22))] env25 := hs_
    have hm34 : Mem w No [] w26 := hm_
    refine cw_sub hs_ ?_
    clear hs_ hm_ q31
    have h : r23_Find_l1 N a0 a1 i22 = some x24 := hf27
    clear hf27
    refine cw_seq ?_
    refine cw_seq ?_
    refine cw_region ?_
    refine t_rd rfl (rd_move rfl) ?_
    refine t_rd rfl (rd_move rfl) ?_
    refine t_rd rfl (rd_lenS tS34 rfl (hv0.of_old hm34)) ?_
    refine t_rd rfl (rd_lss rfl rfl) ?_
    refine rwt_nil ?_
    refine qn_then ?_
    obtain ⟨hb35, q36⟩ | ⟨hb35, q36⟩ := oi h <;> clear h
    · refine cw_t rfl hb35 ?_
      refine cw_skip ?_
      refine qn_then ?_
      refine cw_seq ?_
      refine cw_block ?_
      refine cw_seq ?_
      refine cw_region ?_
      refine t_rd rfl (rd_move rfl) ?_
      refine t_rd rfl (rd_move rfl) ?_
      obtain ⟨x37, h38, q39⟩ := ob q36; clear q36
      refine t_rd rfl (rd_index tS34 rfl rfl (hv0.of_old hm34) h38) ?_
      refine t_rd rfl (rd_fld tF52_0 rfl) ?_
      refine t_rd rfl (rd_ld1 tO3 rfl ((hv0.of_old hm34).cells h38) (off := 0) rfl) ?_
      refine t_rd rfl (rd_move rfl) ?_
      refine t_rd rfl (rd_eql rfl rfl) ?_
      refine rwt_nil ?_
      refine qn_then ?_
      obtain ⟨hb40, q41⟩ | ⟨hb40, q41⟩ := oi q39 <;> clear q39
      · refine cw_t rfl hb40 ?_
        refine cw_seq ?_
        refine cw_region ?_
        refine t_rd rfl (rd_move rfl) ?_
        refine t_rd rfl (rd_assign rfl) ?_
        refine rwt_nil ?_
        refine qn_then ?_
        refine cw_ret ?_
        refine qr_block (qr_then (qr_then ?_))
        obtain rfl := hr28 _ (os q41)
        refine .inl (⟨_, rfl, ⟨rfl, ?_⟩⟩)
        exact ret1 rfl rfl ⟨rfl, (hm34.pick [] (by decide) rfl)⟩
      · refine cw_f rfl hb40 ?_
        refine cw_skip ?_
        refine qn_block (qn_then ?_)
        refine cw_region ?_
        refine t_rd rfl (rd_move rfl) ?_
        obtain ⟨x42, h43, q44⟩ := ob q41; clear q41
        refine t_rd rfl (rd_add64 h43 rfl rfl) ?_
        refine t_rd rfl (rd_assign rfl) ?_
        refine rwt_nil ?_
        refine qn_then ?_
        refine ⟨_, (os q44), (by repeat (first | exact Sub.nil _ | refine Sub.cons rfl ?_)), (hm34.pick [] (by decide) rfl)⟩
    · refine cw_f rfl hb35 ?_
      refine cw_exit ?_
      refine qx_then (qx_then ?_)
      obtain rfl := hr28 _ (os q36)
      exact .inr (⟨_, rfl, ⟨rfl, (by repeat (first | exact Sub.nil _ | refine Sub.cons rfl ?_)), (hm34.pick [] (by decide) rfl)⟩⟩)
  · skip
    intro e env45 w46 hX47
    rcases hX47 with hX47 | hX47
    · obtain ⟨p49, rfl, hX47⟩ := hX47
      obtain ⟨rfl, hq51⟩ := hX47
      exact qr_block (qr_then ((by have e := os q31; subst e; exact hq51)))
    · obtain ⟨p52, rfl, hX47⟩ := hX47
      obtain ⟨rfl, hs53, hm54⟩ := hX47
      refine qx_same (qn_then ?_)
      refine cw_sub hs53 ?_
      refine cw_seq ?_
      refine cw_region ?_
      refine t_rd rfl (rd_assign rfl) ?_
      refine rwt_nil ?_
      refine qn_then ?_
      refine cw_ret ?_
      obtain rfl := os q31
      exact ret1 rfl rfl ⟨rfl, (hm54.pick [] (by decide) rfl)⟩

theorem r23_After_ok {N : Nat} {a0 : T_Span} {a1 : T_Span} {a2 : Int} {res : Int} (h : r23_After N a0 a1 a2 = some res) {w : World}   :
    CallsR Try.prog 44 [(Value.agg (Flat.enc a0).toArray), (Value.agg (Flat.enc a1).toArray), (Value.int .i64 a2)] w (fun u w' => u = (Value.int .i64 res) ∧ Mem w No [] w') := by
  unfold r23_After at h
  refine fn_ok Try.func44 rfl rfl rfl ?_
  have hm0 := Mem.nil w
  refine cw_seq ?_
  refine cw_region ?_
  refine t_ef rfl (ef_box hm0 rfl rfl) ?_
  rintro _ w3 ⟨g1, rfl, hm2⟩
  refine t_ef rfl (ef_box hm2 rfl rfl) ?_
  rintro _ w6 ⟨g4, rfl, hm5⟩
  refine t_rd rfl (rd_assign rfl) ?_
  refine rwt_nil ?_
  refine qn_then ?_
  refine cw_seq ?_
  refine cw_seq ?_
  refine cw_region ?_
  refine t_rd rfl (rd_fld tF52_1 rfl) ?_
  refine t_rd rfl (rd_ld1 tO3 rfl (hm5.blk 1 rfl) (off := 1) rfl) ?_
  refine t_rd rfl (rd_neq rfl rfl) ?_
  refine t_rd rfl (rd_move rfl) ?_
  refine t_rdg rfl rfl rfl rfl (gv_t _) (fun hg7 => (rd_fld tF52_1 rfl)) ?_
  refine t_rdg rfl rfl rfl rfl (gv_t _) (fun hg8 => (rd_ld1 tO3 (gvx rfl hg8) (hm5.blk 0 rfl) (off := 1) rfl)) ?_
  refine t_rdg rfl rfl rfl rfl (gv_t _) (fun hg9 => (rd_neq (gvx rfl hg9) rfl)) ?_
  refine t_rd rfl (rd_and rfl (fun hc10 => (gvx rfl hc10))) ?_
  refine t_rd rfl (rd_move rfl) ?_
  refine t_rdg rfl rfl rfl rfl (gv_t _) (fun hg11 => (rd_fld tF52_1 rfl)) ?_
  refine t_rdg rfl rfl rfl rfl (gv_t _) (fun hg12 => (rd_ld1 tO3 (gvx rfl hg12) (hm5.blk 1 rfl) (off := 1) rfl)) ?_
  refine t_rdg rfl rfl rfl rfl (gv_t _) (fun hg13 => (rd_fld tF52_1 rfl)) ?_
  refine t_rdg rfl rfl rfl rfl (gv_t _) (fun hg14 => (rd_ld1 tO3 (gvx rfl hg14) (hm5.blk 0 rfl) (off := 1) rfl)) ?_
  refine t_rdg rfl rfl rfl rfl (gv_t _) (fun hg15 => (rd_neq (gvx rfl hg15) (gvx rfl hg15))) ?_
  refine t_rd rfl (rd_and rfl (fun hc16 => (gvx rfl hc16))) ?_
  refine rwt_nil ?_
  refine qn_then ?_
  obtain ⟨hb17, q18⟩ | ⟨hb17, q18⟩ := oi h <;> clear h
  · refine cw_t rfl hb17 ?_
    refine cw_seq ?_
    refine cw_region ?_
    refine t_rd rfl (rd_fld tF52_3 rfl) ?_
    refine t_rd rfl (rd_ld1 tO3 rfl (hm5.blk 1 rfl) (off := 3) rfl) ?_
    refine t_rd rfl (rd_move rfl) ?_
    obtain ⟨x19, h20, q21⟩ := ob q18; clear q18
    refine t_rd rfl (rd_add64 h20 rfl rfl) ?_
    refine t_rd rfl (rd_assign rfl) ?_
    refine rwt_nil ?_
    refine qn_then ?_
    refine cw_ret ?_
    refine qr_then ?_
    obtain rfl := os q21
    exact ret1 rfl rfl ⟨rfl, (hm5.pick [] (by decide) rfl)⟩
  · refine cw_f rfl hb17 ?_
    refine cw_skip ?_
    refine qn_then ?_
    refine cw_seq ?_
    refine cw_region ?_
    refine t_rd rfl (rd_fld tF52_3 rfl) ?_
    refine t_rd rfl (rd_ld1 tO3 rfl (hm5.blk 1 rfl) (off := 3) rfl) ?_
    refine t_rd rfl (rd_assign rfl) ?_
    refine rwt_nil ?_
    refine qn_then ?_
    refine cw_ret ?_
    obtain rfl := os q18
    exact ret1 rfl rfl ⟨rfl, (hm5.pick [] (by decide) rfl)⟩

theorem r23_gap_ok {N : Nat} {a0 : List T_Span} {a1 : List T_Span} {a2 : Int} {res : Int × Int} (h : r23_gap N a0 a1 a2 = some res) {w : World} {v0 : Value} {v1 : Value} (hv0 : Sl (Old w No) w v0 a0) (hv1 : Sl (Old w No) w v1 a1) :
    CallsR Try.prog 38 [v0, v1, (Value.int .i64 a2)] w (fun u w' => u = (Value.tuple #[(Value.int .i64 res.1), (Value.int .i64 res.2)]) ∧ Mem w No [] w') := by
  unfold r23_gap at h
  refine fn_ok Try.func38 rfl rfl rfl ?_
  have hm0 := Mem.nil w
  refine cw_seq ?_
  refine cw_region ?_
  refine t_rd rfl (rd_assign rfl) ?_
  refine t_rd rfl (rd_assign rfl) ?_
  refine rwt_nil ?_
  refine qn_then ?_
  refine cw_seq ?_
  refine cw_region ?_
  refine t_rd rfl (rd_assign rfl) ?_
  refine rwt_nil ?_
  refine qn_then ?_
  refine cw_seq ?_
  refine cw_seq ?_
  refine cw_region ?_
  refine t_rd rfl (rd_assign rfl) ?_
  refine rwt_nil ?_
  refine qn_then ?_
  refine cw_block ?_
  obtain ⟨r140, hit141, q142⟩ := ob h; clear h
  refine cw_loop2 (I := fun q envq wq => Sub [(0, v0), (1, v1), (2, (Value.int .i64 a2)), (8, (Value.int .i64 q.1)), (9, (Value.int .i64 q.2))] envq ∧ Mem w No [] wq) (X := fun eq envq wq => (∃ p143, r140 = (Sum.inl p143) ∧ eq = .ret ∧ retQ Try.prog 51 Try.f38 (fun u w' => u = (Value.tuple #[(Value.int .i64 p143.1), (Value.int .i64 p143.2)]) ∧ Mem w No [] w') .ret envq wq) ∨ (∃ p144, r140 = (Sum.inr p144) ∧ eq = .exit 0 ∧ Sub [(8, (Value.int .i64 p144))] envq ∧ Mem w No [] wq)) hit141 ⟨(by repeat (first | exact Sub.nil _ | refine Sub.cons rfl ?_)), (hm0.pick [] (by decide) rfl)⟩ ?_ ?_
  · rintro ⟨i132, i133⟩ x135 env136 w137 hf138 hr139 ⟨hs_, hm_⟩
    have hs_ : Sub [(0, v0), (1, v1), (2, (Value.int .i64 a2)), (8, (Value.int .i64 i132)), (9, (Value.int .i64 i133))] env136 := hs_
    have hm145 : Mem w No [] w137 := hm_
    refine cw_sub hs_ ?_
    clear hs_ hm_ q142
    have h : r23_gap_l1 N a0 a1 a2 i132 i133 = some x135 := hf138
    clear hf138
    refine cw_seq ?_
    refine cw_seq ?_
    refine cw_region ?_
    refine t_rd rfl (rd_move rfl) ?_
    refine t_rd rfl (rd_move rfl) ?_
    refine t_rd rfl (rd_lenS tS34 rfl (hv1.of_old hm145)) ?_
    refine t_rd rfl (rd_lss rfl rfl) ?_
    refine rwt_nil ?_
    refine qn_then ?_
    obtain ⟨hb146, q147⟩ | ⟨hb146, q147⟩ := oi h <;> clear h
    · refine cw_t rfl hb146 ?_
      refine cw_skip ?_
      refine qn_then ?_
      refine cw_seq ?_
      refine cw_block ?_
      refine cw_seq ?_
      refine cw_region ?_
      refine t_rd rfl (rd_move rfl) ?_
      refine t_rd rfl (rd_move rfl) ?_
      refine t_rd rfl (rd_move rfl) ?_
      obtain ⟨x148, h149, q150⟩ := ob q147; clear q147
      refine t_rd rfl (rd_index tS34 rfl rfl (hv1.of_old hm145) h149) ?_
      refine t_rd rfl (rd_fld tF52_0 rfl) ?_
      refine t_rd rfl (rd_ld1 tO3 rfl ((hv1.of_old hm145).cells h149) (off := 0) rfl) ?_
      obtain ⟨r151, h152, q153⟩ := ob q150; clear q150
      refine t_ef rfl (ef_call tf20 rfl (r23_Find_ok h152 (hv0.to_call hm145))) ?_
      rintro _ w155 ⟨e_, hm154⟩
      obtain rfl := e_.symm
      have hm156 := hm145.call hm154
      refine t_rd rfl (rd_assign rfl) ?_
      refine rwt_nil ?_
      refine qn_then ?_
      refine cw_seq ?_
      refine cw_seq ?_
      refine cw_region ?_
      refine t_rd rfl (rd_move rfl) ?_
      refine t_rd rfl (rd_lss rfl rfl) ?_
      refine rwt_nil ?_
      refine qn_then ?_
      obtain ⟨hb157, q158⟩ | ⟨hb157, q158⟩ := oi q153 <;> clear q153
      · refine cw_t rfl hb157 ?_
        refine cw_exit ?_
        refine qx_then (qx_same (qn_then ?_))
        refine cw_region ?_
        refine t_rd rfl (rd_move rfl) ?_
        obtain ⟨x159, h160, q161⟩ := ob q158; clear q158
        refine t_rd rfl (rd_add64 h160 rfl rfl) ?_
        refine t_rd rfl (rd_assign rfl) ?_
        refine rwt_nil ?_
        refine qn_then ?_
        refine ⟨_, (os q161), (by repeat (first | exact Sub.nil _ | refine Sub.cons rfl ?_)), (hm156.pick [] (by decide) rfl)⟩
      · refine cw_f rfl hb157 ?_
        refine cw_skip ?_
        refine qn_then ?_
        refine cw_seq ?_
        refine cw_seq ?_
        refine cw_region ?_
        refine t_rd rfl (rd_move rfl) ?_
        refine t_rd rfl (rd_move rfl) ?_
        obtain ⟨x162, h163, q164⟩ := ob q158; clear q158
        refine t_rd rfl (rd_index tS34 rfl rfl (hv0.of_old hm156) h163) ?_
        refine t_rd rfl (rd_fld tF52_3 rfl) ?_
        refine t_rd rfl (rd_ld1 tO3 rfl ((hv0.of_old hm156).cells h163) (off := 3) rfl) ?_
        refine t_rd rfl (rd_eql rfl rfl) ?_
        refine rwt_nil ?_
        refine qn_then ?_
        obtain ⟨hb165, q166⟩ | ⟨hb165, q166⟩ := oi q164 <;> clear q164
        · refine cw_t rfl hb165 ?_
          refine cw_seq ?_
          refine cw_region ?_
          refine t_rd rfl (rd_assign rfl) ?_
          refine t_rd rfl (rd_assign rfl) ?_
          refine rwt_nil ?_
          refine qn_then ?_
          refine cw_ret ?_
          refine qr_then (qr_block (qr_then (qr_then ?_)))
          obtain rfl := hr139 _ (os q166)
          refine .inl (⟨_, rfl, ⟨rfl, ?_⟩⟩)
          exact ret2 rfl rfl rfl ⟨rfl, (hm156.pick [] (by decide) rfl)⟩
        · refine cw_f rfl hb165 ?_
          refine cw_skip ?_
          refine qn_then ?_
          obtain ⟨w168, he170⟩ : ∃ q, q = w155.drew := ⟨_, rfl⟩
          have hm169 := hm156.drew; rw [← he170] at hm169
          refine cw_region_s (fun q => Sl (Old w No) q v0 a0 ∧ Sl (Old w No) q v1 a1) (cls [10] []) mixed ?_
          rintro _ rfl; rw [← he170]
          refine s_rp (i := 0) rfl (by kernel_rfl) rfl (fun _ => (rd_move rfl)) ?_
          refine s_rp (i := 1) rfl (by kernel_rfl) rfl (fun _ => (rd_move rfl)) ?_
          refine s_rp (i := 2) rfl (by kernel_rfl) rfl (fun _ => (rd_move rfl)) ?_
          obtain ⟨x189, h190, q191⟩ := ob q166; clear q166
          refine s_rp (i := 3) rfl (by kernel_rfl) rfl (fun _ => (rd_index tS34 rfl rfl (hv0.of_old hm169) h190)) ?_
          refine s_rd (i := 4) rfl (by kernel_rfl) rfl (fun w167 hS => (rd_ld tA52 rfl (hS.1.cells h190) rfl)) ⟨(hv0.of_old hm169), (hv1.of_old hm169)⟩ ?_
          refine s_rp (i := 5) rfl (by kernel_rfl) rfl (fun _ => (rd_move rfl)) ?_
          refine s_rp (i := 6) rfl (by kernel_rfl) rfl (fun _ => (rd_move rfl)) ?_
          obtain ⟨x192, h193, q194⟩ := ob q191; clear q191
          refine s_rp (i := 7) rfl (by kernel_rfl) rfl (fun _ => (rd_index tS34 rfl rfl (hv1.of_old hm169) h193)) ?_
          refine s_rd (i := 8) rfl (by kernel_rfl) rfl (fun w167 hS => (rd_ld tA52 rfl (hS.2.cells h193) rfl)) ⟨(hv0.of_old hm169), (hv1.of_old hm169)⟩ ?_
          refine s_rp (i := 9) rfl (by kernel_rfl) rfl (fun _ => (rd_move rfl)) ?_
          refine s_rp (i := 11) rfl (by kernel_rfl) rfl (fun _ => (rd_move rfl)) ?_
          refine s_rp (i := 12) rfl (by kernel_rfl) rfl (fun _ => (rd_move rfl)) ?_
          obtain ⟨x195, h196, q197⟩ := ob q194; clear q194
          refine s_rp (i := 13) rfl (by kernel_rfl) rfl (fun _ => (rd_index tS34 rfl rfl (hv1.of_old hm169) h196)) ?_
          refine s_rp (i := 14) rfl (by kernel_rfl) rfl (fun _ => (rd_fld tF52_2 rfl)) ?_
          refine s_rd (i := 15) rfl (by kernel_rfl) rfl (fun w167 hS => (rd_ld1 tO3 rfl (hS.2.cells h196) (off := 2) rfl)) ⟨(hv0.of_old hm169), (hv1.of_old hm169)⟩ ?_
          obtain ⟨r198, h199, q200⟩ := ob q197; clear q197
          refine s_ef (i := 10) rfl (by kernel_rfl) rfl (ef_call tf44 rfl (r23_After_ok h199)) (by decide) ?_ ?_
          · rintro _ w202 ⟨e_, hm201⟩
            obtain rfl := e_.symm
            have hm203 := hm169.call hm201
            intro _
            exact ⟨(hv0.of_old hm203), (hv1.of_old hm203)⟩
          rintro _ w202 ⟨e_, hm201⟩
          obtain rfl := e_.symm
          have hm203 := hm169.call hm201
          obtain ⟨x204, h205, q206⟩ := ob q200; clear q200
          refine s_rp (i := 16) rfl (by kernel_rfl) rfl (fun _ => (rd_sub64 h205 rfl rfl)) ?_
          refine s_rp (i := 17) rfl (by kernel_rfl) rfl (fun _ => (rd_max rfl rfl)) ?_
          refine s_rp (i := 18) rfl (by kernel_rfl) rfl (fun _ => (rd_assign rfl)) ?_
          refine s_nil (by kernel_rfl) ?_
          refine qn_block (qn_then ?_)
          refine cw_region ?_
          refine t_rd rfl (rd_move rfl) ?_
          obtain ⟨x207, h208, q209⟩ := ob q206; clear q206
          refine t_rd rfl (rd_add64 h208 rfl rfl) ?_
          refine t_rd rfl (rd_assign rfl) ?_
          refine rwt_nil ?_
          refine qn_then ?_
          refine ⟨_, (os q209), (by repeat (first | exact Sub.nil _ | refine Sub.cons rfl ?_)), (hm203.pick [] (by decide) rfl)⟩
    · refine cw_f rfl hb146 ?_
      refine cw_exit ?_
      refine qx_then (qx_then ?_)
      obtain rfl := hr139 _ (os q147)
      exact .inr (⟨_, rfl, ⟨rfl, (by repeat (first | exact Sub.nil _ | refine Sub.cons rfl ?_)), (hm145.pick [] (by decide) rfl)⟩⟩)
  · skip
    intro e env210 w211 hX212
    rcases hX212 with hX212 | hX212
    · obtain ⟨p214, rfl, hX212⟩ := hX212
      obtain ⟨rfl, hq216⟩ := hX212
      exact qr_block (qr_then ((by have e := os q142; subst e; exact hq216)))
    · obtain ⟨p217, rfl, hX212⟩ := hX212
      obtain ⟨rfl, hs218, hm219⟩ := hX212
      refine qx_same (qn_then ?_)
      refine cw_sub hs218 ?_
      refine cw_seq ?_
      refine cw_region ?_
      refine t_rd rfl (rd_move rfl) ?_
      refine t_rd rfl (rd_assign rfl) ?_
      refine t_rd rfl (rd_assign rfl) ?_
      refine rwt_nil ?_
      refine qn_then ?_
      refine cw_ret ?_
      obtain rfl := os q142
      exact ret2 rfl rfl rfl ⟨rfl, (hm219.pick [] (by decide) rfl)⟩

theorem r23_Releases_ok {N : Nat} {a0 : List (List T_Span)} {a1 : Int} {res : List Int × Int} (h : r23_Releases N a0 a1 = some res) {w : World} {v0 : Value} (hv0 : Sl (Old w No) w v0 a0) :
    CallsR Try.prog 23 [v0, (Value.int .i64 a1)] w (fun u w' => ∃ (y0 : Value), u = (Value.tuple #[y0, (Value.int .i64 res.2)]) ∧ Mem w No [ownL 3 y0 (res.1 : List Int)] w') := by
  unfold r23_Releases at h
  refine fn_ok Try.func23 rfl rfl rfl ?_
  obtain ⟨zs_a0, hn0⟩ := hv0.nest
  have hm0 := Mem.nil w
  refine cw_seq ?_
  refine cw_region ?_
  refine t_rd rfl (rd_assign rfl) ?_
  refine t_rd rfl (rd_assign rfl) ?_
  refine rwt_nil ?_
  refine qn_then ?_
  refine cw_seq ?_
  refine cw_seq ?_
  refine cw_region ?_
  refine t_rd rfl (rd_move rfl) ?_
  refine t_rd rfl (rd_move rfl) ?_
  obtain ⟨r1, h2, q3⟩ := ob h; clear h
  refine t_ef rfl (ef_call tf37 rfl (r23_Lists_ok h2 ((hn0.to_call hm0).sl))) ?_
  rintro _ w5 ⟨e_, hm4⟩
  obtain rfl := e_.symm
  have hm6 := hm0.call hm4
  refine t_rd rfl (rd_assign rfl) ?_
  refine rwt_nil ?_
  refine qn_then ?_
  refine cw_seq ?_
  refine cw_region ?_
  refine t_rd rfl (rd_move rfl) ?_
  refine t_rd rfl (rd_neq rfl rfl) ?_
  refine rwt_nil ?_
  refine qn_then ?_
  obtain ⟨hb7, q8⟩ | ⟨hb7, q8⟩ := oi q3 <;> clear q3
  · refine cw_t rfl hb7 ?_
    refine cw_seq ?_
    refine cw_region ?_
    refine t_rd rfl (rd_move rfl) ?_
    refine t_rd rfl (rd_assign rfl) ?_
    refine t_rd rfl (rd_assign rfl) ?_
    refine rwt_nil ?_
    refine qn_then ?_
    refine cw_ret ?_
    refine qr_then ?_
    obtain rfl := os q8
    have hm9 := hm6.addNil (α := Int) 3
    exact ret2 rfl rfl rfl ⟨(Value.slice none 0 0), rfl, (hm9.pick [0] (by decide) rfl)⟩
  · refine cw_f rfl hb7 ?_
    refine cw_skip ?_
    refine qn_then ?_
    refine cw_seq ?_
    refine cw_region ?_
    refine t_rd rfl (rd_assign rfl) ?_
    refine rwt_nil ?_
    refine qn_then ?_
    refine cw_seq ?_
    refine cw_seq ?_
    refine cw_region ?_
    refine t_rd rfl (rd_assign rfl) ?_
    refine rwt_nil ?_
    refine qn_then ?_
    refine cw_block ?_
    have hm154 := hm6.addNil (α := Int) 3
    obtain ⟨r456, hit457, q458⟩ := ob q8; clear q8
    refine cw_loop2 (I := fun q envq wq => ∃ (v449 : Value), Sub [(0, v0), (1, (Value.int .i64 a1)), (7, v449), (8, (Value.int .i64 q.1))] envq ∧ Mem w No [ownL 3 v449 (q.2 : List Int)] wq) (X := fun eq envq wq => (∃ p459, r456 = (Sum.inl p459) ∧ eq = .ret ∧ retQ Try.prog 61 Try.f23 (fun u w' => ∃ (y0 : Value), u = (Value.tuple #[y0, (Value.int .i64 p459.2)]) ∧ Mem w No [ownL 3 y0 (p459.1 : List Int)] w') .ret envq wq) ∨ (∃ p460, r456 = (Sum.inr p460) ∧ eq = .exit 0 ∧ ∃ (v446 : Value), Sub [(7, v446)] envq ∧ Mem w No [ownL 3 v446 (p460 : List Int)] wq)) hit457 ⟨(Value.slice none 0 0), (by repeat (first | exact Sub.nil _ | refine Sub.cons rfl ?_)), (hm154.pick [0] (by decide) rfl)⟩ ?_ ?_
    · rintro ⟨i447, l448⟩ x451 env452 w453 hf454 hr455 ⟨v449, hs_, hm_⟩
      have hs_ : Sub [(0, v0), (1, (Value.int .i64 a1)), (7, v449), (8, (Value.int .i64 i447))] env452 := hs_
      have hm461 : Mem w No [ownL 3 v449 (l448 : List Int)] w453 := hm_
      refine cw_sub hs_ ?_
      clear hs_ hm_ q458
      have h : r23_Releases_l4 N a0 a1 i447 l448 = some x451 := hf454
      clear hf454
      refine cw_seq ?_
      refine cw_seq ?_
      refine cw_region ?_
      refine t_rd rfl (rd_move rfl) ?_
      refine t_rd rfl (rd_move rfl) ?_
      refine t_rd rfl (rd_lenS tS23 rfl ((hn0.of_old hm461).sl)) ?_
      refine t_rd rfl (rd_lss rfl rfl) ?_
      refine rwt_nil ?_
      refine qn_then ?_
      obtain ⟨hb462, q463⟩ | ⟨hb462, q463⟩ := oi h <;> clear h
      · refine cw_t rfl hb462 ?_
        refine cw_skip ?_
        refine qn_then ?_
        refine cw_seq ?_
        refine cw_block ?_
        refine cw_seq ?_
        refine cw_region ?_
        refine t_rd rfl (rd_assign rfl) ?_
        refine rwt_nil ?_
        refine qn_then ?_
        refine cw_seq ?_
        refine cw_seq ?_
        refine cw_region ?_
        refine t_rd rfl (rd_assign rfl) ?_
        refine rwt_nil ?_
        refine qn_then ?_
        refine cw_block ?_
        obtain ⟨r541, hit542, q543⟩ := ob q463; clear q463
        refine cw_loop2 (I := fun q envq wq => Sub [(0, v0), (1, (Value.int .i64 a1)), (7, v449), (8, (Value.int .i64 i447)), (9, (Value.int .i64 q.1)), (10, (Value.int .i64 q.2))] envq ∧ Mem w No [ownL 3 v449 (l448 : List Int)] wq) (X := fun eq envq wq => (∃ p544, r541 = (Sum.inl p544) ∧ eq = .ret ∧ retQ Try.prog 61 Try.f23 (fun u w' => ∃ (y0 : Value), u = (Value.tuple #[y0, (Value.int .i64 p544.2)]) ∧ Mem w No [ownL 3 y0 (p544.1 : List Int)] w') .ret envq wq) ∨ (∃ p545, r541 = (Sum.inr p545) ∧ eq = .exit 2 ∧ Sub [(0, v0), (1, (Value.int .i64 a1)), (7, v449), (8, (Value.int .i64 i447)), (9, (Value.int .i64 p545))] envq ∧ Mem w No [ownL 3 v449 (l448 : List Int)] wq)) hit542 ⟨(by repeat (first | exact Sub.nil _ | refine Sub.cons rfl ?_)), (hm461.pick [0] (by decide) rfl)⟩ ?_ ?_
        · rintro ⟨i533, i534⟩ x536 env537 w538 hf539 hr540 ⟨hs_, hm_⟩
          have hs_ : Sub [(0, v0), (1, (Value.int .i64 a1)), (7, v449), (8, (Value.int .i64 i447)), (9, (Value.int .i64 i533)), (10, (Value.int .i64 i534))] env537 := hs_
          have hm546 : Mem w No [ownL 3 v449 (l448 : List Int)] w538 := hm_
          refine cw_sub hs_ ?_
          clear hs_ hm_ q543
          have h : r23_Releases_l5 N a0 a1 i447 l448 i533 i534 = some x536 := hf539
          clear hf539
          refine cw_seq ?_
          refine cw_seq ?_
          refine cw_region ?_
          refine t_rd rfl (rd_move rfl) ?_
          refine t_rd rfl (rd_move rfl) ?_
          refine t_rd rfl (rd_lss rfl rfl) ?_
          refine rwt_nil ?_
          refine qn_then ?_
          obtain ⟨hb547, q548⟩ | ⟨hb547, q548⟩ := oi h <;> clear h
          · refine cw_t rfl hb547 ?_
            refine cw_skip ?_
            refine qn_then ?_
            refine cw_seq ?_
            refine cw_block ?_
            refine cw_seq ?_
            obtain ⟨w550, he552⟩ : ∃ q, q = w538.drew := ⟨_, rfl⟩
            have hm551 := hm546.drew; rw [← he552] at hm551
            refine cw_region_s (fun q => q = w550) (cls [] [9]) mixed ?_
            rintro _ rfl; rw [← he552]
            refine s_rp (i := 0) rfl (by kernel_rfl) rfl (fun _ => (rd_move rfl)) ?_
            refine s_rp (i := 1) rfl (by kernel_rfl) rfl (fun _ => (rd_move rfl)) ?_
            obtain ⟨x553, h554, q555⟩ := ob q548; clear q548
            refine s_rp (i := 2) rfl (by kernel_rfl) rfl (fun _ => (rd_index tS23 rfl rfl ((hn0.of_old hm551).sl) h554)) ?_
            obtain ⟨zd556, hz557⟩ := (hn0.of_old hm551).row h554
            refine s_rd (i := 3) rfl (by kernel_rfl) rfl (fun _ hS => by rw [hS]; exact (rd_ld1 tO34 rfl ((hn0.of_old hm551).cells hz557) (off := 0) rfl)) rfl ?_
            refine s_rp (i := 4) rfl (by kernel_rfl) rfl (fun _ => (rd_move rfl)) ?_
            refine s_rp (i := 5) rfl (by kernel_rfl) rfl (fun _ => (rd_move rfl)) ?_
            obtain ⟨x558, h559, q560⟩ := ob q555; clear q555
            refine s_rp (i := 6) rfl (by kernel_rfl) rfl (fun _ => (rd_index tS23 rfl rfl ((hn0.of_old hm551).sl) h559)) ?_
            obtain ⟨zd561, hz562⟩ := (hn0.of_old hm551).row h559
            refine s_rd (i := 7) rfl (by kernel_rfl) rfl (fun _ hS => by rw [hS]; exact (rd_ld1 tO34 rfl ((hn0.of_old hm551).cells hz562) (off := 0) rfl)) rfl ?_
            refine s_rp (i := 8) rfl (by kernel_rfl) rfl (fun _ => (rd_move rfl)) ?_
            obtain ⟨r563, h564, q565⟩ := ob q560; clear q560
            refine s_ef (i := 9) rfl (by kernel_rfl) rfl (ef_call tf38 rfl (r23_gap_ok h564 ((hn0.to_call hm551).get hz557 h554) ((hn0.to_call hm551).get hz562 h559))) (by decide) (fun _ _ _ q => absurd q (by decide)) ?_
            rintro _ w567 ⟨e_, hm566⟩
            obtain rfl := e_.symm
            have hm568 := hm551.call hm566
            refine s_rp (i := 10) rfl (by kernel_rfl) rfl (fun _ => (rd_move rfl)) ?_
            refine s_rp (i := 11) rfl (by kernel_rfl) rfl (fun _ => (rd_extract rfl rfl)) ?_
            refine s_rp (i := 12) rfl (by kernel_rfl) rfl (fun _ => (rd_extract rfl rfl)) ?_
            refine s_rp (i := 13) rfl (by kernel_rfl) rfl (fun _ => (rd_assign rfl)) ?_
            refine s_rp (i := 14) rfl (by kernel_rfl) rfl (fun _ => (rd_assign rfl)) ?_
            refine s_nil (by kernel_rfl) ?_
            refine qn_then ?_
            refine cw_seq ?_
            refine cw_seq ?_
            refine cw_region ?_
            refine t_rd rfl (rd_move rfl) ?_
            refine t_rd rfl (rd_neq rfl rfl) ?_
            refine rwt_nil ?_
            refine qn_then ?_
            obtain ⟨hb569, q570⟩ | ⟨hb569, q570⟩ := oi q565 <;> clear q565
            · refine cw_t rfl hb569 ?_
              refine cw_seq ?_
              refine cw_region ?_
              refine t_rd rfl (rd_move rfl) ?_
              refine t_rd rfl (rd_assign rfl) ?_
              refine t_rd rfl (rd_assign rfl) ?_
              refine rwt_nil ?_
              refine qn_then ?_
              refine cw_ret ?_
              refine qr_then (qr_block (qr_then (qr_then ?_)))
              obtain rfl := hr540 _ (os q570)
              refine .inl (⟨_, rfl, ⟨rfl, ?_⟩⟩)
              have hm571 := hm568.addNil (α := Int) 3
              exact ret2 rfl rfl rfl ⟨(Value.slice none 0 0), rfl, (hm571.pick [0] (by decide) rfl)⟩
            · refine cw_f rfl hb569 ?_
              refine cw_skip ?_
              refine qn_then ?_
              refine cw_region ?_
              refine t_rd rfl (rd_move rfl) ?_
              refine t_rd rfl (rd_move rfl) ?_
              refine t_rd rfl (rd_move rfl) ?_
              obtain ⟨x572, h573, q574⟩ := ob q570; clear q570
              refine t_rd rfl (rd_index tS22 rfl rfl (hm568.sl 0 rfl) h573) ?_
              refine t_rd rfl (rd_ld1 tO3 rfl ((hm568.sl 0 rfl).cells h573) (off := 0) rfl) ?_
              refine t_rd rfl (rd_move rfl) ?_
              obtain ⟨x575, h576, q577⟩ := ob q574; clear q574
              refine t_rd rfl (rd_add64 h576 rfl rfl) ?_
              refine t_rd rfl (rd_max rfl rfl) ?_
              refine t_rd rfl (rd_assign rfl) ?_
              refine rwt_nil ?_
              refine qn_block (qn_then ?_)
              refine cw_region ?_
              refine t_rd rfl (rd_move rfl) ?_
              obtain ⟨x578, h579, q580⟩ := ob q577; clear q577
              refine t_rd rfl (rd_add64 h579 rfl rfl) ?_
              refine t_rd rfl (rd_assign rfl) ?_
              refine rwt_nil ?_
              refine qn_then ?_
              refine ⟨_, (os q580), (by repeat (first | exact Sub.nil _ | refine Sub.cons rfl ?_)), (hm568.pick [0] (by decide) rfl)⟩
          · refine cw_f rfl hb547 ?_
            refine cw_exit ?_
            refine qx_then (qx_then ?_)
            obtain rfl := hr540 _ (os q548)
            exact .inr (⟨_, rfl, ⟨rfl, (by repeat (first | exact Sub.nil _ | refine Sub.cons rfl ?_)), (hm546.pick [0] (by decide) rfl)⟩⟩)
        · skip
          intro e env581 w582 hX583
          rcases hX583 with hX583 | hX583
          · obtain ⟨p585, rfl, hX583⟩ := hX583
            obtain ⟨rfl, hq587⟩ := hX583
            obtain rfl := hr455 _ (os q543)
            exact qr_block (qr_then (qr_block (qr_then (qr_then (.inl (⟨_, rfl, ⟨rfl, hq587⟩⟩))))))
          · obtain ⟨p588, rfl, hX583⟩ := hX583
            obtain ⟨rfl, hs589, hm590⟩ := hX583
            refine qx_same (qn_then ?_)
            refine cw_sub hs589 ?_
            refine cw_seq ?_
            refine cw_seq ?_
            refine cw_region ?_
            refine t_rd rfl (rd_move rfl) ?_
            refine t_rd rfl (rd_gtr rfl rfl) ?_
            refine rwt_nil ?_
            refine qn_then ?_
            obtain ⟨hb591, q592⟩ | ⟨hb591, q592⟩ := oi q543 <;> clear q543
            · refine cw_t rfl hb591 ?_
              refine cw_seq ?_
              refine cw_region ?_
              refine t_rd rfl (rd_assign rfl) ?_
              refine t_rd rfl (rd_assign rfl) ?_
              refine rwt_nil ?_
              refine qn_then ?_
              refine cw_ret ?_
              refine qr_then (qr_block (qr_then (qr_then ?_)))
              obtain rfl := hr455 _ (os q592)
              refine .inl (⟨_, rfl, ⟨rfl, ?_⟩⟩)
              have hm593 := hm590.addNil (α := Int) 3
              exact ret2 rfl rfl rfl ⟨(Value.slice none 0 0), rfl, (hm593.pick [0] (by decide) rfl)⟩
            · refine cw_f rfl hb591 ?_
              refine cw_skip ?_
              refine qn_then ?_
              refine cw_region ?_
              refine t_rd rfl (rd_move rfl) ?_
              refine t_rd rfl (rd_move rfl) ?_
              refine t_ef rfl (ef_bslice (l := ([p588] : List Int)) hm590 tS22 rfl (cs := #[(Value.int .i64 p588)]) (by unfold bsl; kernel_rfl) rfl rfl) ?_
              intro v594 w596 hm595
              obtain ⟨l597, h598, q599⟩ := ob q592; clear q592
              refine t_ef rfl (ef_append (k := 1) hm595 tS22 tE3 rfl rfl rfl rfl (hm595.sl 0 rfl) h598) ?_
              intro v600 w602 hm601
              refine t_rd rfl (rd_assign rfl) ?_
              refine rwt_nil ?_
              refine qn_block (qn_then ?_)
              refine cw_region ?_
              refine t_rd rfl (rd_move rfl) ?_
              obtain ⟨x603, h604, q605⟩ := ob q599; clear q599
              refine t_rd rfl (rd_add64 h604 rfl rfl) ?_
              refine t_rd rfl (rd_assign rfl) ?_
              refine rwt_nil ?_
              refine qn_then ?_
              refine ⟨_, (os q605), v600, (by repeat (first | exact Sub.nil _ | refine Sub.cons rfl ?_)), (hm601.pick [1] (by decide) rfl)⟩
      · refine cw_f rfl hb462 ?_
        refine cw_exit ?_
        refine qx_then (qx_then ?_)
        obtain rfl := hr455 _ (os q463)
        exact .inr (⟨_, rfl, ⟨rfl, v449, (by repeat (first | exact Sub.nil _ | refine Sub.cons rfl ?_)), (hm461.pick [0] (by decide) rfl)⟩⟩)
    · skip
      intro e env606 w607 hX608
      rcases hX608 with hX608 | hX608
      · obtain ⟨p610, rfl, hX608⟩ := hX608
        obtain ⟨rfl, hq612⟩ := hX608
        exact qr_block (qr_then ((by have e := os q458; subst e; exact hq612)))
      · obtain ⟨p613, rfl, hX608⟩ := hX608
        obtain ⟨rfl, v446, hs614, hm615⟩ := hX608
        refine qx_same (qn_then ?_)
        refine cw_sub hs614 ?_
        refine cw_seq ?_
        refine cw_region ?_
        refine t_rd rfl (rd_move rfl) ?_
        refine t_rd rfl (rd_assign rfl) ?_
        refine t_rd rfl (rd_assign rfl) ?_
        refine rwt_nil ?_
        refine qn_then ?_
        refine cw_ret ?_
        obtain rfl := os q458
        exact ret2 rfl rfl rfl ⟨v446, rfl, (hm615.pick [0] (by decide) rfl)⟩

theorem yardgen_Starts_ok {N : Nat} {a0_l : List Int} {a0_n : Int} {res : Int × List T_Throw} (h : yardgen_Starts N a0_l a0_n = some res) {w : World} {v0_l : Value} {g0 : Nat} (hv0_l : Sl (Old w (fun k => k = g0)) w v0_l a0_l) (hk0 : (blk g0 55 [v0_l, (Value.int .i64 a0_n)]).φ w) :
    CallsR Try.prog 24 [(Value.pointer (some ⟨g0, 0, none⟩))] w (fun u w' => ∃ (y0 : Value), u = y0 ∧ Mem w (fun k => k = g0) [blk g0 55 [v0_l, (Value.int .i64 res.1)], ownL 38 y0 (res.2 : List T_Throw)] w') := by
  unfold yardgen_Starts at h
  refine fn_ok Try.func24 rfl rfl rfl ?_
  have hm0 := Mem.one hk0
  refine cw_seq ?_
  refine cw_region ?_
  refine t_rd rfl (rd_assign rfl) ?_
  refine rwt_nil ?_
  refine qn_then ?_
  refine cw_seq ?_
  refine cw_region ?_
  refine t_rd rfl (rd_assign rfl) ?_
  refine rwt_nil ?_
  refine qn_then ?_
  refine cw_seq ?_
  refine cw_seq ?_
  refine cw_region ?_
  refine t_rd rfl (rd_assign rfl) ?_
  refine rwt_nil ?_
  refine qn_then ?_
  refine cw_block ?_
  have hm202 := hm0.addNil (α := T_Throw) 38
  obtain ⟨r290, hit291, q292⟩ := ob h; clear h
  refine cw_loop2 (I := fun q envq wq => ∃ (v283 : Value), Sub [(0, (Value.pointer (some ⟨g0, 0, none⟩))), (3, v283), (4, (Value.int .i64 q.1))] envq ∧ Mem w (fun k => k = g0) [ownL 38 v283 (q.2.2 : List T_Throw), blk g0 55 [v0_l, (Value.int .i64 q.2.1)]] wq) (X := fun eq envq wq => eq = .exit 0 ∧ ∃ (v279 : Value), Sub [(3, v279)] envq ∧ Mem w (fun k => k = g0) [ownL 38 v279 (r290.2 : List T_Throw), blk g0 55 [v0_l, (Value.int .i64 r290.1)]] wq) hit291 ⟨(Value.slice none 0 0), (by repeat (first | exact Sub.nil _ | refine Sub.cons rfl ?_)), (hm202.pick [0, 1] (by decide) rfl)⟩ ?_ ?_
  · rintro ⟨i280, i281, l282⟩ x285 env286 w287 hf288 hr289 ⟨v283, hs_, hm_⟩
    have hs_ : Sub [(0, (Value.pointer (some ⟨g0, 0, none⟩))), (3, v283), (4, (Value.int .i64 i280))] env286 := hs_
    have hm293 : Mem w (fun k => k = g0) [ownL 38 v283 (l282 : List T_Throw), blk g0 55 [v0_l, (Value.int .i64 i281)]] w287 := hm_
    refine cw_sub hs_ ?_
    clear hs_ hm_ q292
    have h : yardgen_Starts_l1 N a0_l i280 i281 l282 = some x285 := hf288
    clear hf288
    refine cw_seq ?_
    refine cw_seq ?_
    refine cw_region ?_
    refine t_rd rfl (rd_move rfl) ?_
    refine t_rd rfl (rd_leq rfl rfl) ?_
    refine rwt_nil ?_
    refine qn_then ?_
    obtain ⟨hb294, q295⟩ | ⟨hb294, q295⟩ := oi h <;> clear h
    · refine cw_t rfl hb294 ?_
      refine cw_skip ?_
      refine qn_then ?_
      refine cw_seq ?_
      refine cw_block ?_
      refine cw_seq ?_
      refine cw_region ?_
      refine t_rd rfl (rd_move rfl) ?_
      obtain ⟨r296, h297, q298⟩ := ob q295; clear q295
      refine t_ef rfl (ef_call tf11 rfl (Maker_Next_ok h297 (hv0_l.to_callT (k := 1) hm293 rfl) (hm293.get (k := 1) rfl))) ?_
      rintro _ w300 ⟨e_, hm299⟩
      obtain rfl := e_.symm
      have hm301 := hm293.callT (k := 1) rfl (fun _ h => h) hm299 (fun _ => Iff.rfl)
      refine t_rd rfl (rd_eql rfl rfl) ?_
      refine rwt_nil ?_
      refine qn_then ?_
      obtain ⟨hb302, q303⟩ | ⟨hb302, q303⟩ := oi q298 <;> clear q298
      · refine cw_t rfl hb302 ?_
        refine cw_region ?_
        refine t_rd rfl (rd_move rfl) ?_
        refine t_rd rfl (rd_move rfl) ?_
        refine t_rd rfl (rd_move rfl) ?_
        refine t_ef rfl (ef_bslice (l := ([1, 2] : List Int)) hm301 tS22 rfl (cs := #[(Value.int .i64 1), (Value.int .i64 2)]) (by unfold bsl; kernel_rfl) rfl rfl) ?_
        intro v304 w306 hm305
        obtain ⟨r307, h308, q309⟩ := ob q303; clear q303
        refine t_ef rfl (ef_call tf13 rfl (Maker_Pick_ok h308 (hv0_l.to_callT (k := 2) hm305 rfl) (hm305.get (k := 2) rfl) (hm305.sl_callT 0 2 rfl rfl (by decide)))) ?_
        rintro _ w311 ⟨e_, hm310⟩
        obtain rfl := e_.symm
        have hm312 := hm305.callT (k := 2) rfl (fun _ h => h) hm310 (fun _ => Iff.rfl)
        refine t_rd rfl (rd_build (cs := #[(Value.int .i64 i280), (Value.int .i64 r307.2)]) rfl (by kernel_rfl)) ?_
        refine t_ef rfl (ef_bslice (l := ([(T_Throw.mk i280 r307.2)] : List T_Throw)) hm312 tS24 rfl (cs := #[(Value.int .i64 i280), (Value.int .i64 r307.2)]) (by unfold bsl; kernel_rfl) rfl rfl) ?_
        intro v313 w315 hm314
        obtain ⟨l316, h317, q318⟩ := ob q309; clear q309
        refine t_ef rfl (ef_append (k := 2) hm314 tS24 tE38 rfl rfl rfl rfl (hm314.sl 0 rfl) h317) ?_
        intro v319 w321 hm320
        refine t_rd rfl (rd_assign rfl) ?_
        refine rwt_nil ?_
        refine qn_block (qn_then ?_)
        refine cw_region ?_
        refine t_rd rfl (rd_move rfl) ?_
        obtain ⟨x322, h323, q324⟩ := ob q318; clear q318
        refine t_rd rfl (rd_add64 h323 rfl rfl) ?_
        refine t_rd rfl (rd_assign rfl) ?_
        refine rwt_nil ?_
        refine qn_then ?_
        refine ⟨_, (os q324), v319, (by repeat (first | exact Sub.nil _ | refine Sub.cons rfl ?_)), (hm320.pick [2, 3] (by decide) rfl)⟩
      · refine cw_f rfl hb302 ?_
        refine cw_skip ?_
        refine qn_block (qn_then ?_)
        refine cw_region ?_
        refine t_rd rfl (rd_move rfl) ?_
        obtain ⟨x325, h326, q327⟩ := ob q303; clear q303
        refine t_rd rfl (rd_add64 h326 rfl rfl) ?_
        refine t_rd rfl (rd_assign rfl) ?_
        refine rwt_nil ?_
        refine qn_then ?_
        refine ⟨_, (os q327), v283, (by repeat (first | exact Sub.nil _ | refine Sub.cons rfl ?_)), (hm301.pick [0, 1] (by decide) rfl)⟩
    · refine cw_f rfl hb294 ?_
      refine cw_exit ?_
      refine qx_then (qx_then ?_)
      obtain rfl := hr289 _ (os q295)
      exact ⟨rfl, v283, (by repeat (first | exact Sub.nil _ | refine Sub.cons rfl ?_)), (hm293.pick [0, 1] (by decide) rfl)⟩
  · skip
    intro e env328 w329 hX330
    obtain ⟨rfl, v279, hs331, hm332⟩ := hX330
    refine qx_same (qn_then ?_)
    refine cw_sub hs331 ?_
    refine cw_seq ?_
    refine cw_region ?_
    refine t_rd rfl (rd_move rfl) ?_
    refine t_rd rfl (rd_assign rfl) ?_
    refine rwt_nil ?_
    refine qn_then ?_
    refine cw_ret ?_
    obtain rfl := os q292
    exact ret1 rfl rfl ⟨v279, rfl, (hm332.pick [1, 0] (by decide) rfl)⟩

theorem law24_planned_ok {N : Nat} {a0_l : List Int} {a0_n : Int} {res : Int × List (List T_Span) × List Int × Int × List T_Throw} (h : law24_planned N a0_l a0_n = some res) {w : World} {v0_l : Value} {g0 : Nat} (hv0_l : Sl (Old w (fun k => k = g0)) w v0_l a0_l) (hk0 : (blk g0 55 [v0_l, (Value.int .i64 a0_n)]).φ w) :
    CallsR Try.prog 9 [(Value.pointer (some ⟨g0, 0, none⟩))] w (fun u w' => ∃ (zy0 : List Hdr) (y1 : Value) (y2 : Value) (y3 : Value), u = (Value.tuple #[y1, y2, (Value.int .i64 res.2.2.2.1), y3]) ∧ Mem w (fun k => k = g0) [blk g0 55 [v0_l, (Value.int .i64 res.1)], ownL 34 y1 (zy0 : List Hdr), rowsC 52 zy0 (res.2.1 : List (List T_Span)) none, ownL 3 y2 (res.2.2.1 : List Int), ownL 38 y3 (res.2.2.2.2 : List T_Throw)] w') := by
  unfold law24_planned at h
  refine fn_ok Try.func9 rfl rfl rfl ?_
  have hm0 := Mem.one hk0
  refine cw_seq ?_
  refine cw_region ?_
  refine t_rd rfl (rd_assign rfl) ?_
  refine t_rd rfl (rd_assign rfl) ?_
  refine t_rd rfl (rd_assign rfl) ?_
  refine t_rd rfl (rd_assign rfl) ?_
  refine rwt_nil ?_
  refine qn_then ?_
  refine cw_seq ?_
  refine cw_region ?_
  refine t_rd rfl (rd_move rfl) ?_
  obtain ⟨r150, h151, q152⟩ := ob h; clear h
  refine t_ef rfl (ef_call tf22 rfl (yardgen_SpanLists_ok h151 (hv0_l.to_callT (k := 0) hm0 rfl) (hm0.get (k := 0) rfl))) ?_
  rintro _ w156 ⟨zs154, v153, e_, hm155⟩
  obtain rfl := e_.symm
  have hm157 := hm0.callT (k := 0) rfl (fun _ h => h) hm155 (fun _ => Iff.rfl)
  refine t_rd rfl (rd_assign rfl) ?_
  refine rwt_nil ?_
  refine qn_then ?_
  refine cw_seq ?_
  refine cw_region ?_
  refine t_rd rfl (rd_move rfl) ?_
  refine t_ef rfl (ef_bslice (l := ([0, 800, 2500] : List Int)) hm157 tS22 rfl (cs := #[(Value.int .i64 0), (Value.int .i64 800), (Value.int .i64 2500)]) (by unfold bsl; kernel_rfl) rfl rfl) ?_
  intro v158 w160 hm159
  obtain ⟨r161, h162, q163⟩ := ob q152; clear q152
  refine t_ef rfl (ef_call tf13 rfl (Maker_Pick_ok h162 (hv0_l.to_callT (k := 3) hm159 rfl) (hm159.get (k := 3) rfl) (hm159.sl_callT 0 3 rfl rfl (by decide)))) ?_
  rintro _ w165 ⟨e_, hm164⟩
  obtain rfl := e_.symm
  have hm166 := hm159.callT (k := 3) rfl (fun _ h => h) hm164 (fun _ => Iff.rfl)
  refine t_rd rfl (rd_assign rfl) ?_
  refine rwt_nil ?_
  refine qn_then ?_
  refine cw_seq ?_
  refine cw_region ?_
  refine t_rd rfl (rd_move rfl) ?_
  refine t_rd rfl (rd_move rfl) ?_
  obtain ⟨r167, h168, q169⟩ := ob q163; clear q163
  refine t_ef rfl (ef_call tf23 rfl (r23_Releases_ok h168 ((Nl.mk (hm166.sl_call 1 rfl) (hm166.rows_call 2 rfl)).sl))) ?_
  rintro _ w172 ⟨v170, e_, hm171⟩
  obtain rfl := e_.symm
  have hm173 := hm166.call hm171
  refine t_rd rfl (rd_move rfl) ?_
  refine t_rd rfl (rd_extract rfl rfl) ?_
  refine t_rd rfl (rd_extract rfl rfl) ?_
  refine t_rd rfl (rd_assign rfl) ?_
  refine t_rd rfl (rd_assign rfl) ?_
  refine rwt_nil ?_
  refine qn_then ?_
  refine cw_seq ?_
  refine cw_region ?_
  refine t_rd rfl (rd_assign rfl) ?_
  refine rwt_nil ?_
  refine qn_then ?_
  refine cw_seq ?_
  refine cw_seq ?_
  refine cw_region ?_
  refine t_rd rfl (rd_assign rfl) ?_
  refine rwt_nil ?_
  refine qn_then ?_
  refine cw_block ?_
  obtain ⟨r252, hit253, q254⟩ := ob q169; clear q169
  refine cw_loop2 (I := fun q envq wq => Sub [(0, (Value.pointer (some ⟨g0, 0, none⟩))), (6, v153), (7, (Value.int .i64 r161.2)), (8, v170), (10, (Value.int .i64 q.1)), (11, (Value.int .i64 q.2.1))] envq ∧ Mem w (fun k => k = g0) [ownL 3 v170 (q.2.2.2 : List Int), ownL 34 v153 (zs154 : List Hdr), rowsC 52 zs154 (r150.2 : List (List T_Span)) none, blk g0 55 [v0_l, (Value.int .i64 q.2.2.1)]] wq) (X := fun eq envq wq => eq = .exit 0 ∧ Sub [(0, (Value.pointer (some ⟨g0, 0, none⟩))), (6, v153), (7, (Value.int .i64 r161.2)), (8, v170)] envq ∧ Mem w (fun k => k = g0) [ownL 3 v170 (r252.2 : List Int), ownL 34 v153 (zs154 : List Hdr), rowsC 52 zs154 (r150.2 : List (List T_Span)) none, blk g0 55 [v0_l, (Value.int .i64 r252.1)]] wq) hit253 ⟨(by repeat (first | exact Sub.nil _ | refine Sub.cons rfl ?_)), (hm173.pick [0, 2, 3, 4] (by decide) rfl)⟩ ?_ ?_
  · rintro ⟨i242, i243, i244, l245⟩ x247 env248 w249 hf250 hr251 ⟨hs_, hm_⟩
    have hs_ : Sub [(0, (Value.pointer (some ⟨g0, 0, none⟩))), (6, v153), (7, (Value.int .i64 r161.2)), (8, v170), (10, (Value.int .i64 i242)), (11, (Value.int .i64 i243))] env248 := hs_
    have hm255 : Mem w (fun k => k = g0) [ownL 3 v170 (l245 : List Int), ownL 34 v153 (zs154 : List Hdr), rowsC 52 zs154 (r150.2 : List (List T_Span)) none, blk g0 55 [v0_l, (Value.int .i64 i244)]] w249 := hm_
    refine cw_sub hs_ ?_
    clear hs_ hm_ q254
    have h : law24_planned_l1 N a0_l r161 i242 i243 i244 l245 = some x247 := hf250
    clear hf250
    refine cw_seq ?_
    refine cw_seq ?_
    refine cw_region ?_
    refine t_rd rfl (rd_move rfl) ?_
    refine t_rd rfl (rd_move rfl) ?_
    refine t_rd rfl (rd_lenS tS22 rfl (hm255.sl 0 rfl)) ?_
    refine t_rd rfl (rd_lss rfl rfl) ?_
    refine rwt_nil ?_
    refine qn_then ?_
    obtain ⟨hb256, q257⟩ | ⟨hb256, q257⟩ := oi h <;> clear h
    · refine cw_t rfl hb256 ?_
      refine cw_skip ?_
      refine qn_then ?_
      refine cw_seq ?_
      refine cw_block ?_
      refine cw_seq ?_
      refine cw_region ?_
      refine t_rd rfl (rd_move rfl) ?_
      refine t_rd rfl (rd_move rfl) ?_
      refine t_ef rfl (ef_bslice (l := ([0, 0, 0, 700] : List Int)) hm255 tS22 rfl (cs := #[(Value.int .i64 0), (Value.int .i64 0), (Value.int .i64 0), (Value.int .i64 700)]) (by unfold bsl; kernel_rfl) rfl rfl) ?_
      intro v258 w260 hm259
      obtain ⟨r261, h262, q263⟩ := ob q257; clear q257
      refine t_ef rfl (ef_call tf13 rfl (Maker_Pick_ok h262 (hv0_l.to_callT (k := 4) hm259 rfl) (hm259.get (k := 4) rfl) (hm259.sl_callT 0 4 rfl rfl (by decide)))) ?_
      rintro _ w265 ⟨e_, hm264⟩
      obtain rfl := e_.symm
      have hm266 := hm259.callT (k := 4) rfl (fun _ h => h) hm264 (fun _ => Iff.rfl)
      obtain ⟨x267, h268, q269⟩ := ob q263; clear q263
      refine t_rd rfl (rd_add64 h268 rfl rfl) ?_
      refine t_rd rfl (rd_assign rfl) ?_
      refine rwt_nil ?_
      refine qn_then ?_
      refine cw_region ?_
      refine t_rd rfl (rd_move rfl) ?_
      refine t_rd rfl (rd_move rfl) ?_
      obtain ⟨x270, h271, q272⟩ := ob q269; clear q269
      refine t_rd rfl (rd_index tS22 rfl rfl (hm266.sl 1 rfl) h271) ?_
      refine t_rd rfl (rd_ld1 tO3 rfl ((hm266.sl 1 rfl).cells h271) (off := 0) rfl) ?_
      refine t_rd rfl (rd_move rfl) ?_
      refine t_rd rfl (rd_move rfl) ?_
      obtain ⟨x273, h274, q275⟩ := ob q272; clear q272
      refine t_rd rfl (rd_add64 h274 rfl rfl) ?_
      obtain ⟨x276, h277, q278⟩ := ob q275; clear q275
      refine t_rd rfl (rd_add64 h277 rfl rfl) ?_
      obtain ⟨x279, h280, q281⟩ := ob q278; clear q278
      refine t_rd rfl (rd_index tS22 rfl rfl (hm266.sl 1 rfl) h280) ?_
      refine t_ef0 (ef_stl (k := 1) (off := 0) (x' := x276) hm266 tO3 rfl rfl rfl rfl h280 rfl rfl) ?_
      intro _ w283 hm282
      refine rwt_nil ?_
      refine qn_block (qn_then ?_)
      refine cw_region ?_
      refine t_rd rfl (rd_move rfl) ?_
      obtain ⟨x284, h285, q286⟩ := ob q281; clear q281
      refine t_rd rfl (rd_add64 h285 rfl rfl) ?_
      refine t_rd rfl (rd_assign rfl) ?_
      refine rwt_nil ?_
      refine qn_then ?_
      refine ⟨_, (os q286), (by repeat (first | exact Sub.nil _ | refine Sub.cons rfl ?_)), (hm282.pick [1, 2, 3, 4] (by decide) rfl)⟩
    · refine cw_f rfl hb256 ?_
      refine cw_exit ?_
      refine qx_then (qx_then ?_)
      obtain rfl := hr251 _ (os q257)
      exact ⟨rfl, (by repeat (first | exact Sub.nil _ | refine Sub.cons rfl ?_)), (hm255.pick [0, 1, 2, 3] (by decide) rfl)⟩
  · skip
    intro e env287 w288 hX289
    obtain ⟨rfl, hs290, hm291⟩ := hX289
    refine qx_same (qn_then ?_)
    refine cw_sub hs290 ?_
    refine cw_seq ?_
    refine cw_region ?_
    refine t_rd rfl (rd_move rfl) ?_
    refine t_rd rfl (rd_move rfl) ?_
    refine t_rd rfl (rd_move rfl) ?_
    refine t_rd rfl (rd_move rfl) ?_
    obtain ⟨r292, h293, q294⟩ := ob q254; clear q254
    refine t_ef rfl (ef_call tf24 rfl (yardgen_Starts_ok h293 (hv0_l.to_callT (k := 3) hm291 rfl) (hm291.get (k := 3) rfl))) ?_
    rintro _ w297 ⟨v295, e_, hm296⟩
    obtain rfl := e_.symm
    have hm298 := hm291.callT (k := 3) rfl (fun _ h => h) hm296 (fun _ => Iff.rfl)
    refine t_rd rfl (rd_assign rfl) ?_
    refine t_rd rfl (rd_assign rfl) ?_
    refine t_rd rfl (rd_assign rfl) ?_
    refine t_rd rfl (rd_assign rfl) ?_
    refine rwt_nil ?_
    refine qn_then ?_
    refine cw_ret ?_
    obtain rfl := os q294
    exact retLn (rs := [.tmp 2, .tmp 3, .tmp 4, .tmp 5]) rfl (.rt rfl (.rt rfl (.rt rfl (.rt rfl .rn)))) rfl ⟨zs154, v153, v170, v295, rfl, (hm298.pick [4, 2, 3, 1, 0] (by decide) rfl)⟩

theorem r24_starts_ok {N : Nat} {a0 : List T_Throw} {res : Bool} (h : r24_starts N a0 = some res) {w : World} {v0 : Value} (hv0 : Sl (Old w No) w v0 a0) :
    CallsR Try.prog 39 [v0] w (fun u w' => u = (Value.bool res) ∧ Mem w No [] w') := by
  unfold r24_starts at h
  refine fn_ok Try.func39 rfl rfl rfl ?_
  have hm0 := Mem.nil w
  refine cw_seq ?_
  refine cw_region ?_
  refine t_rd rfl (rd_assign rfl) ?_
  refine rwt_nil ?_
  refine qn_then ?_
  refine cw_seq ?_
  refine cw_seq ?_
  refine cw_region ?_
  refine t_rd rfl (rd_move rfl) ?_
  refine t_rd rfl (rd_lenS tS24 rfl (hv0.of_old hm0)) ?_
  refine t_rd rfl (rd_gtr rfl rfl) ?_
  refine rwt_nil ?_
  refine qn_then ?_
  obtain ⟨hb1, q2⟩ | ⟨hb1, q2⟩ := oi h <;> clear h
  · refine cw_t rfl hb1 ?_
    refine cw_seq ?_
    refine cw_region ?_
    refine t_rd rfl (rd_assign rfl) ?_
    refine rwt_nil ?_
    refine qn_then ?_
    refine cw_ret ?_
    refine qr_then ?_
    obtain rfl := os q2
    exact ret1 rfl rfl ⟨rfl, (hm0.pick [] (by decide) rfl)⟩
  · refine cw_f rfl hb1 ?_
    refine cw_skip ?_
    refine qn_then ?_
    refine cw_seq ?_
    refine cw_seq ?_
    refine cw_region ?_
    refine t_rd rfl (rd_assign rfl) ?_
    refine rwt_nil ?_
    refine qn_then ?_
    refine cw_block ?_
    obtain ⟨r225, hit226, q227⟩ := ob q2; clear q2
    refine cw_loop2 (I := fun q envq wq => Sub [(0, v0), (3, (Value.int .i64 q))] envq ∧ Mem w No [] wq) (X := fun eq envq wq => (∃ p228, r225 = (Sum.inl p228) ∧ eq = .ret ∧ retQ Try.prog 52 Try.f39 (fun u w' => u = (Value.bool p228) ∧ Mem w No [] w') .ret envq wq) ∨ (∃ p229, r225 = (Sum.inr p229) ∧ eq = .exit 0 ∧ Sub [] envq ∧ Mem w No [] wq)) hit226 ⟨(by repeat (first | exact Sub.nil _ | refine Sub.cons rfl ?_)), (hm0.pick [] (by decide) rfl)⟩ ?_ ?_
    · rintro i218 x220 env221 w222 hf223 hr224 ⟨hs_, hm_⟩
      have hs_ : Sub [(0, v0), (3, (Value.int .i64 i218))] env221 := hs_
      have hm230 : Mem w No [] w222 := hm_
      refine cw_sub hs_ ?_
      clear hs_ hm_ q227
      have h : r24_starts_l3 N a0 i218 = some x220 := hf223
      clear hf223
      refine cw_seq ?_
      refine cw_seq ?_
      refine cw_region ?_
      refine t_rd rfl (rd_move rfl) ?_
      refine t_rd rfl (rd_move rfl) ?_
      refine t_rd rfl (rd_lenS tS24 rfl (hv0.of_old hm230)) ?_
      refine t_rd rfl (rd_lss rfl rfl) ?_
      refine rwt_nil ?_
      refine qn_then ?_
      obtain ⟨hb231, q232⟩ | ⟨hb231, q232⟩ := oi h <;> clear h
      · refine cw_t rfl hb231 ?_
        refine cw_skip ?_
        refine qn_then ?_
        refine cw_seq ?_
        refine cw_block ?_
        refine cw_seq ?_
        refine cw_seq ?_
        refine cw_region ?_
        refine t_rd rfl (rd_move rfl) ?_
        refine t_rd rfl (rd_move rfl) ?_
        obtain ⟨x233, h234, q235⟩ := ob q232; clear q232
        refine t_rd rfl (rd_index tS24 rfl rfl (hv0.of_old hm230) h234) ?_
        refine t_rd rfl (rd_fld tF38_0 rfl) ?_
        refine t_rd rfl (rd_ld1 tO3 rfl ((hv0.of_old hm230).cells h234) (off := 0) rfl) ?_
        refine t_rd rfl (rd_lss rfl rfl) ?_
        refine t_rd rfl (rd_move rfl) ?_
        refine t_rdg rfl rfl rfl rfl (gv_f _) (fun hg236 => (rd_move rfl)) ?_
        refine t_rdg rfl rfl rfl rfl (gv_f _) (fun hg237 => (rd_move rfl)) ?_
        obtain ⟨x239, h240, q241⟩ := ob q235; clear q235
        refine t_rdg rfl rfl rfl rfl (gv_f _) (fun hg238 => (rd_index tS24 (gvx rfl hg238) (gvx rfl hg238) (hv0.of_old hm230) (gO_t h240 hg238))) ?_
        refine t_rdg rfl rfl rfl rfl (gv_f _) (fun hg242 => (rd_fld tF38_1 (gvx rfl hg242))) ?_
        refine t_rdg rfl rfl rfl rfl (gv_f _) (fun hg243 => (rd_ld1 tO3 (gvx rfl hg243) ((hv0.of_old hm230).cells (gO_t h240 hg243)) (off := 1) rfl)) ?_
        refine t_rdg rfl rfl rfl rfl (gv_f _) (fun hg244 => (rd_neq (gvx rfl hg244) rfl)) ?_
        refine t_rdg rfl rfl rfl rfl (gv_f _) (fun hg245 => (rd_move (gvx rfl hg245))) ?_
        refine t_rdg rfl rfl rfl rfl (gv_nt _ _) (fun hg246 => (rd_move rfl)) ?_
        refine t_rdg rfl rfl rfl rfl (gv_nt _ _) (fun hg247 => (rd_move rfl)) ?_
        obtain ⟨x249, h250, q251⟩ := ob q241; clear q241
        refine t_rdg rfl rfl rfl rfl (gv_nt _ _) (fun hg248 => (rd_index tS24 (gvx rfl hg248) (gvx rfl hg248) (hv0.of_old hm230) (gO_t h250 hg248))) ?_
        refine t_rdg rfl rfl rfl rfl (gv_nt _ _) (fun hg252 => (rd_fld tF38_1 (gvx rfl hg252))) ?_
        refine t_rdg rfl rfl rfl rfl (gv_nt _ _) (fun hg253 => (rd_ld1 tO3 (gvx rfl hg253) ((hv0.of_old hm230).cells (gO_t h250 hg253)) (off := 1) rfl)) ?_
        refine t_rdg rfl rfl rfl rfl (gv_nt _ _) (fun hg254 => (rd_neq (gvx rfl hg254) rfl)) ?_
        refine t_rdg rfl rfl rfl rfl (gv_f _) (fun hg255 => (rd_and (gvx rfl hg255) (fun hc256 => (gvx rfl (band hg255 hc256))))) ?_
        refine t_rd rfl (rd_or rfl (fun hc257 => (gvx rfl (bnotIt hc257)))) ?_
        refine rwt_nil ?_
        refine qn_then ?_
        obtain ⟨hb258, q259⟩ | ⟨hb258, q259⟩ := oi q251 <;> clear q251
        · refine cw_t rfl hb258 ?_
          refine cw_seq ?_
          refine cw_region ?_
          refine t_rd rfl (rd_assign rfl) ?_
          refine rwt_nil ?_
          refine qn_then ?_
          refine cw_ret ?_
          refine qr_then (qr_block (qr_then (qr_then ?_)))
          obtain rfl := hr224 _ (os q259)
          refine .inl (⟨_, rfl, ⟨rfl, ?_⟩⟩)
          exact ret1 rfl rfl ⟨rfl, (hm230.pick [] (by decide) rfl)⟩
        · refine cw_f rfl hb258 ?_
          refine cw_skip ?_
          refine qn_then ?_
          refine cw_seq ?_
          refine cw_region ?_
          refine t_rd rfl (rd_assign rfl) ?_
          refine rwt_nil ?_
          refine qn_then ?_
          refine cw_block ?_
          obtain ⟨r302, hit303, q304⟩ := ob q259; clear q259
          refine cw_loop2 (I := fun q envq wq => Sub [(0, v0), (3, (Value.int .i64 i218)), (4, (Value.int .i64 q))] envq ∧ Mem w No [] wq) (X := fun eq envq wq => (∃ p305, r302 = (Sum.inl p305) ∧ eq = .ret ∧ retQ Try.prog 52 Try.f39 (fun u w' => u = (Value.bool p305) ∧ Mem w No [] w') .ret envq wq) ∨ (∃ p306, r302 = (Sum.inr p306) ∧ eq = .exit 2 ∧ Sub [(0, v0), (3, (Value.int .i64 i218))] envq ∧ Mem w No [] wq)) hit303 ⟨(by repeat (first | exact Sub.nil _ | refine Sub.cons rfl ?_)), (hm230.pick [] (by decide) rfl)⟩ ?_ ?_
          · rintro i295 x297 env298 w299 hf300 hr301 ⟨hs_, hm_⟩
            have hs_ : Sub [(0, v0), (3, (Value.int .i64 i218)), (4, (Value.int .i64 i295))] env298 := hs_
            have hm307 : Mem w No [] w299 := hm_
            refine cw_sub hs_ ?_
            clear hs_ hm_ q304
            have h : r24_starts_l4 N a0 i218 i295 = some x297 := hf300
            clear hf300
            refine cw_seq ?_
            refine cw_seq ?_
            refine cw_region ?_
            refine t_rd rfl (rd_move rfl) ?_
            refine t_rd rfl (rd_move rfl) ?_
            refine t_rd rfl (rd_lss rfl rfl) ?_
            refine rwt_nil ?_
            refine qn_then ?_
            obtain ⟨hb308, q309⟩ | ⟨hb308, q309⟩ := oi h <;> clear h
            · refine cw_t rfl hb308 ?_
              refine cw_skip ?_
              refine qn_then ?_
              refine cw_seq ?_
              refine cw_block ?_
              refine cw_seq ?_
              obtain ⟨w311, he313⟩ : ∃ q, q = w299.drew := ⟨_, rfl⟩
              have hm312 := hm307.drew; rw [← he313] at hm312
              refine cw_region_s (fun q => q = w311) (cls [] []) mixed ?_
              rintro _ rfl; rw [← he313]
              refine s_rp (i := 0) rfl (by kernel_rfl) rfl (fun _ => (rd_move rfl)) ?_
              refine s_rp (i := 1) rfl (by kernel_rfl) rfl (fun _ => (rd_move rfl)) ?_
              obtain ⟨x314, h315, q316⟩ := ob q309; clear q309
              refine s_rp (i := 2) rfl (by kernel_rfl) rfl (fun _ => (rd_index tS24 rfl rfl (hv0.of_old hm312) h315)) ?_
              refine s_rp (i := 3) rfl (by kernel_rfl) rfl (fun _ => (rd_fld tF38_0 rfl)) ?_
              refine s_rd (i := 4) rfl (by kernel_rfl) rfl (fun _ hS => by rw [hS]; exact (rd_ld1 tO3 rfl ((hv0.of_old hm312).cells h315) (off := 0) rfl)) rfl ?_
              refine s_rp (i := 5) rfl (by kernel_rfl) rfl (fun _ => (rd_move rfl)) ?_
              refine s_rp (i := 6) rfl (by kernel_rfl) rfl (fun _ => (rd_move rfl)) ?_
              obtain ⟨x317, h318, q319⟩ := ob q316; clear q316
              refine s_rp (i := 7) rfl (by kernel_rfl) rfl (fun _ => (rd_index tS24 rfl rfl (hv0.of_old hm312) h318)) ?_
              refine s_rp (i := 8) rfl (by kernel_rfl) rfl (fun _ => (rd_fld tF38_0 rfl)) ?_
              refine s_rd (i := 9) rfl (by kernel_rfl) rfl (fun _ hS => by rw [hS]; exact (rd_ld1 tO3 rfl ((hv0.of_old hm312).cells h318) (off := 0) rfl)) rfl ?_
              refine s_rp (i := 10) rfl (by kernel_rfl) rfl (fun _ => (rd_eql rfl rfl)) ?_
              refine s_nil (by kernel_rfl) ?_
              refine qn_then ?_
              obtain ⟨hb320, q321⟩ | ⟨hb320, q321⟩ := oi q319 <;> clear q319
              · refine cw_t rfl hb320 ?_
                refine cw_seq ?_
                refine cw_region ?_
                refine t_rd rfl (rd_assign rfl) ?_
                refine rwt_nil ?_
                refine qn_then ?_
                refine cw_ret ?_
                refine qr_block (qr_then (qr_then ?_))
                obtain rfl := hr301 _ (os q321)
                refine .inl (⟨_, rfl, ⟨rfl, ?_⟩⟩)
                exact ret1 rfl rfl ⟨rfl, (hm312.pick [] (by decide) rfl)⟩
              · refine cw_f rfl hb320 ?_
                refine cw_skip ?_
                refine qn_block (qn_then ?_)
                refine cw_region ?_
                refine t_rd rfl (rd_move rfl) ?_
                obtain ⟨x322, h323, q324⟩ := ob q321; clear q321
                refine t_rd rfl (rd_add64 h323 rfl rfl) ?_
                refine t_rd rfl (rd_assign rfl) ?_
                refine rwt_nil ?_
                refine qn_then ?_
                refine ⟨_, (os q324), (by repeat (first | exact Sub.nil _ | refine Sub.cons rfl ?_)), (hm312.pick [] (by decide) rfl)⟩
            · refine cw_f rfl hb308 ?_
              refine cw_exit ?_
              refine qx_then (qx_then ?_)
              obtain rfl := hr301 _ (os q309)
              exact .inr (⟨_, rfl, ⟨rfl, (by repeat (first | exact Sub.nil _ | refine Sub.cons rfl ?_)), (hm307.pick [] (by decide) rfl)⟩⟩)
          · skip
            intro e env325 w326 hX327
            rcases hX327 with hX327 | hX327
            · obtain ⟨p329, rfl, hX327⟩ := hX327
              obtain ⟨rfl, hq331⟩ := hX327
              obtain rfl := hr224 _ (os q304)
              exact qr_block (qr_block (qr_then (qr_then (.inl (⟨_, rfl, ⟨rfl, hq331⟩⟩)))))
            · obtain ⟨p332, rfl, hX327⟩ := hX327
              obtain ⟨rfl, hs333, hm334⟩ := hX327
              refine qx_same (qn_block (qn_then ?_))
              refine cw_sub hs333 ?_
              refine cw_region ?_
              refine t_rd rfl (rd_move rfl) ?_
              obtain ⟨x335, h336, q337⟩ := ob q304; clear q304
              refine t_rd rfl (rd_add64 h336 rfl rfl) ?_
              refine t_rd rfl (rd_assign rfl) ?_
              refine rwt_nil ?_
              refine qn_then ?_
              refine ⟨_, (os q337), (by repeat (first | exact Sub.nil _ | refine Sub.cons rfl ?_)), (hm334.pick [] (by decide) rfl)⟩
      · refine cw_f rfl hb231 ?_
        refine cw_exit ?_
        refine qx_then (qx_then ?_)
        obtain rfl := hr224 _ (os q232)
        exact .inr (⟨_, rfl, ⟨rfl, (by repeat (first | exact Sub.nil _ | refine Sub.cons rfl ?_)), (hm230.pick [] (by decide) rfl)⟩⟩)
    · skip
      intro e env338 w339 hX340
      rcases hX340 with hX340 | hX340
      · obtain ⟨p342, rfl, hX340⟩ := hX340
        obtain ⟨rfl, hq344⟩ := hX340
        exact qr_block (qr_then ((by have e := os q227; subst e; exact hq344)))
      · obtain ⟨p345, rfl, hX340⟩ := hX340
        obtain ⟨rfl, hs346, hm347⟩ := hX340
        refine qx_same (qn_then ?_)
        refine cw_sub hs346 ?_
        refine cw_seq ?_
        refine cw_region ?_
        refine t_rd rfl (rd_assign rfl) ?_
        refine rwt_nil ?_
        refine qn_then ?_
        refine cw_ret ?_
        obtain rfl := os q227
        exact ret1 rfl rfl ⟨rfl, (hm347.pick [] (by decide) rfl)⟩

theorem r24_check_ok {N : Nat} {a0 : List (List T_Span)} {a1 : List Int} {a2 : Int} {a3 : List T_Throw} {res : Int} (h : r24_check N a0 a1 a2 a3 = some res) {w : World} {v0 : Value} {v1 : Value} {v3 : Value} (hv0 : Sl (Old w No) w v0 a0) (hv1 : Sl (Old w No) w v1 a1) (hv3 : Sl (Old w No) w v3 a3) :
    CallsR Try.prog 25 [v0, v1, (Value.int .i64 a2), v3] w (fun u w' => u = (Value.int .i64 res) ∧ Mem w No [] w') := by
  unfold r24_check at h
  refine fn_ok Try.func25 rfl rfl rfl ?_
  obtain ⟨zs_a0, hn0⟩ := hv0.nest
  have hm0 := Mem.nil w
  refine cw_seq ?_
  refine cw_region ?_
  refine t_rd rfl (rd_assign rfl) ?_
  refine rwt_nil ?_
  refine qn_then ?_
  refine cw_seq ?_
  refine cw_seq ?_
  refine cw_region ?_
  refine t_rd rfl (rd_move rfl) ?_
  refine t_rd rfl (rd_move rfl) ?_
  obtain ⟨r1, h2, q3⟩ := ob h; clear h
  refine t_ef rfl (ef_call tf37 rfl (r23_Lists_ok h2 ((hn0.to_call hm0).sl))) ?_
  rintro _ w5 ⟨e_, hm4⟩
  obtain rfl := e_.symm
  have hm6 := hm0.call hm4
  refine t_rd rfl (rd_assign rfl) ?_
  refine rwt_nil ?_
  refine qn_then ?_
  refine cw_seq ?_
  refine cw_region ?_
  refine t_rd rfl (rd_move rfl) ?_
  refine t_rd rfl (rd_neq rfl rfl) ?_
  refine rwt_nil ?_
  refine qn_then ?_
  obtain ⟨hb7, q8⟩ | ⟨hb7, q8⟩ := oi q3 <;> clear q3
  · refine cw_t rfl hb7 ?_
    refine cw_seq ?_
    refine cw_region ?_
    refine t_rd rfl (rd_move rfl) ?_
    refine t_rd rfl (rd_assign rfl) ?_
    refine rwt_nil ?_
    refine qn_then ?_
    refine cw_ret ?_
    refine qr_then ?_
    obtain rfl := os q8
    exact ret1 rfl rfl ⟨rfl, (hm6.pick [] (by decide) rfl)⟩
  · refine cw_f rfl hb7 ?_
    refine cw_skip ?_
    refine qn_then ?_
    refine cw_seq ?_
    refine cw_region ?_
    refine t_rd rfl (rd_move rfl) ?_
    refine t_rd rfl (rd_lenS tS22 rfl (hv1.of_old hm6)) ?_
    refine t_rd rfl (rd_move rfl) ?_
    refine t_rd rfl (rd_lenS tS23 rfl ((hn0.of_old hm6).sl)) ?_
    refine t_rd rfl (rd_eql rfl rfl) ?_
    refine t_rd rfl (rd_move rfl) ?_
    refine t_rdg rfl rfl rfl rfl (gv_t _) (fun hg9 => (rd_move rfl)) ?_
    obtain ⟨r11, h12, q13⟩ := ob q8; clear q8
    refine t_efg rfl rfl rfl rfl (R := (fun v w' => v = gV (decide ((List.length a1 : Int) = (List.length a0 : Int))) (Value.bool r11) ∧ Mem w5 No [] w')) (gv_t _) (fun hg10 => (ef_call tf39 (evc (gvx rfl hg10) evn) (r24_starts_ok (gO_t h12 hg10) (hv3.to_call hm6))).mono (by rintro _ _ ⟨rfl, q⟩; exact ⟨(gV_t hg10).symm, q⟩)) (fun q => ⟨(gV_f q).symm, Mem.nil _⟩) ?_
    rintro _ w15 ⟨rfl, hm14⟩
    have hm16 := hm6.call hm14
    refine t_rd rfl (rd_and rfl (fun hc17 => (gvx rfl hc17))) ?_
    refine t_rd rfl (rd_assign rfl) ?_
    refine rwt_nil ?_
    refine qn_then ?_
    refine cw_seq ?_
    refine cw_seq ?_
    refine cw_region ?_
    refine t_rd rfl (rd_assign rfl) ?_
    refine rwt_nil ?_
    refine qn_then ?_
    refine cw_block ?_
    obtain ⟨r133, hit134, q135⟩ := ob q13; clear q13
    refine cw_loop2 (I := fun q envq wq => Sub [(1, v1), (10, (Value.bool q.1)), (11, (Value.int .i64 q.2))] envq ∧ Mem w No [] wq) (X := fun eq envq wq => eq = .exit 0 ∧ Sub [(10, (Value.bool r133))] envq ∧ Mem w No [] wq) hit134 ⟨(by repeat (first | exact Sub.nil _ | refine Sub.cons rfl ?_)), (hm16.pick [] (by decide) rfl)⟩ ?_ ?_
    · rintro ⟨b125, i126⟩ x128 env129 w130 hf131 hr132 ⟨hs_, hm_⟩
      have hs_ : Sub [(1, v1), (10, (Value.bool b125)), (11, (Value.int .i64 i126))] env129 := hs_
      have hm136 : Mem w No [] w130 := hm_
      refine cw_sub hs_ ?_
      clear hs_ hm_ q135
      have h : r24_check_l1 N a1 b125 i126 = some x128 := hf131
      clear hf131
      refine cw_seq ?_
      refine cw_seq ?_
      refine cw_region ?_
      refine t_rd rfl (rd_move rfl) ?_
      refine t_rd rfl (rd_move rfl) ?_
      refine t_rd rfl (rd_lenS tS22 rfl (hv1.of_old hm136)) ?_
      refine t_rd rfl (rd_lss rfl rfl) ?_
      refine rwt_nil ?_
      refine qn_then ?_
      obtain ⟨hb137, q138⟩ | ⟨hb137, q138⟩ := oi h <;> clear h
      · refine cw_t rfl hb137 ?_
        refine cw_skip ?_
        refine qn_then ?_
        refine cw_seq ?_
        refine cw_block ?_
        obtain ⟨w140, he142⟩ : ∃ q, q = w130.drew := ⟨_, rfl⟩
        have hm141 := hm136.drew; rw [← he142] at hm141
        refine cw_region_s (fun q => q = w140) (cls [] []) mixed ?_
        rintro _ rfl; rw [← he142]
        refine s_rp (i := 0) rfl (by kernel_rfl) rfl (fun _ => (rd_move rfl)) ?_
        refine s_rp (i := 1) rfl (by kernel_rfl) rfl (fun _ => (rd_move rfl)) ?_
        refine s_rpg (i := 2) rfl (by kernel_rfl) rfl rfl rfl rfl (gv_t _) (fun hg143 _ => (rd_move rfl)) ?_
        refine s_rpg (i := 3) rfl (by kernel_rfl) rfl rfl rfl rfl (gv_t _) (fun hg144 _ => (rd_move rfl)) ?_
        obtain ⟨x146, h147, q148⟩ := ob q138; clear q138
        refine s_rpg (i := 4) rfl (by kernel_rfl) rfl rfl rfl rfl (gv_t _) (fun hg145 _ => (rd_index tS22 (gvx rfl hg145) (gvx rfl hg145) (hv1.of_old hm141) (gO_t h147 hg145))) ?_
        refine s_rdg (i := 5) rfl (by kernel_rfl) rfl rfl rfl rfl (gv_t _) (fun hg149 => (fun _ hS => by rw [hS]; exact (rd_ld1 tO3 (gvx rfl hg149) ((hv1.of_old hm141).cells (gO_t h147 hg149)) (off := 0) rfl))) rfl ?_
        refine s_rpg (i := 6) rfl (by kernel_rfl) rfl rfl rfl rfl (gv_t _) (fun hg150 _ => (rd_geq (gvx rfl hg150) rfl)) ?_
        refine s_rp (i := 7) rfl (by kernel_rfl) rfl (fun _ => (rd_and rfl (fun hc151 => (gvx rfl hc151)))) ?_
        refine s_rp (i := 8) rfl (by kernel_rfl) rfl (fun _ => (rd_move rfl)) ?_
        refine s_rpg (i := 9) rfl (by kernel_rfl) rfl rfl rfl rfl (gv_t _) (fun hg152 _ => (rd_move rfl)) ?_
        refine s_rpg (i := 10) rfl (by kernel_rfl) rfl rfl rfl rfl (gv_t _) (fun hg153 _ => (rd_move rfl)) ?_
        obtain ⟨x155, h156, q157⟩ := ob q148; clear q148
        refine s_rpg (i := 11) rfl (by kernel_rfl) rfl rfl rfl rfl (gv_t _) (fun hg154 _ => (rd_index tS22 (gvx rfl hg154) (gvx rfl hg154) (hv1.of_old hm141) (gO_t h156 hg154))) ?_
        refine s_rdg (i := 12) rfl (by kernel_rfl) rfl rfl rfl rfl (gv_t _) (fun hg158 => (fun _ hS => by rw [hS]; exact (rd_ld1 tO3 (gvx rfl hg158) ((hv1.of_old hm141).cells (gO_t h156 hg158)) (off := 0) rfl))) rfl ?_
        refine s_rpg (i := 13) rfl (by kernel_rfl) rfl rfl rfl rfl (gv_t _) (fun hg159 _ => (rd_leq (gvx rfl hg159) rfl)) ?_
        refine s_rp (i := 14) rfl (by kernel_rfl) rfl (fun _ => (rd_and rfl (fun hc160 => (gvx rfl hc160)))) ?_
        refine s_rp (i := 15) rfl (by kernel_rfl) rfl (fun _ => (rd_move rfl)) ?_
        refine s_rpg (i := 16) rfl (by kernel_rfl) rfl rfl rfl rfl (gv_t _) (fun hg161 _ => (rd_move rfl)) ?_
        refine s_rpg (i := 17) rfl (by kernel_rfl) rfl rfl rfl rfl (gv_t _) (fun hg162 _ => (rd_eql (gvx rfl hg162) rfl)) ?_
        refine s_rpg (i := 18) rfl (by kernel_rfl) rfl rfl rfl rfl (gv_t _) (fun hg163 _ => (rd_move (gvx rfl hg163))) ?_
        refine s_rpg (i := 19) rfl (by kernel_rfl) rfl rfl rfl rfl (gv_nf _ _) (fun hg164 _ => (rd_move rfl)) ?_
        refine s_rpg (i := 20) rfl (by kernel_rfl) rfl rfl rfl rfl (gv_nf _ _) (fun hg165 _ => (rd_move rfl)) ?_
        obtain ⟨x167, h168, q169⟩ := ob q157; clear q157
        refine s_rpg (i := 21) rfl (by kernel_rfl) rfl rfl rfl rfl (gv_nf _ _) (fun hg166 _ => (rd_index tS22 (gvx rfl hg166) (gvx rfl hg166) (hv1.of_old hm141) (gO_t h168 hg166))) ?_
        refine s_rdg (i := 22) rfl (by kernel_rfl) rfl rfl rfl rfl (gv_nf _ _) (fun hg170 => (fun _ hS => by rw [hS]; exact (rd_ld1 tO3 (gvx rfl hg170) ((hv1.of_old hm141).cells (gO_t h168 hg170)) (off := 0) rfl))) rfl ?_
        refine s_rpg (i := 23) rfl (by kernel_rfl) rfl rfl rfl rfl (gv_nf _ _) (fun hg171 _ => (rd_move rfl)) ?_
        refine s_rpg (i := 24) rfl (by kernel_rfl) rfl rfl rfl rfl (gv_nf _ _) (fun hg172 _ => (rd_move rfl)) ?_
        obtain ⟨x174, h175, q176⟩ := ob q169; clear q169
        refine s_rpg (i := 25) rfl (by kernel_rfl) rfl rfl rfl rfl (gv_nf _ _) (fun hg173 _ => (rd_sub64 (gO_t h175 hg173) (gvx rfl hg173) rfl)) ?_
        obtain ⟨x178, h179, q180⟩ := ob q176; clear q176
        refine s_rpg (i := 26) rfl (by kernel_rfl) rfl rfl rfl rfl (gv_nf _ _) (fun hg177 _ => (rd_index tS22 (gvx rfl hg177) (gvx rfl hg177) (hv1.of_old hm141) (gO_t h179 hg177))) ?_
        refine s_rdg (i := 27) rfl (by kernel_rfl) rfl rfl rfl rfl (gv_nf _ _) (fun hg181 => (fun _ hS => by rw [hS]; exact (rd_ld1 tO3 (gvx rfl hg181) ((hv1.of_old hm141).cells (gO_t h179 hg181)) (off := 0) rfl))) rfl ?_
        refine s_rpg (i := 28) rfl (by kernel_rfl) rfl rfl rfl rfl (gv_nf _ _) (fun hg182 _ => (rd_geq (gvx rfl hg182) (gvx rfl hg182))) ?_
        refine s_rpg (i := 29) rfl (by kernel_rfl) rfl rfl rfl rfl (gv_t _) (fun hg183 _ => (rd_or (gvx rfl hg183) (fun hc184 => (gvx rfl (band hg183 (bnotIt hc184)))))) ?_
        refine s_rp (i := 30) rfl (by kernel_rfl) rfl (fun _ => (rd_and rfl (fun hc185 => (gvx rfl hc185)))) ?_
        refine s_rp (i := 31) rfl (by kernel_rfl) rfl (fun _ => (rd_assign rfl)) ?_
        refine s_nil (by kernel_rfl) ?_
        refine qn_block (qn_then ?_)
        refine cw_region ?_
        refine t_rd rfl (rd_move rfl) ?_
        obtain ⟨x186, h187, q188⟩ := ob q180; clear q180
        refine t_rd rfl (rd_add64 h187 rfl rfl) ?_
        refine t_rd rfl (rd_assign rfl) ?_
        refine rwt_nil ?_
        refine qn_then ?_
        refine ⟨_, (os q188), (by repeat (first | exact Sub.nil _ | refine Sub.cons rfl ?_)), (hm141.pick [] (by decide) rfl)⟩
      · refine cw_f rfl hb137 ?_
        refine cw_exit ?_
        refine qx_then (qx_then ?_)
        obtain rfl := hr132 _ (os q138)
        exact ⟨rfl, (by repeat (first | exact Sub.nil _ | refine Sub.cons rfl ?_)), (hm136.pick [] (by decide) rfl)⟩
    · skip
      intro e env189 w190 hX191
      obtain ⟨rfl, hs192, hm193⟩ := hX191
      refine qx_same (qn_then ?_)
      refine cw_sub hs192 ?_
      refine cw_seq ?_
      refine cw_seq ?_
      refine cw_region ?_
      refine t_rd rfl (rd_move rfl) ?_
      refine t_rd rfl (rd_not rfl) ?_
      refine rwt_nil ?_
      refine qn_then ?_
      obtain ⟨hb194, q195⟩ | ⟨hb194, q195⟩ := oi q135 <;> clear q135
      · refine cw_t rfl hb194 ?_
        refine cw_seq ?_
        refine cw_region ?_
        refine t_rd rfl (rd_assign rfl) ?_
        refine rwt_nil ?_
        refine qn_then ?_
        refine cw_ret ?_
        refine qr_then ?_
        obtain rfl := os q195
        exact ret1 rfl rfl ⟨rfl, (hm193.pick [] (by decide) rfl)⟩
      · refine cw_f rfl hb194 ?_
        refine cw_skip ?_
        refine qn_then ?_
        refine cw_seq ?_
        refine cw_region ?_
        refine t_rd rfl (rd_assign rfl) ?_
        refine rwt_nil ?_
        refine qn_then ?_
        refine cw_ret ?_
        obtain rfl := os q195
        exact ret1 rfl rfl ⟨rfl, (hm193.pick [] (by decide) rfl)⟩

theorem r24_First_ok {N : Nat} {a0 : List T_Throw} {a1 : Int} {res : Int} (h : r24_First N a0 a1 = some res) {w : World} {v0 : Value} (hv0 : Sl (Old w No) w v0 a0) :
    CallsR Try.prog 21 [v0, (Value.int .i64 a1)] w (fun u w' => u = (Value.int .i64 res) ∧ Mem w No [] w') := by
  unfold r24_First at h
  refine fn_ok Try.func21 rfl rfl rfl ?_
  have hm0 := Mem.nil w
  refine cw_seq ?_
  refine cw_region ?_
  refine t_rd rfl (rd_assign rfl) ?_
  refine rwt_nil ?_
  refine qn_then ?_
  refine cw_seq ?_
  refine cw_seq ?_
  refine cw_region ?_
  refine t_rd rfl (rd_assign rfl) ?_
  refine rwt_nil ?_
  refine qn_then ?_
  refine cw_block ?_
  obtain ⟨r35, hit36, q37⟩ := ob h; clear h
  refine cw_loop2 (I := fun q envq wq => Sub [(0, v0), (1, (Value.int .i64 a1)), (5, (Value.int .i64 q))] envq ∧ Mem w No [] wq) (X := fun eq envq wq => (∃ p38, r35 = (Sum.inl p38) ∧ eq = .ret ∧ retQ Try.prog 24 Try.f21 (fun u w' => u = (Value.int .i64 p38) ∧ Mem w No [] w') .ret envq wq) ∨ (∃ p39, r35 = (Sum.inr p39) ∧ eq = .exit 0 ∧ Sub [] envq ∧ Mem w No [] wq)) hit36 ⟨(by repeat (first | exact Sub.nil _ | refine Sub.cons rfl ?_)), (hm0.pick [] (by decide) rfl)⟩ ?_ ?_
  · rintro i28 x30 env31 w32 hf33 hr34 ⟨hs_, hm_⟩
    have hs_ : Sub [(0, v0), (1, (Value.int .i64 a1)), (5, (Value.int .i64 i28))] env31 := hs_
    have hm40 : Mem w No [] w32 := hm_
    refine cw_sub hs_ ?_
    clear hs_ hm_ q37
    have h : r24_First_l1 N a0 a1 i28 = some x30 := hf33
    clear hf33
    refine cw_seq ?_
    refine cw_seq ?_
    refine cw_region ?_
    refine t_rd rfl (rd_move rfl) ?_
    refine t_rd rfl (rd_move rfl) ?_
    refine t_rd rfl (rd_lenS tS24 rfl (hv0.of_old hm40)) ?_
    refine t_rd rfl (rd_lss rfl rfl) ?_
    refine rwt_nil ?_
    refine qn_then ?_
    obtain ⟨hb41, q42⟩ | ⟨hb41, q42⟩ := oi h <;> clear h
    · refine cw_t rfl hb41 ?_
      refine cw_skip ?_
      refine qn_then ?_
      refine cw_seq ?_
      refine cw_block ?_
      refine cw_seq ?_
      refine cw_region ?_
      refine t_rd rfl (rd_move rfl) ?_
      refine t_rd rfl (rd_move rfl) ?_
      obtain ⟨x43, h44, q45⟩ := ob q42; clear q42
      refine t_rd rfl (rd_index tS24 rfl rfl (hv0.of_old hm40) h44) ?_
      refine t_rd rfl (rd_fld tF38_0 rfl) ?_
      refine t_rd rfl (rd_ld1 tO3 rfl ((hv0.of_old hm40).cells h44) (off := 0) rfl) ?_
      refine t_rd rfl (rd_move rfl) ?_
      refine t_rd rfl (rd_eql rfl rfl) ?_
      refine rwt_nil ?_
      refine qn_then ?_
      obtain ⟨hb46, q47⟩ | ⟨hb46, q47⟩ := oi q45 <;> clear q45
      · refine cw_t rfl hb46 ?_
        refine cw_seq ?_
        refine cw_region ?_
        refine t_rd rfl (rd_move rfl) ?_
        refine t_rd rfl (rd_move rfl) ?_
        obtain ⟨x48, h49, q50⟩ := ob q47; clear q47
        refine t_rd rfl (rd_index tS24 rfl rfl (hv0.of_old hm40) h49) ?_
        refine t_rd rfl (rd_fld tF38_1 rfl) ?_
        refine t_rd rfl (rd_ld1 tO3 rfl ((hv0.of_old hm40).cells h49) (off := 1) rfl) ?_
        refine t_rd rfl (rd_assign rfl) ?_
        refine rwt_nil ?_
        refine qn_then ?_
        refine cw_ret ?_
        refine qr_block (qr_then (qr_then ?_))
        obtain rfl := hr34 _ (os q50)
        refine .inl (⟨_, rfl, ⟨rfl, ?_⟩⟩)
        exact ret1 rfl rfl ⟨rfl, (hm40.pick [] (by decide) rfl)⟩
      · refine cw_f rfl hb46 ?_
        refine cw_skip ?_
        refine qn_block (qn_then ?_)
        refine cw_region ?_
        refine t_rd rfl (rd_move rfl) ?_
        obtain ⟨x51, h52, q53⟩ := ob q47; clear q47
        refine t_rd rfl (rd_add64 h52 rfl rfl) ?_
        refine t_rd rfl (rd_assign rfl) ?_
        refine rwt_nil ?_
        refine qn_then ?_
        refine ⟨_, (os q53), (by repeat (first | exact Sub.nil _ | refine Sub.cons rfl ?_)), (hm40.pick [] (by decide) rfl)⟩
    · refine cw_f rfl hb41 ?_
      refine cw_exit ?_
      refine qx_then (qx_then ?_)
      obtain rfl := hr34 _ (os q42)
      exact .inr (⟨_, rfl, ⟨rfl, (by repeat (first | exact Sub.nil _ | refine Sub.cons rfl ?_)), (hm40.pick [] (by decide) rfl)⟩⟩)
  · skip
    intro e env54 w55 hX56
    rcases hX56 with hX56 | hX56
    · obtain ⟨p58, rfl, hX56⟩ := hX56
      obtain ⟨rfl, hq60⟩ := hX56
      exact qr_block (qr_then ((by have e := os q37; subst e; exact hq60)))
    · obtain ⟨p61, rfl, hX56⟩ := hX56
      obtain ⟨rfl, hs62, hm63⟩ := hX56
      refine qx_same (qn_then ?_)
      refine cw_sub hs62 ?_
      refine cw_seq ?_
      refine cw_region ?_
      refine t_rd rfl (rd_assign rfl) ?_
      refine rwt_nil ?_
      refine qn_then ?_
      refine cw_ret ?_
      obtain rfl := os q37
      exact ret1 rfl rfl ⟨rfl, (hm63.pick [] (by decide) rfl)⟩

theorem r24_Commands_ok {N : Nat} {a0 : List (List T_Span)} {a1 : List Int} {a2 : Int} {a3 : List T_Throw} {res : List T_Command × Int} (h : r24_Commands N a0 a1 a2 a3 = some res) {w : World} {v0 : Value} {v1 : Value} {v3 : Value} (hv0 : Sl (Old w No) w v0 a0) (hv1 : Sl (Old w No) w v1 a1) (hv3 : Sl (Old w No) w v3 a3) :
    CallsR Try.prog 10 [v0, v1, (Value.int .i64 a2), v3] w (fun u w' => ∃ (y0 : Value), u = (Value.tuple #[y0, (Value.int .i64 res.2)]) ∧ Mem w No [ownL 41 y0 (res.1 : List T_Command)] w') := by
  unfold r24_Commands at h
  refine fn_ok Try.func10 rfl rfl rfl ?_
  obtain ⟨zs_a0, hn0⟩ := hv0.nest
  have hm0 := Mem.nil w
  refine cw_seq ?_
  refine cw_region ?_
  refine t_rd rfl (rd_assign rfl) ?_
  refine t_rd rfl (rd_assign rfl) ?_
  refine rwt_nil ?_
  refine qn_then ?_
  refine cw_seq ?_
  refine cw_seq ?_
  refine cw_region ?_
  refine t_rd rfl (rd_move rfl) ?_
  refine t_rd rfl (rd_move rfl) ?_
  refine t_rd rfl (rd_move rfl) ?_
  refine t_rd rfl (rd_move rfl) ?_
  obtain ⟨r1, h2, q3⟩ := ob h; clear h
  refine t_ef rfl (ef_call tf25 rfl (r24_check_ok h2 ((hn0.to_call hm0).sl) (hv1.to_call hm0) (hv3.to_call hm0))) ?_
  rintro _ w5 ⟨e_, hm4⟩
  obtain rfl := e_.symm
  have hm6 := hm0.call hm4
  refine t_rd rfl (rd_assign rfl) ?_
  refine rwt_nil ?_
  refine qn_then ?_
  refine cw_seq ?_
  refine cw_region ?_
  refine t_rd rfl (rd_move rfl) ?_
  refine t_rd rfl (rd_neq rfl rfl) ?_
  refine rwt_nil ?_
  refine qn_then ?_
  obtain ⟨hb7, q8⟩ | ⟨hb7, q8⟩ := oi q3 <;> clear q3
  · refine cw_t rfl hb7 ?_
    refine cw_seq ?_
    refine cw_region ?_
    refine t_rd rfl (rd_move rfl) ?_
    refine t_rd rfl (rd_assign rfl) ?_
    refine t_rd rfl (rd_assign rfl) ?_
    refine rwt_nil ?_
    refine qn_then ?_
    refine cw_ret ?_
    refine qr_then ?_
    obtain rfl := os q8
    have hm9 := hm6.addNil (α := T_Command) 41
    exact ret2 rfl rfl rfl ⟨(Value.slice none 0 0), rfl, (hm9.pick [0] (by decide) rfl)⟩
  · refine cw_f rfl hb7 ?_
    refine cw_skip ?_
    refine qn_then ?_
    refine cw_seq ?_
    refine cw_region ?_
    refine t_rd rfl (rd_assign rfl) ?_
    refine rwt_nil ?_
    refine qn_then ?_
    refine cw_seq ?_
    refine cw_seq ?_
    refine cw_region ?_
    refine t_rd rfl (rd_assign rfl) ?_
    refine rwt_nil ?_
    refine qn_then ?_
    refine cw_block ?_
    have hm1516 := hm6.addNil (α := T_Command) 41
    obtain ⟨r3806, hit3807, q3808⟩ := ob q8; clear q8
    refine cw_loop2 (I := fun q envq wq => ∃ (v3799 : Value), Sub [(0, v0), (1, v1), (2, (Value.int .i64 a2)), (3, v3), (11, v3799), (12, (Value.int .i64 q.1))] envq ∧ Mem w No [ownL 41 v3799 (q.2 : List T_Command)] wq) (X := fun eq envq wq => (∃ p3809, r3806 = (Sum.inl p3809) ∧ eq = .ret ∧ retQ Try.prog 197 Try.f10 (fun u w' => ∃ (y0 : Value), u = (Value.tuple #[y0, (Value.int .i64 p3809.2)]) ∧ Mem w No [ownL 41 y0 (p3809.1 : List T_Command)] w') .ret envq wq) ∨ (∃ p3810, r3806 = (Sum.inr p3810) ∧ eq = .exit 0 ∧ ∃ (v3796 : Value), Sub [(11, v3796)] envq ∧ Mem w No [ownL 41 v3796 (p3810 : List T_Command)] wq)) hit3807 ⟨(Value.slice none 0 0), (by repeat (first | exact Sub.nil _ | refine Sub.cons rfl ?_)), (hm1516.pick [0] (by decide) rfl)⟩ ?_ ?_
    · rintro ⟨i3797, l3798⟩ x3801 env3802 w3803 hf3804 hr3805 ⟨v3799, hs_, hm_⟩
      have hs_ : Sub [(0, v0), (1, v1), (2, (Value.int .i64 a2)), (3, v3), (11, v3799), (12, (Value.int .i64 i3797))] env3802 := hs_
      have hm3811 : Mem w No [ownL 41 v3799 (l3798 : List T_Command)] w3803 := hm_
      refine cw_sub hs_ ?_
      clear hs_ hm_ q3808
      have h : r24_Commands_l24 N a0 a1 a2 a3 i3797 l3798 = some x3801 := hf3804
      clear hf3804
      refine cw_seq ?_
      refine cw_seq ?_
      refine cw_region ?_
      refine t_rd rfl (rd_move rfl) ?_
      refine t_rd rfl (rd_move rfl) ?_
      refine t_rd rfl (rd_lenS tS23 rfl ((hn0.of_old hm3811).sl)) ?_
      refine t_rd rfl (rd_lss rfl rfl) ?_
      refine rwt_nil ?_
      refine qn_then ?_
      obtain ⟨hb3812, q3813⟩ | ⟨hb3812, q3813⟩ := oi h <;> clear h
      · refine cw_t rfl hb3812 ?_
        refine cw_skip ?_
        refine qn_then ?_
        refine cw_seq ?_
        refine cw_block ?_
        refine cw_seq ?_
        refine cw_region ?_
        refine t_rd rfl (rd_assign rfl) ?_
        refine rwt_nil ?_
        refine qn_then ?_
        refine cw_block ?_
        obtain ⟨r4560, hit4561, q4562⟩ := ob q3813; clear q3813
        refine cw_loop2 (I := fun q envq wq => ∃ (v4553 : Value), Sub [(0, v0), (1, v1), (2, (Value.int .i64 a2)), (3, v3), (11, v4553), (12, (Value.int .i64 i3797)), (13, (Value.int .i64 q.1))] envq ∧ Mem w No [ownL 41 v4553 (q.2 : List T_Command)] wq) (X := fun eq envq wq => (∃ p4563, r4560 = (Sum.inl p4563) ∧ eq = .ret ∧ retQ Try.prog 197 Try.f10 (fun u w' => ∃ (y0 : Value), u = (Value.tuple #[y0, (Value.int .i64 p4563.2)]) ∧ Mem w No [ownL 41 y0 (p4563.1 : List T_Command)] w') .ret envq wq) ∨ (∃ p4564, r4560 = (Sum.inr p4564) ∧ eq = .exit 2 ∧ ∃ (v4550 : Value), Sub [(0, v0), (1, v1), (2, (Value.int .i64 a2)), (3, v3), (11, v4550), (12, (Value.int .i64 i3797))] envq ∧ Mem w No [ownL 41 v4550 (p4564 : List T_Command)] wq)) hit4561 ⟨v3799, (by repeat (first | exact Sub.nil _ | refine Sub.cons rfl ?_)), (hm3811.pick [0] (by decide) rfl)⟩ ?_ ?_
        · rintro ⟨i4551, l4552⟩ x4555 env4556 w4557 hf4558 hr4559 ⟨v4553, hs_, hm_⟩
          have hs_ : Sub [(0, v0), (1, v1), (2, (Value.int .i64 a2)), (3, v3), (11, v4553), (12, (Value.int .i64 i3797)), (13, (Value.int .i64 i4551))] env4556 := hs_
          have hm4565 : Mem w No [ownL 41 v4553 (l4552 : List T_Command)] w4557 := hm_
          refine cw_sub hs_ ?_
          clear hs_ hm_ q4562
          have h : r24_Commands_l29 N a0 a1 a2 a3 i3797 i4551 l4552 = some x4555 := hf4558
          clear hf4558
          refine cw_seq ?_
          refine cw_seq ?_
          refine cw_region ?_
          refine t_rd rfl (rd_move rfl) ?_
          refine t_rd rfl (rd_move rfl) ?_
          refine t_rd rfl (rd_move rfl) ?_
          obtain ⟨x4566, h4567, q4568⟩ := ob h; clear h
          refine t_rd rfl (rd_index tS23 rfl rfl ((hn0.of_old hm4565).sl) h4567) ?_
          obtain ⟨zd4569, hz4570⟩ := (hn0.of_old hm4565).row h4567
          refine t_rd rfl (rd_ld1 tO34 rfl ((hn0.of_old hm4565).cells hz4570) (off := 0) rfl) ?_
          refine t_rd rfl (rd_lenS tS34 rfl ((hn0.of_old hm4565).get hz4570 h4567)) ?_
          refine t_rd rfl (rd_lss rfl rfl) ?_
          refine rwt_nil ?_
          refine qn_then ?_
          obtain ⟨hb4571, q4572⟩ | ⟨hb4571, q4572⟩ := oi q4568 <;> clear q4568
          · refine cw_t rfl hb4571 ?_
            refine cw_skip ?_
            refine qn_then ?_
            refine cw_seq ?_
            refine cw_block ?_
            refine cw_seq ?_
            refine cw_region ?_
            refine t_rd rfl (rd_move rfl) ?_
            refine t_rd rfl (rd_move rfl) ?_
            obtain ⟨x4573, h4574, q4575⟩ := ob q4572; clear q4572
            refine t_rd rfl (rd_index tS23 rfl rfl ((hn0.of_old hm4565).sl) h4574) ?_
            obtain ⟨zd4576, hz4577⟩ := (hn0.of_old hm4565).row h4574
            refine t_rd rfl (rd_ld1 tO34 rfl ((hn0.of_old hm4565).cells hz4577) (off := 0) rfl) ?_
            refine t_rd rfl (rd_move rfl) ?_
            obtain ⟨x4578, h4579, q4580⟩ := ob q4575; clear q4575
            refine t_rd rfl (rd_index tS34 rfl rfl ((hn0.of_old hm4565).get hz4577 h4574) h4579) ?_
            refine t_rd rfl (rd_ld tA52 rfl (((hn0.of_old hm4565).get hz4577 h4574).cells h4579) rfl) ?_
            refine t_ef rfl (ef_alloc hm4565 tZ52 rfl) ?_
            rintro _ w4583 ⟨g4581, rfl, hm4582⟩
            refine t_ef0 (ef_stw (k := 0) hm4582 tA52 rfl rfl (oc_cons rfl (oc_cons rfl (oc_cons rfl (oc_cons rfl oc_nil)))) rfl rfl rfl) ?_
            intro _ w4585 hm4584
            refine rwt_nil ?_
            refine qn_then ?_
            refine cw_seq ?_
            refine cw_seq ?_
            refine cw_region ?_
            refine t_rd rfl (rd_fld tF52_1 rfl) ?_
            refine t_rd rfl (rd_ld1 tO3 rfl (hm4584.blk 0 rfl) (off := 1) rfl) ?_
            refine t_rd rfl (rd_eql rfl rfl) ?_
            refine rwt_nil ?_
            refine qn_then ?_
            obtain ⟨hb4586, q4587⟩ | ⟨hb4586, q4587⟩ := oi q4580 <;> clear q4580
            · refine cw_t rfl hb4586 ?_
              refine cw_exit ?_
              refine qx_then (qx_same (qn_then ?_))
              refine cw_region ?_
              refine t_rd rfl (rd_move rfl) ?_
              obtain ⟨x4588, h4589, q4590⟩ := ob q4587; clear q4587
              refine t_rd rfl (rd_add64 h4589 rfl rfl) ?_
              refine t_rd rfl (rd_assign rfl) ?_
              refine rwt_nil ?_
              refine qn_then ?_
              refine ⟨_, (os q4590), v4553, (by repeat (first | exact Sub.nil _ | refine Sub.cons rfl ?_)), (hm4584.pick [1] (by decide) rfl)⟩
            · refine cw_f rfl hb4586 ?_
              refine cw_skip ?_
              refine qn_then ?_
              refine cw_seq ?_
              refine cw_region ?_
              refine t_rd rfl (rd_move rfl) ?_
              refine t_rd rfl (rd_fld tF52_0 rfl) ?_
              refine t_rd rfl (rd_ld1 tO3 rfl (hm4584.blk 0 rfl) (off := 0) rfl) ?_
              obtain ⟨r4591, h4592, q4593⟩ := ob q4587; clear q4587
              refine t_ef rfl (ef_call tf21 rfl (r24_First_ok h4592 (hv3.to_call hm4584))) ?_
              rintro _ w4595 ⟨e_, hm4594⟩
              obtain rfl := e_.symm
              have hm4596 := hm4584.call hm4594
              refine t_rd rfl (rd_assign rfl) ?_
              refine rwt_nil ?_
              refine qn_then ?_
              refine cw_seq ?_
              refine cw_seq ?_
              refine cw_region ?_
              refine t_rd rfl (rd_assign rfl) ?_
              refine rwt_nil ?_
              refine qn_then ?_
              refine cw_block ?_
              obtain ⟨r4648, hit4649, q4650⟩ := ob q4593; clear q4593
              refine cw_loop2 (I := fun q envq wq => Sub [(0, v0), (1, v1), (2, (Value.int .i64 a2)), (3, v3), (11, v4553), (12, (Value.int .i64 i3797)), (13, (Value.int .i64 i4551)), (14, (Value.pointer (some ⟨g4581, 0, none⟩))), (15, (Value.int .i64 q.1)), (16, (Value.int .i64 q.2))] envq ∧ Mem w No [blk g4581 52 [(Value.int .i64 x4578.Element), (Value.int .i64 x4578.Side), (Value.int .i64 x4578.From), (Value.int .i64 x4578.To)], ownL 41 v4553 (l4552 : List T_Command)] wq) (X := fun eq envq wq => eq = .exit 4 ∧ Sub [(0, v0), (1, v1), (2, (Value.int .i64 a2)), (3, v3), (11, v4553), (12, (Value.int .i64 i3797)), (13, (Value.int .i64 i4551)), (14, (Value.pointer (some ⟨g4581, 0, none⟩))), (15, (Value.int .i64 r4648))] envq ∧ Mem w No [blk g4581 52 [(Value.int .i64 x4578.Element), (Value.int .i64 x4578.Side), (Value.int .i64 x4578.From), (Value.int .i64 x4578.To)], ownL 41 v4553 (l4552 : List T_Command)] wq) hit4649 ⟨(by repeat (first | exact Sub.nil _ | refine Sub.cons rfl ?_)), (hm4596.pick [0, 1] (by decide) rfl)⟩ ?_ ?_
              · rintro ⟨i4640, i4641⟩ x4643 env4644 w4645 hf4646 hr4647 ⟨hs_, hm_⟩
                have hs_ : Sub [(0, v0), (1, v1), (2, (Value.int .i64 a2)), (3, v3), (11, v4553), (12, (Value.int .i64 i3797)), (13, (Value.int .i64 i4551)), (14, (Value.pointer (some ⟨g4581, 0, none⟩))), (15, (Value.int .i64 i4640)), (16, (Value.int .i64 i4641))] env4644 := hs_
                have hm4651 : Mem w No [blk g4581 52 [(Value.int .i64 x4578.Element), (Value.int .i64 x4578.Side), (Value.int .i64 x4578.From), (Value.int .i64 x4578.To)], ownL 41 v4553 (l4552 : List T_Command)] w4645 := hm_
                refine cw_sub hs_ ?_
                clear hs_ hm_ q4650
                have h : r24_Commands_l30 N l4552 x4578 i4640 i4641 = some x4643 := hf4646
                clear hf4646
                refine cw_seq ?_
                refine cw_seq ?_
                refine cw_region ?_
                refine t_rd rfl (rd_move rfl) ?_
                refine t_rd rfl (rd_move rfl) ?_
                refine t_rd rfl (rd_lenS tS25 rfl (hm4651.sl 1 rfl)) ?_
                refine t_rd rfl (rd_lss rfl rfl) ?_
                refine rwt_nil ?_
                refine qn_then ?_
                obtain ⟨hb4652, q4653⟩ | ⟨hb4652, q4653⟩ := oi h <;> clear h
                · refine cw_t rfl hb4652 ?_
                  refine cw_skip ?_
                  refine qn_then ?_
                  refine cw_seq ?_
                  refine cw_block ?_
                  refine cw_seq ?_
                  obtain ⟨w4655, he4657⟩ : ∃ q, q = w4645.drew := ⟨_, rfl⟩
                  have hm4656 := hm4651.drew; rw [← he4657] at hm4656
                  refine cw_region_s (fun q => q = w4655) (cls [] []) mixed ?_
                  rintro _ rfl; rw [← he4657]
                  refine s_rp (i := 0) rfl (by kernel_rfl) rfl (fun _ => (rd_move rfl)) ?_
                  refine s_rp (i := 1) rfl (by kernel_rfl) rfl (fun _ => (rd_move rfl)) ?_
                  obtain ⟨x4658, h4659, q4660⟩ := ob q4653; clear q4653
                  refine s_rp (i := 2) rfl (by kernel_rfl) rfl (fun _ => (rd_index tS25 rfl rfl (hm4656.sl 1 rfl) h4659)) ?_
                  refine s_rp (i := 3) rfl (by kernel_rfl) rfl (fun _ => (rd_fld tF41_1 rfl)) ?_
                  refine s_rd (i := 4) rfl (by kernel_rfl) rfl (fun _ hS => by rw [hS]; exact (rd_ld1 tO3 rfl ((hm4656.sl 1 rfl).cells h4659) (off := 1) rfl)) rfl ?_
                  refine s_rp (i := 5) rfl (by kernel_rfl) rfl (fun _ => (rd_fld tF52_0 rfl)) ?_
                  refine s_rd (i := 6) rfl (by kernel_rfl) rfl (fun _ hS => by rw [hS]; exact (rd_ld1 tO3 rfl (hm4656.blk 0 rfl) (off := 0) rfl)) rfl ?_
                  refine s_rp (i := 7) rfl (by kernel_rfl) rfl (fun _ => (rd_eql rfl rfl)) ?_
                  refine s_nil (by kernel_rfl) ?_
                  refine qn_then ?_
                  obtain ⟨hb4661, q4662⟩ | ⟨hb4661, q4662⟩ := oi q4660 <;> clear q4660
                  · refine cw_t rfl hb4661 ?_
                    refine cw_region ?_
                    refine t_rd rfl (rd_move rfl) ?_
                    refine t_rd rfl (rd_move rfl) ?_
                    obtain ⟨x4663, h4664, q4665⟩ := ob q4662; clear q4662
                    refine t_rd rfl (rd_index tS25 rfl rfl (hm4656.sl 1 rfl) h4664) ?_
                    refine t_rd rfl (rd_fld tF41_2 rfl) ?_
                    refine t_rd rfl (rd_ld1 tO3 rfl ((hm4656.sl 1 rfl).cells h4664) (off := 2) rfl) ?_
                    refine t_rd rfl (rd_assign rfl) ?_
                    refine rwt_nil ?_
                    refine qn_block (qn_then ?_)
                    refine cw_region ?_
                    refine t_rd rfl (rd_move rfl) ?_
                    obtain ⟨x4666, h4667, q4668⟩ := ob q4665; clear q4665
                    refine t_rd rfl (rd_add64 h4667 rfl rfl) ?_
                    refine t_rd rfl (rd_assign rfl) ?_
                    refine rwt_nil ?_
                    refine qn_then ?_
                    refine ⟨_, (os q4668), (by repeat (first | exact Sub.nil _ | refine Sub.cons rfl ?_)), (hm4656.pick [0, 1] (by decide) rfl)⟩
                  · refine cw_f rfl hb4661 ?_
                    refine cw_skip ?_
                    refine qn_block (qn_then ?_)
                    refine cw_region ?_
                    refine t_rd rfl (rd_move rfl) ?_
                    obtain ⟨x4669, h4670, q4671⟩ := ob q4662; clear q4662
                    refine t_rd rfl (rd_add64 h4670 rfl rfl) ?_
                    refine t_rd rfl (rd_assign rfl) ?_
                    refine rwt_nil ?_
                    refine qn_then ?_
                    refine ⟨_, (os q4671), (by repeat (first | exact Sub.nil _ | refine Sub.cons rfl ?_)), (hm4656.pick [0, 1] (by decide) rfl)⟩
                · refine cw_f rfl hb4652 ?_
                  refine cw_exit ?_
                  refine qx_then (qx_then ?_)
                  obtain rfl := hr4647 _ (os q4653)
                  exact ⟨rfl, (by repeat (first | exact Sub.nil _ | refine Sub.cons rfl ?_)), (hm4651.pick [0, 1] (by decide) rfl)⟩
              · skip
                intro e env4672 w4673 hX4674
                obtain ⟨rfl, hs4675, hm4676⟩ := hX4674
                refine qx_same (qn_then ?_)
                refine cw_sub hs4675 ?_
                refine cw_seq ?_
                refine cw_seq ?_
                refine cw_region ?_
                refine t_rd rfl (rd_move rfl) ?_
                refine t_rd rfl (rd_fld tF52_1 rfl) ?_
                refine t_rd rfl (rd_ld1 tO3 rfl (hm4676.blk 0 rfl) (off := 1) rfl) ?_
                refine t_rd rfl (rd_eql rfl rfl) ?_
                refine rwt_nil ?_
                refine qn_then ?_
                obtain ⟨hb4677, q4678⟩ | ⟨hb4677, q4678⟩ := oi q4650 <;> clear q4650
                · refine cw_t rfl hb4677 ?_
                  refine cw_exit ?_
                  refine qx_then (qx_same (qn_then ?_))
                  refine cw_region ?_
                  refine t_rd rfl (rd_move rfl) ?_
                  obtain ⟨x4679, h4680, q4681⟩ := ob q4678; clear q4678
                  refine t_rd rfl (rd_add64 h4680 rfl rfl) ?_
                  refine t_rd rfl (rd_assign rfl) ?_
                  refine rwt_nil ?_
                  refine qn_then ?_
                  refine ⟨_, (os q4681), v4553, (by repeat (first | exact Sub.nil _ | refine Sub.cons rfl ?_)), (hm4676.pick [1] (by decide) rfl)⟩
                · refine cw_f rfl hb4677 ?_
                  refine cw_skip ?_
                  refine qn_then ?_
                  refine cw_seq ?_
                  refine cw_region ?_
                  refine t_rd rfl (rd_fld tF52_0 rfl) ?_
                  refine t_rd rfl (rd_ld1 tO3 rfl (hm4676.blk 0 rfl) (off := 0) rfl) ?_
                  refine t_rd rfl (rd_fld tF52_1 rfl) ?_
                  refine t_rd rfl (rd_ld1 tO3 rfl (hm4676.blk 0 rfl) (off := 1) rfl) ?_
                  refine t_rd rfl (rd_move rfl) ?_
                  refine t_rd rfl (rd_build (cs := #[(Value.int .i64 0), (Value.int .i64 x4578.Element), (Value.int .i64 x4578.Side), (Value.int .i64 i3797)]) rfl (by kernel_rfl)) ?_
                  refine t_ef rfl (ef_alloc hm4676 tZ41 rfl) ?_
                  rintro _ w4684 ⟨g4682, rfl, hm4683⟩
                  refine t_ef0 (ef_stw (k := 0) hm4683 tA41 rfl rfl (oc_cons rfl (oc_cons rfl (oc_cons rfl (oc_cons rfl oc_nil)))) rfl rfl rfl) ?_
                  intro _ w4686 hm4685
                  refine rwt_nil ?_
                  refine qn_then ?_
                  refine cw_seq ?_
                  refine cw_region ?_
                  refine t_rd rfl (rd_assign rfl) ?_
                  refine rwt_nil ?_
                  refine qn_then ?_
                  refine cw_seq ?_
                  refine cw_seq ?_
                  refine cw_region ?_
                  refine t_rd rfl (rd_assign rfl) ?_
                  refine rwt_nil ?_
                  refine qn_then ?_
                  refine cw_block ?_
                  obtain ⟨r4827, hit4828, q4829⟩ := ob q4678; clear q4678
                  refine cw_loop2 (I := fun q envq wq => Sub [(0, v0), (1, v1), (2, (Value.int .i64 a2)), (3, v3), (11, v4553), (12, (Value.int .i64 i3797)), (13, (Value.int .i64 i4551)), (14, (Value.pointer (some ⟨g4581, 0, none⟩))), (17, (Value.pointer (some ⟨g4682, 0, none⟩))), (18, (Value.bool q.1)), (19, (Value.int .i64 q.2.1))] envq ∧ Mem w No [blk g4682 41 [(Value.int .i64 q.2.2), (Value.int .i64 x4578.Element), (Value.int .i64 x4578.Side), (Value.int .i64 i3797)], blk g4581 52 [(Value.int .i64 x4578.Element), (Value.int .i64 x4578.Side), (Value.int .i64 x4578.From), (Value.int .i64 x4578.To)], ownL 41 v4553 (l4552 : List T_Command)] wq) (X := fun eq envq wq => eq = .exit 6 ∧ Sub [(0, v0), (1, v1), (2, (Value.int .i64 a2)), (3, v3), (11, v4553), (12, (Value.int .i64 i3797)), (13, (Value.int .i64 i4551)), (14, (Value.pointer (some ⟨g4581, 0, none⟩))), (17, (Value.pointer (some ⟨g4682, 0, none⟩))), (18, (Value.bool r4827.1))] envq ∧ Mem w No [blk g4682 41 [(Value.int .i64 r4827.2), (Value.int .i64 x4578.Element), (Value.int .i64 x4578.Side), (Value.int .i64 i3797)], blk g4581 52 [(Value.int .i64 x4578.Element), (Value.int .i64 x4578.Side), (Value.int .i64 x4578.From), (Value.int .i64 x4578.To)], ownL 41 v4553 (l4552 : List T_Command)] wq) hit4828 ⟨(by repeat (first | exact Sub.nil _ | refine Sub.cons rfl ?_)), (hm4685.pick [0, 1, 2] (by decide) rfl)⟩ ?_ ?_
                  · rintro ⟨b4818, i4819, i4820⟩ x4822 env4823 w4824 hf4825 hr4826 ⟨hs_, hm_⟩
                    have hs_ : Sub [(0, v0), (1, v1), (2, (Value.int .i64 a2)), (3, v3), (11, v4553), (12, (Value.int .i64 i3797)), (13, (Value.int .i64 i4551)), (14, (Value.pointer (some ⟨g4581, 0, none⟩))), (17, (Value.pointer (some ⟨g4682, 0, none⟩))), (18, (Value.bool b4818)), (19, (Value.int .i64 i4819))] env4823 := hs_
                    have hm4830 : Mem w No [blk g4682 41 [(Value.int .i64 i4820), (Value.int .i64 x4578.Element), (Value.int .i64 x4578.Side), (Value.int .i64 i3797)], blk g4581 52 [(Value.int .i64 x4578.Element), (Value.int .i64 x4578.Side), (Value.int .i64 x4578.From), (Value.int .i64 x4578.To)], ownL 41 v4553 (l4552 : List T_Command)] w4824 := hm_
                    refine cw_sub hs_ ?_
                    clear hs_ hm_ q4829
                    have h : r24_Commands_l31 N a0 a1 i3797 x4578 b4818 i4819 i4820 = some x4822 := hf4825
                    clear hf4825
                    refine cw_seq ?_
                    refine cw_seq ?_
                    refine cw_region ?_
                    refine t_rd rfl (rd_move rfl) ?_
                    refine t_rd rfl (rd_move rfl) ?_
                    refine t_rd rfl (rd_lss rfl rfl) ?_
                    refine rwt_nil ?_
                    refine qn_then ?_
                    obtain ⟨hb4831, q4832⟩ | ⟨hb4831, q4832⟩ := oi h <;> clear h
                    · refine cw_t rfl hb4831 ?_
                      refine cw_skip ?_
                      refine qn_then ?_
                      refine cw_seq ?_
                      refine cw_block ?_
                      refine cw_seq ?_
                      obtain ⟨w4834, he4836⟩ : ∃ q, q = w4824.drew := ⟨_, rfl⟩
                      have hm4835 := hm4830.drew; rw [← he4836] at hm4835
                      refine cw_region_s (fun q => q = w4834) (cls [] [6]) mixed ?_
                      rintro _ rfl; rw [← he4836]
                      refine s_rp (i := 0) rfl (by kernel_rfl) rfl (fun _ => (rd_move rfl)) ?_
                      refine s_rp (i := 1) rfl (by kernel_rfl) rfl (fun _ => (rd_move rfl)) ?_
                      obtain ⟨x4837, h4838, q4839⟩ := ob q4832; clear q4832
                      refine s_rp (i := 2) rfl (by kernel_rfl) rfl (fun _ => (rd_index tS23 rfl rfl ((hn0.of_old hm4835).sl) h4838)) ?_
                      obtain ⟨zd4840, hz4841⟩ := (hn0.of_old hm4835).row h4838
                      refine s_rd (i := 3) rfl (by kernel_rfl) rfl (fun _ hS => by rw [hS]; exact (rd_ld1 tO34 rfl ((hn0.of_old hm4835).cells hz4841) (off := 0) rfl)) rfl ?_
                      refine s_rp (i := 4) rfl (by kernel_rfl) rfl (fun _ => (rd_fld tF52_0 rfl)) ?_
                      refine s_rd (i := 5) rfl (by kernel_rfl) rfl (fun _ hS => by rw [hS]; exact (rd_ld1 tO3 rfl (hm4835.blk 1 rfl) (off := 0) rfl)) rfl ?_
                      obtain ⟨r4842, h4843, q4844⟩ := ob q4839; clear q4839
                      refine s_ef (i := 6) rfl (by kernel_rfl) rfl (ef_call tf20 rfl (r23_Find_ok h4843 ((hn0.to_call hm4835).get hz4841 h4838))) (by decide) (fun _ _ _ q => absurd q (by decide)) ?_
                      rintro _ w4846 ⟨e_, hm4845⟩
                      obtain rfl := e_.symm
                      have hm4847 := hm4835.call hm4845
                      refine s_rp (i := 7) rfl (by kernel_rfl) rfl (fun _ => (rd_assign rfl)) ?_
                      refine s_nil (by kernel_rfl) ?_
                      refine qn_then ?_
                      refine cw_seq ?_
                      refine cw_region ?_
                      refine t_rd rfl (rd_move rfl) ?_
                      refine t_rd rfl (rd_geq rfl rfl) ?_
                      refine rwt_nil ?_
                      refine qn_then ?_
                      obtain ⟨hb4848, q4849⟩ | ⟨hb4848, q4849⟩ := oi q4844 <;> clear q4844
                      · refine cw_t rfl hb4848 ?_
                        refine cw_seq ?_
                        refine cw_region ?_
                        refine t_rd rfl (rd_move rfl) ?_
                        refine t_rd rfl (rd_move rfl) ?_
                        refine t_rdg rfl rfl rfl rfl (gv_f _) (fun hg4850 => (rd_move rfl)) ?_
                        refine t_rdg rfl rfl rfl rfl (gv_f _) (fun hg4851 => (rd_move rfl)) ?_
                        obtain ⟨x4853, h4854, q4855⟩ := ob q4849; clear q4849
                        refine t_rdg rfl rfl rfl rfl (gv_f _) (fun hg4852 => (rd_index tS23 (gvx rfl hg4852) (gvx rfl hg4852) ((hn0.of_old hm4847).sl) (gO_t h4854 hg4852))) ?_
                        obtain ⟨zd4857, hz4858⟩ := (hn0.of_old hm4847).rowg (g := (!b4818)) (fun q => gO_t h4854 q)
                        refine t_rdg rfl rfl rfl rfl (gv_f _) (fun hg4856 => (rd_ld1 tO34 (gvx rfl hg4856) ((hn0.of_old hm4847).cells (hz4858 hg4856)) (off := 0) rfl)) ?_
                        refine t_rdg rfl rfl rfl rfl (gv_f _) (fun hg4859 => (rd_move rfl)) ?_
                        obtain ⟨x4861, h4862, q4863⟩ := ob q4855; clear q4855
                        refine t_rdg rfl rfl rfl rfl (gv_f _) (fun hg4860 => (rd_index tS34 (gvx rfl hg4860) (gvx rfl hg4860) ((hn0.of_old hm4847).get (hz4858 hg4860) (gO_t h4854 hg4860)) (gO_t h4862 hg4860))) ?_
                        refine t_rdg rfl rfl rfl rfl (gv_f _) (fun hg4864 => (rd_fld tF52_3 (gvx rfl hg4864))) ?_
                        refine t_rdg rfl rfl rfl rfl (gv_f _) (fun hg4865 => (rd_ld1 tO3 (gvx rfl hg4865) (((hn0.of_old hm4847).get (hz4858 hg4865) (gO_t h4854 hg4865)).cells (gO_t h4862 hg4865)) (off := 3) rfl)) ?_
                        refine t_rdg rfl rfl rfl rfl (gv_f _) (fun hg4866 => (rd_eql (gvx rfl hg4866) rfl)) ?_
                        refine t_rd rfl (rd_or rfl (fun hc4867 => (gvx rfl (bnotIt hc4867)))) ?_
                        refine t_rd rfl (rd_assign rfl) ?_
                        refine rwt_nil ?_
                        refine qn_then ?_
                        obtain ⟨w4869, he4871⟩ : ∃ q, q = w4846.drew := ⟨_, rfl⟩
                        have hm4870 := hm4847.drew; rw [← he4871] at hm4870
                        refine cw_region_s (fun q => q = w4869) (cls [] [17]) mixed ?_
                        rintro _ rfl; rw [← he4871]
                        refine s_rp (i := 0) rfl (by kernel_rfl) rfl (fun _ => (rd_fld tF41_0 rfl)) ?_
                        refine s_rd (i := 1) rfl (by kernel_rfl) rfl (fun _ hS => by rw [hS]; exact (rd_ld1 tO3 rfl (hm4870.blk 0 rfl) (off := 0) rfl)) rfl ?_
                        refine s_rp (i := 2) rfl (by kernel_rfl) rfl (fun _ => (rd_move rfl)) ?_
                        refine s_rp (i := 3) rfl (by kernel_rfl) rfl (fun _ => (rd_move rfl)) ?_
                        obtain ⟨x4872, h4873, q4874⟩ := ob q4863; clear q4863
                        refine s_rp (i := 4) rfl (by kernel_rfl) rfl (fun _ => (rd_index tS22 rfl rfl (hv1.of_old hm4870) h4873)) ?_
                        refine s_rd (i := 5) rfl (by kernel_rfl) rfl (fun _ hS => by rw [hS]; exact (rd_ld1 tO3 rfl ((hv1.of_old hm4870).cells h4873) (off := 0) rfl)) rfl ?_
                        refine s_rp (i := 6) rfl (by kernel_rfl) rfl (fun _ => (rd_move rfl)) ?_
                        refine s_rp (i := 7) rfl (by kernel_rfl) rfl (fun _ => (rd_move rfl)) ?_
                        obtain ⟨x4875, h4876, q4877⟩ := ob q4874; clear q4874
                        refine s_rp (i := 8) rfl (by kernel_rfl) rfl (fun _ => (rd_index tS23 rfl rfl ((hn0.of_old hm4870).sl) h4876)) ?_
                        obtain ⟨zd4878, hz4879⟩ := (hn0.of_old hm4870).row h4876
                        refine s_rd (i := 9) rfl (by kernel_rfl) rfl (fun _ hS => by rw [hS]; exact (rd_ld1 tO34 rfl ((hn0.of_old hm4870).cells hz4879) (off := 0) rfl)) rfl ?_
                        refine s_rp (i := 10) rfl (by kernel_rfl) rfl (fun _ => (rd_move rfl)) ?_
                        obtain ⟨x4880, h4881, q4882⟩ := ob q4877; clear q4877
                        refine s_rp (i := 11) rfl (by kernel_rfl) rfl (fun _ => (rd_index tS34 rfl rfl ((hn0.of_old hm4870).get hz4879 h4876) h4881)) ?_
                        refine s_rp (i := 12) rfl (by kernel_rfl) rfl (fun _ => (rd_fld tF52_3 rfl)) ?_
                        refine s_rd (i := 13) rfl (by kernel_rfl) rfl (fun _ hS => by rw [hS]; exact (rd_ld1 tO3 rfl (((hn0.of_old hm4870).get hz4879 h4876).cells h4881) (off := 3) rfl)) rfl ?_
                        obtain ⟨x4883, h4884, q4885⟩ := ob q4882; clear q4882
                        refine s_rp (i := 14) rfl (by kernel_rfl) rfl (fun _ => (rd_add64 h4884 rfl rfl)) ?_
                        refine s_rp (i := 15) rfl (by kernel_rfl) rfl (fun _ => (rd_max rfl rfl)) ?_
                        refine s_rp (i := 16) rfl (by kernel_rfl) rfl (fun _ => (rd_fld tF41_0 rfl)) ?_
                        refine s_ef0 (i := 17) rfl (by kernel_rfl) (ef_st1 (k := 0) (off := 0) hm4870 tO3 rfl rfl rfl rfl rfl rfl) (by decide) (fun _ _ _ q => absurd q (by decide)) ?_
                        intro _ w4887 hm4886
                        refine s_nil (by kernel_rfl) ?_
                        refine qn_block (qn_then ?_)
                        refine cw_region ?_
                        refine t_rd rfl (rd_move rfl) ?_
                        obtain ⟨x4888, h4889, q4890⟩ := ob q4885; clear q4885
                        refine t_rd rfl (rd_add64 h4889 rfl rfl) ?_
                        refine t_rd rfl (rd_assign rfl) ?_
                        refine rwt_nil ?_
                        refine qn_then ?_
                        refine ⟨_, (os q4890), (by repeat (first | exact Sub.nil _ | refine Sub.cons rfl ?_)), (hm4886.pick [0, 1, 2] (by decide) rfl)⟩
                      · refine cw_f rfl hb4848 ?_
                        refine cw_skip ?_
                        refine qn_block (qn_then ?_)
                        refine cw_region ?_
                        refine t_rd rfl (rd_move rfl) ?_
                        obtain ⟨x4891, h4892, q4893⟩ := ob q4849; clear q4849
                        refine t_rd rfl (rd_add64 h4892 rfl rfl) ?_
                        refine t_rd rfl (rd_assign rfl) ?_
                        refine rwt_nil ?_
                        refine qn_then ?_
                        refine ⟨_, (os q4893), (by repeat (first | exact Sub.nil _ | refine Sub.cons rfl ?_)), (hm4847.pick [0, 1, 2] (by decide) rfl)⟩
                    · refine cw_f rfl hb4831 ?_
                      refine cw_exit ?_
                      refine qx_then (qx_then ?_)
                      obtain rfl := hr4826 _ (os q4832)
                      exact ⟨rfl, (by repeat (first | exact Sub.nil _ | refine Sub.cons rfl ?_)), (hm4830.pick [0, 1, 2] (by decide) rfl)⟩
                  · skip
                    intro e env4894 w4895 hX4896
                    obtain ⟨rfl, hs4897, hm4898⟩ := hX4896
                    refine qx_same (qn_then ?_)
                    refine cw_sub hs4897 ?_
                    refine cw_seq ?_
                    refine cw_seq ?_
                    refine cw_region ?_
                    refine t_rd rfl (rd_move rfl) ?_
                    refine rwt_nil ?_
                    refine qn_then ?_
                    obtain ⟨hb4899, q4900⟩ | ⟨hb4899, q4900⟩ := oi q4829 <;> clear q4829
                    · refine cw_t rfl hb4899 ?_
                      refine cw_seq ?_
                      refine cw_region ?_
                      refine t_rd rfl (rd_assign rfl) ?_
                      refine t_rd rfl (rd_assign rfl) ?_
                      refine rwt_nil ?_
                      refine qn_then ?_
                      refine cw_ret ?_
                      refine qr_then (qr_block (qr_then (qr_then ?_)))
                      obtain rfl := hr4559 _ (os q4900)
                      refine .inl (⟨_, rfl, ⟨rfl, ?_⟩⟩)
                      have hm4901 := hm4898.addNil (α := T_Command) 41
                      exact ret2 rfl rfl rfl ⟨(Value.slice none 0 0), rfl, (hm4901.pick [0] (by decide) rfl)⟩
                    · refine cw_f rfl hb4899 ?_
                      refine cw_skip ?_
                      refine qn_then ?_
                      refine cw_seq ?_
                      refine cw_seq ?_
                      refine cw_region ?_
                      refine t_rd rfl (rd_fld tF41_0 rfl) ?_
                      refine t_rd rfl (rd_ld1 tO3 rfl (hm4898.blk 0 rfl) (off := 0) rfl) ?_
                      refine t_rd rfl (rd_gtr rfl rfl) ?_
                      refine rwt_nil ?_
                      refine qn_then ?_
                      obtain ⟨hb4902, q4903⟩ | ⟨hb4902, q4903⟩ := oi q4900 <;> clear q4900
                      · refine cw_t rfl hb4902 ?_
                        refine cw_seq ?_
                        refine cw_region ?_
                        refine t_rd rfl (rd_assign rfl) ?_
                        refine t_rd rfl (rd_assign rfl) ?_
                        refine rwt_nil ?_
                        refine qn_then ?_
                        refine cw_ret ?_
                        refine qr_then (qr_block (qr_then (qr_then ?_)))
                        obtain rfl := hr4559 _ (os q4903)
                        refine .inl (⟨_, rfl, ⟨rfl, ?_⟩⟩)
                        have hm4904 := hm4898.addNil (α := T_Command) 41
                        exact ret2 rfl rfl rfl ⟨(Value.slice none 0 0), rfl, (hm4904.pick [0] (by decide) rfl)⟩
                      · refine cw_f rfl hb4902 ?_
                        refine cw_skip ?_
                        refine qn_then ?_
                        refine cw_seq ?_
                        refine cw_seq ?_
                        obtain ⟨w4906, he4908⟩ : ∃ q, q = w4895.drew := ⟨_, rfl⟩
                        have hm4907 := hm4898.drew; rw [← he4908] at hm4907
                        refine cw_region_s (fun q => q = w4906) (cls [] []) mixed ?_
                        rintro _ rfl; rw [← he4908]
                        refine s_rp (i := 0) rfl (by kernel_rfl) rfl (fun _ => (rd_fld tF41_0 rfl)) ?_
                        refine s_rd (i := 1) rfl (by kernel_rfl) rfl (fun _ hS => by rw [hS]; exact (rd_ld1 tO3 rfl (hm4907.blk 0 rfl) (off := 0) rfl)) rfl ?_
                        refine s_rp (i := 2) rfl (by kernel_rfl) rfl (fun _ => (rd_move rfl)) ?_
                        obtain ⟨x4909, h4910, q4911⟩ := ob q4903; clear q4903
                        refine s_rp (i := 3) rfl (by kernel_rfl) rfl (fun _ => (rd_add64 h4910 rfl rfl)) ?_
                        refine s_rp (i := 4) rfl (by kernel_rfl) rfl (fun _ => (rd_move rfl)) ?_
                        refine s_rp (i := 5) rfl (by kernel_rfl) rfl (fun _ => (rd_move rfl)) ?_
                        obtain ⟨x4912, h4913, q4914⟩ := ob q4911; clear q4911
                        refine s_rp (i := 6) rfl (by kernel_rfl) rfl (fun _ => (rd_index tS22 rfl rfl (hv1.of_old hm4907) h4913)) ?_
                        refine s_rd (i := 7) rfl (by kernel_rfl) rfl (fun _ hS => by rw [hS]; exact (rd_ld1 tO3 rfl ((hv1.of_old hm4907).cells h4913) (off := 0) rfl)) rfl ?_
                        refine s_rp (i := 8) rfl (by kernel_rfl) rfl (fun _ => (rd_fld tF52_2 rfl)) ?_
                        refine s_rd (i := 9) rfl (by kernel_rfl) rfl (fun _ hS => by rw [hS]; exact (rd_ld1 tO3 rfl (hm4907.blk 1 rfl) (off := 2) rfl)) rfl ?_
                        obtain ⟨x4915, h4916, q4917⟩ := ob q4914; clear q4914
                        refine s_rp (i := 10) rfl (by kernel_rfl) rfl (fun _ => (rd_add64 h4916 rfl rfl)) ?_
                        refine s_rp (i := 11) rfl (by kernel_rfl) rfl (fun _ => (rd_gtr rfl rfl)) ?_
                        refine s_nil (by kernel_rfl) ?_
                        refine qn_then ?_
                        obtain ⟨hb4918, q4919⟩ | ⟨hb4918, q4919⟩ := oi q4917 <;> clear q4917
                        · refine cw_t rfl hb4918 ?_
                          refine cw_seq ?_
                          refine cw_region ?_
                          refine t_rd rfl (rd_assign rfl) ?_
                          refine t_rd rfl (rd_assign rfl) ?_
                          refine rwt_nil ?_
                          refine qn_then ?_
                          refine cw_ret ?_
                          refine qr_then (qr_block (qr_then (qr_then ?_)))
                          obtain rfl := hr4559 _ (os q4919)
                          refine .inl (⟨_, rfl, ⟨rfl, ?_⟩⟩)
                          have hm4920 := hm4907.addNil (α := T_Command) 41
                          exact ret2 rfl rfl rfl ⟨(Value.slice none 0 0), rfl, (hm4920.pick [0] (by decide) rfl)⟩
                        · refine cw_f rfl hb4918 ?_
                          refine cw_skip ?_
                          refine qn_then ?_
                          refine cw_seq ?_
                          refine cw_seq ?_
                          refine cw_region ?_
                          refine t_rd rfl (rd_move rfl) ?_
                          refine t_rd rfl (rd_lenS tS25 rfl (hm4907.sl 2 rfl)) ?_
                          refine t_rd rfl (rd_eql rfl rfl) ?_
                          refine rwt_nil ?_
                          refine qn_then ?_
                          obtain ⟨hb4921, q4922⟩ | ⟨hb4921, q4922⟩ := oi q4919 <;> clear q4919
                          · refine cw_t rfl hb4921 ?_
                            refine cw_seq ?_
                            refine cw_region ?_
                            refine t_rd rfl (rd_assign rfl) ?_
                            refine t_rd rfl (rd_assign rfl) ?_
                            refine rwt_nil ?_
                            refine qn_then ?_
                            refine cw_ret ?_
                            refine qr_then (qr_block (qr_then (qr_then ?_)))
                            obtain rfl := hr4559 _ (os q4922)
                            refine .inl (⟨_, rfl, ⟨rfl, ?_⟩⟩)
                            have hm4923 := hm4907.addNil (α := T_Command) 41
                            exact ret2 rfl rfl rfl ⟨(Value.slice none 0 0), rfl, (hm4923.pick [0] (by decide) rfl)⟩
                          · refine cw_f rfl hb4921 ?_
                            refine cw_skip ?_
                            refine qn_then ?_
                            refine cw_region ?_
                            refine t_rd rfl (rd_move rfl) ?_
                            refine t_rd rfl (rd_ld tA41 rfl (hm4907.blk 0 rfl) rfl) ?_
                            refine t_ef rfl (ef_bslice (l := ([(T_Command.mk r4827.2 x4578.Element x4578.Side i3797)] : List T_Command)) hm4907 tS25 rfl (cs := #[(Value.int .i64 r4827.2), (Value.int .i64 x4578.Element), (Value.int .i64 x4578.Side), (Value.int .i64 i3797)]) (by unfold bsl; kernel_rfl) rfl rfl) ?_
                            intro v4924 w4926 hm4925
                            obtain ⟨l4927, h4928, q4929⟩ := ob q4922; clear q4922
                            refine t_ef rfl (ef_append (k := 3) hm4925 tS25 tE41 rfl rfl rfl rfl (hm4925.sl 0 rfl) h4928) ?_
                            intro v4930 w4932 hm4931
                            refine t_rd rfl (rd_assign rfl) ?_
                            refine rwt_nil ?_
                            refine qn_block (qn_then ?_)
                            refine cw_region ?_
                            refine t_rd rfl (rd_move rfl) ?_
                            obtain ⟨x4933, h4934, q4935⟩ := ob q4929; clear q4929
                            refine t_rd rfl (rd_add64 h4934 rfl rfl) ?_
                            refine t_rd rfl (rd_assign rfl) ?_
                            refine rwt_nil ?_
                            refine qn_then ?_
                            refine ⟨_, (os q4935), v4930, (by repeat (first | exact Sub.nil _ | refine Sub.cons rfl ?_)), (hm4931.pick [3] (by decide) rfl)⟩
          · refine cw_f rfl hb4571 ?_
            refine cw_exit ?_
            refine qx_then (qx_then ?_)
            obtain rfl := hr4559 _ (os q4572)
            exact .inr (⟨_, rfl, ⟨rfl, v4553, (by repeat (first | exact Sub.nil _ | refine Sub.cons rfl ?_)), (hm4565.pick [0] (by decide) rfl)⟩⟩)
        · skip
          intro e env4936 w4937 hX4938
          rcases hX4938 with hX4938 | hX4938
          · obtain ⟨p4940, rfl, hX4938⟩ := hX4938
            obtain ⟨rfl, hq4942⟩ := hX4938
            obtain rfl := hr3805 _ (os q4562)
            exact qr_block (qr_block (qr_then (qr_then (.inl (⟨_, rfl, ⟨rfl, hq4942⟩⟩)))))
          · obtain ⟨p4943, rfl, hX4938⟩ := hX4938
            obtain ⟨rfl, v4550, hs4944, hm4945⟩ := hX4938
            refine qx_same (qn_block (qn_then ?_))
            refine cw_sub hs4944 ?_
            refine cw_region ?_
            refine t_rd rfl (rd_move rfl) ?_
            obtain ⟨x4946, h4947, q4948⟩ := ob q4562; clear q4562
            refine t_rd rfl (rd_add64 h4947 rfl rfl) ?_
            refine t_rd rfl (rd_assign rfl) ?_
            refine rwt_nil ?_
            refine qn_then ?_
            refine ⟨_, (os q4948), v4550, (by repeat (first | exact Sub.nil _ | refine Sub.cons rfl ?_)), (hm4945.pick [0] (by decide) rfl)⟩
      · refine cw_f rfl hb3812 ?_
        refine cw_exit ?_
        refine qx_then (qx_then ?_)
        obtain rfl := hr3805 _ (os q3813)
        exact .inr (⟨_, rfl, ⟨rfl, v3799, (by repeat (first | exact Sub.nil _ | refine Sub.cons rfl ?_)), (hm3811.pick [0] (by decide) rfl)⟩⟩)
    · skip
      intro e env4949 w4950 hX4951
      rcases hX4951 with hX4951 | hX4951
      · obtain ⟨p4953, rfl, hX4951⟩ := hX4951
        obtain ⟨rfl, hq4955⟩ := hX4951
        exact qr_block (qr_then ((by have e := os q3808; subst e; exact hq4955)))
      · obtain ⟨p4956, rfl, hX4951⟩ := hX4951
        obtain ⟨rfl, v3796, hs4957, hm4958⟩ := hX4951
        refine qx_same (qn_then ?_)
        refine cw_sub hs4957 ?_
        refine cw_seq ?_
        refine cw_region ?_
        refine t_rd rfl (rd_assign rfl) ?_
        refine rwt_nil ?_
        refine qn_then ?_
        refine cw_seq ?_
        refine cw_seq ?_
        refine cw_region ?_
        refine t_rd rfl (rd_assign rfl) ?_
        refine rwt_nil ?_
        refine qn_then ?_
        refine cw_block ?_
        have hm5103 := hm4958.addNil (α := T_Command) 41
        obtain ⟨r5407, hit5408, q5409⟩ := ob q3808; clear q3808
        refine cw_loop2 (I := fun q envq wq => ∃ (v5400 : Value), Sub [(11, v3796), (21, v5400), (22, (Value.int .i64 q.1))] envq ∧ Mem w No [ownL 41 v5400 (q.2 : List T_Command), ownL 41 v3796 (p4956 : List T_Command)] wq) (X := fun eq envq wq => eq = .exit 8 ∧ ∃ (v5397 : Value), Sub [(21, v5397)] envq ∧ Mem w No [ownL 41 v5397 (r5407 : List T_Command)] wq) hit5408 ⟨(Value.slice none 0 0), (by repeat (first | exact Sub.nil _ | refine Sub.cons rfl ?_)), (hm5103.pick [0, 1] (by decide) rfl)⟩ ?_ ?_
        · rintro ⟨i5398, l5399⟩ x5402 env5403 w5404 hf5405 hr5406 ⟨v5400, hs_, hm_⟩
          have hs_ : Sub [(11, v3796), (21, v5400), (22, (Value.int .i64 i5398))] env5403 := hs_
          have hm5410 : Mem w No [ownL 41 v5400 (l5399 : List T_Command), ownL 41 v3796 (p4956 : List T_Command)] w5404 := hm_
          refine cw_sub hs_ ?_
          clear hs_ hm_ q5409
          have h : r24_Commands_l35 N p4956 i5398 l5399 = some x5402 := hf5405
          clear hf5405
          refine cw_seq ?_
          refine cw_seq ?_
          refine cw_region ?_
          refine t_rd rfl (rd_move rfl) ?_
          refine t_rd rfl (rd_move rfl) ?_
          refine t_rd rfl (rd_lenS tS25 rfl (hm5410.sl 1 rfl)) ?_
          refine t_rd rfl (rd_lss rfl rfl) ?_
          refine rwt_nil ?_
          refine qn_then ?_
          obtain ⟨hb5411, q5412⟩ | ⟨hb5411, q5412⟩ := oi h <;> clear h
          · refine cw_t rfl hb5411 ?_
            refine cw_skip ?_
            refine qn_then ?_
            refine cw_seq ?_
            refine cw_block ?_
            refine cw_seq ?_
            refine cw_region ?_
            refine t_rd rfl (rd_move rfl) ?_
            refine t_rd rfl (rd_lenS tS25 rfl (hm5410.sl 0 rfl)) ?_
            refine t_rd rfl (rd_assign rfl) ?_
            refine rwt_nil ?_
            refine qn_then ?_
            refine cw_seq ?_
            refine cw_block ?_
            obtain ⟨r5484, hit5485, q5486⟩ := ob q5412; clear q5412
            refine cw_loop2 (I := fun q envq wq => Sub [(11, v3796), (21, v5400), (22, (Value.int .i64 i5398)), (23, (Value.int .i64 q))] envq ∧ Mem w No [ownL 41 v5400 (l5399 : List T_Command), ownL 41 v3796 (p4956 : List T_Command)] wq) (X := fun eq envq wq => eq = .exit 10 ∧ Sub [(11, v3796), (21, v5400), (22, (Value.int .i64 i5398)), (23, (Value.int .i64 r5484))] envq ∧ Mem w No [ownL 41 v5400 (l5399 : List T_Command), ownL 41 v3796 (p4956 : List T_Command)] wq) hit5485 ⟨(by repeat (first | exact Sub.nil _ | refine Sub.cons rfl ?_)), (hm5410.pick [0, 1] (by decide) rfl)⟩ ?_ ?_
            · rintro i5477 x5479 env5480 w5481 hf5482 hr5483 ⟨hs_, hm_⟩
              have hs_ : Sub [(11, v3796), (21, v5400), (22, (Value.int .i64 i5398)), (23, (Value.int .i64 i5477))] env5480 := hs_
              have hm5487 : Mem w No [ownL 41 v5400 (l5399 : List T_Command), ownL 41 v3796 (p4956 : List T_Command)] w5481 := hm_
              refine cw_sub hs_ ?_
              clear hs_ hm_ q5486
              have h : r24_Commands_l36 N p4956 i5398 l5399 i5477 = some x5479 := hf5482
              clear hf5482
              refine cw_seq ?_
              refine cw_seq ?_
              obtain ⟨w5489, he5491⟩ : ∃ q, q = w5481.drew := ⟨_, rfl⟩
              have hm5490 := hm5487.drew; rw [← he5491] at hm5490
              refine cw_region_s (fun q => q = w5489) (cls [] []) mixed ?_
              rintro _ rfl; rw [← he5491]
              refine s_rp (i := 0) rfl (by kernel_rfl) rfl (fun _ => (rd_move rfl)) ?_
              refine s_rp (i := 1) rfl (by kernel_rfl) rfl (fun _ => (rd_gtr rfl rfl)) ?_
              refine s_rp (i := 2) rfl (by kernel_rfl) rfl (fun _ => (rd_move rfl)) ?_
              refine s_rpg (i := 3) rfl (by kernel_rfl) rfl rfl rfl rfl (gv_t _) (fun hg5492 _ => (rd_move rfl)) ?_
              refine s_rpg (i := 4) rfl (by kernel_rfl) rfl rfl rfl rfl (gv_t _) (fun hg5493 _ => (rd_move rfl)) ?_
              obtain ⟨x5495, h5496, q5497⟩ := ob h; clear h
              refine s_rpg (i := 5) rfl (by kernel_rfl) rfl rfl rfl rfl (gv_t _) (fun hg5494 _ => (rd_sub64 (gO_t h5496 hg5494) (gvx rfl hg5494) rfl)) ?_
              obtain ⟨x5499, h5500, q5501⟩ := ob q5497; clear q5497
              refine s_rpg (i := 6) rfl (by kernel_rfl) rfl rfl rfl rfl (gv_t _) (fun hg5498 _ => (rd_index tS25 (gvx rfl hg5498) (gvx rfl hg5498) (hm5490.sl 0 rfl) (gO_t h5500 hg5498))) ?_
              refine s_rpg (i := 7) rfl (by kernel_rfl) rfl rfl rfl rfl (gv_t _) (fun hg5502 _ => (rd_fld tF41_0 (gvx rfl hg5502))) ?_
              refine s_rdg (i := 8) rfl (by kernel_rfl) rfl rfl rfl rfl (gv_t _) (fun hg5503 => (fun _ hS => by rw [hS]; exact (rd_ld1 tO3 (gvx rfl hg5503) ((hm5490.sl 0 rfl).cells (gO_t h5500 hg5503)) (off := 0) rfl))) rfl ?_
              refine s_rpg (i := 9) rfl (by kernel_rfl) rfl rfl rfl rfl (gv_t _) (fun hg5504 _ => (rd_move rfl)) ?_
              refine s_rpg (i := 10) rfl (by kernel_rfl) rfl rfl rfl rfl (gv_t _) (fun hg5505 _ => (rd_move rfl)) ?_
              obtain ⟨x5507, h5508, q5509⟩ := ob q5501; clear q5501
              refine s_rpg (i := 11) rfl (by kernel_rfl) rfl rfl rfl rfl (gv_t _) (fun hg5506 _ => (rd_index tS25 (gvx rfl hg5506) (gvx rfl hg5506) (hm5490.sl 1 rfl) (gO_t h5508 hg5506))) ?_
              refine s_rpg (i := 12) rfl (by kernel_rfl) rfl rfl rfl rfl (gv_t _) (fun hg5510 _ => (rd_fld tF41_0 (gvx rfl hg5510))) ?_
              refine s_rdg (i := 13) rfl (by kernel_rfl) rfl rfl rfl rfl (gv_t _) (fun hg5511 => (fun _ hS => by rw [hS]; exact (rd_ld1 tO3 (gvx rfl hg5511) ((hm5490.sl 1 rfl).cells (gO_t h5508 hg5511)) (off := 0) rfl))) rfl ?_
              refine s_rpg (i := 14) rfl (by kernel_rfl) rfl rfl rfl rfl (gv_t _) (fun hg5512 _ => (rd_gtr (gvx rfl hg5512) (gvx rfl hg5512))) ?_
              refine s_rp (i := 15) rfl (by kernel_rfl) rfl (fun _ => (rd_and rfl (fun hc5513 => (gvx rfl hc5513)))) ?_
              refine s_nil (by kernel_rfl) ?_
              refine qn_then ?_
              obtain ⟨hb5514, q5515⟩ | ⟨hb5514, q5515⟩ := oi q5509 <;> clear q5509
              · refine cw_t rfl hb5514 ?_
                refine cw_skip ?_
                refine qn_then ?_
                refine cw_block ?_
                refine cw_region ?_
                refine t_rd rfl (rd_move rfl) ?_
                obtain ⟨x5516, h5517, q5518⟩ := ob q5515; clear q5515
                refine t_rd rfl (rd_sub64 h5517 rfl rfl) ?_
                refine t_rd rfl (rd_assign rfl) ?_
                refine rwt_nil ?_
                refine qn_block (qn_then ?_)
                refine ⟨_, (os q5518), (by repeat (first | exact Sub.nil _ | refine Sub.cons rfl ?_)), (hm5490.pick [0, 1] (by decide) rfl)⟩
              · refine cw_f rfl hb5514 ?_
                refine cw_exit ?_
                refine qx_then (qx_then ?_)
                obtain rfl := hr5483 _ (os q5515)
                exact ⟨rfl, (by repeat (first | exact Sub.nil _ | refine Sub.cons rfl ?_)), (hm5490.pick [0, 1] (by decide) rfl)⟩
            · skip
              intro e env5519 w5520 hX5521
              obtain ⟨rfl, hs5522, hm5523⟩ := hX5521
              refine qx_same (qn_then ?_)
              refine cw_sub hs5522 ?_
              obtain ⟨w5525, he5527⟩ : ∃ q, q = w5520.drew := ⟨_, rfl⟩
              have hm5526 := hm5523.drew; rw [← he5527] at hm5526
              refine cw_region_s (fun q => q = w5525) (cls [] [8, 12, 13]) mixed ?_
              rintro _ rfl; rw [← he5527]
              refine s_rp (i := 0) rfl (by kernel_rfl) rfl (fun _ => (rd_move rfl)) ?_
              refine s_rp (i := 1) rfl (by kernel_rfl) rfl (fun _ => (rd_move rfl)) ?_
              refine s_rp (i := 2) rfl (by kernel_rfl) rfl (fun _ => (rd_move rfl)) ?_
              obtain ⟨l5528, h5529, q5530⟩ := ob q5486; clear q5486
              refine s_rp (i := 3) rfl (by kernel_rfl) rfl (fun _ => (rd_slcC tS25 rfl rfl rfl (hm5526.sl 0 rfl) h5529)) ?_
              refine s_rp (i := 4) rfl (by kernel_rfl) rfl (fun _ => (rd_move rfl)) ?_
              refine s_rp (i := 5) rfl (by kernel_rfl) rfl (fun _ => (rd_move rfl)) ?_
              obtain ⟨x5531, h5532, q5533⟩ := ob q5530; clear q5530
              refine s_rp (i := 6) rfl (by kernel_rfl) rfl (fun _ => (rd_index tS25 rfl rfl (hm5526.sl 1 rfl) h5532)) ?_
              refine s_rd (i := 7) rfl (by kernel_rfl) rfl (fun _ hS => by rw [hS]; exact (rd_ld tA41 rfl ((hm5526.sl 1 rfl).cells h5532) rfl)) rfl ?_
              refine s_rp (i := 9) rfl (by kernel_rfl) rfl (fun _ => (rd_move rfl)) ?_
              refine s_rp (i := 10) rfl (by kernel_rfl) rfl (fun _ => (rd_move rfl)) ?_
              obtain ⟨l5534, h5535, q5536⟩ := ob q5533; clear q5533
              refine s_rp (i := 11) rfl (by kernel_rfl) rfl (fun _ => (rd_slcL tS25 rfl rfl (hm5526.sl 0 rfl) h5535)) ?_
              refine s_ef (i := 8) rfl (by kernel_rfl) rfl (ef_bslice (l := ([x5531] : List T_Command)) hm5526 tS25 rfl (cs := #[(Value.int .i64 x5531.Time), (Value.int .i64 x5531.Element), (Value.int .i64 x5531.Side), (Value.int .i64 x5531.Cut)]) (by unfold bsl; kernel_rfl) rfl rfl) (by decide) (fun _ _ _ q => absurd q (by decide)) ?_
              intro v5537 w5539 hm5538
              obtain ⟨l5540, h5541, q5542⟩ := ob q5536; clear q5536
              refine s_ef (i := 12) rfl (by kernel_rfl) rfl (ef_append (k := 0) hm5538 tS25 tE41 rfl rfl rfl rfl ((hm5538.sl 1 rfl).sub h5535) h5541) (by decide) (fun _ _ _ q => absurd q (by decide)) ?_
              intro v5543 w5545 hm5544
              obtain ⟨l5546, h5547, q5548⟩ := ob q5542; clear q5542
              refine s_ef (i := 13) rfl (by kernel_rfl) rfl (ef_appendC hm5544 tS25 tE41 rfl rfl ((hm5544.sl 1 rfl).subC h5529) rfl (hm5544.sl 0 rfl) h5547) (by decide) (fun _ _ _ q => absurd q (by decide)) ?_
              intro v5549 w5551 hm5550
              refine s_rp (i := 14) rfl (by kernel_rfl) rfl (fun _ => (rd_assign rfl)) ?_
              refine s_nil (by kernel_rfl) ?_
              refine qn_block (qn_then ?_)
              refine cw_region ?_
              refine t_rd rfl (rd_move rfl) ?_
              obtain ⟨x5552, h5553, q5554⟩ := ob q5548; clear q5548
              refine t_rd rfl (rd_add64 h5553 rfl rfl) ?_
              refine t_rd rfl (rd_assign rfl) ?_
              refine rwt_nil ?_
              refine qn_then ?_
              refine ⟨_, (os q5554), v5549, (by repeat (first | exact Sub.nil _ | refine Sub.cons rfl ?_)), (hm5550.pick [0, 3] (by decide) rfl)⟩
          · refine cw_f rfl hb5411 ?_
            refine cw_exit ?_
            refine qx_then (qx_then ?_)
            obtain rfl := hr5406 _ (os q5412)
            exact ⟨rfl, v5400, (by repeat (first | exact Sub.nil _ | refine Sub.cons rfl ?_)), (hm5410.pick [0] (by decide) rfl)⟩
        · skip
          intro e env5555 w5556 hX5557
          obtain ⟨rfl, v5397, hs5558, hm5559⟩ := hX5557
          refine qx_same (qn_then ?_)
          refine cw_sub hs5558 ?_
          refine cw_seq ?_
          refine cw_region ?_
          refine t_rd rfl (rd_move rfl) ?_
          refine t_rd rfl (rd_assign rfl) ?_
          refine t_rd rfl (rd_assign rfl) ?_
          refine rwt_nil ?_
          refine qn_then ?_
          refine cw_ret ?_
          obtain rfl := os q5409
          exact ret2 rfl rfl rfl ⟨v5397, rfl, (hm5559.pick [0] (by decide) rfl)⟩

theorem yardgen_SpoilSpans_ok {N : Nat} {a0_l : List Int} {a0_n : Int} {a1 : List T_Span} {res : Int × List T_Span} (h : yardgen_SpoilSpans N a0_l a0_n a1 = some res) {w : World} {v0_l : Value} {g0 : Nat} {v1 : Value} (hv0_l : Sl (Old w (fun k => k = g0)) w v0_l a0_l) (hk0 : (blk g0 55 [v0_l, (Value.int .i64 a0_n)]).φ w) (hv1 : Sl (Old w (fun k => k = g0)) w v1 a1) :
    CallsR Try.prog 12 [(Value.pointer (some ⟨g0, 0, none⟩)), v1] w (fun u w' => ∃ (y0 : Value), u = y0 ∧ Mem w (fun k => k = g0) [blk g0 55 [v0_l, (Value.int .i64 res.1)], ownL 52 y0 (res.2 : List T_Span)] w') := by
  unfold yardgen_SpoilSpans at h
  refine fn_ok Try.func12 rfl rfl rfl ?_
  have hm0 := Mem.one hk0
  refine cw_seq ?_
  refine cw_region ?_
  refine t_rd rfl (rd_assign rfl) ?_
  refine rwt_nil ?_
  refine qn_then ?_
  refine cw_seq ?_
  refine cw_region ?_
  refine t_ef rfl (ef_bslice0 (α := T_Span) hm0 tS34) ?_
  intro v101 w103 hm102
  refine t_rd rfl (rd_move rfl) ?_
  obtain ⟨l104, h105, q106⟩ := ob h; clear h
  refine t_ef rfl (ef_append (k := 0) hm102 tS34 tE52 rfl rfl rfl rfl (hv1.of_old hm102) h105) ?_
  intro v107 w109 hm108
  refine t_rd rfl (rd_assign rfl) ?_
  refine rwt_nil ?_
  refine qn_then ?_
  refine cw_seq ?_
  refine cw_seq ?_
  refine cw_region ?_
  refine t_rd rfl (rd_move rfl) ?_
  refine t_rd rfl (rd_lenS tS34 rfl (hm108.sl 0 rfl)) ?_
  refine t_rd rfl (rd_eql rfl rfl) ?_
  refine rwt_nil ?_
  refine qn_then ?_
  obtain ⟨hb110, q111⟩ | ⟨hb110, q111⟩ := oi q106 <;> clear q106
  · refine cw_t rfl hb110 ?_
    refine cw_seq ?_
    refine cw_region ?_
    refine t_rd rfl (rd_move rfl) ?_
    refine t_ef rfl (ef_bslice (l := ([5, 6] : List Int)) hm108 tS22 rfl (cs := #[(Value.int .i64 5), (Value.int .i64 6)]) (by unfold bsl; kernel_rfl) rfl rfl) ?_
    intro v112 w114 hm113
    obtain ⟨r115, h116, q117⟩ := ob q111; clear q111
    refine t_ef rfl (ef_call tf13 rfl (Maker_Pick_ok h116 (hv0_l.to_callT (k := 2) hm113 rfl) (hm113.get (k := 2) rfl) (hm113.sl_callT 0 2 rfl rfl (by decide)))) ?_
    rintro _ w119 ⟨e_, hm118⟩
    obtain rfl := e_.symm
    have hm120 := hm113.callT (k := 2) rfl (fun _ h => h) hm118 (fun _ => Iff.rfl)
    refine t_rd rfl (rd_build (cs := #[(Value.int .i64 1), (Value.int .i64 0), (Value.int .i64 5), (Value.int .i64 r115.2)]) rfl (by kernel_rfl)) ?_
    refine t_ef rfl (ef_bslice (l := ([(T_Span.mk 1 0 5 r115.2)] : List T_Span)) hm120 tS34 rfl (cs := #[(Value.int .i64 1), (Value.int .i64 0), (Value.int .i64 5), (Value.int .i64 r115.2)]) (by unfold bsl; kernel_rfl) rfl rfl) ?_
    intro v121 w123 hm122
    refine t_rd rfl (rd_assign rfl) ?_
    refine rwt_nil ?_
    refine qn_then ?_
    refine cw_ret ?_
    refine qr_then ?_
    obtain rfl := os q117
    exact ret1 rfl rfl ⟨v121, rfl, (hm122.pick [3, 0] (by decide) rfl)⟩
  · refine cw_f rfl hb110 ?_
    refine cw_skip ?_
    refine qn_then ?_
    refine cw_seq ?_
    refine cw_region ?_
    refine t_rd rfl (rd_move rfl) ?_
    refine t_rd rfl (rd_move rfl) ?_
    refine t_rd rfl (rd_move rfl) ?_
    refine t_rd rfl (rd_lenS tS34 rfl (hm108.sl 0 rfl)) ?_
    obtain ⟨r124, h125, q126⟩ := ob q111; clear q111
    refine t_ef rfl (ef_call tf11 rfl (Maker_Next_ok h125 (hv0_l.to_callT (k := 1) hm108 rfl) (hm108.get (k := 1) rfl))) ?_
    rintro _ w128 ⟨e_, hm127⟩
    obtain rfl := e_.symm
    have hm129 := hm108.callT (k := 1) rfl (fun _ h => h) hm127 (fun _ => Iff.rfl)
    obtain ⟨x130, h131, q132⟩ := ob q126; clear q126
    refine t_rd rfl (rd_index tS34 rfl rfl (hm129.sl 0 rfl) h131) ?_
    refine t_rd rfl (rd_assign rfl) ?_
    refine rwt_nil ?_
    refine qn_then ?_
    refine cw_seq ?_
    refine cw_seq ?_
    refine cw_region ?_
    refine t_rd rfl (rd_move rfl) ?_
    obtain ⟨r133, h134, q135⟩ := ob q132; clear q132
    refine t_ef rfl (ef_call tf11 rfl (Maker_Next_ok h134 (hv0_l.to_callT (k := 1) hm129 rfl) (hm129.get (k := 1) rfl))) ?_
    rintro _ w137 ⟨e_, hm136⟩
    obtain rfl := e_.symm
    have hm138 := hm129.callT (k := 1) rfl (fun _ h => h) hm136 (fun _ => Iff.rfl)
    refine rwt_nil ?_
    refine qn_then ?_
    refine cw_block ?_
    refine cw_seq ?_
    refine cw_region ?_
    refine t_rd rfl (rd_eql rfl rfl) ?_
    refine t_rd rfl (rd_assign rfl) ?_
    refine rwt_nil ?_
    refine qn_then ?_
    obtain ⟨hb139, q140⟩ | ⟨hb139, q140⟩ := oi q135 <;> clear q135
    · refine cw_t rfl hb139 ?_
      refine cw_region ?_
      refine t_rd rfl (rd_move rfl) ?_
      refine t_rd rfl (rd_move rfl) ?_
      refine t_rd rfl (rd_move rfl) ?_
      obtain ⟨x141, h142, q143⟩ := ob q140; clear q140
      refine t_rd rfl (rd_index tS34 rfl rfl (hm138.sl 0 rfl) h142) ?_
      refine t_rd rfl (rd_fld tF52_0 rfl) ?_
      refine t_rd rfl (rd_ld1 tO3 rfl ((hm138.sl 0 rfl).cells h142) (off := 0) rfl) ?_
      refine t_ef rfl (ef_bslice (l := ([(-1), x141.Element, 127, 128] : List Int)) hm138 tS22 rfl (cs := #[(Value.int .i64 (-1)), (Value.int .i64 x141.Element), (Value.int .i64 127), (Value.int .i64 128)]) (by unfold bsl; kernel_rfl) rfl rfl) ?_
      intro v144 w146 hm145
      obtain ⟨r147, h148, q149⟩ := ob q143; clear q143
      refine t_ef rfl (ef_call tf13 rfl (Maker_Pick_ok h148 (hv0_l.to_callT (k := 2) hm145 rfl) (hm145.get (k := 2) rfl) (hm145.sl_callT 0 2 rfl rfl (by decide)))) ?_
      rintro _ w151 ⟨e_, hm150⟩
      obtain rfl := e_.symm
      have hm152 := hm145.callT (k := 2) rfl (fun _ h => h) hm150 (fun _ => Iff.rfl)
      refine t_rd rfl (rd_nilCheck rfl) ?_
      refine t_rd rfl (rd_fld tF52_0 rfl) ?_
      refine t_ef0 (ef_stl (k := 1) (off := 0) (x' := (T_Span.mk r147.2 x130.Side x130.From x130.To)) hm152 tO3 rfl rfl rfl rfl h131 rfl rfl) ?_
      intro _ w154 hm153
      refine rwt_nil ?_
      refine qn_block (qn_then ?_)
      refine cw_seq ?_
      refine cw_region ?_
      refine t_rd rfl (rd_move rfl) ?_
      refine t_rd rfl (rd_assign rfl) ?_
      refine rwt_nil ?_
      refine qn_then ?_
      refine cw_ret ?_
      obtain rfl := os q149
      exact ret1 rfl rfl ⟨v107, rfl, (hm153.pick [2, 1] (by decide) rfl)⟩
    · refine cw_f rfl hb139 ?_
      refine cw_seq ?_
      refine cw_region ?_
      refine t_rd rfl (rd_eql rfl rfl) ?_
      refine t_rd rfl (rd_assign rfl) ?_
      refine rwt_nil ?_
      refine qn_then ?_
      obtain ⟨hb155, q156⟩ | ⟨hb155, q156⟩ := oi q140 <;> clear q140
      · refine cw_t rfl hb155 ?_
        refine cw_region ?_
        refine t_rd rfl (rd_move rfl) ?_
        refine t_rd rfl (rd_move rfl) ?_
        refine t_ef rfl (ef_bslice (l := ([(-1), 3, 0] : List Int)) hm138 tS22 rfl (cs := #[(Value.int .i64 (-1)), (Value.int .i64 3), (Value.int .i64 0)]) (by unfold bsl; kernel_rfl) rfl rfl) ?_
        intro v157 w159 hm158
        obtain ⟨r160, h161, q162⟩ := ob q156; clear q156
        refine t_ef rfl (ef_call tf13 rfl (Maker_Pick_ok h161 (hv0_l.to_callT (k := 2) hm158 rfl) (hm158.get (k := 2) rfl) (hm158.sl_callT 0 2 rfl rfl (by decide)))) ?_
        rintro _ w164 ⟨e_, hm163⟩
        obtain rfl := e_.symm
        have hm165 := hm158.callT (k := 2) rfl (fun _ h => h) hm163 (fun _ => Iff.rfl)
        refine t_rd rfl (rd_nilCheck rfl) ?_
        refine t_rd rfl (rd_fld tF52_1 rfl) ?_
        refine t_ef0 (ef_stl (k := 1) (off := 1) (x' := (T_Span.mk x130.Element r160.2 x130.From x130.To)) hm165 tO3 rfl rfl rfl rfl h131 rfl rfl) ?_
        intro _ w167 hm166
        refine rwt_nil ?_
        refine qn_block (qn_then ?_)
        refine cw_seq ?_
        refine cw_region ?_
        refine t_rd rfl (rd_move rfl) ?_
        refine t_rd rfl (rd_assign rfl) ?_
        refine rwt_nil ?_
        refine qn_then ?_
        refine cw_ret ?_
        obtain rfl := os q162
        exact ret1 rfl rfl ⟨v107, rfl, (hm166.pick [2, 1] (by decide) rfl)⟩
      · refine cw_f rfl hb155 ?_
        refine cw_seq ?_
        refine cw_region ?_
        refine t_rd rfl (rd_eql rfl rfl) ?_
        refine t_rd rfl (rd_assign rfl) ?_
        refine rwt_nil ?_
        refine qn_then ?_
        obtain ⟨hb168, q169⟩ | ⟨hb168, q169⟩ := oi q156 <;> clear q156
        · refine cw_t rfl hb168 ?_
          obtain ⟨w171, he173⟩ : ∃ q, q = w137.drew := ⟨_, rfl⟩
          have hm172 := hm138.drew; rw [← he173] at hm172
          refine cw_region_s (fun q => q = w171) (cls [] [11, 12, 15]) mixed ?_
          rintro _ rfl; rw [← he173]
          refine s_rp (i := 0) rfl (by kernel_rfl) rfl (fun _ => (rd_move rfl)) ?_
          refine s_rp (i := 1) rfl (by kernel_rfl) rfl (fun _ => (rd_move rfl)) ?_
          refine s_rp (i := 2) rfl (by kernel_rfl) rfl (fun _ => (rd_move rfl)) ?_
          refine s_rp (i := 3) rfl (by kernel_rfl) rfl (fun _ => (rd_nilCheck rfl)) ?_
          refine s_rp (i := 4) rfl (by kernel_rfl) rfl (fun _ => (rd_fld tF52_3 rfl)) ?_
          refine s_rd (i := 5) rfl (by kernel_rfl) rfl (fun _ hS => by rw [hS]; exact (rd_ld1 tO3 rfl ((hm172.sl 0 rfl).cells h131) (off := 3) rfl)) rfl ?_
          refine s_rp (i := 6) rfl (by kernel_rfl) rfl (fun _ => (rd_move rfl)) ?_
          refine s_rp (i := 7) rfl (by kernel_rfl) rfl (fun _ => (rd_nilCheck rfl)) ?_
          refine s_rp (i := 8) rfl (by kernel_rfl) rfl (fun _ => (rd_fld tF52_3 rfl)) ?_
          refine s_rd (i := 9) rfl (by kernel_rfl) rfl (fun _ hS => by rw [hS]; exact (rd_ld1 tO3 rfl ((hm172.sl 0 rfl).cells h131) (off := 3) rfl)) rfl ?_
          obtain ⟨x174, h175, q176⟩ := ob q169; clear q169
          refine s_rp (i := 10) rfl (by kernel_rfl) rfl (fun _ => (rd_add64 h175 rfl rfl)) ?_
          refine s_ef (i := 11) rfl (by kernel_rfl) rfl (ef_bslice (l := ([(-1), x130.To, x174] : List Int)) hm172 tS22 rfl (cs := #[(Value.int .i64 (-1)), (Value.int .i64 x130.To), (Value.int .i64 x174)]) (by unfold bsl; kernel_rfl) rfl rfl) (by decide) (fun _ _ _ q => absurd q (by decide)) ?_
          intro v177 w179 hm178
          obtain ⟨r180, h181, q182⟩ := ob q176; clear q176
          refine s_ef (i := 12) rfl (by kernel_rfl) rfl (ef_call tf13 rfl (Maker_Pick_ok h181 (hv0_l.to_callT (k := 2) hm178 rfl) (hm178.get (k := 2) rfl) (hm178.sl_callT 0 2 rfl rfl (by decide)))) (by decide) (fun _ _ _ q => absurd q (by decide)) ?_
          rintro _ w184 ⟨e_, hm183⟩
          obtain rfl := e_.symm
          have hm185 := hm178.callT (k := 2) rfl (fun _ h => h) hm183 (fun _ => Iff.rfl)
          refine s_rp (i := 13) rfl (by kernel_rfl) rfl (fun _ => (rd_nilCheck rfl)) ?_
          refine s_rp (i := 14) rfl (by kernel_rfl) rfl (fun _ => (rd_fld tF52_2 rfl)) ?_
          refine s_ef0 (i := 15) rfl (by kernel_rfl) (ef_stl (k := 1) (off := 2) (x' := (T_Span.mk x130.Element x130.Side r180.2 x130.To)) hm185 tO3 rfl rfl rfl rfl h131 rfl rfl) (by decide) (fun _ _ _ q => absurd q (by decide)) ?_
          intro _ w187 hm186
          refine s_nil (by kernel_rfl) ?_
          refine qn_block (qn_then ?_)
          refine cw_seq ?_
          refine cw_region ?_
          refine t_rd rfl (rd_move rfl) ?_
          refine t_rd rfl (rd_assign rfl) ?_
          refine rwt_nil ?_
          refine qn_then ?_
          refine cw_ret ?_
          obtain rfl := os q182
          exact ret1 rfl rfl ⟨v107, rfl, (hm186.pick [2, 1] (by decide) rfl)⟩
        · refine cw_f rfl hb168 ?_
          refine cw_seq ?_
          refine cw_region ?_
          refine t_rd rfl (rd_eql rfl rfl) ?_
          refine t_rd rfl (rd_assign rfl) ?_
          refine rwt_nil ?_
          refine qn_then ?_
          obtain ⟨hb188, q189⟩ | ⟨hb188, q189⟩ := oi q169 <;> clear q169
          · refine cw_t rfl hb188 ?_
            refine cw_region ?_
            refine t_rd rfl (rd_move rfl) ?_
            refine t_rd rfl (rd_move rfl) ?_
            refine t_rd rfl (rd_move rfl) ?_
            refine t_rd rfl (rd_nilCheck rfl) ?_
            refine t_rd rfl (rd_fld tF52_2 rfl) ?_
            refine t_rd rfl (rd_ld1 tO3 rfl ((hm138.sl 0 rfl).cells h131) (off := 2) rfl) ?_
            refine t_ef rfl (ef_bslice (l := ([1000000000, 1000000001, x130.From] : List Int)) hm138 tS22 rfl (cs := #[(Value.int .i64 1000000000), (Value.int .i64 1000000001), (Value.int .i64 x130.From)]) (by unfold bsl; kernel_rfl) rfl rfl) ?_
            intro v190 w192 hm191
            obtain ⟨r193, h194, q195⟩ := ob q189; clear q189
            refine t_ef rfl (ef_call tf13 rfl (Maker_Pick_ok h194 (hv0_l.to_callT (k := 2) hm191 rfl) (hm191.get (k := 2) rfl) (hm191.sl_callT 0 2 rfl rfl (by decide)))) ?_
            rintro _ w197 ⟨e_, hm196⟩
            obtain rfl := e_.symm
            have hm198 := hm191.callT (k := 2) rfl (fun _ h => h) hm196 (fun _ => Iff.rfl)
            refine t_rd rfl (rd_nilCheck rfl) ?_
            refine t_rd rfl (rd_fld tF52_3 rfl) ?_
            refine t_ef0 (ef_stl (k := 1) (off := 3) (x' := (T_Span.mk x130.Element x130.Side x130.From r193.2)) hm198 tO3 rfl rfl rfl rfl h131 rfl rfl) ?_
            intro _ w200 hm199
            refine rwt_nil ?_
            refine qn_block (qn_then ?_)
            refine cw_seq ?_
            refine cw_region ?_
            refine t_rd rfl (rd_move rfl) ?_
            refine t_rd rfl (rd_assign rfl) ?_
            refine rwt_nil ?_
            refine qn_then ?_
            refine cw_ret ?_
            obtain rfl := os q195
            exact ret1 rfl rfl ⟨v107, rfl, (hm199.pick [2, 1] (by decide) rfl)⟩
          · refine cw_f rfl hb188 ?_
            refine cw_skip ?_
            refine qn_block (qn_then ?_)
            refine cw_seq ?_
            refine cw_region ?_
            refine t_rd rfl (rd_move rfl) ?_
            refine t_rd rfl (rd_assign rfl) ?_
            refine rwt_nil ?_
            refine qn_then ?_
            refine cw_ret ?_
            obtain rfl := os q189
            exact ret1 rfl rfl ⟨v107, rfl, (hm138.pick [1, 0] (by decide) rfl)⟩

end Go.Proofs.Ytpelfidmcpcmjaa
