/- Each call computes what its mirror does; written by a program of mine (gowalk.py). -/
import Derived.Test.YtfomgakgjgkjlaaWka
namespace Go.Proofs.Ytfomgakgjgkjlaa
open Go.Gv Go.RowKit
set_option linter.unusedVariables false
set_option maxRecDepth 100000

theorem law31_sane_ok {N : Nat} {res : Bool} (h : law31_sane N = some res) {w : World}   :
    CallsR Try.prog 13 [] w (fun u w' => u = (Value.bool res) ∧ Mem w No [] w') := by
  unfold law31_sane at h
  refine fn_ok Try.func13 rfl rfl rfl ?_
  have hm0 := Mem.nil w
  refine cw_seq ?_
  refine cw_region ?_
  refine t_rd rfl (rd_assign rfl) ?_
  refine rwt_nil ?_
  refine qn_then ?_
  refine cw_seq ?_
  refine cw_region ?_
  refine t_rd rfl (rd_build (cs := #[(Value.int .i64 0), (Value.int .i64 1), (Value.int .i64 0), (Value.int .i64 5000)]) rfl (by kernel_rfl)) ?_
  refine t_rd rfl (rd_build (cs := #[(Value.int .i64 1), (Value.int .i64 0), (Value.int .i64 4000), (Value.int .i64 20000)]) rfl (by kernel_rfl)) ?_
  refine t_ef rfl (ef_bslice (l := ([(T_Span.mk 0 1 0 5000), (T_Span.mk 1 0 4000 20000)] : List T_Span)) hm0 tS23 rfl (cs := #[(Value.int .i64 0), (Value.int .i64 1), (Value.int .i64 0), (Value.int .i64 5000), (Value.int .i64 1), (Value.int .i64 0), (Value.int .i64 4000), (Value.int .i64 20000)]) (by unfold bsl; kernel_rfl) rfl rfl) ?_
  intro v1 w3 hm2
  refine t_rd rfl (rd_assign rfl) ?_
  refine rwt_nil ?_
  refine qn_then ?_
  refine cw_seq ?_
  refine cw_region ?_
  refine t_rd rfl (rd_build (cs := #[(Value.int .i64 0), (Value.int .i64 1), (Value.int .i64 8000), (Value.int .i64 12000)]) rfl (by kernel_rfl)) ?_
  refine t_rd rfl (rd_build (cs := #[(Value.int .i64 1), (Value.int .i64 0), (Value.int .i64 11000), (Value.int .i64 30000)]) rfl (by kernel_rfl)) ?_
  refine t_ef rfl (ef_bslice (l := ([(T_Span.mk 0 1 8000 12000), (T_Span.mk 1 0 11000 30000)] : List T_Span)) hm2 tS23 rfl (cs := #[(Value.int .i64 0), (Value.int .i64 1), (Value.int .i64 8000), (Value.int .i64 12000), (Value.int .i64 1), (Value.int .i64 0), (Value.int .i64 11000), (Value.int .i64 30000)]) (by unfold bsl; kernel_rfl) rfl rfl) ?_
  intro v4 w6 hm5
  refine t_rd rfl (rd_assign rfl) ?_
  refine rwt_nil ?_
  refine qn_then ?_
  refine cw_seq ?_
  refine cw_region ?_
  refine t_rd rfl (rd_move rfl) ?_
  refine t_rd rfl (rd_move rfl) ?_
  obtain ⟨r7, h8, q9⟩ := ob h; clear h
  refine t_ef rfl (ef_call tf17 rfl (divert_Conflict_ok h8 (hm5.sl_call 1 rfl) (hm5.sl_call 0 rfl))) ?_
  rintro _ w11 ⟨e_, hm10⟩
  obtain rfl := e_.symm
  have hm12 := hm5.call hm10
  refine t_rd rfl (rd_move rfl) ?_
  refine t_rd rfl (rd_extract rfl rfl) ?_
  refine t_rd rfl (rd_extract rfl rfl) ?_
  refine t_rd rfl (rd_assign rfl) ?_
  refine t_rd rfl (rd_assign rfl) ?_
  refine rwt_nil ?_
  refine qn_then ?_
  refine cw_seq ?_
  refine cw_region ?_
  refine t_rd rfl (rd_move rfl) ?_
  refine t_rd rfl (rd_move rfl) ?_
  obtain ⟨r13, h14, q15⟩ := ob q9; clear q9
  refine t_ef rfl (ef_call tf15 rfl (divert_Choose_ok h14 (hm12.sl_call 1 rfl) (hm12.sl_call 0 rfl))) ?_
  rintro _ w17 ⟨e_, hm16⟩
  obtain rfl := e_.symm
  have hm18 := hm12.call hm16
  refine t_rd rfl (rd_move rfl) ?_
  refine t_rd rfl (rd_extract rfl rfl) ?_
  refine t_rd rfl (rd_extract rfl rfl) ?_
  refine t_rd rfl (rd_assign rfl) ?_
  refine t_rd rfl (rd_assign rfl) ?_
  refine rwt_nil ?_
  refine qn_then ?_
  refine cw_seq ?_
  refine cw_region ?_
  refine t_rd rfl (rd_move rfl) ?_
  obtain ⟨r19, h20, q21⟩ := ob q15; clear q15
  refine t_ef rfl (ef_call tf16 rfl (divert_Diverted_ok h20 (hm18.sl_call 0 rfl))) ?_
  rintro _ w24 ⟨v22, e_, hm23⟩
  obtain rfl := e_.symm
  have hm25 := hm18.call hm23
  refine t_rd rfl (rd_move rfl) ?_
  refine t_rd rfl (rd_extract rfl rfl) ?_
  refine t_rd rfl (rd_extract rfl rfl) ?_
  refine t_rd rfl (rd_assign rfl) ?_
  refine t_rd rfl (rd_assign rfl) ?_
  refine rwt_nil ?_
  refine qn_then ?_
  refine cw_seq ?_
  refine cw_region ?_
  refine t_rd rfl (rd_move rfl) ?_
  refine t_rd rfl (rd_move rfl) ?_
  obtain ⟨r26, h27, q28⟩ := ob q21; clear q21
  refine t_ef rfl (ef_call tf15 rfl (divert_Choose_ok h27 (hm25.sl_call 2 rfl) (hm25.sl_call 1 rfl))) ?_
  rintro _ w30 ⟨e_, hm29⟩
  obtain rfl := e_.symm
  have hm31 := hm25.call hm29
  refine t_rd rfl (rd_move rfl) ?_
  refine t_rd rfl (rd_extract rfl rfl) ?_
  refine t_rd rfl (rd_extract rfl rfl) ?_
  refine t_rd rfl (rd_assign rfl) ?_
  refine t_rd rfl (rd_assign rfl) ?_
  refine rwt_nil ?_
  refine qn_then ?_
  refine cw_seq ?_
  refine cw_region ?_
  refine t_rd rfl (rd_move rfl) ?_
  refine t_rd rfl (rd_eql rfl rfl) ?_
  refine t_rd rfl (rd_move rfl) ?_
  refine t_rdg rfl rfl rfl rfl (gv_t _) (fun hg32 => (rd_move rfl)) ?_
  refine t_rdg rfl rfl rfl rfl (gv_t _) (fun hg33 => (rd_eql (gvx rfl hg33) rfl)) ?_
  refine t_rd rfl (rd_and rfl (fun hc34 => (gvx rfl hc34))) ?_
  refine t_rd rfl (rd_move rfl) ?_
  refine t_rdg rfl rfl rfl rfl (gv_t _) (fun hg35 => (rd_move rfl)) ?_
  refine t_rdg rfl rfl rfl rfl (gv_t _) (fun hg36 => (rd_eql (gvx rfl hg36) rfl)) ?_
  refine t_rd rfl (rd_and rfl (fun hc37 => (gvx rfl hc37))) ?_
  refine t_rd rfl (rd_move rfl) ?_
  refine t_rdg rfl rfl rfl rfl (gv_t _) (fun hg38 => (rd_move rfl)) ?_
  refine t_rdg rfl rfl rfl rfl (gv_t _) (fun hg39 => (rd_eql (gvx rfl hg39) rfl)) ?_
  refine t_rd rfl (rd_and rfl (fun hc40 => (gvx rfl hc40))) ?_
  refine t_rd rfl (rd_move rfl) ?_
  refine t_rdg rfl rfl rfl rfl (gv_t _) (fun hg41 => (rd_move rfl)) ?_
  refine t_rdg rfl rfl rfl rfl (gv_t _) (fun hg42 => (rd_eql (gvx rfl hg42) rfl)) ?_
  refine t_rd rfl (rd_and rfl (fun hc43 => (gvx rfl hc43))) ?_
  refine t_rd rfl (rd_move rfl) ?_
  refine t_rdg rfl rfl rfl rfl (gv_t _) (fun hg44 => (rd_move rfl)) ?_
  refine t_rdg rfl rfl rfl rfl (gv_t _) (fun hg45 => (rd_build (cs := #[(Value.int .i64 0), (Value.int .i64 2), (Value.int .i64 8000), (Value.int .i64 12000)]) rfl (by kernel_rfl))) ?_
  obtain ⟨hb47, q48⟩ | ⟨hb47, q48⟩ := oi q28 <;> clear q28
  · skip
    refine t_efg rfl rfl rfl rfl (gv_t _) (fun _ => (ef_bslice (l := ([(T_Span.mk 0 2 8000 12000)] : List T_Span)) hm31 tS23 (epc (gvx rfl hb47) epn) (cs := #[(Value.int .i64 0), (Value.int .i64 2), (Value.int .i64 8000), (Value.int .i64 12000)]) (by unfold bsl; kernel_rfl) rfl rfl)) (fun q => bcontra q hb47) ?_
    intro v50 w52 hm51
    obtain ⟨r54, h55, q56⟩ := ob q48; clear q48
    refine t_efg rfl rfl rfl rfl (gv_t _) (fun _ => (ef_call tf23 (evc (gvx rfl hb47) (evc rfl evn)) (yardgen_SameSpans_ok h55 (hm51.sl_call 1 rfl) (hm51.sl_call 0 rfl)))) (fun q => bcontra q hb47) ?_
    rintro _ w58 ⟨e_, hm57⟩
    obtain rfl := e_.symm
    have hm59 := hm51.call hm57
    refine t_rd rfl (rd_and rfl (fun hc60 => rfl)) ?_
    refine t_rd rfl (rd_move rfl) ?_
    refine t_rdg rfl rfl rfl rfl (gv_t _) (fun hg61 => (rd_move rfl)) ?_
    refine t_rdg rfl rfl rfl rfl (gv_t _) (fun hg62 => (rd_eql (gvx rfl hg62) rfl)) ?_
    refine t_rd rfl (rd_and rfl (fun hc63 => (gvx rfl hc63))) ?_
    refine t_rd rfl (rd_assign rfl) ?_
    refine rwt_nil ?_
    refine qn_then ?_
    refine cw_ret ?_
    obtain rfl := os q56
    exact ret1 rfl rfl ⟨rfl, (hm59.pick [] (by decide) rfl)⟩
  · skip
    refine t_efg rfl rfl rfl rfl (R := fun v w' => v = undef ∧ w' = w30) (gv_t _) (fun hg64 => bcontra hb47 hg64) (fun _ => ⟨rfl, rfl⟩) ?_
    rintro v_ w_ ⟨e1_, e2_⟩; rw [e1_, e2_]; clear e1_ e2_ v_ w_
    refine t_efg rfl rfl rfl rfl (R := fun v w' => v = undef ∧ w' = w30) (gv_t _) (fun hg65 => bcontra hb47 hg65) (fun _ => ⟨rfl, rfl⟩) ?_
    rintro v_ w_ ⟨e1_, e2_⟩; rw [e1_, e2_]; clear e1_ e2_ v_ w_
    refine t_rd rfl (rd_and (b := false) rfl (fun hc66 => bcontra hb47 hc66)) ?_
    refine t_rd rfl (rd_move rfl) ?_
    refine t_rdg rfl rfl rfl rfl (gv_t _) (v := undef) (fun hg67 => (bcontra (bandF hb47) hg67)) ?_
    refine t_rdg rfl rfl rfl rfl (gv_t _) (v := undef) (fun hg68 => (bcontra (bandF hb47) hg68)) ?_
    refine t_rd rfl (rd_and (b := false) rfl (fun hc69 => bcontra (bandF hb47) hc69)) ?_
    refine t_rd rfl (rd_assign rfl) ?_
    refine rwt_nil ?_
    refine qn_then ?_
    refine cw_ret ?_
    obtain rfl := os q48
    exact ret1 rfl rfl ⟨rfl, (hm31.pick [] (by decide) rfl)⟩

theorem law31_DivertExact_ok {N : Nat} {a0 : List Int} {a1 : List T_Span} {a2 : List T_Span} {a3 : Int} {a4 : Int} {res : Bool} (h : law31_DivertExact N a0 a1 a2 a3 a4 = some res) {w : World} {v0 : Value} {v1 : Value} {v2 : Value} (hv0 : Sl (Old w No) w v0 a0) (hv1 : Sl (Old w No) w v1 a1) (hv2 : Sl (Old w No) w v2 a2) :
    CallsR Try.prog 3 [v0, v1, v2, (Value.int .i64 a3), (Value.int .i64 a4)] w (fun u w' => u = (Value.bool res) ∧ Mem w No [] w') := by
  unfold law31_DivertExact at h
  refine fn_ok Try.func3 rfl rfl rfl ?_
  have hm0 := Mem.nil w
  refine cw_seq ?_
  refine cw_region ?_
  refine t_rd rfl (rd_assign rfl) ?_
  refine rwt_nil ?_
  refine qn_then ?_
  refine cw_seq ?_
  refine cw_region ?_
  refine t_rd rfl (rd_move rfl) ?_
  obtain ⟨r1, h2, q3⟩ := ob h; clear h
  refine t_ef rfl (ef_call tf7 rfl (humpgen_New_ok h2 (hv0.to_call hm0))) ?_
  rintro _ w6 ⟨g4, e_, hm5⟩
  obtain rfl := e_.symm
  have hm7 := hm0.call hm5
  refine t_rd rfl (rd_assign rfl) ?_
  refine rwt_nil ?_
  refine qn_then ?_
  refine cw_seq ?_
  refine cw_seq ?_
  refine cw_region ?_
  refine t_rd rfl (rd_assign rfl) ?_
  refine rwt_nil ?_
  refine qn_then ?_
  refine cw_block ?_
  obtain ⟨r587, hit588, q589⟩ := ob q3; clear q3
  refine cw_loop2 (I := fun q envq wq => Sub [(1, v1), (2, v2), (3, (Value.int .i64 a3)), (4, (Value.int .i64 a4)), (11, (Value.pointer (some ⟨g4, 0, none⟩))), (12, (Value.int .i64 q.1))] envq ∧ Mem w No [blk g4 46 [v0, (Value.int .i64 q.2)]] wq) (X := fun eq envq wq => (∃ p590, r587 = (Sum.inl p590) ∧ eq = .ret ∧ retQ Try.prog 79 Try.f3 (fun u w' => u = (Value.bool p590) ∧ Mem w No [] w') .ret envq wq) ∨ (∃ p591, r587 = (Sum.inr p591) ∧ eq = .exit 0 ∧ Sub [(1, v1), (2, v2), (3, (Value.int .i64 a3)), (4, (Value.int .i64 a4)), (11, (Value.pointer (some ⟨g4, 0, none⟩)))] envq ∧ Mem w No [blk g4 46 [v0, (Value.int .i64 p591)]] wq)) hit588 ⟨(by repeat (first | exact Sub.nil _ | refine Sub.cons rfl ?_)), (hm7.pick [0] (by decide) rfl)⟩ ?_ ?_
  · rintro ⟨i579, i580⟩ x582 env583 w584 hf585 hr586 ⟨hs_, hm_⟩
    have hs_ : Sub [(1, v1), (2, v2), (3, (Value.int .i64 a3)), (4, (Value.int .i64 a4)), (11, (Value.pointer (some ⟨g4, 0, none⟩))), (12, (Value.int .i64 i579))] env583 := hs_
    have hm592 : Mem w No [blk g4 46 [v0, (Value.int .i64 i580)]] w584 := hm_
    refine cw_sub hs_ ?_
    clear hs_ hm_ q589
    have h : law31_DivertExact_l1 N a0 a3 a4 i579 i580 = some x582 := hf585
    clear hf585
    refine cw_seq ?_
    refine cw_seq ?_
    refine cw_region ?_
    refine t_rd rfl (rd_move rfl) ?_
    refine t_rd rfl (rd_lss rfl rfl) ?_
    refine rwt_nil ?_
    refine qn_then ?_
    obtain ⟨hb593, q594⟩ | ⟨hb593, q594⟩ := oi h <;> clear h
    · refine cw_t rfl hb593 ?_
      refine cw_skip ?_
      refine qn_then ?_
      refine cw_seq ?_
      refine cw_block ?_
      refine cw_seq ?_
      refine cw_region ?_
      refine t_rd rfl (rd_move rfl) ?_
      obtain ⟨r595, h596, q597⟩ := ob q594; clear q594
      refine t_ef rfl (ef_call tf8 rfl (law31_pair_ok h596 (hv0.to_callT (k := 0) hm592 rfl) (hm592.get (k := 0) rfl))) ?_
      rintro _ w601 ⟨v598, v599, e_, hm600⟩
      obtain rfl := e_.symm
      have hm602 := hm592.callT (k := 0) rfl (fun _ h => h) hm600 (fun _ => Iff.rfl)
      refine t_rd rfl (rd_move rfl) ?_
      refine t_rd rfl (rd_extract rfl rfl) ?_
      refine t_rd rfl (rd_extract rfl rfl) ?_
      refine t_rd rfl (rd_assign rfl) ?_
      refine t_rd rfl (rd_assign rfl) ?_
      refine rwt_nil ?_
      refine qn_then ?_
      refine cw_seq ?_
      refine cw_seq ?_
      refine cw_region ?_
      refine t_rd rfl (rd_move rfl) ?_
      refine t_rd rfl (rd_eql rfl rfl) ?_
      refine rwt_nil ?_
      refine qn_then ?_
      obtain ⟨hb612, q613⟩ | ⟨hb612, q613⟩ := oi q597 <;> clear q597
      · refine cw_t rfl hb612 ?_
        refine cw_region ?_
        refine t_rd rfl (rd_move rfl) ?_
        refine t_rd rfl (rd_move rfl) ?_
        obtain ⟨r614, h615, q616⟩ := ob q613; clear q613
        refine t_ef rfl (ef_call tf9 rfl (yardgen_SpoilSpans_ok h615 (hv0.to_callT (k := 2) hm602 rfl) (hm602.get (k := 2) rfl) (hm602.sl_callT 0 2 rfl rfl (by decide)))) ?_
        rintro _ w619 ⟨v617, e_, hm618⟩
        obtain rfl := e_.symm
        have hm620 := hm602.callT (k := 2) rfl (fun _ h => h) hm618 (fun _ => Iff.rfl)
        refine t_rd rfl (rd_assign rfl) ?_
        refine rwt_nil ?_
        refine qn_then ?_
        refine cw_seq ?_
        refine cw_seq ?_
        refine cw_region ?_
        refine t_rd rfl (rd_move rfl) ?_
        refine t_rd rfl (rd_eql rfl rfl) ?_
        refine rwt_nil ?_
        refine qn_then ?_
        obtain ⟨hb630, q631⟩ | ⟨hb630, q631⟩ := oi q616 <;> clear q616
        · refine cw_t rfl hb630 ?_
          refine cw_region ?_
          refine t_rd rfl (rd_move rfl) ?_
          refine t_rd rfl (rd_move rfl) ?_
          obtain ⟨r632, h633, q634⟩ := ob q631; clear q631
          refine t_ef rfl (ef_call tf9 rfl (yardgen_SpoilSpans_ok h633 (hv0.to_callT (k := 3) hm620 rfl) (hm620.get (k := 3) rfl) (hm620.sl_callT 2 3 rfl rfl (by decide)))) ?_
          rintro _ w637 ⟨v635, e_, hm636⟩
          obtain rfl := e_.symm
          have hm638 := hm620.callT (k := 3) rfl (fun _ h => h) hm636 (fun _ => Iff.rfl)
          refine t_rd rfl (rd_assign rfl) ?_
          refine rwt_nil ?_
          refine qn_then ?_
          refine cw_seq ?_
          refine cw_region ?_
          refine t_rd rfl (rd_move rfl) ?_
          refine t_rd rfl (rd_move rfl) ?_
          refine t_rd rfl (rd_move rfl) ?_
          refine t_ef rfl (ef_bslice (l := ([0, 800, 2500] : List Int)) hm638 tS22 rfl (cs := #[(Value.int .i64 0), (Value.int .i64 800), (Value.int .i64 2500)]) (by unfold bsl; kernel_rfl) rfl rfl) ?_
          intro v639 w641 hm640
          obtain ⟨r642, h643, q644⟩ := ob q634; clear q634
          refine t_ef rfl (ef_call tf11 rfl (Maker_Pick_ok h643 (hv0.to_callT (k := 5) hm640 rfl) (hm640.get (k := 5) rfl) (hm640.sl_callT 0 5 rfl rfl (by decide)))) ?_
          rintro _ w646 ⟨e_, hm645⟩
          obtain rfl := e_.symm
          have hm647 := hm640.callT (k := 5) rfl (fun _ h => h) hm645 (fun _ => Iff.rfl)
          refine t_rd rfl (rd_move rfl) ?_
          obtain ⟨r648, h649, q650⟩ := ob q644; clear q644
          refine t_ef rfl (ef_call tf12 rfl (Maker_Next_ok h649 (hv0.to_callT (k := 5) hm647 rfl) (hm647.get (k := 5) rfl))) ?_
          rintro _ w652 ⟨e_, hm651⟩
          obtain rfl := e_.symm
          have hm653 := hm647.callT (k := 5) rfl (fun _ h => h) hm651 (fun _ => Iff.rfl)
          refine t_rd rfl (rd_move rfl) ?_
          obtain ⟨r654, h655, q656⟩ := ob q650; clear q650
          refine t_ef rfl (ef_call tf12 rfl (Maker_Next_ok h655 (hv0.to_callT (k := 5) hm653 rfl) (hm653.get (k := 5) rfl))) ?_
          rintro _ w658 ⟨e_, hm657⟩
          obtain rfl := e_.symm
          have hm659 := hm653.callT (k := 5) rfl (fun _ h => h) hm657 (fun _ => Iff.rfl)
          obtain ⟨x660, h661, q662⟩ := ob q656; clear q656
          refine t_rd rfl (rd_sub64 h661 rfl rfl) ?_
          obtain ⟨r663, h664, q665⟩ := ob q662; clear q662
          refine t_ef rfl (ef_call tf10 rfl (law31_exact_ok h664 (hm659.sl_call 2 rfl) (hm659.sl_call 1 rfl))) ?_
          rintro _ w667 ⟨e_, hm666⟩
          obtain rfl := e_.symm
          have hm668 := hm659.call hm666
          refine t_rd rfl (rd_not rfl) ?_
          refine t_rd rfl (rd_move rfl) ?_
          refine t_rdg rfl rfl rfl rfl (gv_f _) (fun hg669 => (rd_move rfl)) ?_
          refine t_rdg rfl rfl rfl rfl (gv_f _) (fun hg670 => (rd_move rfl)) ?_
          refine t_rdg rfl rfl rfl rfl (gv_f _) (fun hg671 => (rd_move rfl)) ?_
          refine t_rdg rfl rfl rfl rfl (gv_f _) (fun hg672 => (rd_move rfl)) ?_
          refine t_rdg rfl rfl rfl rfl (gv_f _) (fun hg673 => (rd_move rfl)) ?_
          obtain ⟨r675, h676, q677⟩ := ob q665; clear q665
          refine t_efg rfl rfl rfl rfl (R := (fun v w' => v = gV (!(!r663)) (Value.int .i64 r675.2) ∧ Mem w No [ownL 3 v639 ([0, 800, 2500] : List Int), ownL 42 v635 (r632.2 : List T_Span), ownL 42 v617 (r614.2 : List T_Span), ownL 42 v598 (r595.2.1 : List T_Span), ownL 42 v599 (r595.2.2 : List T_Span), blk g4 46 [v0, (Value.int .i64 r675.1)]] w')) (gv_f _) (fun hg674 => (ef_call tf12 (evc (gvx rfl hg674) (evc rfl evn)) (Maker_Next_ok (gD_t h676 hg674) (hv0.to_callT (k := 5) hm668 rfl) (hm668.get (k := 5) rfl))).mono (by rintro _ _ ⟨rfl, q⟩; exact ⟨(gV_t hg674).symm, hm668.callT (k := 5) rfl (fun _ h => h) q (fun _ => Iff.rfl)⟩)) (fun q => ⟨(gV_f q).symm, by have e := gD_f h676 q; subst e; exact hm668⟩) ?_
          rintro _ w679 ⟨rfl, hm678⟩
          obtain ⟨r681, h682, q683⟩ := ob q677; clear q677
          refine t_efg rfl rfl rfl rfl (R := (fun v w' => v = gV (!(!r663)) (Value.bool r681) ∧ Mem w679 No [] w')) (gv_f _) (fun hg680 => (ef_call tf10 (evc (gvx rfl hg680) (evc (gvx rfl hg680) (evc (gvx rfl hg680) (evc (gvx rfl hg680) (evc (gvx rfl hg680) evn))))) (law31_exact_ok (gO_t h682 hg680) (hm678.sl_call 2 rfl) (hm678.sl_call 1 rfl))).mono (by rintro _ _ ⟨rfl, q⟩; exact ⟨(gV_t hg680).symm, q⟩)) (fun q => ⟨(gV_f q).symm, Mem.nil _⟩) ?_
          rintro _ w685 ⟨rfl, hm684⟩
          have hm686 := hm678.call hm684
          refine t_rdg rfl rfl rfl rfl (gv_f _) (fun hg687 => (rd_not (gvx rfl hg687))) ?_
          refine t_rd rfl (rd_or rfl (fun hc688 => (gvx rfl (bnotIt hc688)))) ?_
          refine rwt_nil ?_
          refine qn_then ?_
          obtain ⟨hb689, q690⟩ | ⟨hb689, q690⟩ := oi q683 <;> clear q683
          · refine cw_t rfl hb689 ?_
            refine cw_seq ?_
            refine cw_region ?_
            refine t_rd rfl (rd_assign rfl) ?_
            refine rwt_nil ?_
            refine qn_then ?_
            refine cw_ret ?_
            refine qr_block (qr_then (qr_then ?_))
            obtain rfl := hr586 _ (os q690)
            refine .inl (⟨_, rfl, ⟨rfl, ?_⟩⟩)
            exact ret1 rfl rfl ⟨rfl, (hm686.pick [] (by decide) rfl)⟩
          · refine cw_f rfl hb689 ?_
            refine cw_skip ?_
            refine qn_block (qn_then ?_)
            refine cw_region ?_
            refine t_rd rfl (rd_move rfl) ?_
            obtain ⟨x691, h692, q693⟩ := ob q690; clear q690
            refine t_rd rfl (rd_add64 h692 rfl rfl) ?_
            refine t_rd rfl (rd_assign rfl) ?_
            refine rwt_nil ?_
            refine qn_then ?_
            refine ⟨_, (os q693), (by repeat (first | exact Sub.nil _ | refine Sub.cons rfl ?_)), (hm686.pick [5] (by decide) rfl)⟩
        · refine cw_f rfl hb630 ?_
          refine cw_skip ?_
          refine qn_then ?_
          refine cw_seq ?_
          refine cw_region ?_
          refine t_rd rfl (rd_move rfl) ?_
          refine t_rd rfl (rd_move rfl) ?_
          refine t_rd rfl (rd_move rfl) ?_
          refine t_ef rfl (ef_bslice (l := ([0, 800, 2500] : List Int)) hm620 tS22 rfl (cs := #[(Value.int .i64 0), (Value.int .i64 800), (Value.int .i64 2500)]) (by unfold bsl; kernel_rfl) rfl rfl) ?_
          intro v694 w696 hm695
          obtain ⟨r697, h698, q699⟩ := ob q631; clear q631
          refine t_ef rfl (ef_call tf11 rfl (Maker_Pick_ok h698 (hv0.to_callT (k := 4) hm695 rfl) (hm695.get (k := 4) rfl) (hm695.sl_callT 0 4 rfl rfl (by decide)))) ?_
          rintro _ w701 ⟨e_, hm700⟩
          obtain rfl := e_.symm
          have hm702 := hm695.callT (k := 4) rfl (fun _ h => h) hm700 (fun _ => Iff.rfl)
          refine t_rd rfl (rd_move rfl) ?_
          obtain ⟨r703, h704, q705⟩ := ob q699; clear q699
          refine t_ef rfl (ef_call tf12 rfl (Maker_Next_ok h704 (hv0.to_callT (k := 4) hm702 rfl) (hm702.get (k := 4) rfl))) ?_
          rintro _ w707 ⟨e_, hm706⟩
          obtain rfl := e_.symm
          have hm708 := hm702.callT (k := 4) rfl (fun _ h => h) hm706 (fun _ => Iff.rfl)
          refine t_rd rfl (rd_move rfl) ?_
          obtain ⟨r709, h710, q711⟩ := ob q705; clear q705
          refine t_ef rfl (ef_call tf12 rfl (Maker_Next_ok h710 (hv0.to_callT (k := 4) hm708 rfl) (hm708.get (k := 4) rfl))) ?_
          rintro _ w713 ⟨e_, hm712⟩
          obtain rfl := e_.symm
          have hm714 := hm708.callT (k := 4) rfl (fun _ h => h) hm712 (fun _ => Iff.rfl)
          obtain ⟨x715, h716, q717⟩ := ob q711; clear q711
          refine t_rd rfl (rd_sub64 h716 rfl rfl) ?_
          obtain ⟨r718, h719, q720⟩ := ob q717; clear q717
          refine t_ef rfl (ef_call tf10 rfl (law31_exact_ok h719 (hm714.sl_call 1 rfl) (hm714.sl_call 3 rfl))) ?_
          rintro _ w722 ⟨e_, hm721⟩
          obtain rfl := e_.symm
          have hm723 := hm714.call hm721
          refine t_rd rfl (rd_not rfl) ?_
          refine t_rd rfl (rd_move rfl) ?_
          refine t_rdg rfl rfl rfl rfl (gv_f _) (fun hg724 => (rd_move rfl)) ?_
          refine t_rdg rfl rfl rfl rfl (gv_f _) (fun hg725 => (rd_move rfl)) ?_
          refine t_rdg rfl rfl rfl rfl (gv_f _) (fun hg726 => (rd_move rfl)) ?_
          refine t_rdg rfl rfl rfl rfl (gv_f _) (fun hg727 => (rd_move rfl)) ?_
          refine t_rdg rfl rfl rfl rfl (gv_f _) (fun hg728 => (rd_move rfl)) ?_
          obtain ⟨r730, h731, q732⟩ := ob q720; clear q720
          refine t_efg rfl rfl rfl rfl (R := (fun v w' => v = gV (!(!r718)) (Value.int .i64 r730.2) ∧ Mem w No [ownL 3 v694 ([0, 800, 2500] : List Int), ownL 42 v617 (r614.2 : List T_Span), ownL 42 v598 (r595.2.1 : List T_Span), ownL 42 v599 (r595.2.2 : List T_Span), blk g4 46 [v0, (Value.int .i64 r730.1)]] w')) (gv_f _) (fun hg729 => (ef_call tf12 (evc (gvx rfl hg729) (evc rfl evn)) (Maker_Next_ok (gD_t h731 hg729) (hv0.to_callT (k := 4) hm723 rfl) (hm723.get (k := 4) rfl))).mono (by rintro _ _ ⟨rfl, q⟩; exact ⟨(gV_t hg729).symm, hm723.callT (k := 4) rfl (fun _ h => h) q (fun _ => Iff.rfl)⟩)) (fun q => ⟨(gV_f q).symm, by have e := gD_f h731 q; subst e; exact hm723⟩) ?_
          rintro _ w734 ⟨rfl, hm733⟩
          obtain ⟨r736, h737, q738⟩ := ob q732; clear q732
          refine t_efg rfl rfl rfl rfl (R := (fun v w' => v = gV (!(!r718)) (Value.bool r736) ∧ Mem w734 No [] w')) (gv_f _) (fun hg735 => (ef_call tf10 (evc (gvx rfl hg735) (evc (gvx rfl hg735) (evc (gvx rfl hg735) (evc (gvx rfl hg735) (evc (gvx rfl hg735) evn))))) (law31_exact_ok (gO_t h737 hg735) (hm733.sl_call 1 rfl) (hm733.sl_call 3 rfl))).mono (by rintro _ _ ⟨rfl, q⟩; exact ⟨(gV_t hg735).symm, q⟩)) (fun q => ⟨(gV_f q).symm, Mem.nil _⟩) ?_
          rintro _ w740 ⟨rfl, hm739⟩
          have hm741 := hm733.call hm739
          refine t_rdg rfl rfl rfl rfl (gv_f _) (fun hg742 => (rd_not (gvx rfl hg742))) ?_
          refine t_rd rfl (rd_or rfl (fun hc743 => (gvx rfl (bnotIt hc743)))) ?_
          refine rwt_nil ?_
          refine qn_then ?_
          obtain ⟨hb744, q745⟩ | ⟨hb744, q745⟩ := oi q738 <;> clear q738
          · refine cw_t rfl hb744 ?_
            refine cw_seq ?_
            refine cw_region ?_
            refine t_rd rfl (rd_assign rfl) ?_
            refine rwt_nil ?_
            refine qn_then ?_
            refine cw_ret ?_
            refine qr_block (qr_then (qr_then ?_))
            obtain rfl := hr586 _ (os q745)
            refine .inl (⟨_, rfl, ⟨rfl, ?_⟩⟩)
            exact ret1 rfl rfl ⟨rfl, (hm741.pick [] (by decide) rfl)⟩
          · refine cw_f rfl hb744 ?_
            refine cw_skip ?_
            refine qn_block (qn_then ?_)
            refine cw_region ?_
            refine t_rd rfl (rd_move rfl) ?_
            obtain ⟨x746, h747, q748⟩ := ob q745; clear q745
            refine t_rd rfl (rd_add64 h747 rfl rfl) ?_
            refine t_rd rfl (rd_assign rfl) ?_
            refine rwt_nil ?_
            refine qn_then ?_
            refine ⟨_, (os q748), (by repeat (first | exact Sub.nil _ | refine Sub.cons rfl ?_)), (hm741.pick [4] (by decide) rfl)⟩
      · refine cw_f rfl hb612 ?_
        refine cw_skip ?_
        refine qn_then ?_
        refine cw_seq ?_
        refine cw_seq ?_
        refine cw_region ?_
        refine t_rd rfl (rd_move rfl) ?_
        refine t_rd rfl (rd_eql rfl rfl) ?_
        refine rwt_nil ?_
        refine qn_then ?_
        obtain ⟨hb758, q759⟩ | ⟨hb758, q759⟩ := oi q613 <;> clear q613
        · refine cw_t rfl hb758 ?_
          refine cw_region ?_
          refine t_rd rfl (rd_move rfl) ?_
          refine t_rd rfl (rd_move rfl) ?_
          obtain ⟨r760, h761, q762⟩ := ob q759; clear q759
          refine t_ef rfl (ef_call tf9 rfl (yardgen_SpoilSpans_ok h761 (hv0.to_callT (k := 2) hm602 rfl) (hm602.get (k := 2) rfl) (hm602.sl_callT 1 2 rfl rfl (by decide)))) ?_
          rintro _ w765 ⟨v763, e_, hm764⟩
          obtain rfl := e_.symm
          have hm766 := hm602.callT (k := 2) rfl (fun _ h => h) hm764 (fun _ => Iff.rfl)
          refine t_rd rfl (rd_assign rfl) ?_
          refine rwt_nil ?_
          refine qn_then ?_
          refine cw_seq ?_
          refine cw_region ?_
          refine t_rd rfl (rd_move rfl) ?_
          refine t_rd rfl (rd_move rfl) ?_
          refine t_rd rfl (rd_move rfl) ?_
          refine t_ef rfl (ef_bslice (l := ([0, 800, 2500] : List Int)) hm766 tS22 rfl (cs := #[(Value.int .i64 0), (Value.int .i64 800), (Value.int .i64 2500)]) (by unfold bsl; kernel_rfl) rfl rfl) ?_
          intro v767 w769 hm768
          obtain ⟨r770, h771, q772⟩ := ob q762; clear q762
          refine t_ef rfl (ef_call tf11 rfl (Maker_Pick_ok h771 (hv0.to_callT (k := 4) hm768 rfl) (hm768.get (k := 4) rfl) (hm768.sl_callT 0 4 rfl rfl (by decide)))) ?_
          rintro _ w774 ⟨e_, hm773⟩
          obtain rfl := e_.symm
          have hm775 := hm768.callT (k := 4) rfl (fun _ h => h) hm773 (fun _ => Iff.rfl)
          refine t_rd rfl (rd_move rfl) ?_
          obtain ⟨r776, h777, q778⟩ := ob q772; clear q772
          refine t_ef rfl (ef_call tf12 rfl (Maker_Next_ok h777 (hv0.to_callT (k := 4) hm775 rfl) (hm775.get (k := 4) rfl))) ?_
          rintro _ w780 ⟨e_, hm779⟩
          obtain rfl := e_.symm
          have hm781 := hm775.callT (k := 4) rfl (fun _ h => h) hm779 (fun _ => Iff.rfl)
          refine t_rd rfl (rd_move rfl) ?_
          obtain ⟨r782, h783, q784⟩ := ob q778; clear q778
          refine t_ef rfl (ef_call tf12 rfl (Maker_Next_ok h783 (hv0.to_callT (k := 4) hm781 rfl) (hm781.get (k := 4) rfl))) ?_
          rintro _ w786 ⟨e_, hm785⟩
          obtain rfl := e_.symm
          have hm787 := hm781.callT (k := 4) rfl (fun _ h => h) hm785 (fun _ => Iff.rfl)
          obtain ⟨x788, h789, q790⟩ := ob q784; clear q784
          refine t_rd rfl (rd_sub64 h789 rfl rfl) ?_
          obtain ⟨r791, h792, q793⟩ := ob q790; clear q790
          refine t_ef rfl (ef_call tf10 rfl (law31_exact_ok h792 (hm787.sl_call 2 rfl) (hm787.sl_call 1 rfl))) ?_
          rintro _ w795 ⟨e_, hm794⟩
          obtain rfl := e_.symm
          have hm796 := hm787.call hm794
          refine t_rd rfl (rd_not rfl) ?_
          refine t_rd rfl (rd_move rfl) ?_
          refine t_rdg rfl rfl rfl rfl (gv_f _) (fun hg797 => (rd_move rfl)) ?_
          refine t_rdg rfl rfl rfl rfl (gv_f _) (fun hg798 => (rd_move rfl)) ?_
          refine t_rdg rfl rfl rfl rfl (gv_f _) (fun hg799 => (rd_move rfl)) ?_
          refine t_rdg rfl rfl rfl rfl (gv_f _) (fun hg800 => (rd_move rfl)) ?_
          refine t_rdg rfl rfl rfl rfl (gv_f _) (fun hg801 => (rd_move rfl)) ?_
          obtain ⟨r803, h804, q805⟩ := ob q793; clear q793
          refine t_efg rfl rfl rfl rfl (R := (fun v w' => v = gV (!(!r791)) (Value.int .i64 r803.2) ∧ Mem w No [ownL 3 v767 ([0, 800, 2500] : List Int), ownL 42 v763 (r760.2 : List T_Span), ownL 42 v598 (r595.2.1 : List T_Span), ownL 42 v599 (r595.2.2 : List T_Span), blk g4 46 [v0, (Value.int .i64 r803.1)]] w')) (gv_f _) (fun hg802 => (ef_call tf12 (evc (gvx rfl hg802) (evc rfl evn)) (Maker_Next_ok (gD_t h804 hg802) (hv0.to_callT (k := 4) hm796 rfl) (hm796.get (k := 4) rfl))).mono (by rintro _ _ ⟨rfl, q⟩; exact ⟨(gV_t hg802).symm, hm796.callT (k := 4) rfl (fun _ h => h) q (fun _ => Iff.rfl)⟩)) (fun q => ⟨(gV_f q).symm, by have e := gD_f h804 q; subst e; exact hm796⟩) ?_
          rintro _ w807 ⟨rfl, hm806⟩
          obtain ⟨r809, h810, q811⟩ := ob q805; clear q805
          refine t_efg rfl rfl rfl rfl (R := (fun v w' => v = gV (!(!r791)) (Value.bool r809) ∧ Mem w807 No [] w')) (gv_f _) (fun hg808 => (ef_call tf10 (evc (gvx rfl hg808) (evc (gvx rfl hg808) (evc (gvx rfl hg808) (evc (gvx rfl hg808) (evc (gvx rfl hg808) evn))))) (law31_exact_ok (gO_t h810 hg808) (hm806.sl_call 2 rfl) (hm806.sl_call 1 rfl))).mono (by rintro _ _ ⟨rfl, q⟩; exact ⟨(gV_t hg808).symm, q⟩)) (fun q => ⟨(gV_f q).symm, Mem.nil _⟩) ?_
          rintro _ w813 ⟨rfl, hm812⟩
          have hm814 := hm806.call hm812
          refine t_rdg rfl rfl rfl rfl (gv_f _) (fun hg815 => (rd_not (gvx rfl hg815))) ?_
          refine t_rd rfl (rd_or rfl (fun hc816 => (gvx rfl (bnotIt hc816)))) ?_
          refine rwt_nil ?_
          refine qn_then ?_
          obtain ⟨hb817, q818⟩ | ⟨hb817, q818⟩ := oi q811 <;> clear q811
          · refine cw_t rfl hb817 ?_
            refine cw_seq ?_
            refine cw_region ?_
            refine t_rd rfl (rd_assign rfl) ?_
            refine rwt_nil ?_
            refine qn_then ?_
            refine cw_ret ?_
            refine qr_block (qr_then (qr_then ?_))
            obtain rfl := hr586 _ (os q818)
            refine .inl (⟨_, rfl, ⟨rfl, ?_⟩⟩)
            exact ret1 rfl rfl ⟨rfl, (hm814.pick [] (by decide) rfl)⟩
          · refine cw_f rfl hb817 ?_
            refine cw_skip ?_
            refine qn_block (qn_then ?_)
            refine cw_region ?_
            refine t_rd rfl (rd_move rfl) ?_
            obtain ⟨x819, h820, q821⟩ := ob q818; clear q818
            refine t_rd rfl (rd_add64 h820 rfl rfl) ?_
            refine t_rd rfl (rd_assign rfl) ?_
            refine rwt_nil ?_
            refine qn_then ?_
            refine ⟨_, (os q821), (by repeat (first | exact Sub.nil _ | refine Sub.cons rfl ?_)), (hm814.pick [4] (by decide) rfl)⟩
        · refine cw_f rfl hb758 ?_
          refine cw_skip ?_
          refine qn_then ?_
          refine cw_seq ?_
          refine cw_region ?_
          refine t_rd rfl (rd_move rfl) ?_
          refine t_rd rfl (rd_move rfl) ?_
          refine t_rd rfl (rd_move rfl) ?_
          refine t_ef rfl (ef_bslice (l := ([0, 800, 2500] : List Int)) hm602 tS22 rfl (cs := #[(Value.int .i64 0), (Value.int .i64 800), (Value.int .i64 2500)]) (by unfold bsl; kernel_rfl) rfl rfl) ?_
          intro v822 w824 hm823
          obtain ⟨r825, h826, q827⟩ := ob q759; clear q759
          refine t_ef rfl (ef_call tf11 rfl (Maker_Pick_ok h826 (hv0.to_callT (k := 3) hm823 rfl) (hm823.get (k := 3) rfl) (hm823.sl_callT 0 3 rfl rfl (by decide)))) ?_
          rintro _ w829 ⟨e_, hm828⟩
          obtain rfl := e_.symm
          have hm830 := hm823.callT (k := 3) rfl (fun _ h => h) hm828 (fun _ => Iff.rfl)
          refine t_rd rfl (rd_move rfl) ?_
          obtain ⟨r831, h832, q833⟩ := ob q827; clear q827
          refine t_ef rfl (ef_call tf12 rfl (Maker_Next_ok h832 (hv0.to_callT (k := 3) hm830 rfl) (hm830.get (k := 3) rfl))) ?_
          rintro _ w835 ⟨e_, hm834⟩
          obtain rfl := e_.symm
          have hm836 := hm830.callT (k := 3) rfl (fun _ h => h) hm834 (fun _ => Iff.rfl)
          refine t_rd rfl (rd_move rfl) ?_
          obtain ⟨r837, h838, q839⟩ := ob q833; clear q833
          refine t_ef rfl (ef_call tf12 rfl (Maker_Next_ok h838 (hv0.to_callT (k := 3) hm836 rfl) (hm836.get (k := 3) rfl))) ?_
          rintro _ w841 ⟨e_, hm840⟩
          obtain rfl := e_.symm
          have hm842 := hm836.callT (k := 3) rfl (fun _ h => h) hm840 (fun _ => Iff.rfl)
          obtain ⟨x843, h844, q845⟩ := ob q839; clear q839
          refine t_rd rfl (rd_sub64 h844 rfl rfl) ?_
          obtain ⟨r846, h847, q848⟩ := ob q845; clear q845
          refine t_ef rfl (ef_call tf10 rfl (law31_exact_ok h847 (hm842.sl_call 1 rfl) (hm842.sl_call 2 rfl))) ?_
          rintro _ w850 ⟨e_, hm849⟩
          obtain rfl := e_.symm
          have hm851 := hm842.call hm849
          refine t_rd rfl (rd_not rfl) ?_
          refine t_rd rfl (rd_move rfl) ?_
          refine t_rdg rfl rfl rfl rfl (gv_f _) (fun hg852 => (rd_move rfl)) ?_
          refine t_rdg rfl rfl rfl rfl (gv_f _) (fun hg853 => (rd_move rfl)) ?_
          refine t_rdg rfl rfl rfl rfl (gv_f _) (fun hg854 => (rd_move rfl)) ?_
          refine t_rdg rfl rfl rfl rfl (gv_f _) (fun hg855 => (rd_move rfl)) ?_
          refine t_rdg rfl rfl rfl rfl (gv_f _) (fun hg856 => (rd_move rfl)) ?_
          obtain ⟨r858, h859, q860⟩ := ob q848; clear q848
          refine t_efg rfl rfl rfl rfl (R := (fun v w' => v = gV (!(!r846)) (Value.int .i64 r858.2) ∧ Mem w No [ownL 3 v822 ([0, 800, 2500] : List Int), ownL 42 v598 (r595.2.1 : List T_Span), ownL 42 v599 (r595.2.2 : List T_Span), blk g4 46 [v0, (Value.int .i64 r858.1)]] w')) (gv_f _) (fun hg857 => (ef_call tf12 (evc (gvx rfl hg857) (evc rfl evn)) (Maker_Next_ok (gD_t h859 hg857) (hv0.to_callT (k := 3) hm851 rfl) (hm851.get (k := 3) rfl))).mono (by rintro _ _ ⟨rfl, q⟩; exact ⟨(gV_t hg857).symm, hm851.callT (k := 3) rfl (fun _ h => h) q (fun _ => Iff.rfl)⟩)) (fun q => ⟨(gV_f q).symm, by have e := gD_f h859 q; subst e; exact hm851⟩) ?_
          rintro _ w862 ⟨rfl, hm861⟩
          obtain ⟨r864, h865, q866⟩ := ob q860; clear q860
          refine t_efg rfl rfl rfl rfl (R := (fun v w' => v = gV (!(!r846)) (Value.bool r864) ∧ Mem w862 No [] w')) (gv_f _) (fun hg863 => (ef_call tf10 (evc (gvx rfl hg863) (evc (gvx rfl hg863) (evc (gvx rfl hg863) (evc (gvx rfl hg863) (evc (gvx rfl hg863) evn))))) (law31_exact_ok (gO_t h865 hg863) (hm861.sl_call 1 rfl) (hm861.sl_call 2 rfl))).mono (by rintro _ _ ⟨rfl, q⟩; exact ⟨(gV_t hg863).symm, q⟩)) (fun q => ⟨(gV_f q).symm, Mem.nil _⟩) ?_
          rintro _ w868 ⟨rfl, hm867⟩
          have hm869 := hm861.call hm867
          refine t_rdg rfl rfl rfl rfl (gv_f _) (fun hg870 => (rd_not (gvx rfl hg870))) ?_
          refine t_rd rfl (rd_or rfl (fun hc871 => (gvx rfl (bnotIt hc871)))) ?_
          refine rwt_nil ?_
          refine qn_then ?_
          obtain ⟨hb872, q873⟩ | ⟨hb872, q873⟩ := oi q866 <;> clear q866
          · refine cw_t rfl hb872 ?_
            refine cw_seq ?_
            refine cw_region ?_
            refine t_rd rfl (rd_assign rfl) ?_
            refine rwt_nil ?_
            refine qn_then ?_
            refine cw_ret ?_
            refine qr_block (qr_then (qr_then ?_))
            obtain rfl := hr586 _ (os q873)
            refine .inl (⟨_, rfl, ⟨rfl, ?_⟩⟩)
            exact ret1 rfl rfl ⟨rfl, (hm869.pick [] (by decide) rfl)⟩
          · refine cw_f rfl hb872 ?_
            refine cw_skip ?_
            refine qn_block (qn_then ?_)
            refine cw_region ?_
            refine t_rd rfl (rd_move rfl) ?_
            obtain ⟨x874, h875, q876⟩ := ob q873; clear q873
            refine t_rd rfl (rd_add64 h875 rfl rfl) ?_
            refine t_rd rfl (rd_assign rfl) ?_
            refine rwt_nil ?_
            refine qn_then ?_
            refine ⟨_, (os q876), (by repeat (first | exact Sub.nil _ | refine Sub.cons rfl ?_)), (hm869.pick [3] (by decide) rfl)⟩
    · refine cw_f rfl hb593 ?_
      refine cw_exit ?_
      refine qx_then (qx_then ?_)
      obtain rfl := hr586 _ (os q594)
      exact .inr (⟨_, rfl, ⟨rfl, (by repeat (first | exact Sub.nil _ | refine Sub.cons rfl ?_)), (hm592.pick [0] (by decide) rfl)⟩⟩)
  · skip
    intro e env877 w878 hX879
    rcases hX879 with hX879 | hX879
    · obtain ⟨p881, rfl, hX879⟩ := hX879
      obtain ⟨rfl, hq883⟩ := hX879
      exact qr_block (qr_then ((by have e := os q589; subst e; exact hq883)))
    · obtain ⟨p884, rfl, hX879⟩ := hX879
      obtain ⟨rfl, hs885, hm886⟩ := hX879
      refine qx_same (qn_then ?_)
      refine cw_sub hs885 ?_
      refine cw_seq ?_
      refine cw_region ?_
      refine t_rd rfl (rd_move rfl) ?_
      refine t_rd rfl (rd_lenS tS23 rfl (hv1.of_old hm886)) ?_
      refine t_rd rfl (rd_gtr rfl rfl) ?_
      refine t_rd rfl (rd_move rfl) ?_
      refine t_rdg rfl rfl rfl rfl (gv_f _) (fun hg887 => (rd_move rfl)) ?_
      refine t_rdg rfl rfl rfl rfl (gv_f _) (fun hg888 => (rd_lenS tS23 (gvx rfl hg888) (hv2.of_old hm886))) ?_
      refine t_rdg rfl rfl rfl rfl (gv_f _) (fun hg889 => (rd_gtr (gvx rfl hg889) rfl)) ?_
      refine t_rd rfl (rd_or rfl (fun hc890 => (gvx rfl (bnotIt hc890)))) ?_
      refine t_rd rfl (rd_move rfl) ?_
      refine t_rdg rfl rfl rfl rfl (gv_f _) (fun hg891 => (rd_move rfl)) ?_
      refine t_rdg rfl rfl rfl rfl (gv_f _) (fun hg892 => (rd_move rfl)) ?_
      refine t_rdg rfl rfl rfl rfl (gv_f _) (fun hg893 => (rd_move rfl)) ?_
      refine t_rdg rfl rfl rfl rfl (gv_f _) (fun hg894 => (rd_move rfl)) ?_
      refine t_rdg rfl rfl rfl rfl (gv_f _) (fun hg895 => (rd_move rfl)) ?_
      obtain ⟨r897, h898, q899⟩ := ob q589; clear q589
      refine t_efg rfl rfl rfl rfl (R := (fun v w' => v = gV (!(decide (140 < (List.length a1 : Int)) || decide (140 < (List.length a2 : Int)))) (Value.int .i64 r897.2) ∧ Mem w No [blk g4 46 [v0, (Value.int .i64 r897.1)]] w')) (gv_f _) (fun hg896 => (ef_call tf12 (evc (gvx rfl hg896) (evc rfl evn)) (Maker_Next_ok (gD_t h898 hg896) (hv0.to_callT (k := 0) hm886 rfl) (hm886.get (k := 0) rfl))).mono (by rintro _ _ ⟨rfl, q⟩; exact ⟨(gV_t hg896).symm, hm886.callT (k := 0) rfl (fun _ h => h) q (fun _ => Iff.rfl)⟩)) (fun q => ⟨(gV_f q).symm, by have e := gD_f h898 q; subst e; exact hm886⟩) ?_
      rintro _ w901 ⟨rfl, hm900⟩
      obtain ⟨x903, h904, q905⟩ := ob q899; clear q899
      refine t_rdg rfl rfl rfl rfl (gv_f _) (fun hg902 => (rd_sub64 (gO_t h904 hg902) (gvx rfl hg902) rfl)) ?_
      obtain ⟨r907, h908, q909⟩ := ob q905; clear q905
      refine t_efg rfl rfl rfl rfl (R := (fun v w' => v = gV (!(decide (140 < (List.length a1 : Int)) || decide (140 < (List.length a2 : Int)))) (Value.bool r907) ∧ Mem w901 No [] w')) (gv_f _) (fun hg906 => (ef_call tf10 (evc (gvx rfl hg906) (evc (gvx rfl hg906) (evc (gvx rfl hg906) (evc (gvx rfl hg906) (evc (gvx rfl hg906) evn))))) (law31_exact_ok (gO_t h908 hg906) (hv1.to_call hm900) (hv2.to_call hm900))).mono (by rintro _ _ ⟨rfl, q⟩; exact ⟨(gV_t hg906).symm, q⟩)) (fun q => ⟨(gV_f q).symm, Mem.nil _⟩) ?_
      rintro _ w911 ⟨rfl, hm910⟩
      have hm912 := hm900.call hm910
      refine t_rdg rfl rfl rfl rfl (gv_f _) (fun hg913 => (rd_move (gvx rfl hg913))) ?_
      obtain ⟨r915, h916, q917⟩ := ob q909; clear q909
      refine t_efg rfl rfl rfl rfl (R := (fun v w' => v = gV ((!(decide (140 < (List.length a1 : Int)) || decide (140 < (List.length a2 : Int)))) && r907) (Value.bool r915) ∧ Mem w911 No [] w')) (gv_nt _ _) (fun hg914 => (ef_call tf13 rfl (law31_sane_ok (gO_t h916 hg914))).mono (by rintro _ _ ⟨rfl, q⟩; exact ⟨(gV_t hg914).symm, q⟩)) (fun q => ⟨(gV_f q).symm, Mem.nil _⟩) ?_
      rintro _ w919 ⟨rfl, hm918⟩
      have hm920 := hm912.call hm918
      refine t_rdg rfl rfl rfl rfl (gv_f _) (fun hg921 => (rd_and (gvx rfl hg921) (fun hc922 => (gvx rfl (band hg921 hc922))))) ?_
      refine t_rd rfl (rd_or rfl (fun hc923 => (gvx rfl (bnotIt hc923)))) ?_
      refine t_rd rfl (rd_assign rfl) ?_
      refine rwt_nil ?_
      refine qn_then ?_
      refine cw_ret ?_
      obtain rfl := os q917
      exact ret1 rfl rfl ⟨rfl, (hm920.pick [] (by decide) rfl)⟩

theorem yardgen_Place_ok {N : Nat} {a0 : Int} {a1 : Int} {res : Int} (h : yardgen_Place N a0 a1 = some res) {w : World}   :
    CallsR Try.prog 14 [(Value.int .i64 a0), (Value.int .i64 a1)] w (fun u w' => u = (Value.int .i64 res) ∧ Mem w No [] w') := by
  unfold yardgen_Place at h
  refine fn_ok Try.func14 rfl rfl rfl ?_
  have hm0 := Mem.nil w
  refine cw_seq ?_
  refine cw_region ?_
  refine t_rd rfl (rd_assign rfl) ?_
  refine rwt_nil ?_
  refine qn_then ?_
  refine cw_seq ?_
  refine cw_seq ?_
  refine cw_region ?_
  refine t_rd rfl (rd_move rfl) ?_
  refine t_rd rfl (rd_lss rfl rfl) ?_
  refine rwt_nil ?_
  refine qn_then ?_
  obtain ⟨hb1, q2⟩ | ⟨hb1, q2⟩ := oi h <;> clear h
  · refine cw_t rfl hb1 ?_
    refine cw_seq ?_
    refine cw_region ?_
    refine t_rd rfl (rd_assign rfl) ?_
    refine rwt_nil ?_
    refine qn_then ?_
    refine cw_ret ?_
    refine qr_then ?_
    obtain rfl := os q2
    exact ret1 rfl rfl ⟨rfl, (hm0.pick [] (by decide) rfl)⟩
  · refine cw_f rfl hb1 ?_
    refine cw_skip ?_
    refine qn_then ?_
    refine cw_seq ?_
    refine cw_region ?_
    refine t_rd rfl (rd_move rfl) ?_
    refine t_rd rfl (rd_move rfl) ?_
    obtain ⟨x3, h4, q5⟩ := ob q2; clear q2
    refine t_rd rfl (rd_rem64 h4 rfl rfl) ?_
    refine t_rd rfl (rd_assign rfl) ?_
    refine rwt_nil ?_
    refine qn_then ?_
    refine cw_seq ?_
    refine cw_seq ?_
    refine cw_region ?_
    refine t_rd rfl (rd_move rfl) ?_
    refine t_rd rfl (rd_lss rfl rfl) ?_
    refine rwt_nil ?_
    refine qn_then ?_
    obtain ⟨hb6, q7⟩ | ⟨hb6, q7⟩ := oi q5 <;> clear q5
    · refine cw_t rfl hb6 ?_
      refine cw_region ?_
      refine t_rd rfl (rd_move rfl) ?_
      refine t_rd rfl (rd_move rfl) ?_
      obtain ⟨x8, h9, q10⟩ := ob q7; clear q7
      refine t_rd rfl (rd_add64 h9 rfl rfl) ?_
      refine t_rd rfl (rd_assign rfl) ?_
      refine rwt_nil ?_
      refine qn_then ?_
      refine cw_seq ?_
      refine cw_region ?_
      refine t_rd rfl (rd_move rfl) ?_
      refine t_rd rfl (rd_assign rfl) ?_
      refine rwt_nil ?_
      refine qn_then ?_
      refine cw_ret ?_
      obtain rfl := os q10
      exact ret1 rfl rfl ⟨rfl, (hm0.pick [] (by decide) rfl)⟩
    · refine cw_f rfl hb6 ?_
      refine cw_skip ?_
      refine qn_then ?_
      refine cw_seq ?_
      refine cw_region ?_
      refine t_rd rfl (rd_move rfl) ?_
      refine t_rd rfl (rd_assign rfl) ?_
      refine rwt_nil ?_
      refine qn_then ?_
      refine cw_ret ?_
      obtain rfl := os q7
      exact ret1 rfl rfl ⟨rfl, (hm0.pick [] (by decide) rfl)⟩

theorem law31_DivertClears_ok {N : Nat} {a0 : List Int} {a1 : Int} {res : Bool} (h : law31_DivertClears N a0 a1 = some res) {w : World} {v0 : Value} (hv0 : Sl (Old w No) w v0 a0) :
    CallsR Try.prog 4 [v0, (Value.int .i64 a1)] w (fun u w' => u = (Value.bool res) ∧ Mem w No [] w') := by
  unfold law31_DivertClears at h
  refine fn_ok Try.func4 rfl rfl rfl ?_
  have hm0 := Mem.nil w
  refine cw_seq ?_
  refine cw_region ?_
  refine t_rd rfl (rd_assign rfl) ?_
  refine rwt_nil ?_
  refine qn_then ?_
  refine cw_seq ?_
  refine cw_region ?_
  refine t_rd rfl (rd_move rfl) ?_
  obtain ⟨r1, h2, q3⟩ := ob h; clear h
  refine t_ef rfl (ef_call tf7 rfl (humpgen_New_ok h2 (hv0.to_call hm0))) ?_
  rintro _ w6 ⟨g4, e_, hm5⟩
  obtain rfl := e_.symm
  have hm7 := hm0.call hm5
  refine t_rd rfl (rd_assign rfl) ?_
  refine rwt_nil ?_
  refine qn_then ?_
  refine cw_seq ?_
  refine cw_region ?_
  refine t_rd rfl (rd_move rfl) ?_
  obtain ⟨r8, h9, q10⟩ := ob q3; clear q3
  refine t_ef rfl (ef_call tf8 rfl (law31_pair_ok h9 (hv0.to_callT (k := 0) hm7 rfl) (hm7.get (k := 0) rfl))) ?_
  rintro _ w14 ⟨v11, v12, e_, hm13⟩
  obtain rfl := e_.symm
  have hm15 := hm7.callT (k := 0) rfl (fun _ h => h) hm13 (fun _ => Iff.rfl)
  refine t_rd rfl (rd_move rfl) ?_
  refine t_rd rfl (rd_extract rfl rfl) ?_
  refine t_rd rfl (rd_extract rfl rfl) ?_
  refine t_rd rfl (rd_assign rfl) ?_
  refine t_rd rfl (rd_assign rfl) ?_
  refine rwt_nil ?_
  refine qn_then ?_
  refine cw_seq ?_
  refine cw_region ?_
  refine t_rd rfl (rd_move rfl) ?_
  refine t_ef rfl (ef_bslice (l := ([0, 800, 2500] : List Int)) hm15 tS22 rfl (cs := #[(Value.int .i64 0), (Value.int .i64 800), (Value.int .i64 2500)]) (by unfold bsl; kernel_rfl) rfl rfl) ?_
  intro v16 w18 hm17
  obtain ⟨r19, h20, q21⟩ := ob q10; clear q10
  refine t_ef rfl (ef_call tf11 rfl (Maker_Pick_ok h20 (hv0.to_callT (k := 3) hm17 rfl) (hm17.get (k := 3) rfl) (hm17.sl_callT 0 3 rfl rfl (by decide)))) ?_
  rintro _ w23 ⟨e_, hm22⟩
  obtain rfl := e_.symm
  have hm24 := hm17.callT (k := 3) rfl (fun _ h => h) hm22 (fun _ => Iff.rfl)
  refine t_rd rfl (rd_assign rfl) ?_
  refine rwt_nil ?_
  refine qn_then ?_
  refine cw_seq ?_
  refine cw_region ?_
  refine t_rd rfl (rd_move rfl) ?_
  obtain ⟨r25, h26, q27⟩ := ob q21; clear q21
  refine t_ef rfl (ef_call tf14 rfl (yardgen_Place_ok h26)) ?_
  rintro _ w29 ⟨e_, hm28⟩
  obtain rfl := e_.symm
  have hm30 := hm24.call hm28
  refine t_rd rfl (rd_assign rfl) ?_
  refine rwt_nil ?_
  refine qn_then ?_
  refine cw_seq ?_
  refine cw_region ?_
  refine t_rd rfl (rd_move rfl) ?_
  refine t_rd rfl (rd_move rfl) ?_
  refine t_rd rfl (rd_move rfl) ?_
  refine t_rd rfl (rd_move rfl) ?_
  obtain ⟨r31, h32, q33⟩ := ob q27; clear q27
  refine t_ef rfl (ef_call tf15 rfl (divert_Choose_ok h32 (hm30.sl_call 1 rfl) (hm30.sl_call 2 rfl))) ?_
  rintro _ w35 ⟨e_, hm34⟩
  obtain rfl := e_.symm
  have hm36 := hm30.call hm34
  refine t_rd rfl (rd_move rfl) ?_
  refine t_rd rfl (rd_extract rfl rfl) ?_
  refine t_rd rfl (rd_extract rfl rfl) ?_
  refine t_rd rfl (rd_assign rfl) ?_
  refine t_rd rfl (rd_assign rfl) ?_
  refine rwt_nil ?_
  refine qn_then ?_
  refine cw_seq ?_
  refine cw_seq ?_
  refine cw_region ?_
  refine t_rd rfl (rd_move rfl) ?_
  refine t_rd rfl (rd_neq rfl rfl) ?_
  refine rwt_nil ?_
  refine qn_then ?_
  obtain ⟨hb37, q38⟩ | ⟨hb37, q38⟩ := oi q33 <;> clear q33
  · refine cw_t rfl hb37 ?_
    refine cw_seq ?_
    refine cw_region ?_
    refine t_rd rfl (rd_move rfl) ?_
    refine t_rd rfl (rd_eql rfl rfl) ?_
    refine t_rd rfl (rd_move rfl) ?_
    refine t_rdg rfl rfl rfl rfl (gv_f _) (fun hg39 => (rd_move rfl)) ?_
    refine t_rdg rfl rfl rfl rfl (gv_f _) (fun hg40 => (rd_eql (gvx rfl hg40) rfl)) ?_
    refine t_rd rfl (rd_or rfl (fun hc41 => (gvx rfl (bnotIt hc41)))) ?_
    refine t_rd rfl (rd_move rfl) ?_
    obtain ⟨r43, h44, q45⟩ := ob q38; clear q38
    refine t_efg rfl rfl rfl rfl (R := (fun v w' => v = gV (decide (r31.2 = 16) || decide (r31.2 = 15)) (Value.bool r43) ∧ Mem w35 No [] w')) (gv_t _) (fun hg42 => (ef_call tf13 rfl (law31_sane_ok (gO_t h44 hg42))).mono (by rintro _ _ ⟨rfl, q⟩; exact ⟨(gV_t hg42).symm, q⟩)) (fun q => ⟨(gV_f q).symm, Mem.nil _⟩) ?_
    rintro _ w47 ⟨rfl, hm46⟩
    have hm48 := hm36.call hm46
    refine t_rd rfl (rd_and rfl (fun hc49 => (gvx rfl hc49))) ?_
    refine t_rd rfl (rd_assign rfl) ?_
    refine rwt_nil ?_
    refine qn_then ?_
    refine cw_ret ?_
    refine qr_then ?_
    obtain rfl := os q45
    exact ret1 rfl rfl ⟨rfl, (hm48.pick [] (by decide) rfl)⟩
  · refine cw_f rfl hb37 ?_
    refine cw_skip ?_
    refine qn_then ?_
    refine cw_seq ?_
    refine cw_region ?_
    refine t_rd rfl (rd_move rfl) ?_
    refine t_rd rfl (rd_move rfl) ?_
    obtain ⟨r50, h51, q52⟩ := ob q38; clear q38
    refine t_ef rfl (ef_call tf16 rfl (divert_Diverted_ok h51 (hm36.sl_call 2 rfl))) ?_
    rintro _ w55 ⟨v53, e_, hm54⟩
    obtain rfl := e_.symm
    have hm56 := hm36.call hm54
    refine t_rd rfl (rd_move rfl) ?_
    refine t_rd rfl (rd_extract rfl rfl) ?_
    refine t_rd rfl (rd_extract rfl rfl) ?_
    refine t_rd rfl (rd_assign rfl) ?_
    refine t_rd rfl (rd_assign rfl) ?_
    refine rwt_nil ?_
    refine qn_then ?_
    refine cw_seq ?_
    refine cw_region ?_
    refine t_rd rfl (rd_move rfl) ?_
    refine t_rd rfl (rd_move rfl) ?_
    refine t_rd rfl (rd_move rfl) ?_
    obtain ⟨r57, h58, q59⟩ := ob q52; clear q52
    refine t_ef rfl (ef_call tf17 rfl (divert_Conflict_ok h58 (hm56.sl_call 2 rfl) (hm56.sl_call 0 rfl))) ?_
    rintro _ w61 ⟨e_, hm60⟩
    obtain rfl := e_.symm
    have hm62 := hm56.call hm60
    refine t_rd rfl (rd_move rfl) ?_
    refine t_rd rfl (rd_extract rfl rfl) ?_
    refine t_rd rfl (rd_extract rfl rfl) ?_
    refine t_rd rfl (rd_assign rfl) ?_
    refine t_rd rfl (rd_assign rfl) ?_
    refine rwt_nil ?_
    refine qn_then ?_
    refine cw_seq ?_
    refine cw_seq ?_
    refine cw_region ?_
    refine t_rd rfl (rd_move rfl) ?_
    refine t_rd rfl (rd_neq rfl rfl) ?_
    refine t_rd rfl (rd_move rfl) ?_
    refine t_rdg rfl rfl rfl rfl (gv_f _) (fun hg63 => (rd_move rfl)) ?_
    refine t_rdg rfl rfl rfl rfl (gv_f _) (fun hg64 => (rd_neq (gvx rfl hg64) rfl)) ?_
    refine t_rd rfl (rd_or rfl (fun hc65 => (gvx rfl (bnotIt hc65)))) ?_
    refine t_rd rfl (rd_move rfl) ?_
    refine t_rdg rfl rfl rfl rfl (gv_f _) (fun hg66 => (rd_move rfl)) ?_
    refine t_rdg rfl rfl rfl rfl (gv_f _) (fun hg67 => (rd_neq (gvx rfl hg67) rfl)) ?_
    refine t_rd rfl (rd_or rfl (fun hc68 => (gvx rfl (bnotIt hc68)))) ?_
    refine t_rd rfl (rd_move rfl) ?_
    refine t_rdg rfl rfl rfl rfl (gv_f _) (fun hg69 => (rd_move rfl)) ?_
    refine t_rdg rfl rfl rfl rfl (gv_f _) (fun hg70 => (rd_lenS tS23 (gvx rfl hg70) (hm62.sl 0 rfl))) ?_
    refine t_rdg rfl rfl rfl rfl (gv_f _) (fun hg71 => (rd_move rfl)) ?_
    obtain ⟨x73, h74, q75⟩ := ob q59; clear q59
    refine t_rdg rfl rfl rfl rfl (gv_f _) (fun hg72 => (rd_add64 (gO_t h74 hg72) (gvx rfl hg72) rfl)) ?_
    refine t_rdg rfl rfl rfl rfl (gv_f _) (fun hg76 => (rd_neq (gvx rfl hg76) (gvx rfl hg76))) ?_
    refine t_rd rfl (rd_or rfl (fun hc77 => (gvx rfl (bnotIt hc77)))) ?_
    refine t_rd rfl (rd_move rfl) ?_
    refine t_rdg rfl rfl rfl rfl (gv_f _) (fun hg78 => (rd_move rfl)) ?_
    refine t_rdg rfl rfl rfl rfl (gv_f _) (fun hg79 => (rd_move rfl)) ?_
    obtain ⟨x81, h82, q83⟩ := ob q75; clear q75
    refine t_rdg rfl rfl rfl rfl (gv_f _) (fun hg80 => (rd_index tS23 (gvx rfl hg80) (gvx rfl hg80) (hm62.sl 0 rfl) (gO_t h82 hg80))) ?_
    refine t_rdg rfl rfl rfl rfl (gv_f _) (fun hg84 => (rd_fld tF42_2 (gvx rfl hg84))) ?_
    refine t_rdg rfl rfl rfl rfl (gv_f _) (fun hg85 => (rd_ld1 tO3 (gvx rfl hg85) ((hm62.sl 0 rfl).cells (gO_t h82 hg85)) (off := 2) rfl)) ?_
    refine t_rdg rfl rfl rfl rfl (gv_f _) (fun hg86 => (rd_move rfl)) ?_
    refine t_rdg rfl rfl rfl rfl (gv_f _) (fun hg87 => (rd_move rfl)) ?_
    obtain ⟨x89, h90, q91⟩ := ob q83; clear q83
    refine t_rdg rfl rfl rfl rfl (gv_f _) (fun hg88 => (rd_add64 (gO_t h90 hg88) (gvx rfl hg88) (gvx rfl hg88))) ?_
    refine t_rdg rfl rfl rfl rfl (gv_f _) (fun hg92 => (rd_lss (gvx rfl hg92) (gvx rfl hg92))) ?_
    refine t_rd rfl (rd_or rfl (fun hc93 => (gvx rfl (bnotIt hc93)))) ?_
    refine rwt_nil ?_
    refine qn_then ?_
    obtain ⟨hb94, q95⟩ | ⟨hb94, q95⟩ := oi q91 <;> clear q91
    · refine cw_t rfl hb94 ?_
      refine cw_seq ?_
      refine cw_region ?_
      refine t_rd rfl (rd_assign rfl) ?_
      refine rwt_nil ?_
      refine qn_then ?_
      refine cw_ret ?_
      refine qr_then ?_
      obtain rfl := os q95
      exact ret1 rfl rfl ⟨rfl, (hm62.pick [] (by decide) rfl)⟩
    · refine cw_f rfl hb94 ?_
      refine cw_skip ?_
      refine qn_then ?_
      refine cw_seq ?_
      refine cw_seq ?_
      refine cw_region ?_
      refine t_rd rfl (rd_assign rfl) ?_
      refine rwt_nil ?_
      refine qn_then ?_
      refine cw_block ?_
      obtain ⟨r138, hit139, q140⟩ := ob q95; clear q95
      refine cw_loop2 (I := fun q envq wq => Sub [(7, v12), (9, (Value.int .i64 r31.1)), (11, v53), (15, (Value.int .i64 q))] envq ∧ Mem w No [ownL 42 v53 (r50.1 : List T_Span), ownL 42 v12 (r8.2.2 : List T_Span)] wq) (X := fun eq envq wq => (∃ p141, r138 = (Sum.inl p141) ∧ eq = .ret ∧ retQ Try.prog 130 Try.f4 (fun u w' => u = (Value.bool p141) ∧ Mem w No [] w') .ret envq wq) ∨ (∃ p142, r138 = (Sum.inr p142) ∧ eq = .exit 0 ∧ Sub [(7, v12), (9, (Value.int .i64 r31.1)), (11, v53)] envq ∧ Mem w No [ownL 42 v53 (r50.1 : List T_Span), ownL 42 v12 (r8.2.2 : List T_Span)] wq)) hit139 ⟨(by repeat (first | exact Sub.nil _ | refine Sub.cons rfl ?_)), (hm62.pick [0, 3] (by decide) rfl)⟩ ?_ ?_
      · rintro i131 x133 env134 w135 hf136 hr137 ⟨hs_, hm_⟩
        have hs_ : Sub [(7, v12), (9, (Value.int .i64 r31.1)), (11, v53), (15, (Value.int .i64 i131))] env134 := hs_
        have hm143 : Mem w No [ownL 42 v53 (r50.1 : List T_Span), ownL 42 v12 (r8.2.2 : List T_Span)] w135 := hm_
        refine cw_sub hs_ ?_
        clear hs_ hm_ q140
        have h : law31_DivertClears_l1 N r8 r31 r50 i131 = some x133 := hf136
        clear hf136
        refine cw_seq ?_
        refine cw_seq ?_
        refine cw_region ?_
        refine t_rd rfl (rd_move rfl) ?_
        refine t_rd rfl (rd_move rfl) ?_
        refine t_rd rfl (rd_lss rfl rfl) ?_
        refine rwt_nil ?_
        refine qn_then ?_
        obtain ⟨hb144, q145⟩ | ⟨hb144, q145⟩ := oi h <;> clear h
        · refine cw_t rfl hb144 ?_
          refine cw_skip ?_
          refine qn_then ?_
          refine cw_seq ?_
          refine cw_block ?_
          refine cw_seq ?_
          obtain ⟨w147, he149⟩ : ∃ q, q = w135.drew := ⟨_, rfl⟩
          have hm148 := hm143.drew; rw [← he149] at hm148
          refine cw_region_s (fun q => q = w147) (cls [] []) mixed ?_
          rintro _ rfl; rw [← he149]
          refine s_rp (i := 0) rfl (by kernel_rfl) rfl (fun _ => (rd_move rfl)) ?_
          refine s_rp (i := 1) rfl (by kernel_rfl) rfl (fun _ => (rd_move rfl)) ?_
          obtain ⟨x150, h151, q152⟩ := ob q145; clear q145
          refine s_rp (i := 2) rfl (by kernel_rfl) rfl (fun _ => (rd_index tS23 rfl rfl (hm148.sl 0 rfl) h151)) ?_
          refine s_rd (i := 3) rfl (by kernel_rfl) rfl (fun _ hS => by rw [hS]; exact (rd_ld tA42 rfl ((hm148.sl 0 rfl).cells h151) rfl)) rfl ?_
          refine s_rp (i := 4) rfl (by kernel_rfl) rfl (fun _ => (rd_move rfl)) ?_
          refine s_rp (i := 5) rfl (by kernel_rfl) rfl (fun _ => (rd_move rfl)) ?_
          obtain ⟨x153, h154, q155⟩ := ob q152; clear q152
          refine s_rp (i := 6) rfl (by kernel_rfl) rfl (fun _ => (rd_index tS23 rfl rfl (hm148.sl 1 rfl) h154)) ?_
          refine s_rd (i := 7) rfl (by kernel_rfl) rfl (fun _ hS => by rw [hS]; exact (rd_ld tA42 rfl ((hm148.sl 1 rfl).cells h154) rfl)) rfl ?_
          refine s_rp (i := 8) rfl (by kernel_rfl) rfl (fun _ => (rd_neqs eqs42 (a := x150) (b := x153) rfl rfl)) ?_
          refine s_nil (by kernel_rfl) ?_
          refine qn_then ?_
          obtain ⟨hb156, q157⟩ | ⟨hb156, q157⟩ := oi q155 <;> clear q155
          · refine cw_t rfl hb156 ?_
            refine cw_seq ?_
            refine cw_region ?_
            refine t_rd rfl (rd_assign rfl) ?_
            refine rwt_nil ?_
            refine qn_then ?_
            refine cw_ret ?_
            refine qr_block (qr_then (qr_then ?_))
            obtain rfl := hr137 _ (os q157)
            refine .inl (⟨_, rfl, ⟨rfl, ?_⟩⟩)
            exact ret1 rfl rfl ⟨rfl, (hm148.pick [] (by decide) rfl)⟩
          · refine cw_f rfl hb156 ?_
            refine cw_skip ?_
            refine qn_block (qn_then ?_)
            refine cw_region ?_
            refine t_rd rfl (rd_move rfl) ?_
            obtain ⟨x158, h159, q160⟩ := ob q157; clear q157
            refine t_rd rfl (rd_add64 h159 rfl rfl) ?_
            refine t_rd rfl (rd_assign rfl) ?_
            refine rwt_nil ?_
            refine qn_then ?_
            refine ⟨_, (os q160), (by repeat (first | exact Sub.nil _ | refine Sub.cons rfl ?_)), (hm148.pick [0, 1] (by decide) rfl)⟩
        · refine cw_f rfl hb144 ?_
          refine cw_exit ?_
          refine qx_then (qx_then ?_)
          obtain rfl := hr137 _ (os q145)
          exact .inr (⟨_, rfl, ⟨rfl, (by repeat (first | exact Sub.nil _ | refine Sub.cons rfl ?_)), (hm143.pick [0, 1] (by decide) rfl)⟩⟩)
      · skip
        intro e env161 w162 hX163
        rcases hX163 with hX163 | hX163
        · obtain ⟨p165, rfl, hX163⟩ := hX163
          obtain ⟨rfl, hq167⟩ := hX163
          exact qr_block (qr_then ((by have e := os q140; subst e; exact hq167)))
        · obtain ⟨p168, rfl, hX163⟩ := hX163
          obtain ⟨rfl, hs169, hm170⟩ := hX163
          refine qx_same (qn_then ?_)
          refine cw_sub hs169 ?_
          refine cw_seq ?_
          obtain ⟨w172, he174⟩ : ∃ q, q = w162.drew := ⟨_, rfl⟩
          have hm173 := hm170.drew; rw [← he174] at hm173
          refine cw_region_s (fun q => q = w172) (cls [] [26]) mixed ?_
          rintro _ rfl; rw [← he174]
          refine s_rp (i := 0) rfl (by kernel_rfl) rfl (fun _ => (rd_move rfl)) ?_
          refine s_rp (i := 1) rfl (by kernel_rfl) rfl (fun _ => (rd_move rfl)) ?_
          obtain ⟨x175, h176, q177⟩ := ob q140; clear q140
          refine s_rp (i := 2) rfl (by kernel_rfl) rfl (fun _ => (rd_index tS23 rfl rfl (hm173.sl 0 rfl) h176)) ?_
          refine s_rp (i := 3) rfl (by kernel_rfl) rfl (fun _ => (rd_fld tF42_0 rfl)) ?_
          refine s_rd (i := 4) rfl (by kernel_rfl) rfl (fun _ hS => by rw [hS]; exact (rd_ld1 tO3 rfl ((hm173.sl 0 rfl).cells h176) (off := 0) rfl)) rfl ?_
          refine s_rp (i := 5) rfl (by kernel_rfl) rfl (fun _ => (rd_move rfl)) ?_
          refine s_rp (i := 6) rfl (by kernel_rfl) rfl (fun _ => (rd_move rfl)) ?_
          obtain ⟨x178, h179, q180⟩ := ob q177; clear q177
          refine s_rp (i := 7) rfl (by kernel_rfl) rfl (fun _ => (rd_index tS23 rfl rfl (hm173.sl 1 rfl) h179)) ?_
          refine s_rp (i := 8) rfl (by kernel_rfl) rfl (fun _ => (rd_fld tF42_0 rfl)) ?_
          refine s_rd (i := 9) rfl (by kernel_rfl) rfl (fun _ hS => by rw [hS]; exact (rd_ld1 tO3 rfl ((hm173.sl 1 rfl).cells h179) (off := 0) rfl)) rfl ?_
          refine s_rp (i := 10) rfl (by kernel_rfl) rfl (fun _ => (rd_eql rfl rfl)) ?_
          refine s_rp (i := 11) rfl (by kernel_rfl) rfl (fun _ => (rd_move rfl)) ?_
          refine s_rpg (i := 12) rfl (by kernel_rfl) rfl rfl rfl rfl (gv_t _) (fun hg181 _ => (rd_move rfl)) ?_
          refine s_rpg (i := 13) rfl (by kernel_rfl) rfl rfl rfl rfl (gv_t _) (fun hg182 _ => (rd_move rfl)) ?_
          obtain ⟨x184, h185, q186⟩ := ob q180; clear q180
          refine s_rpg (i := 14) rfl (by kernel_rfl) rfl rfl rfl rfl (gv_t _) (fun hg183 _ => (rd_index tS23 (gvx rfl hg183) (gvx rfl hg183) (hm173.sl 0 rfl) (gO_t h185 hg183))) ?_
          refine s_rpg (i := 15) rfl (by kernel_rfl) rfl rfl rfl rfl (gv_t _) (fun hg187 _ => (rd_fld tF42_1 (gvx rfl hg187))) ?_
          refine s_rdg (i := 16) rfl (by kernel_rfl) rfl rfl rfl rfl (gv_t _) (fun hg188 => (fun _ hS => by rw [hS]; exact (rd_ld1 tO3 (gvx rfl hg188) ((hm173.sl 0 rfl).cells (gO_t h185 hg188)) (off := 1) rfl))) rfl ?_
          refine s_rpg (i := 17) rfl (by kernel_rfl) rfl rfl rfl rfl (gv_t _) (fun hg189 _ => (rd_move rfl)) ?_
          refine s_rpg (i := 18) rfl (by kernel_rfl) rfl rfl rfl rfl (gv_t _) (fun hg190 _ => (rd_move rfl)) ?_
          obtain ⟨x192, h193, q194⟩ := ob q186; clear q186
          refine s_rpg (i := 19) rfl (by kernel_rfl) rfl rfl rfl rfl (gv_t _) (fun hg191 _ => (rd_index tS23 (gvx rfl hg191) (gvx rfl hg191) (hm173.sl 1 rfl) (gO_t h193 hg191))) ?_
          refine s_rpg (i := 20) rfl (by kernel_rfl) rfl rfl rfl rfl (gv_t _) (fun hg195 _ => (rd_fld tF42_1 (gvx rfl hg195))) ?_
          refine s_rdg (i := 21) rfl (by kernel_rfl) rfl rfl rfl rfl (gv_t _) (fun hg196 => (fun _ hS => by rw [hS]; exact (rd_ld1 tO3 (gvx rfl hg196) ((hm173.sl 1 rfl).cells (gO_t h193 hg196)) (off := 1) rfl))) rfl ?_
          obtain ⟨x198, h199, q200⟩ := ob q194; clear q194
          refine s_rpg (i := 22) rfl (by kernel_rfl) rfl rfl rfl rfl (gv_t _) (fun hg197 _ => (rd_add64 (gO_t h199 hg197) (gvx rfl hg197) (gvx rfl hg197))) ?_
          refine s_rpg (i := 23) rfl (by kernel_rfl) rfl rfl rfl rfl (gv_t _) (fun hg201 _ => (rd_eql (gvx rfl hg201) rfl)) ?_
          refine s_rp (i := 24) rfl (by kernel_rfl) rfl (fun _ => (rd_and rfl (fun hc202 => (gvx rfl hc202)))) ?_
          refine s_rp (i := 25) rfl (by kernel_rfl) rfl (fun _ => (rd_move rfl)) ?_
          obtain ⟨r204, h205, q206⟩ := ob q200; clear q200
          refine s_efg (i := 26) rfl (by kernel_rfl) rfl rfl rfl rfl (R := (fun v w' => v = gV (decide (x175.Element = x178.Element) && decide (x198 = 3)) (Value.bool r204) ∧ Mem w172 No [] w')) (gv_t _) (fun hg203 => (ef_call tf13 rfl (law31_sane_ok (gO_t h205 hg203))).mono (by rintro _ _ ⟨rfl, q⟩; exact ⟨(gV_t hg203).symm, q⟩)) (fun q => ⟨(gV_f q).symm, Mem.nil _⟩) (by decide) (fun _ _ _ q => absurd q (by decide)) ?_
          rintro _ w208 ⟨rfl, hm207⟩
          have hm209 := hm173.call hm207
          refine s_rp (i := 27) rfl (by kernel_rfl) rfl (fun _ => (rd_and rfl (fun hc210 => (gvx rfl hc210)))) ?_
          refine s_rp (i := 28) rfl (by kernel_rfl) rfl (fun _ => (rd_assign rfl)) ?_
          refine s_nil (by kernel_rfl) ?_
          refine qn_then ?_
          refine cw_ret ?_
          obtain rfl := os q206
          exact ret1 rfl rfl ⟨rfl, (hm209.pick [] (by decide) rfl)⟩

theorem law31_DivertLast_ok {N : Nat} {a0 : List Int} {a1 : Int} {res : Bool} (h : law31_DivertLast N a0 a1 = some res) {w : World} {v0 : Value} (hv0 : Sl (Old w No) w v0 a0) :
    CallsR Try.prog 5 [v0, (Value.int .i64 a1)] w (fun u w' => u = (Value.bool res) ∧ Mem w No [] w') := by
  unfold law31_DivertLast at h
  refine fn_ok Try.func5 rfl rfl rfl ?_
  have hm0 := Mem.nil w
  refine cw_seq ?_
  refine cw_region ?_
  refine t_rd rfl (rd_assign rfl) ?_
  refine rwt_nil ?_
  refine qn_then ?_
  refine cw_seq ?_
  refine cw_region ?_
  refine t_rd rfl (rd_move rfl) ?_
  obtain ⟨r1, h2, q3⟩ := ob h; clear h
  refine t_ef rfl (ef_call tf7 rfl (humpgen_New_ok h2 (hv0.to_call hm0))) ?_
  rintro _ w6 ⟨g4, e_, hm5⟩
  obtain rfl := e_.symm
  have hm7 := hm0.call hm5
  refine t_rd rfl (rd_assign rfl) ?_
  refine rwt_nil ?_
  refine qn_then ?_
  refine cw_seq ?_
  refine cw_region ?_
  refine t_rd rfl (rd_move rfl) ?_
  obtain ⟨r8, h9, q10⟩ := ob q3; clear q3
  refine t_ef rfl (ef_call tf8 rfl (law31_pair_ok h9 (hv0.to_callT (k := 0) hm7 rfl) (hm7.get (k := 0) rfl))) ?_
  rintro _ w14 ⟨v11, v12, e_, hm13⟩
  obtain rfl := e_.symm
  have hm15 := hm7.callT (k := 0) rfl (fun _ h => h) hm13 (fun _ => Iff.rfl)
  refine t_rd rfl (rd_move rfl) ?_
  refine t_rd rfl (rd_extract rfl rfl) ?_
  refine t_rd rfl (rd_extract rfl rfl) ?_
  refine t_rd rfl (rd_assign rfl) ?_
  refine t_rd rfl (rd_assign rfl) ?_
  refine rwt_nil ?_
  refine qn_then ?_
  refine cw_seq ?_
  refine cw_region ?_
  refine t_rd rfl (rd_move rfl) ?_
  refine t_ef rfl (ef_bslice (l := ([0, 800, 2500] : List Int)) hm15 tS22 rfl (cs := #[(Value.int .i64 0), (Value.int .i64 800), (Value.int .i64 2500)]) (by unfold bsl; kernel_rfl) rfl rfl) ?_
  intro v16 w18 hm17
  obtain ⟨r19, h20, q21⟩ := ob q10; clear q10
  refine t_ef rfl (ef_call tf11 rfl (Maker_Pick_ok h20 (hv0.to_callT (k := 3) hm17 rfl) (hm17.get (k := 3) rfl) (hm17.sl_callT 0 3 rfl rfl (by decide)))) ?_
  rintro _ w23 ⟨e_, hm22⟩
  obtain rfl := e_.symm
  have hm24 := hm17.callT (k := 3) rfl (fun _ h => h) hm22 (fun _ => Iff.rfl)
  refine t_rd rfl (rd_assign rfl) ?_
  refine rwt_nil ?_
  refine qn_then ?_
  refine cw_seq ?_
  refine cw_region ?_
  refine t_rd rfl (rd_move rfl) ?_
  obtain ⟨r25, h26, q27⟩ := ob q21; clear q21
  refine t_ef rfl (ef_call tf14 rfl (yardgen_Place_ok h26)) ?_
  rintro _ w29 ⟨e_, hm28⟩
  obtain rfl := e_.symm
  have hm30 := hm24.call hm28
  refine t_rd rfl (rd_assign rfl) ?_
  refine rwt_nil ?_
  refine qn_then ?_
  refine cw_seq ?_
  refine cw_region ?_
  refine t_rd rfl (rd_move rfl) ?_
  refine t_rd rfl (rd_move rfl) ?_
  refine t_rd rfl (rd_move rfl) ?_
  obtain ⟨r31, h32, q33⟩ := ob q27; clear q27
  refine t_ef rfl (ef_call tf17 rfl (divert_Conflict_ok h32 (hm30.sl_call 1 rfl) (hm30.sl_call 2 rfl))) ?_
  rintro _ w35 ⟨e_, hm34⟩
  obtain rfl := e_.symm
  have hm36 := hm30.call hm34
  refine t_rd rfl (rd_move rfl) ?_
  refine t_rd rfl (rd_extract rfl rfl) ?_
  refine t_rd rfl (rd_extract rfl rfl) ?_
  refine t_rd rfl (rd_assign rfl) ?_
  refine t_rd rfl (rd_assign rfl) ?_
  refine rwt_nil ?_
  refine qn_then ?_
  refine cw_seq ?_
  refine cw_region ?_
  refine t_rd rfl (rd_move rfl) ?_
  refine t_rd rfl (rd_move rfl) ?_
  refine t_rd rfl (rd_move rfl) ?_
  refine t_rd rfl (rd_move rfl) ?_
  obtain ⟨r37, h38, q39⟩ := ob q33; clear q33
  refine t_ef rfl (ef_call tf15 rfl (divert_Choose_ok h38 (hm36.sl_call 1 rfl) (hm36.sl_call 2 rfl))) ?_
  rintro _ w41 ⟨e_, hm40⟩
  obtain rfl := e_.symm
  have hm42 := hm36.call hm40
  refine t_rd rfl (rd_move rfl) ?_
  refine t_rd rfl (rd_extract rfl rfl) ?_
  refine t_rd rfl (rd_extract rfl rfl) ?_
  refine t_rd rfl (rd_assign rfl) ?_
  refine t_rd rfl (rd_assign rfl) ?_
  refine rwt_nil ?_
  refine qn_then ?_
  refine cw_seq ?_
  refine cw_seq ?_
  refine cw_region ?_
  refine t_rd rfl (rd_move rfl) ?_
  refine t_rd rfl (rd_neq rfl rfl) ?_
  refine t_rd rfl (rd_move rfl) ?_
  refine t_rdg rfl rfl rfl rfl (gv_f _) (fun hg43 => (rd_move rfl)) ?_
  refine t_rdg rfl rfl rfl rfl (gv_f _) (fun hg44 => (rd_lss (gvx rfl hg44) rfl)) ?_
  refine t_rd rfl (rd_or rfl (fun hc45 => (gvx rfl (bnotIt hc45)))) ?_
  refine rwt_nil ?_
  refine qn_then ?_
  obtain ⟨hb46, q47⟩ | ⟨hb46, q47⟩ := oi q39 <;> clear q39
  · refine cw_t rfl hb46 ?_
    refine cw_seq ?_
    refine cw_region ?_
    refine t_rd rfl (rd_move rfl) ?_
    refine t_rd rfl (rd_eql rfl rfl) ?_
    refine t_rd rfl (rd_move rfl) ?_
    refine t_rdg rfl rfl rfl rfl (gv_t _) (fun hg48 => (rd_move rfl)) ?_
    refine t_rdg rfl rfl rfl rfl (gv_t _) (fun hg49 => (rd_eql (gvx rfl hg49) rfl)) ?_
    refine t_rd rfl (rd_and rfl (fun hc50 => (gvx rfl hc50))) ?_
    refine t_rd rfl (rd_move rfl) ?_
    obtain ⟨r52, h53, q54⟩ := ob q47; clear q47
    refine t_efg rfl rfl rfl rfl (R := (fun v w' => v = gV (decide (r31.2 = 0) && decide (r37.2 = 16)) (Value.bool r52) ∧ Mem w41 No [] w')) (gv_t _) (fun hg51 => (ef_call tf13 rfl (law31_sane_ok (gO_t h53 hg51))).mono (by rintro _ _ ⟨rfl, q⟩; exact ⟨(gV_t hg51).symm, q⟩)) (fun q => ⟨(gV_f q).symm, Mem.nil _⟩) ?_
    rintro _ w56 ⟨rfl, hm55⟩
    have hm57 := hm42.call hm55
    refine t_rd rfl (rd_and rfl (fun hc58 => (gvx rfl hc58))) ?_
    refine t_rd rfl (rd_assign rfl) ?_
    refine rwt_nil ?_
    refine qn_then ?_
    refine cw_ret ?_
    refine qr_then ?_
    obtain rfl := os q54
    exact ret1 rfl rfl ⟨rfl, (hm57.pick [] (by decide) rfl)⟩
  · refine cw_f rfl hb46 ?_
    refine cw_skip ?_
    refine qn_then ?_
    refine cw_seq ?_
    refine cw_seq ?_
    refine cw_region ?_
    refine t_rd rfl (rd_move rfl) ?_
    refine t_rd rfl (rd_eql rfl rfl) ?_
    refine rwt_nil ?_
    refine qn_then ?_
    obtain ⟨hb59, q60⟩ | ⟨hb59, q60⟩ := oi q47 <;> clear q47
    · refine cw_t rfl hb59 ?_
      refine cw_region ?_
      refine t_rd rfl (rd_assign rfl) ?_
      refine rwt_nil ?_
      refine qn_then ?_
      refine cw_seq ?_
      refine cw_seq ?_
      refine cw_region ?_
      refine t_rd rfl (rd_move rfl) ?_
      obtain ⟨x61, h62, q63⟩ := ob q60; clear q60
      refine t_rd rfl (rd_add64 h62 rfl rfl) ?_
      refine t_rd rfl (rd_assign rfl) ?_
      refine rwt_nil ?_
      refine qn_then ?_
      refine cw_block ?_
      obtain ⟨r206, hit207, q208⟩ := ob q63; clear q63
      refine cw_loop2 (I := fun q envq wq => Sub [(1, (Value.int .i64 r25)), (6, v11), (7, v12), (8, (Value.int .i64 r19.2)), (9, (Value.int .i64 r31.1)), (13, (Value.int .i64 q))] envq ∧ Mem w No [ownL 42 v11 (r8.2.1 : List T_Span), ownL 42 v12 (r8.2.2 : List T_Span)] wq) (X := fun eq envq wq => (∃ p209, r206 = (Sum.inl p209) ∧ eq = .ret ∧ retQ Try.prog 121 Try.f5 (fun u w' => u = (Value.bool p209) ∧ Mem w No [] w') .ret envq wq) ∨ (∃ p210, r206 = (Sum.inr p210) ∧ eq = .exit 0 ∧ Sub [] envq ∧ Mem w No [] wq)) hit207 ⟨(by repeat (first | exact Sub.nil _ | refine Sub.cons rfl ?_)), (hm42.pick [1, 2] (by decide) rfl)⟩ ?_ ?_
      · rintro i199 x201 env202 w203 hf204 hr205 ⟨hs_, hm_⟩
        have hs_ : Sub [(1, (Value.int .i64 r25)), (6, v11), (7, v12), (8, (Value.int .i64 r19.2)), (9, (Value.int .i64 r31.1)), (13, (Value.int .i64 i199))] env202 := hs_
        have hm211 : Mem w No [ownL 42 v11 (r8.2.1 : List T_Span), ownL 42 v12 (r8.2.2 : List T_Span)] w203 := hm_
        refine cw_sub hs_ ?_
        clear hs_ hm_ q208
        have h : law31_DivertLast_l1 N r8 r19 r25 r31 i199 = some x201 := hf204
        clear hf204
        refine cw_seq ?_
        refine cw_seq ?_
        refine cw_region ?_
        refine t_rd rfl (rd_move rfl) ?_
        refine t_rd rfl (rd_move rfl) ?_
        refine t_rd rfl (rd_lss rfl rfl) ?_
        refine rwt_nil ?_
        refine qn_then ?_
        obtain ⟨hb212, q213⟩ | ⟨hb212, q213⟩ := oi h <;> clear h
        · refine cw_t rfl hb212 ?_
          refine cw_skip ?_
          refine qn_then ?_
          refine cw_seq ?_
          refine cw_block ?_
          refine cw_seq ?_
          refine cw_region ?_
          refine t_rd rfl (rd_move rfl) ?_
          refine t_rd rfl (rd_move rfl) ?_
          refine t_rd rfl (rd_move rfl) ?_
          obtain ⟨x214, h215, q216⟩ := ob q213; clear q213
          refine t_rd rfl (rd_index tS23 rfl rfl (hm211.sl 1 rfl) h215) ?_
          refine t_rd rfl (rd_fld tF42_0 rfl) ?_
          refine t_rd rfl (rd_ld1 tO3 rfl ((hm211.sl 1 rfl).cells h215) (off := 0) rfl) ?_
          obtain ⟨r217, h218, q219⟩ := ob q216; clear q216
          refine t_ef rfl (ef_call tf18 rfl (r23_Find_ok h218 (hm211.sl_call 0 rfl))) ?_
          rintro _ w221 ⟨e_, hm220⟩
          obtain rfl := e_.symm
          have hm222 := hm211.call hm220
          refine t_rd rfl (rd_assign rfl) ?_
          refine rwt_nil ?_
          refine qn_then ?_
          refine cw_seq ?_
          obtain ⟨w224, he226⟩ : ∃ q, q = w221.drew := ⟨_, rfl⟩
          have hm225 := hm222.drew; rw [← he226] at hm225
          refine cw_region_s (fun q => q = w224) (cls [] []) mixed ?_
          rintro _ rfl; rw [← he226]
          refine s_rp (i := 0) rfl (by kernel_rfl) rfl (fun _ => (rd_move rfl)) ?_
          refine s_rp (i := 1) rfl (by kernel_rfl) rfl (fun _ => (rd_move rfl)) ?_
          obtain ⟨x227, h228, q229⟩ := ob q219; clear q219
          refine s_rp (i := 2) rfl (by kernel_rfl) rfl (fun _ => (rd_index tS23 rfl rfl (hm225.sl 1 rfl) h228)) ?_
          refine s_rp (i := 3) rfl (by kernel_rfl) rfl (fun _ => (rd_fld tF42_1 rfl)) ?_
          refine s_rd (i := 4) rfl (by kernel_rfl) rfl (fun _ hS => by rw [hS]; exact (rd_ld1 tO3 rfl ((hm225.sl 1 rfl).cells h228) (off := 1) rfl)) rfl ?_
          refine s_rp (i := 5) rfl (by kernel_rfl) rfl (fun _ => (rd_neq rfl rfl)) ?_
          refine s_rp (i := 6) rfl (by kernel_rfl) rfl (fun _ => (rd_move rfl)) ?_
          refine s_rpg (i := 7) rfl (by kernel_rfl) rfl rfl rfl rfl (gv_t _) (fun hg230 _ => (rd_move rfl)) ?_
          refine s_rpg (i := 8) rfl (by kernel_rfl) rfl rfl rfl rfl (gv_t _) (fun hg231 _ => (rd_move rfl)) ?_
          obtain ⟨x233, h234, q235⟩ := ob q229; clear q229
          refine s_rpg (i := 9) rfl (by kernel_rfl) rfl rfl rfl rfl (gv_t _) (fun hg232 _ => (rd_add64 (gO_t h234 hg232) (gvx rfl hg232) (gvx rfl hg232))) ?_
          refine s_rpg (i := 10) rfl (by kernel_rfl) rfl rfl rfl rfl (gv_t _) (fun hg236 _ => (rd_move rfl)) ?_
          refine s_rpg (i := 11) rfl (by kernel_rfl) rfl rfl rfl rfl (gv_t _) (fun hg237 _ => (rd_move rfl)) ?_
          obtain ⟨x239, h240, q241⟩ := ob q235; clear q235
          refine s_rpg (i := 12) rfl (by kernel_rfl) rfl rfl rfl rfl (gv_t _) (fun hg238 _ => (rd_index tS23 (gvx rfl hg238) (gvx rfl hg238) (hm225.sl 1 rfl) (gO_t h240 hg238))) ?_
          refine s_rpg (i := 13) rfl (by kernel_rfl) rfl rfl rfl rfl (gv_t _) (fun hg242 _ => (rd_fld tF42_2 (gvx rfl hg242))) ?_
          refine s_rdg (i := 14) rfl (by kernel_rfl) rfl rfl rfl rfl (gv_t _) (fun hg243 => (fun _ hS => by rw [hS]; exact (rd_ld1 tO3 (gvx rfl hg243) ((hm225.sl 1 rfl).cells (gO_t h240 hg243)) (off := 2) rfl))) rfl ?_
          refine s_rpg (i := 15) rfl (by kernel_rfl) rfl rfl rfl rfl (gv_t _) (fun hg244 _ => (rd_leq (gvx rfl hg244) (gvx rfl hg244))) ?_
          refine s_rp (i := 16) rfl (by kernel_rfl) rfl (fun _ => (rd_and rfl (fun hc245 => (gvx rfl hc245)))) ?_
          refine s_rp (i := 17) rfl (by kernel_rfl) rfl (fun _ => (rd_move rfl)) ?_
          refine s_rpg (i := 18) rfl (by kernel_rfl) rfl rfl rfl rfl (gv_t _) (fun hg246 _ => (rd_move rfl)) ?_
          refine s_rpg (i := 19) rfl (by kernel_rfl) rfl rfl rfl rfl (gv_t _) (fun hg247 _ => (rd_lss (gvx rfl hg247) rfl)) ?_
          refine s_rpg (i := 20) rfl (by kernel_rfl) rfl rfl rfl rfl (gv_t _) (fun hg248 _ => (rd_move (gvx rfl hg248))) ?_
          refine s_rpg (i := 21) rfl (by kernel_rfl) rfl rfl rfl rfl (gv_nf _ _) (fun hg249 _ => (rd_move rfl)) ?_
          refine s_rpg (i := 22) rfl (by kernel_rfl) rfl rfl rfl rfl (gv_nf _ _) (fun hg250 _ => (rd_move rfl)) ?_
          obtain ⟨x252, h253, q254⟩ := ob q241; clear q241
          refine s_rpg (i := 23) rfl (by kernel_rfl) rfl rfl rfl rfl (gv_nf _ _) (fun hg251 _ => (rd_index tS23 (gvx rfl hg251) (gvx rfl hg251) (hm225.sl 0 rfl) (gO_t h253 hg251))) ?_
          refine s_rpg (i := 24) rfl (by kernel_rfl) rfl rfl rfl rfl (gv_nf _ _) (fun hg255 _ => (rd_fld tF42_3 (gvx rfl hg255))) ?_
          refine s_rdg (i := 25) rfl (by kernel_rfl) rfl rfl rfl rfl (gv_nf _ _) (fun hg256 => (fun _ hS => by rw [hS]; exact (rd_ld1 tO3 (gvx rfl hg256) ((hm225.sl 0 rfl).cells (gO_t h253 hg256)) (off := 3) rfl))) rfl ?_
          refine s_rpg (i := 26) rfl (by kernel_rfl) rfl rfl rfl rfl (gv_nf _ _) (fun hg257 _ => (rd_move rfl)) ?_
          obtain ⟨x259, h260, q261⟩ := ob q254; clear q254
          refine s_rpg (i := 27) rfl (by kernel_rfl) rfl rfl rfl rfl (gv_nf _ _) (fun hg258 _ => (rd_add64 (gO_t h260 hg258) (gvx rfl hg258) (gvx rfl hg258))) ?_
          refine s_rpg (i := 28) rfl (by kernel_rfl) rfl rfl rfl rfl (gv_nf _ _) (fun hg262 _ => (rd_move rfl)) ?_
          refine s_rpg (i := 29) rfl (by kernel_rfl) rfl rfl rfl rfl (gv_nf _ _) (fun hg263 _ => (rd_move rfl)) ?_
          obtain ⟨x265, h266, q267⟩ := ob q261; clear q261
          refine s_rpg (i := 30) rfl (by kernel_rfl) rfl rfl rfl rfl (gv_nf _ _) (fun hg264 _ => (rd_index tS23 (gvx rfl hg264) (gvx rfl hg264) (hm225.sl 1 rfl) (gO_t h266 hg264))) ?_
          refine s_rpg (i := 31) rfl (by kernel_rfl) rfl rfl rfl rfl (gv_nf _ _) (fun hg268 _ => (rd_fld tF42_2 (gvx rfl hg268))) ?_
          refine s_rdg (i := 32) rfl (by kernel_rfl) rfl rfl rfl rfl (gv_nf _ _) (fun hg269 => (fun _ hS => by rw [hS]; exact (rd_ld1 tO3 (gvx rfl hg269) ((hm225.sl 1 rfl).cells (gO_t h266 hg269)) (off := 2) rfl))) rfl ?_
          refine s_rpg (i := 33) rfl (by kernel_rfl) rfl rfl rfl rfl (gv_nf _ _) (fun hg270 _ => (rd_leq (gvx rfl hg270) (gvx rfl hg270))) ?_
          refine s_rpg (i := 34) rfl (by kernel_rfl) rfl rfl rfl rfl (gv_t _) (fun hg271 _ => (rd_or (gvx rfl hg271) (fun hc272 => (gvx rfl (band hg271 (bnotIt hc272)))))) ?_
          refine s_rp (i := 35) rfl (by kernel_rfl) rfl (fun _ => (rd_and rfl (fun hc273 => (gvx rfl hc273)))) ?_
          refine s_nil (by kernel_rfl) ?_
          refine qn_then ?_
          obtain ⟨hb274, q275⟩ | ⟨hb274, q275⟩ := oi q267 <;> clear q267
          · refine cw_t rfl hb274 ?_
            refine cw_seq ?_
            refine cw_region ?_
            refine t_rd rfl (rd_assign rfl) ?_
            refine rwt_nil ?_
            refine qn_then ?_
            refine cw_ret ?_
            refine qr_block (qr_then (qr_then ?_))
            obtain rfl := hr205 _ (os q275)
            refine .inl (⟨_, rfl, ⟨rfl, ?_⟩⟩)
            exact ret1 rfl rfl ⟨rfl, (hm225.pick [] (by decide) rfl)⟩
          · refine cw_f rfl hb274 ?_
            refine cw_skip ?_
            refine qn_block (qn_then ?_)
            refine cw_region ?_
            refine t_rd rfl (rd_move rfl) ?_
            obtain ⟨x276, h277, q278⟩ := ob q275; clear q275
            refine t_rd rfl (rd_add64 h277 rfl rfl) ?_
            refine t_rd rfl (rd_assign rfl) ?_
            refine rwt_nil ?_
            refine qn_then ?_
            refine ⟨_, (os q278), (by repeat (first | exact Sub.nil _ | refine Sub.cons rfl ?_)), (hm225.pick [0, 1] (by decide) rfl)⟩
        · refine cw_f rfl hb212 ?_
          refine cw_exit ?_
          refine qx_then (qx_then ?_)
          obtain rfl := hr205 _ (os q213)
          exact .inr (⟨_, rfl, ⟨rfl, (by repeat (first | exact Sub.nil _ | refine Sub.cons rfl ?_)), (hm211.pick [] (by decide) rfl)⟩⟩)
      · skip
        intro e env279 w280 hX281
        rcases hX281 with hX281 | hX281
        · obtain ⟨p283, rfl, hX281⟩ := hX281
          obtain ⟨rfl, hq285⟩ := hX281
          exact qr_block (qr_then ((by have e := os q208; subst e; exact hq285)))
        · obtain ⟨p286, rfl, hX281⟩ := hX281
          obtain ⟨rfl, hs287, hm288⟩ := hX281
          refine qx_same (qn_then ?_)
          refine cw_sub hs287 ?_
          refine cw_seq ?_
          refine cw_region ?_
          obtain ⟨r289, h290, q291⟩ := ob q208; clear q208
          refine t_ef rfl (ef_call tf13 rfl (law31_sane_ok h290)) ?_
          rintro _ w293 ⟨e_, hm292⟩
          obtain rfl := e_.symm
          have hm294 := hm288.call hm292
          refine t_rd rfl (rd_assign rfl) ?_
          refine rwt_nil ?_
          refine qn_then ?_
          refine cw_ret ?_
          obtain rfl := os q291
          exact ret1 rfl rfl ⟨rfl, (hm294.pick [] (by decide) rfl)⟩
    · refine cw_f rfl hb59 ?_
      refine cw_seq ?_
      refine cw_region ?_
      refine t_rd rfl (rd_move rfl) ?_
      refine t_rd rfl (rd_neq rfl rfl) ?_
      refine t_rd rfl (rd_move rfl) ?_
      refine t_rdg rfl rfl rfl rfl (gv_f _) (fun hg295 => (rd_move rfl)) ?_
      refine t_rdg rfl rfl rfl rfl (gv_f _) (fun hg296 => (rd_lss (gvx rfl hg296) rfl)) ?_
      refine t_rd rfl (rd_or rfl (fun hc297 => (gvx rfl (bnotIt hc297)))) ?_
      refine t_rd rfl (rd_move rfl) ?_
      refine t_rdg rfl rfl rfl rfl (gv_f _) (fun hg298 => (rd_move rfl)) ?_
      refine t_rdg rfl rfl rfl rfl (gv_f _) (fun hg299 => (rd_move rfl)) ?_
      refine t_rdg rfl rfl rfl rfl (gv_f _) (fun hg300 => (rd_geq (gvx rfl hg300) (gvx rfl hg300))) ?_
      refine t_rd rfl (rd_or rfl (fun hc301 => (gvx rfl (bnotIt hc301)))) ?_
      refine rwt_nil ?_
      refine qn_then ?_
      obtain ⟨hb302, q303⟩ | ⟨hb302, q303⟩ := oi q60 <;> clear q60
      · refine cw_t rfl hb302 ?_
        refine cw_seq ?_
        refine cw_region ?_
        refine t_rd rfl (rd_assign rfl) ?_
        refine rwt_nil ?_
        refine qn_then ?_
        refine cw_ret ?_
        refine qr_then ?_
        obtain rfl := os q303
        exact ret1 rfl rfl ⟨rfl, (hm42.pick [] (by decide) rfl)⟩
      · refine cw_f rfl hb302 ?_
        refine cw_skip ?_
        refine qn_then ?_
        refine cw_seq ?_
        refine cw_seq ?_
        refine cw_region ?_
        refine t_rd rfl (rd_move rfl) ?_
        obtain ⟨x304, h305, q306⟩ := ob q303; clear q303
        refine t_rd rfl (rd_add64 h305 rfl rfl) ?_
        refine t_rd rfl (rd_assign rfl) ?_
        refine rwt_nil ?_
        refine qn_then ?_
        refine cw_block ?_
        obtain ⟨r449, hit450, q451⟩ := ob q306; clear q306
        refine cw_loop2 (I := fun q envq wq => Sub [(1, (Value.int .i64 r25)), (6, v11), (7, v12), (8, (Value.int .i64 r19.2)), (9, (Value.int .i64 r31.1)), (13, (Value.int .i64 q))] envq ∧ Mem w No [ownL 42 v11 (r8.2.1 : List T_Span), ownL 42 v12 (r8.2.2 : List T_Span)] wq) (X := fun eq envq wq => (∃ p452, r449 = (Sum.inl p452) ∧ eq = .ret ∧ retQ Try.prog 121 Try.f5 (fun u w' => u = (Value.bool p452) ∧ Mem w No [] w') .ret envq wq) ∨ (∃ p453, r449 = (Sum.inr p453) ∧ eq = .exit 0 ∧ Sub [] envq ∧ Mem w No [] wq)) hit450 ⟨(by repeat (first | exact Sub.nil _ | refine Sub.cons rfl ?_)), (hm42.pick [1, 2] (by decide) rfl)⟩ ?_ ?_
        · rintro i442 x444 env445 w446 hf447 hr448 ⟨hs_, hm_⟩
          have hs_ : Sub [(1, (Value.int .i64 r25)), (6, v11), (7, v12), (8, (Value.int .i64 r19.2)), (9, (Value.int .i64 r31.1)), (13, (Value.int .i64 i442))] env445 := hs_
          have hm454 : Mem w No [ownL 42 v11 (r8.2.1 : List T_Span), ownL 42 v12 (r8.2.2 : List T_Span)] w446 := hm_
          refine cw_sub hs_ ?_
          clear hs_ hm_ q451
          have h : law31_DivertLast_l2 N r8 r19 r25 r31 i442 = some x444 := hf447
          clear hf447
          refine cw_seq ?_
          refine cw_seq ?_
          refine cw_region ?_
          refine t_rd rfl (rd_move rfl) ?_
          refine t_rd rfl (rd_move rfl) ?_
          refine t_rd rfl (rd_lss rfl rfl) ?_
          refine rwt_nil ?_
          refine qn_then ?_
          obtain ⟨hb455, q456⟩ | ⟨hb455, q456⟩ := oi h <;> clear h
          · refine cw_t rfl hb455 ?_
            refine cw_skip ?_
            refine qn_then ?_
            refine cw_seq ?_
            refine cw_block ?_
            refine cw_seq ?_
            refine cw_region ?_
            refine t_rd rfl (rd_move rfl) ?_
            refine t_rd rfl (rd_move rfl) ?_
            refine t_rd rfl (rd_move rfl) ?_
            obtain ⟨x457, h458, q459⟩ := ob q456; clear q456
            refine t_rd rfl (rd_index tS23 rfl rfl (hm454.sl 1 rfl) h458) ?_
            refine t_rd rfl (rd_fld tF42_0 rfl) ?_
            refine t_rd rfl (rd_ld1 tO3 rfl ((hm454.sl 1 rfl).cells h458) (off := 0) rfl) ?_
            obtain ⟨r460, h461, q462⟩ := ob q459; clear q459
            refine t_ef rfl (ef_call tf18 rfl (r23_Find_ok h461 (hm454.sl_call 0 rfl))) ?_
            rintro _ w464 ⟨e_, hm463⟩
            obtain rfl := e_.symm
            have hm465 := hm454.call hm463
            refine t_rd rfl (rd_assign rfl) ?_
            refine rwt_nil ?_
            refine qn_then ?_
            refine cw_seq ?_
            obtain ⟨w467, he469⟩ : ∃ q, q = w464.drew := ⟨_, rfl⟩
            have hm468 := hm465.drew; rw [← he469] at hm468
            refine cw_region_s (fun q => q = w467) (cls [] []) mixed ?_
            rintro _ rfl; rw [← he469]
            refine s_rp (i := 0) rfl (by kernel_rfl) rfl (fun _ => (rd_move rfl)) ?_
            refine s_rp (i := 1) rfl (by kernel_rfl) rfl (fun _ => (rd_move rfl)) ?_
            obtain ⟨x470, h471, q472⟩ := ob q462; clear q462
            refine s_rp (i := 2) rfl (by kernel_rfl) rfl (fun _ => (rd_index tS23 rfl rfl (hm468.sl 1 rfl) h471)) ?_
            refine s_rp (i := 3) rfl (by kernel_rfl) rfl (fun _ => (rd_fld tF42_1 rfl)) ?_
            refine s_rd (i := 4) rfl (by kernel_rfl) rfl (fun _ hS => by rw [hS]; exact (rd_ld1 tO3 rfl ((hm468.sl 1 rfl).cells h471) (off := 1) rfl)) rfl ?_
            refine s_rp (i := 5) rfl (by kernel_rfl) rfl (fun _ => (rd_neq rfl rfl)) ?_
            refine s_rp (i := 6) rfl (by kernel_rfl) rfl (fun _ => (rd_move rfl)) ?_
            refine s_rpg (i := 7) rfl (by kernel_rfl) rfl rfl rfl rfl (gv_t _) (fun hg473 _ => (rd_move rfl)) ?_
            refine s_rpg (i := 8) rfl (by kernel_rfl) rfl rfl rfl rfl (gv_t _) (fun hg474 _ => (rd_move rfl)) ?_
            obtain ⟨x476, h477, q478⟩ := ob q472; clear q472
            refine s_rpg (i := 9) rfl (by kernel_rfl) rfl rfl rfl rfl (gv_t _) (fun hg475 _ => (rd_add64 (gO_t h477 hg475) (gvx rfl hg475) (gvx rfl hg475))) ?_
            refine s_rpg (i := 10) rfl (by kernel_rfl) rfl rfl rfl rfl (gv_t _) (fun hg479 _ => (rd_move rfl)) ?_
            refine s_rpg (i := 11) rfl (by kernel_rfl) rfl rfl rfl rfl (gv_t _) (fun hg480 _ => (rd_move rfl)) ?_
            obtain ⟨x482, h483, q484⟩ := ob q478; clear q478
            refine s_rpg (i := 12) rfl (by kernel_rfl) rfl rfl rfl rfl (gv_t _) (fun hg481 _ => (rd_index tS23 (gvx rfl hg481) (gvx rfl hg481) (hm468.sl 1 rfl) (gO_t h483 hg481))) ?_
            refine s_rpg (i := 13) rfl (by kernel_rfl) rfl rfl rfl rfl (gv_t _) (fun hg485 _ => (rd_fld tF42_2 (gvx rfl hg485))) ?_
            refine s_rdg (i := 14) rfl (by kernel_rfl) rfl rfl rfl rfl (gv_t _) (fun hg486 => (fun _ hS => by rw [hS]; exact (rd_ld1 tO3 (gvx rfl hg486) ((hm468.sl 1 rfl).cells (gO_t h483 hg486)) (off := 2) rfl))) rfl ?_
            refine s_rpg (i := 15) rfl (by kernel_rfl) rfl rfl rfl rfl (gv_t _) (fun hg487 _ => (rd_leq (gvx rfl hg487) (gvx rfl hg487))) ?_
            refine s_rp (i := 16) rfl (by kernel_rfl) rfl (fun _ => (rd_and rfl (fun hc488 => (gvx rfl hc488)))) ?_
            refine s_rp (i := 17) rfl (by kernel_rfl) rfl (fun _ => (rd_move rfl)) ?_
            refine s_rpg (i := 18) rfl (by kernel_rfl) rfl rfl rfl rfl (gv_t _) (fun hg489 _ => (rd_move rfl)) ?_
            refine s_rpg (i := 19) rfl (by kernel_rfl) rfl rfl rfl rfl (gv_t _) (fun hg490 _ => (rd_lss (gvx rfl hg490) rfl)) ?_
            refine s_rpg (i := 20) rfl (by kernel_rfl) rfl rfl rfl rfl (gv_t _) (fun hg491 _ => (rd_move (gvx rfl hg491))) ?_
            refine s_rpg (i := 21) rfl (by kernel_rfl) rfl rfl rfl rfl (gv_nf _ _) (fun hg492 _ => (rd_move rfl)) ?_
            refine s_rpg (i := 22) rfl (by kernel_rfl) rfl rfl rfl rfl (gv_nf _ _) (fun hg493 _ => (rd_move rfl)) ?_
            obtain ⟨x495, h496, q497⟩ := ob q484; clear q484
            refine s_rpg (i := 23) rfl (by kernel_rfl) rfl rfl rfl rfl (gv_nf _ _) (fun hg494 _ => (rd_index tS23 (gvx rfl hg494) (gvx rfl hg494) (hm468.sl 0 rfl) (gO_t h496 hg494))) ?_
            refine s_rpg (i := 24) rfl (by kernel_rfl) rfl rfl rfl rfl (gv_nf _ _) (fun hg498 _ => (rd_fld tF42_3 (gvx rfl hg498))) ?_
            refine s_rdg (i := 25) rfl (by kernel_rfl) rfl rfl rfl rfl (gv_nf _ _) (fun hg499 => (fun _ hS => by rw [hS]; exact (rd_ld1 tO3 (gvx rfl hg499) ((hm468.sl 0 rfl).cells (gO_t h496 hg499)) (off := 3) rfl))) rfl ?_
            refine s_rpg (i := 26) rfl (by kernel_rfl) rfl rfl rfl rfl (gv_nf _ _) (fun hg500 _ => (rd_move rfl)) ?_
            obtain ⟨x502, h503, q504⟩ := ob q497; clear q497
            refine s_rpg (i := 27) rfl (by kernel_rfl) rfl rfl rfl rfl (gv_nf _ _) (fun hg501 _ => (rd_add64 (gO_t h503 hg501) (gvx rfl hg501) (gvx rfl hg501))) ?_
            refine s_rpg (i := 28) rfl (by kernel_rfl) rfl rfl rfl rfl (gv_nf _ _) (fun hg505 _ => (rd_move rfl)) ?_
            refine s_rpg (i := 29) rfl (by kernel_rfl) rfl rfl rfl rfl (gv_nf _ _) (fun hg506 _ => (rd_move rfl)) ?_
            obtain ⟨x508, h509, q510⟩ := ob q504; clear q504
            refine s_rpg (i := 30) rfl (by kernel_rfl) rfl rfl rfl rfl (gv_nf _ _) (fun hg507 _ => (rd_index tS23 (gvx rfl hg507) (gvx rfl hg507) (hm468.sl 1 rfl) (gO_t h509 hg507))) ?_
            refine s_rpg (i := 31) rfl (by kernel_rfl) rfl rfl rfl rfl (gv_nf _ _) (fun hg511 _ => (rd_fld tF42_2 (gvx rfl hg511))) ?_
            refine s_rdg (i := 32) rfl (by kernel_rfl) rfl rfl rfl rfl (gv_nf _ _) (fun hg512 => (fun _ hS => by rw [hS]; exact (rd_ld1 tO3 (gvx rfl hg512) ((hm468.sl 1 rfl).cells (gO_t h509 hg512)) (off := 2) rfl))) rfl ?_
            refine s_rpg (i := 33) rfl (by kernel_rfl) rfl rfl rfl rfl (gv_nf _ _) (fun hg513 _ => (rd_leq (gvx rfl hg513) (gvx rfl hg513))) ?_
            refine s_rpg (i := 34) rfl (by kernel_rfl) rfl rfl rfl rfl (gv_t _) (fun hg514 _ => (rd_or (gvx rfl hg514) (fun hc515 => (gvx rfl (band hg514 (bnotIt hc515)))))) ?_
            refine s_rp (i := 35) rfl (by kernel_rfl) rfl (fun _ => (rd_and rfl (fun hc516 => (gvx rfl hc516)))) ?_
            refine s_nil (by kernel_rfl) ?_
            refine qn_then ?_
            obtain ⟨hb517, q518⟩ | ⟨hb517, q518⟩ := oi q510 <;> clear q510
            · refine cw_t rfl hb517 ?_
              refine cw_seq ?_
              refine cw_region ?_
              refine t_rd rfl (rd_assign rfl) ?_
              refine rwt_nil ?_
              refine qn_then ?_
              refine cw_ret ?_
              refine qr_block (qr_then (qr_then ?_))
              obtain rfl := hr448 _ (os q518)
              refine .inl (⟨_, rfl, ⟨rfl, ?_⟩⟩)
              exact ret1 rfl rfl ⟨rfl, (hm468.pick [] (by decide) rfl)⟩
            · refine cw_f rfl hb517 ?_
              refine cw_skip ?_
              refine qn_block (qn_then ?_)
              refine cw_region ?_
              refine t_rd rfl (rd_move rfl) ?_
              obtain ⟨x519, h520, q521⟩ := ob q518; clear q518
              refine t_rd rfl (rd_add64 h520 rfl rfl) ?_
              refine t_rd rfl (rd_assign rfl) ?_
              refine rwt_nil ?_
              refine qn_then ?_
              refine ⟨_, (os q521), (by repeat (first | exact Sub.nil _ | refine Sub.cons rfl ?_)), (hm468.pick [0, 1] (by decide) rfl)⟩
          · refine cw_f rfl hb455 ?_
            refine cw_exit ?_
            refine qx_then (qx_then ?_)
            obtain rfl := hr448 _ (os q456)
            exact .inr (⟨_, rfl, ⟨rfl, (by repeat (first | exact Sub.nil _ | refine Sub.cons rfl ?_)), (hm454.pick [] (by decide) rfl)⟩⟩)
        · skip
          intro e env522 w523 hX524
          rcases hX524 with hX524 | hX524
          · obtain ⟨p526, rfl, hX524⟩ := hX524
            obtain ⟨rfl, hq528⟩ := hX524
            exact qr_block (qr_then ((by have e := os q451; subst e; exact hq528)))
          · obtain ⟨p529, rfl, hX524⟩ := hX524
            obtain ⟨rfl, hs530, hm531⟩ := hX524
            refine qx_same (qn_then ?_)
            refine cw_sub hs530 ?_
            refine cw_seq ?_
            refine cw_region ?_
            obtain ⟨r532, h533, q534⟩ := ob q451; clear q451
            refine t_ef rfl (ef_call tf13 rfl (law31_sane_ok h533)) ?_
            rintro _ w536 ⟨e_, hm535⟩
            obtain rfl := e_.symm
            have hm537 := hm531.call hm535
            refine t_rd rfl (rd_assign rfl) ?_
            refine rwt_nil ?_
            refine qn_then ?_
            refine cw_ret ?_
            obtain rfl := os q534
            exact ret1 rfl rfl ⟨rfl, (hm537.pick [] (by decide) rfl)⟩

theorem r23_gap_ok {N : Nat} {a0 : List T_Span} {a1 : List T_Span} {a2 : Int} {res : Int × Int} (h : r23_gap N a0 a1 a2 = some res) {w : World} {v0 : Value} {v1 : Value} (hv0 : Sl (Old w No) w v0 a0) (hv1 : Sl (Old w No) w v1 a1) :
    CallsR Try.prog 29 [v0, v1, (Value.int .i64 a2)] w (fun u w' => u = (Value.tuple #[(Value.int .i64 res.1), (Value.int .i64 res.2)]) ∧ Mem w No [] w') := by
  unfold r23_gap at h
  refine fn_ok Try.func29 rfl rfl rfl ?_
  have hm0 := Mem.nil w
  refine cw_seq ?_
  refine cw_region ?_
  refine t_rd rfl (rd_assign rfl) ?_
  refine t_rd rfl (rd_assign rfl) ?_
  refine rwt_nil ?_
  refine qn_then ?_
  refine cw_seq ?_
  refine cw_region ?_
  refine t_rd rfl (rd_assign rfl) ?_
  refine rwt_nil ?_
  refine qn_then ?_
  refine cw_seq ?_
  refine cw_seq ?_
  refine cw_region ?_
  refine t_rd rfl (rd_assign rfl) ?_
  refine rwt_nil ?_
  refine qn_then ?_
  refine cw_block ?_
  obtain ⟨r140, hit141, q142⟩ := ob h; clear h
  refine cw_loop2 (I := fun q envq wq => Sub [(0, v0), (1, v1), (2, (Value.int .i64 a2)), (8, (Value.int .i64 q.1)), (9, (Value.int .i64 q.2))] envq ∧ Mem w No [] wq) (X := fun eq envq wq => (∃ p143, r140 = (Sum.inl p143) ∧ eq = .ret ∧ retQ Try.prog 51 Try.f29 (fun u w' => u = (Value.tuple #[(Value.int .i64 p143.1), (Value.int .i64 p143.2)]) ∧ Mem w No [] w') .ret envq wq) ∨ (∃ p144, r140 = (Sum.inr p144) ∧ eq = .exit 0 ∧ Sub [(8, (Value.int .i64 p144))] envq ∧ Mem w No [] wq)) hit141 ⟨(by repeat (first | exact Sub.nil _ | refine Sub.cons rfl ?_)), (hm0.pick [] (by decide) rfl)⟩ ?_ ?_
  · rintro ⟨i132, i133⟩ x135 env136 w137 hf138 hr139 ⟨hs_, hm_⟩
    have hs_ : Sub [(0, v0), (1, v1), (2, (Value.int .i64 a2)), (8, (Value.int .i64 i132)), (9, (Value.int .i64 i133))] env136 := hs_
    have hm145 : Mem w No [] w137 := hm_
    refine cw_sub hs_ ?_
    clear hs_ hm_ q142
    have h : r23_gap_l1 N a0 a1 a2 i132 i133 = some x135 := hf138
    clear hf138
    refine cw_seq ?_
    refine cw_seq ?_
    refine cw_region ?_
    refine t_rd rfl (rd_move rfl) ?_
    refine t_rd rfl (rd_move rfl) ?_
    refine t_rd rfl (rd_lenS tS23 rfl (hv1.of_old hm145)) ?_
    refine t_rd rfl (rd_lss rfl rfl) ?_
    refine rwt_nil ?_
    refine qn_then ?_
    obtain ⟨hb146, q147⟩ | ⟨hb146, q147⟩ := oi h <;> clear h
    · refine cw_t rfl hb146 ?_
      refine cw_skip ?_
      refine qn_then ?_
      refine cw_seq ?_
      refine cw_block ?_
      refine cw_seq ?_
      refine cw_region ?_
      refine t_rd rfl (rd_move rfl) ?_
      refine t_rd rfl (rd_move rfl) ?_
      refine t_rd rfl (rd_move rfl) ?_
      obtain ⟨x148, h149, q150⟩ := ob q147; clear q147
      refine t_rd rfl (rd_index tS23 rfl rfl (hv1.of_old hm145) h149) ?_
      refine t_rd rfl (rd_fld tF42_0 rfl) ?_
      refine t_rd rfl (rd_ld1 tO3 rfl ((hv1.of_old hm145).cells h149) (off := 0) rfl) ?_
      obtain ⟨r151, h152, q153⟩ := ob q150; clear q150
      refine t_ef rfl (ef_call tf18 rfl (r23_Find_ok h152 (hv0.to_call hm145))) ?_
      rintro _ w155 ⟨e_, hm154⟩
      obtain rfl := e_.symm
      have hm156 := hm145.call hm154
      refine t_rd rfl (rd_assign rfl) ?_
      refine rwt_nil ?_
      refine qn_then ?_
      refine cw_seq ?_
      refine cw_seq ?_
      refine cw_region ?_
      refine t_rd rfl (rd_move rfl) ?_
      refine t_rd rfl (rd_lss rfl rfl) ?_
      refine rwt_nil ?_
      refine qn_then ?_
      obtain ⟨hb157, q158⟩ | ⟨hb157, q158⟩ := oi q153 <;> clear q153
      · refine cw_t rfl hb157 ?_
        refine cw_exit ?_
        refine qx_then (qx_same (qn_then ?_))
        refine cw_region ?_
        refine t_rd rfl (rd_move rfl) ?_
        obtain ⟨x159, h160, q161⟩ := ob q158; clear q158
        refine t_rd rfl (rd_add64 h160 rfl rfl) ?_
        refine t_rd rfl (rd_assign rfl) ?_
        refine rwt_nil ?_
        refine qn_then ?_
        refine ⟨_, (os q161), (by repeat (first | exact Sub.nil _ | refine Sub.cons rfl ?_)), (hm156.pick [] (by decide) rfl)⟩
      · refine cw_f rfl hb157 ?_
        refine cw_skip ?_
        refine qn_then ?_
        refine cw_seq ?_
        refine cw_seq ?_
        refine cw_region ?_
        refine t_rd rfl (rd_move rfl) ?_
        refine t_rd rfl (rd_move rfl) ?_
        obtain ⟨x162, h163, q164⟩ := ob q158; clear q158
        refine t_rd rfl (rd_index tS23 rfl rfl (hv0.of_old hm156) h163) ?_
        refine t_rd rfl (rd_fld tF42_3 rfl) ?_
        refine t_rd rfl (rd_ld1 tO3 rfl ((hv0.of_old hm156).cells h163) (off := 3) rfl) ?_
        refine t_rd rfl (rd_eql rfl rfl) ?_
        refine rwt_nil ?_
        refine qn_then ?_
        obtain ⟨hb165, q166⟩ | ⟨hb165, q166⟩ := oi q164 <;> clear q164
        · refine cw_t rfl hb165 ?_
          refine cw_seq ?_
          refine cw_region ?_
          refine t_rd rfl (rd_assign rfl) ?_
          refine t_rd rfl (rd_assign rfl) ?_
          refine rwt_nil ?_
          refine qn_then ?_
          refine cw_ret ?_
          refine qr_then (qr_block (qr_then (qr_then ?_)))
          obtain rfl := hr139 _ (os q166)
          refine .inl (⟨_, rfl, ⟨rfl, ?_⟩⟩)
          exact ret2 rfl rfl rfl ⟨rfl, (hm156.pick [] (by decide) rfl)⟩
        · refine cw_f rfl hb165 ?_
          refine cw_skip ?_
          refine qn_then ?_
          obtain ⟨w168, he170⟩ : ∃ q, q = w155.drew := ⟨_, rfl⟩
          have hm169 := hm156.drew; rw [← he170] at hm169
          refine cw_region_s (fun q => Sl (Old w No) q v0 a0 ∧ Sl (Old w No) q v1 a1) (cls [10] []) mixed ?_
          rintro _ rfl; rw [← he170]
          refine s_rp (i := 0) rfl (by kernel_rfl) rfl (fun _ => (rd_move rfl)) ?_
          refine s_rp (i := 1) rfl (by kernel_rfl) rfl (fun _ => (rd_move rfl)) ?_
          refine s_rp (i := 2) rfl (by kernel_rfl) rfl (fun _ => (rd_move rfl)) ?_
          obtain ⟨x189, h190, q191⟩ := ob q166; clear q166
          refine s_rp (i := 3) rfl (by kernel_rfl) rfl (fun _ => (rd_index tS23 rfl rfl (hv0.of_old hm169) h190)) ?_
          refine s_rd (i := 4) rfl (by kernel_rfl) rfl (fun w167 hS => (rd_ld tA42 rfl (hS.1.cells h190) rfl)) ⟨(hv0.of_old hm169), (hv1.of_old hm169)⟩ ?_
          refine s_rp (i := 5) rfl (by kernel_rfl) rfl (fun _ => (rd_move rfl)) ?_
          refine s_rp (i := 6) rfl (by kernel_rfl) rfl (fun _ => (rd_move rfl)) ?_
          obtain ⟨x192, h193, q194⟩ := ob q191; clear q191
          refine s_rp (i := 7) rfl (by kernel_rfl) rfl (fun _ => (rd_index tS23 rfl rfl (hv1.of_old hm169) h193)) ?_
          refine s_rd (i := 8) rfl (by kernel_rfl) rfl (fun w167 hS => (rd_ld tA42 rfl (hS.2.cells h193) rfl)) ⟨(hv0.of_old hm169), (hv1.of_old hm169)⟩ ?_
          refine s_rp (i := 9) rfl (by kernel_rfl) rfl (fun _ => (rd_move rfl)) ?_
          refine s_rp (i := 11) rfl (by kernel_rfl) rfl (fun _ => (rd_move rfl)) ?_
          refine s_rp (i := 12) rfl (by kernel_rfl) rfl (fun _ => (rd_move rfl)) ?_
          obtain ⟨x195, h196, q197⟩ := ob q194; clear q194
          refine s_rp (i := 13) rfl (by kernel_rfl) rfl (fun _ => (rd_index tS23 rfl rfl (hv1.of_old hm169) h196)) ?_
          refine s_rp (i := 14) rfl (by kernel_rfl) rfl (fun _ => (rd_fld tF42_2 rfl)) ?_
          refine s_rd (i := 15) rfl (by kernel_rfl) rfl (fun w167 hS => (rd_ld1 tO3 rfl (hS.2.cells h196) (off := 2) rfl)) ⟨(hv0.of_old hm169), (hv1.of_old hm169)⟩ ?_
          obtain ⟨r198, h199, q200⟩ := ob q197; clear q197
          refine s_ef (i := 10) rfl (by kernel_rfl) rfl (ef_call tf34 rfl (r23_After_ok h199)) (by decide) ?_ ?_
          · rintro _ w202 ⟨e_, hm201⟩
            obtain rfl := e_.symm
            have hm203 := hm169.call hm201
            intro _
            exact ⟨(hv0.of_old hm203), (hv1.of_old hm203)⟩
          rintro _ w202 ⟨e_, hm201⟩
          obtain rfl := e_.symm
          have hm203 := hm169.call hm201
          obtain ⟨x204, h205, q206⟩ := ob q200; clear q200
          refine s_rp (i := 16) rfl (by kernel_rfl) rfl (fun _ => (rd_sub64 h205 rfl rfl)) ?_
          refine s_rp (i := 17) rfl (by kernel_rfl) rfl (fun _ => (rd_max rfl rfl)) ?_
          refine s_rp (i := 18) rfl (by kernel_rfl) rfl (fun _ => (rd_assign rfl)) ?_
          refine s_nil (by kernel_rfl) ?_
          refine qn_block (qn_then ?_)
          refine cw_region ?_
          refine t_rd rfl (rd_move rfl) ?_
          obtain ⟨x207, h208, q209⟩ := ob q206; clear q206
          refine t_rd rfl (rd_add64 h208 rfl rfl) ?_
          refine t_rd rfl (rd_assign rfl) ?_
          refine rwt_nil ?_
          refine qn_then ?_
          refine ⟨_, (os q209), (by repeat (first | exact Sub.nil _ | refine Sub.cons rfl ?_)), (hm203.pick [] (by decide) rfl)⟩
    · refine cw_f rfl hb146 ?_
      refine cw_exit ?_
      refine qx_then (qx_then ?_)
      obtain rfl := hr139 _ (os q147)
      exact .inr (⟨_, rfl, ⟨rfl, (by repeat (first | exact Sub.nil _ | refine Sub.cons rfl ?_)), (hm145.pick [] (by decide) rfl)⟩⟩)
  · skip
    intro e env210 w211 hX212
    rcases hX212 with hX212 | hX212
    · obtain ⟨p214, rfl, hX212⟩ := hX212
      obtain ⟨rfl, hq216⟩ := hX212
      exact qr_block (qr_then ((by have e := os q142; subst e; exact hq216)))
    · obtain ⟨p217, rfl, hX212⟩ := hX212
      obtain ⟨rfl, hs218, hm219⟩ := hX212
      refine qx_same (qn_then ?_)
      refine cw_sub hs218 ?_
      refine cw_seq ?_
      refine cw_region ?_
      refine t_rd rfl (rd_move rfl) ?_
      refine t_rd rfl (rd_assign rfl) ?_
      refine t_rd rfl (rd_assign rfl) ?_
      refine rwt_nil ?_
      refine qn_then ?_
      refine cw_ret ?_
      obtain rfl := os q142
      exact ret2 rfl rfl rfl ⟨rfl, (hm219.pick [] (by decide) rfl)⟩

theorem r23_Gap_ok {N : Nat} {a0 : List T_Span} {a1 : List T_Span} {a2 : Int} {res : Int × Int} (h : r23_Gap N a0 a1 a2 = some res) {w : World} {v0 : Value} {v1 : Value} (hv0 : Sl (Old w No) w v0 a0) (hv1 : Sl (Old w No) w v1 a1) :
    CallsR Try.prog 19 [v0, v1, (Value.int .i64 a2)] w (fun u w' => u = (Value.tuple #[(Value.int .i64 res.1), (Value.int .i64 res.2)]) ∧ Mem w No [] w') := by
  unfold r23_Gap at h
  refine fn_ok Try.func19 rfl rfl rfl ?_
  have hm0 := Mem.nil w
  refine cw_seq ?_
  refine cw_region ?_
  refine t_rd rfl (rd_assign rfl) ?_
  refine t_rd rfl (rd_assign rfl) ?_
  refine rwt_nil ?_
  refine qn_then ?_
  refine cw_seq ?_
  refine cw_seq ?_
  refine cw_region ?_
  refine t_rd rfl (rd_move rfl) ?_
  obtain ⟨r1, h2, q3⟩ := ob h; clear h
  refine t_ef rfl (ef_call tf28 rfl (r23_Valid_ok h2 (hv0.to_call hm0))) ?_
  rintro _ w5 ⟨e_, hm4⟩
  obtain rfl := e_.symm
  have hm6 := hm0.call hm4
  refine t_rd rfl (rd_not rfl) ?_
  refine t_rd rfl (rd_move rfl) ?_
  refine t_rdg rfl rfl rfl rfl (gv_f _) (fun hg7 => (rd_move rfl)) ?_
  obtain ⟨r9, h10, q11⟩ := ob q3; clear q3
  refine t_efg rfl rfl rfl rfl (R := (fun v w' => v = gV (!(!r1)) (Value.bool r9) ∧ Mem w5 No [] w')) (gv_f _) (fun hg8 => (ef_call tf28 (evc (gvx rfl hg8) evn) (r23_Valid_ok (gO_t h10 hg8) (hv1.to_call hm6))).mono (by rintro _ _ ⟨rfl, q⟩; exact ⟨(gV_t hg8).symm, q⟩)) (fun q => ⟨(gV_f q).symm, Mem.nil _⟩) ?_
  rintro _ w13 ⟨rfl, hm12⟩
  have hm14 := hm6.call hm12
  refine t_rdg rfl rfl rfl rfl (gv_f _) (fun hg15 => (rd_not (gvx rfl hg15))) ?_
  refine t_rd rfl (rd_or rfl (fun hc16 => (gvx rfl (bnotIt hc16)))) ?_
  refine t_rd rfl (rd_move rfl) ?_
  refine t_rdg rfl rfl rfl rfl (gv_f _) (fun hg17 => (rd_move rfl)) ?_
  refine t_rdg rfl rfl rfl rfl (gv_f _) (fun hg18 => (rd_lss (gvx rfl hg18) rfl)) ?_
  refine t_rd rfl (rd_or rfl (fun hc19 => (gvx rfl (bnotIt hc19)))) ?_
  refine t_rd rfl (rd_move rfl) ?_
  refine t_rdg rfl rfl rfl rfl (gv_f _) (fun hg20 => (rd_move rfl)) ?_
  refine t_rdg rfl rfl rfl rfl (gv_f _) (fun hg21 => (rd_gtr (gvx rfl hg21) rfl)) ?_
  refine t_rd rfl (rd_or rfl (fun hc22 => (gvx rfl (bnotIt hc22)))) ?_
  refine rwt_nil ?_
  refine qn_then ?_
  obtain ⟨hb23, q24⟩ | ⟨hb23, q24⟩ := oi q11 <;> clear q11
  · refine cw_t rfl hb23 ?_
    refine cw_seq ?_
    refine cw_region ?_
    refine t_rd rfl (rd_assign rfl) ?_
    refine t_rd rfl (rd_assign rfl) ?_
    refine rwt_nil ?_
    refine qn_then ?_
    refine cw_ret ?_
    refine qr_then ?_
    obtain rfl := os q24
    exact ret2 rfl rfl rfl ⟨rfl, (hm14.pick [] (by decide) rfl)⟩
  · refine cw_f rfl hb23 ?_
    refine cw_skip ?_
    refine qn_then ?_
    refine cw_seq ?_
    refine cw_region ?_
    refine t_rd rfl (rd_move rfl) ?_
    refine t_rd rfl (rd_move rfl) ?_
    refine t_rd rfl (rd_move rfl) ?_
    obtain ⟨r25, h26, q27⟩ := ob q24; clear q24
    refine t_ef rfl (ef_call tf29 rfl (r23_gap_ok h26 (hv0.to_call hm14) (hv1.to_call hm14))) ?_
    rintro _ w29 ⟨e_, hm28⟩
    obtain rfl := e_.symm
    have hm30 := hm14.call hm28
    refine t_rd rfl (rd_extract rfl rfl) ?_
    refine t_rd rfl (rd_extract rfl rfl) ?_
    refine t_rd rfl (rd_assign rfl) ?_
    refine t_rd rfl (rd_assign rfl) ?_
    refine rwt_nil ?_
    refine qn_then ?_
    refine cw_ret ?_
    obtain rfl := os q27
    exact ret2 rfl rfl rfl ⟨rfl, (hm30.pick [] (by decide) rfl)⟩

theorem law31_DivertAgrees_ok {N : Nat} {a0 : List Int} {a1 : Int} {res : Bool} (h : law31_DivertAgrees N a0 a1 = some res) {w : World} {v0 : Value} (hv0 : Sl (Old w No) w v0 a0) :
    CallsR Try.prog 6 [v0, (Value.int .i64 a1)] w (fun u w' => u = (Value.bool res) ∧ Mem w No [] w') := by
  unfold law31_DivertAgrees at h
  refine fn_ok Try.func6 rfl rfl rfl ?_
  have hm0 := Mem.nil w
  refine cw_seq ?_
  refine cw_region ?_
  refine t_rd rfl (rd_assign rfl) ?_
  refine rwt_nil ?_
  refine qn_then ?_
  refine cw_seq ?_
  refine cw_region ?_
  refine t_rd rfl (rd_move rfl) ?_
  obtain ⟨r1, h2, q3⟩ := ob h; clear h
  refine t_ef rfl (ef_call tf7 rfl (humpgen_New_ok h2 (hv0.to_call hm0))) ?_
  rintro _ w6 ⟨g4, e_, hm5⟩
  obtain rfl := e_.symm
  have hm7 := hm0.call hm5
  refine t_rd rfl (rd_assign rfl) ?_
  refine rwt_nil ?_
  refine qn_then ?_
  refine cw_seq ?_
  refine cw_region ?_
  refine t_rd rfl (rd_move rfl) ?_
  obtain ⟨r8, h9, q10⟩ := ob q3; clear q3
  refine t_ef rfl (ef_call tf8 rfl (law31_pair_ok h9 (hv0.to_callT (k := 0) hm7 rfl) (hm7.get (k := 0) rfl))) ?_
  rintro _ w14 ⟨v11, v12, e_, hm13⟩
  obtain rfl := e_.symm
  have hm15 := hm7.callT (k := 0) rfl (fun _ h => h) hm13 (fun _ => Iff.rfl)
  refine t_rd rfl (rd_move rfl) ?_
  refine t_rd rfl (rd_extract rfl rfl) ?_
  refine t_rd rfl (rd_extract rfl rfl) ?_
  refine t_rd rfl (rd_assign rfl) ?_
  refine t_rd rfl (rd_assign rfl) ?_
  refine rwt_nil ?_
  refine qn_then ?_
  refine cw_seq ?_
  refine cw_region ?_
  refine t_rd rfl (rd_move rfl) ?_
  refine t_ef rfl (ef_bslice (l := ([0, 800, 2500] : List Int)) hm15 tS22 rfl (cs := #[(Value.int .i64 0), (Value.int .i64 800), (Value.int .i64 2500)]) (by unfold bsl; kernel_rfl) rfl rfl) ?_
  intro v16 w18 hm17
  obtain ⟨r19, h20, q21⟩ := ob q10; clear q10
  refine t_ef rfl (ef_call tf11 rfl (Maker_Pick_ok h20 (hv0.to_callT (k := 3) hm17 rfl) (hm17.get (k := 3) rfl) (hm17.sl_callT 0 3 rfl rfl (by decide)))) ?_
  rintro _ w23 ⟨e_, hm22⟩
  obtain rfl := e_.symm
  have hm24 := hm17.callT (k := 3) rfl (fun _ h => h) hm22 (fun _ => Iff.rfl)
  refine t_rd rfl (rd_assign rfl) ?_
  refine rwt_nil ?_
  refine qn_then ?_
  refine cw_seq ?_
  refine cw_region ?_
  refine t_rd rfl (rd_move rfl) ?_
  refine t_rd rfl (rd_move rfl) ?_
  refine t_rd rfl (rd_move rfl) ?_
  obtain ⟨r25, h26, q27⟩ := ob q21; clear q21
  refine t_ef rfl (ef_call tf19 rfl (r23_Gap_ok h26 (hm24.sl_call 1 rfl) (hm24.sl_call 2 rfl))) ?_
  rintro _ w29 ⟨e_, hm28⟩
  obtain rfl := e_.symm
  have hm30 := hm24.call hm28
  refine t_rd rfl (rd_move rfl) ?_
  refine t_rd rfl (rd_extract rfl rfl) ?_
  refine t_rd rfl (rd_extract rfl rfl) ?_
  refine t_rd rfl (rd_assign rfl) ?_
  refine t_rd rfl (rd_assign rfl) ?_
  refine rwt_nil ?_
  refine qn_then ?_
  refine cw_seq ?_
  refine cw_region ?_
  refine t_rd rfl (rd_move rfl) ?_
  obtain ⟨r31, h32, q33⟩ := ob q27; clear q27
  refine t_ef rfl (ef_call tf14 rfl (yardgen_Place_ok h32)) ?_
  rintro _ w35 ⟨e_, hm34⟩
  obtain rfl := e_.symm
  have hm36 := hm30.call hm34
  refine t_rd rfl (rd_assign rfl) ?_
  refine rwt_nil ?_
  refine qn_then ?_
  refine cw_seq ?_
  refine cw_region ?_
  refine t_ef rfl (ef_bslice0 (α := T_Span) hm36 tS23) ?_
  intro v37 w39 hm38
  refine t_rd rfl (rd_move rfl) ?_
  obtain ⟨l40, h41, q42⟩ := ob q33; clear q33
  refine t_ef rfl (ef_append (k := 0) hm38 tS23 tE42 rfl rfl rfl rfl (hm38.sl 3 rfl) h41) ?_
  intro v43 w45 hm44
  refine t_rd rfl (rd_assign rfl) ?_
  refine rwt_nil ?_
  refine qn_then ?_
  refine cw_seq ?_
  refine cw_seq ?_
  refine cw_region ?_
  refine t_rd rfl (rd_assign rfl) ?_
  refine rwt_nil ?_
  refine qn_then ?_
  refine cw_block ?_
  obtain ⟨r122, hit123, q124⟩ := ob q42; clear q42
  refine cw_loop2 (I := fun q envq wq => ∃ (v115 : Value), Sub [(1, (Value.int .i64 r31)), (6, v11), (8, (Value.int .i64 r19.2)), (9, (Value.int .i64 r25.1)), (10, (Value.int .i64 r25.2)), (11, v115), (12, (Value.int .i64 q.1))] envq ∧ Mem w No [ownL 42 v115 (q.2 : List T_Span), ownL 42 v11 (r8.2.1 : List T_Span)] wq) (X := fun eq envq wq => eq = .exit 0 ∧ ∃ (v112 : Value), Sub [(1, (Value.int .i64 r31)), (6, v11), (8, (Value.int .i64 r19.2)), (9, (Value.int .i64 r25.1)), (10, (Value.int .i64 r25.2)), (11, v112)] envq ∧ Mem w No [ownL 42 v112 (r122 : List T_Span), ownL 42 v11 (r8.2.1 : List T_Span)] wq) hit123 ⟨v43, (by repeat (first | exact Sub.nil _ | refine Sub.cons rfl ?_)), (hm44.pick [0, 2] (by decide) rfl)⟩ ?_ ?_
  · rintro ⟨i113, l114⟩ x117 env118 w119 hf120 hr121 ⟨v115, hs_, hm_⟩
    have hs_ : Sub [(1, (Value.int .i64 r31)), (6, v11), (8, (Value.int .i64 r19.2)), (9, (Value.int .i64 r25.1)), (10, (Value.int .i64 r25.2)), (11, v115), (12, (Value.int .i64 i113))] env118 := hs_
    have hm125 : Mem w No [ownL 42 v115 (l114 : List T_Span), ownL 42 v11 (r8.2.1 : List T_Span)] w119 := hm_
    refine cw_sub hs_ ?_
    clear hs_ hm_ q124
    have h : law31_DivertAgrees_l1 N r31 i113 l114 = some x117 := hf120
    clear hf120
    refine cw_seq ?_
    refine cw_seq ?_
    refine cw_region ?_
    refine t_rd rfl (rd_move rfl) ?_
    refine t_rd rfl (rd_move rfl) ?_
    refine t_rd rfl (rd_lenS tS23 rfl (hm125.sl 0 rfl)) ?_
    refine t_rd rfl (rd_lss rfl rfl) ?_
    refine rwt_nil ?_
    refine qn_then ?_
    obtain ⟨hb126, q127⟩ | ⟨hb126, q127⟩ := oi h <;> clear h
    · refine cw_t rfl hb126 ?_
      refine cw_skip ?_
      refine qn_then ?_
      refine cw_seq ?_
      refine cw_block ?_
      obtain ⟨w129, he131⟩ : ∃ q, q = w119.drew := ⟨_, rfl⟩
      have hm130 := hm125.drew; rw [← he131] at hm130
      refine cw_region_s (fun q => q = w129) (cls [] [20, 23]) mixed ?_
      rintro _ rfl; rw [← he131]
      refine s_rp (i := 0) rfl (by kernel_rfl) rfl (fun _ => (rd_move rfl)) ?_
      refine s_rp (i := 1) rfl (by kernel_rfl) rfl (fun _ => (rd_move rfl)) ?_
      refine s_rp (i := 2) rfl (by kernel_rfl) rfl (fun _ => (rd_move rfl)) ?_
      refine s_rp (i := 3) rfl (by kernel_rfl) rfl (fun _ => (rd_move rfl)) ?_
      refine s_rp (i := 4) rfl (by kernel_rfl) rfl (fun _ => (rd_move rfl)) ?_
      refine s_rp (i := 5) rfl (by kernel_rfl) rfl (fun _ => (rd_move rfl)) ?_
      obtain ⟨x132, h133, q134⟩ := ob q127; clear q127
      refine s_rp (i := 6) rfl (by kernel_rfl) rfl (fun _ => (rd_index tS23 rfl rfl (hm130.sl 0 rfl) h133)) ?_
      refine s_rp (i := 7) rfl (by kernel_rfl) rfl (fun _ => (rd_fld tF42_2 rfl)) ?_
      refine s_rd (i := 8) rfl (by kernel_rfl) rfl (fun _ hS => by rw [hS]; exact (rd_ld1 tO3 rfl ((hm130.sl 0 rfl).cells h133) (off := 2) rfl)) rfl ?_
      refine s_rp (i := 9) rfl (by kernel_rfl) rfl (fun _ => (rd_move rfl)) ?_
      obtain ⟨x135, h136, q137⟩ := ob q134; clear q134
      refine s_rp (i := 10) rfl (by kernel_rfl) rfl (fun _ => (rd_add64 h136 rfl rfl)) ?_
      refine s_rp (i := 11) rfl (by kernel_rfl) rfl (fun _ => (rd_move rfl)) ?_
      refine s_rp (i := 12) rfl (by kernel_rfl) rfl (fun _ => (rd_move rfl)) ?_
      obtain ⟨x138, h139, q140⟩ := ob q137; clear q137
      refine s_rp (i := 13) rfl (by kernel_rfl) rfl (fun _ => (rd_index tS23 rfl rfl (hm130.sl 0 rfl) h139)) ?_
      refine s_rp (i := 14) rfl (by kernel_rfl) rfl (fun _ => (rd_fld tF42_3 rfl)) ?_
      refine s_rd (i := 15) rfl (by kernel_rfl) rfl (fun _ hS => by rw [hS]; exact (rd_ld1 tO3 rfl ((hm130.sl 0 rfl).cells h139) (off := 3) rfl)) rfl ?_
      refine s_rp (i := 16) rfl (by kernel_rfl) rfl (fun _ => (rd_move rfl)) ?_
      obtain ⟨x141, h142, q143⟩ := ob q140; clear q140
      refine s_rp (i := 17) rfl (by kernel_rfl) rfl (fun _ => (rd_add64 h142 rfl rfl)) ?_
      obtain ⟨x144, h145, q146⟩ := ob q143; clear q143
      refine s_rp (i := 18) rfl (by kernel_rfl) rfl (fun _ => (rd_index tS23 rfl rfl (hm130.sl 0 rfl) h145)) ?_
      refine s_rp (i := 19) rfl (by kernel_rfl) rfl (fun _ => (rd_fld tF42_2 rfl)) ?_
      refine s_ef0 (i := 20) rfl (by kernel_rfl) (ef_stl (k := 0) (off := 2) (x' := (T_Span.mk x144.Element x144.Side x135 x144.To)) hm130 tO3 rfl rfl rfl rfl h145 rfl rfl) (by decide) (fun _ _ _ q => absurd q (by decide)) ?_
      intro _ w148 hm147
      obtain ⟨x149, h150, q151⟩ := ob q146; clear q146
      refine s_rp (i := 21) rfl (by kernel_rfl) rfl (fun _ => (rd_index tS23 rfl rfl (hm147.sl 0 rfl) h150)) ?_
      refine s_rp (i := 22) rfl (by kernel_rfl) rfl (fun _ => (rd_fld tF42_3 rfl)) ?_
      refine s_ef0 (i := 23) rfl (by kernel_rfl) (ef_stl (k := 0) (off := 3) (x' := (T_Span.mk x149.Element x149.Side x149.From x141)) hm147 tO3 rfl rfl rfl rfl h150 rfl rfl) (by decide) (fun _ _ _ q => absurd q (by decide)) ?_
      intro _ w153 hm152
      refine s_nil (by kernel_rfl) ?_
      refine qn_block (qn_then ?_)
      refine cw_region ?_
      refine t_rd rfl (rd_move rfl) ?_
      obtain ⟨x154, h155, q156⟩ := ob q151; clear q151
      refine t_rd rfl (rd_add64 h155 rfl rfl) ?_
      refine t_rd rfl (rd_assign rfl) ?_
      refine rwt_nil ?_
      refine qn_then ?_
      refine ⟨_, (os q156), v115, (by repeat (first | exact Sub.nil _ | refine Sub.cons rfl ?_)), (hm152.pick [0, 1] (by decide) rfl)⟩
    · refine cw_f rfl hb126 ?_
      refine cw_exit ?_
      refine qx_then (qx_then ?_)
      obtain rfl := hr121 _ (os q127)
      exact ⟨rfl, v115, (by repeat (first | exact Sub.nil _ | refine Sub.cons rfl ?_)), (hm125.pick [0, 1] (by decide) rfl)⟩
  · skip
    intro e env157 w158 hX159
    obtain ⟨rfl, v112, hs160, hm161⟩ := hX159
    refine qx_same (qn_then ?_)
    refine cw_sub hs160 ?_
    refine cw_seq ?_
    refine cw_region ?_
    refine t_rd rfl (rd_move rfl) ?_
    refine t_rd rfl (rd_move rfl) ?_
    refine t_rd rfl (rd_move rfl) ?_
    obtain ⟨r162, h163, q164⟩ := ob q124; clear q124
    refine t_ef rfl (ef_call tf17 rfl (divert_Conflict_ok h163 (hm161.sl_call 1 rfl) (hm161.sl_call 0 rfl))) ?_
    rintro _ w166 ⟨e_, hm165⟩
    obtain rfl := e_.symm
    have hm167 := hm161.call hm165
    refine t_rd rfl (rd_move rfl) ?_
    refine t_rd rfl (rd_extract rfl rfl) ?_
    refine t_rd rfl (rd_extract rfl rfl) ?_
    refine t_rd rfl (rd_assign rfl) ?_
    refine t_rd rfl (rd_assign rfl) ?_
    refine rwt_nil ?_
    refine qn_then ?_
    refine cw_seq ?_
    refine cw_region ?_
    refine t_rd rfl (rd_move rfl) ?_
    refine t_rd rfl (rd_eql rfl rfl) ?_
    refine t_rd rfl (rd_move rfl) ?_
    refine t_rdg rfl rfl rfl rfl (gv_t _) (fun hg168 => (rd_move rfl)) ?_
    refine t_rdg rfl rfl rfl rfl (gv_t _) (fun hg169 => (rd_eql (gvx rfl hg169) rfl)) ?_
    refine t_rd rfl (rd_and rfl (fun hc170 => (gvx rfl hc170))) ?_
    refine t_rd rfl (rd_move rfl) ?_
    refine t_rdg rfl rfl rfl rfl (gv_t _) (fun hg171 => (rd_move rfl)) ?_
    refine t_rdg rfl rfl rfl rfl (gv_t _) (fun hg172 => (rd_lss (gvx rfl hg172) rfl)) ?_
    refine t_rdg rfl rfl rfl rfl (gv_t _) (fun hg173 => (rd_move rfl)) ?_
    refine t_rdg rfl rfl rfl rfl (gv_t _) (fun hg174 => (rd_move rfl)) ?_
    refine t_rdg rfl rfl rfl rfl (gv_t _) (fun hg175 => (rd_geq (gvx rfl hg175) (gvx rfl hg175))) ?_
    refine t_rdg rfl rfl rfl rfl (gv_t _) (fun hg176 => (rd_eqlb tB4 (gvx rfl hg176) (gvx rfl hg176))) ?_
    refine t_rd rfl (rd_and rfl (fun hc177 => (gvx rfl hc177))) ?_
    refine t_rd rfl (rd_move rfl) ?_
    obtain ⟨r179, h180, q181⟩ := ob q164; clear q164
    refine t_efg rfl rfl rfl rfl (R := (fun v w' => v = gV ((decide (r25.2 = 0) && decide (r162.2 = 0)) && (decide (r162.1 < 0) == decide (r25.1 ≤ r31))) (Value.bool r179) ∧ Mem w166 No [] w')) (gv_t _) (fun hg178 => (ef_call tf13 rfl (law31_sane_ok (gO_t h180 hg178))).mono (by rintro _ _ ⟨rfl, q⟩; exact ⟨(gV_t hg178).symm, q⟩)) (fun q => ⟨(gV_f q).symm, Mem.nil _⟩) ?_
    rintro _ w183 ⟨rfl, hm182⟩
    have hm184 := hm167.call hm182
    refine t_rd rfl (rd_and rfl (fun hc185 => (gvx rfl hc185))) ?_
    refine t_rd rfl (rd_assign rfl) ?_
    refine rwt_nil ?_
    refine qn_then ?_
    refine cw_ret ?_
    obtain rfl := os q181
    exact ret1 rfl rfl ⟨rfl, (hm184.pick [] (by decide) rfl)⟩

end Go.Proofs.Ytfomgakgjgkjlaa
