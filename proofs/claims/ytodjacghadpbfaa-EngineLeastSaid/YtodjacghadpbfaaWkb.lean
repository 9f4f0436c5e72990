/- Each call computes what its mirror does; written by a program of mine (gowalk.py). -/
import Derived.Test.YtodjacghadpbfaaWka
namespace Go.Proofs.Ytodjacghadpbfaa
open Go.Gv Go.RowKit
set_option linter.unusedVariables false
set_option maxRecDepth 100000

theorem r39_Witness_ok {N : Nat} {a0 : List T_Task} {a1 : Int} {res : Int × List Int × Int} (h : r39_Witness N a0 a1 = some res) {w : World} {v0 : Value} (hv0 : Sl (Old w No) w v0 a0) :
    CallsR Try.prog 21 [v0, (Value.int .i64 a1)] w (fun u w' => ∃ (y0 : Value), u = (Value.tuple #[(Value.int .i64 res.1), y0, (Value.int .i64 res.2.2)]) ∧ Mem w No [ownL 3 y0 (res.2.1 : List Int)] w') := by
  unfold r39_Witness at h
  refine fn_ok Try.func21 rfl rfl rfl ?_
  have hm0 := Mem.nil w
  refine cw_seq ?_
  refine cw_region ?_
  refine t_rd rfl (rd_assign rfl) ?_
  refine t_rd rfl (rd_assign rfl) ?_
  refine t_rd rfl (rd_assign rfl) ?_
  refine rwt_nil ?_
  refine qn_then ?_
  refine cw_seq ?_
  refine cw_region ?_
  refine t_rd rfl (rd_move rfl) ?_
  refine t_rd rfl (rd_move rfl) ?_
  obtain ⟨r1, h2, q3⟩ := ob h; clear h
  refine t_ef rfl (ef_call tf10 rfl (r39_Assign_ok h2 (hv0.to_call hm0))) ?_
  rintro _ w6 ⟨v4, e_, hm5⟩
  obtain rfl := e_.symm
  have hm7 := hm0.call hm5
  refine t_rd rfl (rd_move rfl) ?_
  refine t_rd rfl (rd_extract rfl rfl) ?_
  refine t_rd rfl (rd_extract rfl rfl) ?_
  refine t_rd rfl (rd_extract rfl rfl) ?_
  refine t_rd rfl (rd_assign rfl) ?_
  refine t_rd rfl (rd_assign rfl) ?_
  refine t_rd rfl (rd_assign rfl) ?_
  refine rwt_nil ?_
  refine qn_then ?_
  refine cw_seq ?_
  refine cw_seq ?_
  refine cw_region ?_
  refine t_rd rfl (rd_move rfl) ?_
  refine t_rd rfl (rd_neq rfl rfl) ?_
  refine t_rd rfl (rd_move rfl) ?_
  refine t_rdg rfl rfl rfl rfl (gv_f _) (fun hg8 => (rd_move rfl)) ?_
  refine t_rdg rfl rfl rfl rfl (gv_f _) (fun hg9 => (rd_eql (gvx rfl hg9) rfl)) ?_
  refine t_rd rfl (rd_or rfl (fun hc10 => (gvx rfl (bnotIt hc10)))) ?_
  refine rwt_nil ?_
  refine qn_then ?_
  obtain ⟨hb11, q12⟩ | ⟨hb11, q12⟩ := oi q3 <;> clear q3
  · refine cw_t rfl hb11 ?_
    refine cw_seq ?_
    refine cw_region ?_
    refine t_rd rfl (rd_move rfl) ?_
    refine t_rd rfl (rd_assign rfl) ?_
    refine t_rd rfl (rd_assign rfl) ?_
    refine t_rd rfl (rd_assign rfl) ?_
    refine rwt_nil ?_
    refine qn_then ?_
    refine cw_ret ?_
    refine qr_then ?_
    obtain rfl := os q12
    have hm13 := hm7.addNil (α := Int) 3
    exact ret3 rfl rfl rfl rfl ⟨(Value.slice none 0 0), rfl, (hm13.pick [0] (by decide) rfl)⟩
  · refine cw_f rfl hb11 ?_
    refine cw_skip ?_
    refine qn_then ?_
    refine cw_seq ?_
    refine cw_region ?_
    refine t_rd rfl (rd_move rfl) ?_
    obtain ⟨r14, h15, q16⟩ := ob q12; clear q12
    refine t_ef rfl (ef_call tf20 rfl (r39_order_ok h15 (hv0.to_call hm7))) ?_
    rintro _ w19 ⟨v17, e_, hm18⟩
    obtain rfl := e_.symm
    have hm20 := hm7.call hm18
    refine t_rd rfl (rd_assign rfl) ?_
    refine rwt_nil ?_
    refine qn_then ?_
    refine cw_seq ?_
    refine cw_seq ?_
    refine cw_region ?_
    refine t_rd rfl (rd_assign rfl) ?_
    refine rwt_nil ?_
    refine qn_then ?_
    refine cw_block ?_
    obtain ⟨r411, hit412, q413⟩ := ob q16; clear q16
    refine cw_loop2 (I := fun q envq wq => Sub [(0, v0), (1, (Value.int .i64 a1)), (8, (Value.int .i64 r1.2.1)), (10, v17), (11, (Value.int .i64 q))] envq ∧ Mem w No [ownL 3 v17 (r14 : List Int)] wq) (X := fun eq envq wq => (∃ p414, r411 = (Sum.inl p414) ∧ eq = .ret ∧ retQ Try.prog 79 Try.f21 (fun u w' => ∃ (y0 : Value), u = (Value.tuple #[(Value.int .i64 p414.1), y0, (Value.int .i64 p414.2.2)]) ∧ Mem w No [ownL 3 y0 (p414.2.1 : List Int)] w') .ret envq wq) ∨ (∃ p415, r411 = (Sum.inr p415) ∧ eq = .exit 0 ∧ Sub [] envq ∧ Mem w No [] wq)) hit412 ⟨(by repeat (first | exact Sub.nil _ | refine Sub.cons rfl ?_)), (hm20.pick [0] (by decide) rfl)⟩ ?_ ?_
    · rintro i404 x406 env407 w408 hf409 hr410 ⟨hs_, hm_⟩
      have hs_ : Sub [(0, v0), (1, (Value.int .i64 a1)), (8, (Value.int .i64 r1.2.1)), (10, v17), (11, (Value.int .i64 i404))] env407 := hs_
      have hm416 : Mem w No [ownL 3 v17 (r14 : List Int)] w408 := hm_
      refine cw_sub hs_ ?_
      clear hs_ hm_ q413
      have h : r39_Witness_l3 N a0 a1 r1 r14 i404 = some x406 := hf409
      clear hf409
      refine cw_seq ?_
      refine cw_seq ?_
      refine cw_region ?_
      refine t_rd rfl (rd_move rfl) ?_
      refine t_rd rfl (rd_move rfl) ?_
      refine t_rd rfl (rd_lenS tS22 rfl (hm416.sl 0 rfl)) ?_
      refine t_rd rfl (rd_lss rfl rfl) ?_
      refine rwt_nil ?_
      refine qn_then ?_
      obtain ⟨hb417, q418⟩ | ⟨hb417, q418⟩ := oi h <;> clear h
      · refine cw_t rfl hb417 ?_
        refine cw_skip ?_
        refine qn_then ?_
        refine cw_seq ?_
        refine cw_block ?_
        refine cw_seq ?_
        refine cw_region ?_
        refine t_rd rfl (rd_move rfl) ?_
        refine t_rd rfl (rd_move rfl) ?_
        refine t_rd rfl (rd_move rfl) ?_
        obtain ⟨x419, h420, q421⟩ := ob q418; clear q418
        refine t_rd rfl (rd_index tS22 rfl rfl (hm416.sl 0 rfl) h420) ?_
        refine t_rd rfl (rd_ld1 tO3 rfl ((hm416.sl 0 rfl).cells h420) (off := 0) rfl) ?_
        obtain ⟨x422, h423, q424⟩ := ob q421; clear q421
        refine t_rd rfl (rd_index tS23 rfl rfl (hv0.of_old hm416) h423) ?_
        refine t_rd rfl (rd_fld tF29_0 rfl) ?_
        refine t_rd rfl (rd_ld1 tO3 rfl ((hv0.of_old hm416).cells h423) (off := 0) rfl) ?_
        refine t_rd rfl (rd_assign rfl) ?_
        refine rwt_nil ?_
        refine qn_then ?_
        refine cw_seq ?_
        refine cw_region ?_
        refine t_rd rfl (rd_assign rfl) ?_
        refine rwt_nil ?_
        refine qn_then ?_
        refine cw_seq ?_
        refine cw_seq ?_
        refine cw_region ?_
        refine t_rd rfl (rd_assign rfl) ?_
        refine rwt_nil ?_
        refine qn_then ?_
        refine cw_block ?_
        have hm464 := hm416.addNil (α := Int) 3
        obtain ⟨r556, hit557, q558⟩ := ob q424; clear q424
        refine cw_loop2 (I := fun q envq wq => ∃ (v549 : Value), Sub [(0, v0), (1, (Value.int .i64 a1)), (8, (Value.int .i64 r1.2.1)), (10, v17), (11, (Value.int .i64 i404)), (12, (Value.int .i64 x422.From)), (13, v549), (14, (Value.int .i64 q.1))] envq ∧ Mem w No [ownL 3 v549 (q.2 : List Int), ownL 3 v17 (r14 : List Int)] wq) (X := fun eq envq wq => eq = .exit 2 ∧ ∃ (v546 : Value), Sub [(0, v0), (1, (Value.int .i64 a1)), (8, (Value.int .i64 r1.2.1)), (10, v17), (11, (Value.int .i64 i404)), (12, (Value.int .i64 x422.From)), (13, v546)] envq ∧ Mem w No [ownL 3 v546 (r556 : List Int), ownL 3 v17 (r14 : List Int)] wq) hit557 ⟨(Value.slice none 0 0), (by repeat (first | exact Sub.nil _ | refine Sub.cons rfl ?_)), (hm464.pick [0, 1] (by decide) rfl)⟩ ?_ ?_
        · rintro ⟨i547, l548⟩ x551 env552 w553 hf554 hr555 ⟨v549, hs_, hm_⟩
          have hs_ : Sub [(0, v0), (1, (Value.int .i64 a1)), (8, (Value.int .i64 r1.2.1)), (10, v17), (11, (Value.int .i64 i404)), (12, (Value.int .i64 x422.From)), (13, v549), (14, (Value.int .i64 i547))] env552 := hs_
          have hm559 : Mem w No [ownL 3 v549 (l548 : List Int), ownL 3 v17 (r14 : List Int)] w553 := hm_
          refine cw_sub hs_ ?_
          clear hs_ hm_ q558
          have h : r39_Witness_l4 N a0 a1 x422 i547 l548 = some x551 := hf554
          clear hf554
          refine cw_seq ?_
          refine cw_seq ?_
          refine cw_region ?_
          refine t_rd rfl (rd_move rfl) ?_
          refine t_rd rfl (rd_move rfl) ?_
          refine t_rd rfl (rd_lenS tS23 rfl (hv0.of_old hm559)) ?_
          refine t_rd rfl (rd_lss rfl rfl) ?_
          refine rwt_nil ?_
          refine qn_then ?_
          obtain ⟨hb560, q561⟩ | ⟨hb560, q561⟩ := oi h <;> clear h
          · refine cw_t rfl hb560 ?_
            refine cw_skip ?_
            refine qn_then ?_
            refine cw_seq ?_
            refine cw_block ?_
            refine cw_seq ?_
            refine cw_region ?_
            refine t_rd rfl (rd_move rfl) ?_
            refine t_rd rfl (rd_move rfl) ?_
            obtain ⟨x562, h563, q564⟩ := ob q561; clear q561
            refine t_rd rfl (rd_index tS23 rfl rfl (hv0.of_old hm559) h563) ?_
            refine t_rd rfl (rd_fld tF29_0 rfl) ?_
            refine t_rd rfl (rd_ld1 tO3 rfl ((hv0.of_old hm559).cells h563) (off := 0) rfl) ?_
            refine t_rd rfl (rd_move rfl) ?_
            refine t_rd rfl (rd_leq rfl rfl) ?_
            refine t_rd rfl (rd_move rfl) ?_
            refine t_rdg rfl rfl rfl rfl (gv_t _) (fun hg565 => (rd_move rfl)) ?_
            refine t_rdg rfl rfl rfl rfl (gv_t _) (fun hg566 => (rd_move rfl)) ?_
            obtain ⟨x568, h569, q570⟩ := ob q564; clear q564
            refine t_rdg rfl rfl rfl rfl (gv_t _) (fun hg567 => (rd_index tS23 (gvx rfl hg567) (gvx rfl hg567) (hv0.of_old hm559) (gO_t h569 hg567))) ?_
            refine t_rdg rfl rfl rfl rfl (gv_t _) (fun hg571 => (rd_fld tF29_1 (gvx rfl hg571))) ?_
            refine t_rdg rfl rfl rfl rfl (gv_t _) (fun hg572 => (rd_ld1 tO3 (gvx rfl hg572) ((hv0.of_old hm559).cells (gO_t h569 hg572)) (off := 1) rfl)) ?_
            refine t_rdg rfl rfl rfl rfl (gv_t _) (fun hg573 => (rd_move rfl)) ?_
            obtain ⟨x575, h576, q577⟩ := ob q570; clear q570
            refine t_rdg rfl rfl rfl rfl (gv_t _) (fun hg574 => (rd_add64 (gO_t h576 hg574) (gvx rfl hg574) (gvx rfl hg574))) ?_
            refine t_rdg rfl rfl rfl rfl (gv_t _) (fun hg578 => (rd_move rfl)) ?_
            refine t_rdg rfl rfl rfl rfl (gv_t _) (fun hg579 => (rd_gtr (gvx rfl hg579) (gvx rfl hg579))) ?_
            refine t_rd rfl (rd_and rfl (fun hc580 => (gvx rfl hc580))) ?_
            refine rwt_nil ?_
            refine qn_then ?_
            obtain ⟨hb581, q582⟩ | ⟨hb581, q582⟩ := oi q577 <;> clear q577
            · refine cw_t rfl hb581 ?_
              refine cw_region ?_
              refine t_rd rfl (rd_move rfl) ?_
              refine t_rd rfl (rd_move rfl) ?_
              refine t_ef rfl (ef_bslice (l := ([i547] : List Int)) hm559 tS22 rfl (cs := #[(Value.int .i64 i547)]) (by unfold bsl; kernel_rfl) rfl rfl) ?_
              intro v583 w585 hm584
              obtain ⟨l586, h587, q588⟩ := ob q582; clear q582
              refine t_ef rfl (ef_append (k := 1) hm584 tS22 tE3 rfl rfl rfl rfl (hm584.sl 0 rfl) h587) ?_
              intro v589 w591 hm590
              refine t_rd rfl (rd_assign rfl) ?_
              refine rwt_nil ?_
              refine qn_block (qn_then ?_)
              refine cw_region ?_
              refine t_rd rfl (rd_move rfl) ?_
              obtain ⟨x592, h593, q594⟩ := ob q588; clear q588
              refine t_rd rfl (rd_add64 h593 rfl rfl) ?_
              refine t_rd rfl (rd_assign rfl) ?_
              refine rwt_nil ?_
              refine qn_then ?_
              refine ⟨_, (os q594), v589, (by repeat (first | exact Sub.nil _ | refine Sub.cons rfl ?_)), (hm590.pick [1, 2] (by decide) rfl)⟩
            · refine cw_f rfl hb581 ?_
              refine cw_skip ?_
              refine qn_block (qn_then ?_)
              refine cw_region ?_
              refine t_rd rfl (rd_move rfl) ?_
              obtain ⟨x595, h596, q597⟩ := ob q582; clear q582
              refine t_rd rfl (rd_add64 h596 rfl rfl) ?_
              refine t_rd rfl (rd_assign rfl) ?_
              refine rwt_nil ?_
              refine qn_then ?_
              refine ⟨_, (os q597), v549, (by repeat (first | exact Sub.nil _ | refine Sub.cons rfl ?_)), (hm559.pick [0, 1] (by decide) rfl)⟩
          · refine cw_f rfl hb560 ?_
            refine cw_exit ?_
            refine qx_then (qx_then ?_)
            obtain rfl := hr555 _ (os q561)
            exact ⟨rfl, v549, (by repeat (first | exact Sub.nil _ | refine Sub.cons rfl ?_)), (hm559.pick [0, 1] (by decide) rfl)⟩
        · skip
          intro e env598 w599 hX600
          obtain ⟨rfl, v546, hs601, hm602⟩ := hX600
          refine qx_same (qn_then ?_)
          refine cw_sub hs601 ?_
          refine cw_seq ?_
          refine cw_region ?_
          refine t_rd rfl (rd_move rfl) ?_
          refine t_rd rfl (rd_lenS tS22 rfl (hm602.sl 0 rfl)) ?_
          refine t_rd rfl (rd_move rfl) ?_
          refine t_rd rfl (rd_eql rfl rfl) ?_
          refine rwt_nil ?_
          refine qn_then ?_
          obtain ⟨hb603, q604⟩ | ⟨hb603, q604⟩ := oi q558 <;> clear q558
          · refine cw_t rfl hb603 ?_
            refine cw_seq ?_
            refine cw_region ?_
            refine t_rd rfl (rd_move rfl) ?_
            refine t_rd rfl (rd_move rfl) ?_
            refine t_rd rfl (rd_assign rfl) ?_
            refine t_rd rfl (rd_assign rfl) ?_
            refine t_rd rfl (rd_assign rfl) ?_
            refine rwt_nil ?_
            refine qn_then ?_
            refine cw_ret ?_
            refine qr_block (qr_then (qr_then ?_))
            obtain rfl := hr410 _ (os q604)
            refine .inl (⟨_, rfl, ⟨rfl, ?_⟩⟩)
            exact ret3 rfl rfl rfl rfl ⟨v546, rfl, (hm602.pick [0] (by decide) rfl)⟩
          · refine cw_f rfl hb603 ?_
            refine cw_skip ?_
            refine qn_block (qn_then ?_)
            refine cw_region ?_
            refine t_rd rfl (rd_move rfl) ?_
            obtain ⟨x605, h606, q607⟩ := ob q604; clear q604
            refine t_rd rfl (rd_add64 h606 rfl rfl) ?_
            refine t_rd rfl (rd_assign rfl) ?_
            refine rwt_nil ?_
            refine qn_then ?_
            refine ⟨_, (os q607), (by repeat (first | exact Sub.nil _ | refine Sub.cons rfl ?_)), (hm602.pick [1] (by decide) rfl)⟩
      · refine cw_f rfl hb417 ?_
        refine cw_exit ?_
        refine qx_then (qx_then ?_)
        obtain rfl := hr410 _ (os q418)
        exact .inr (⟨_, rfl, ⟨rfl, (by repeat (first | exact Sub.nil _ | refine Sub.cons rfl ?_)), (hm416.pick [] (by decide) rfl)⟩⟩)
    · skip
      intro e env608 w609 hX610
      rcases hX610 with hX610 | hX610
      · obtain ⟨p612, rfl, hX610⟩ := hX610
        obtain ⟨rfl, hq614⟩ := hX610
        exact qr_block (qr_then ((by have e := os q413; subst e; exact hq614)))
      · obtain ⟨p615, rfl, hX610⟩ := hX610
        obtain ⟨rfl, hs616, hm617⟩ := hX610
        refine qx_same (qn_then ?_)
        refine cw_sub hs616 ?_
        refine cw_seq ?_
        refine cw_region ?_
        refine t_rd rfl (rd_assign rfl) ?_
        refine t_rd rfl (rd_assign rfl) ?_
        refine t_rd rfl (rd_assign rfl) ?_
        refine rwt_nil ?_
        refine qn_then ?_
        refine cw_ret ?_
        obtain rfl := os q413
        have hm618 := hm617.addNil (α := Int) 3
        exact ret3 rfl rfl rfl rfl ⟨(Value.slice none 0 0), rfl, (hm618.pick [0] (by decide) rfl)⟩

theorem engine_Check_ok {N : Nat} {a0 : List T_Task} {a1 : Int} {a2 : List Int} {res : Bool × Int} (h : engine_Check N a0 a1 a2 = some res) {w : World} {v0 : Value} {v2 : Value} (hv0 : Sl (Old w No) w v0 a0) (hv2 : Sl (Old w No) w v2 a2) :
    CallsR Try.prog 16 [v0, (Value.int .i64 a1), v2] w (fun u w' => u = (Value.tuple #[(Value.bool res.1), (Value.int .i64 res.2)]) ∧ Mem w No [] w') := by
  unfold engine_Check at h
  refine fn_ok Try.func16 rfl rfl rfl ?_
  have hm0 := Mem.nil w
  refine cw_seq ?_
  refine cw_region ?_
  refine t_rd rfl (rd_assign rfl) ?_
  refine t_rd rfl (rd_assign rfl) ?_
  refine rwt_nil ?_
  refine qn_then ?_
  refine cw_seq ?_
  refine cw_seq ?_
  refine cw_region ?_
  refine t_rd rfl (rd_move rfl) ?_
  refine t_rd rfl (rd_move rfl) ?_
  obtain ⟨r1, h2, q3⟩ := ob h; clear h
  refine t_ef rfl (ef_call tf24 rfl (engine_check_ok h2 (hv0.to_call hm0))) ?_
  rintro _ w5 ⟨e_, hm4⟩
  obtain rfl := e_.symm
  have hm6 := hm0.call hm4
  refine t_rd rfl (rd_assign rfl) ?_
  refine rwt_nil ?_
  refine qn_then ?_
  refine cw_seq ?_
  refine cw_region ?_
  refine t_rd rfl (rd_move rfl) ?_
  refine t_rd rfl (rd_neq rfl rfl) ?_
  refine rwt_nil ?_
  refine qn_then ?_
  obtain ⟨hb7, q8⟩ | ⟨hb7, q8⟩ := oi q3 <;> clear q3
  · refine cw_t rfl hb7 ?_
    refine cw_seq ?_
    refine cw_region ?_
    refine t_rd rfl (rd_move rfl) ?_
    refine t_rd rfl (rd_assign rfl) ?_
    refine t_rd rfl (rd_assign rfl) ?_
    refine rwt_nil ?_
    refine qn_then ?_
    refine cw_ret ?_
    refine qr_then ?_
    obtain rfl := os q8
    exact ret2 rfl rfl rfl ⟨rfl, (hm6.pick [] (by decide) rfl)⟩
  · refine cw_f rfl hb7 ?_
    refine cw_skip ?_
    refine qn_then ?_
    refine cw_seq ?_
    refine cw_seq ?_
    refine cw_region ?_
    refine t_rd rfl (rd_move rfl) ?_
    refine t_rd rfl (rd_lenS tS22 rfl (hv2.of_old hm6)) ?_
    refine t_rd rfl (rd_move rfl) ?_
    refine t_rd rfl (rd_lenS tS23 rfl (hv0.of_old hm6)) ?_
    refine t_rd rfl (rd_neq rfl rfl) ?_
    refine rwt_nil ?_
    refine qn_then ?_
    obtain ⟨hb9, q10⟩ | ⟨hb9, q10⟩ := oi q8 <;> clear q8
    · refine cw_t rfl hb9 ?_
      refine cw_seq ?_
      refine cw_region ?_
      refine t_rd rfl (rd_assign rfl) ?_
      refine t_rd rfl (rd_assign rfl) ?_
      refine rwt_nil ?_
      refine qn_then ?_
      refine cw_ret ?_
      refine qr_then ?_
      obtain rfl := os q10
      exact ret2 rfl rfl rfl ⟨rfl, (hm6.pick [] (by decide) rfl)⟩
    · refine cw_f rfl hb9 ?_
      refine cw_skip ?_
      refine qn_then ?_
      refine cw_seq ?_
      refine cw_seq ?_
      refine cw_region ?_
      refine t_rd rfl (rd_move rfl) ?_
      refine t_rd rfl (rd_lenS tS23 rfl (hv0.of_old hm6)) ?_
      refine t_rd rfl (rd_move rfl) ?_
      refine rwt_nil ?_
      refine qn_then ?_
      refine cw_block ?_
      obtain ⟨r391, hit392, q393⟩ := ob q10; clear q10
      refine cw_loop2 (I := fun q envq wq => Sub [(0, v0), (1, (Value.int .i64 a1)), (2, v2), (24, v0), (25, (Value.int .i64 (List.length a0 : Int))), (26, (Value.int .i64 q))] envq ∧ Mem w No [] wq) (X := fun eq envq wq => (∃ p394, r391 = (Sum.inl p394) ∧ eq = .ret ∧ retQ Try.prog 74 Try.f16 (fun u w' => u = (Value.tuple #[(Value.bool p394.1), (Value.int .i64 p394.2)]) ∧ Mem w No [] w') .ret envq wq) ∨ (∃ p395, r391 = (Sum.inr p395) ∧ eq = .exit 0 ∧ Sub [] envq ∧ Mem w No [] wq)) hit392 ⟨(by repeat (first | exact Sub.nil _ | refine Sub.cons rfl ?_)), (hm6.pick [] (by decide) rfl)⟩ ?_ ?_
      · rintro i384 x386 env387 w388 hf389 hr390 ⟨hs_, hm_⟩
        have hs_ : Sub [(0, v0), (1, (Value.int .i64 a1)), (2, v2), (24, v0), (25, (Value.int .i64 (List.length a0 : Int))), (26, (Value.int .i64 i384))] env387 := hs_
        have hm396 : Mem w No [] w388 := hm_
        refine cw_sub hs_ ?_
        clear hs_ hm_ q393
        have h : engine_Check_l3 N a0 a1 a2 i384 = some x386 := hf389
        clear hf389
        refine cw_seq ?_
        refine cw_region ?_
        refine t_rd rfl (rd_lss rfl rfl) ?_
        refine rwt_nil ?_
        refine qn_then ?_
        refine cw_seq ?_
        obtain ⟨hb397, q398⟩ | ⟨hb397, q398⟩ := oi h <;> clear h
        · refine cw_t rfl hb397 ?_
          refine cw_skip ?_
          refine qn_then ?_
          refine cw_seq ?_
          refine cw_block ?_
          refine cw_seq ?_
          refine cw_region ?_
          refine t_rd rfl (rd_move rfl) ?_
          obtain ⟨x399, h400, q401⟩ := ob q398; clear q398
          refine t_rd rfl (rd_index tS23 rfl rfl (hv0.of_old hm396) h400) ?_
          refine t_rd rfl (rd_ld tA29 rfl ((hv0.of_old hm396).cells h400) rfl) ?_
          refine t_ef rfl (ef_alloc hm396 tZ29 rfl) ?_
          rintro _ w404 ⟨g402, rfl, hm403⟩
          refine t_rd rfl (rd_assign rfl) ?_
          refine t_ef0 (ef_stw (k := 0) hm403 tA29 rfl rfl (oc_cons rfl (oc_cons rfl oc_nil)) rfl rfl rfl) ?_
          intro _ w406 hm405
          refine rwt_nil ?_
          refine qn_then ?_
          refine cw_seq ?_
          refine cw_seq ?_
          refine cw_region ?_
          refine t_rd rfl (rd_move rfl) ?_
          refine t_rd rfl (rd_move rfl) ?_
          obtain ⟨x407, h408, q409⟩ := ob q401; clear q401
          refine t_rd rfl (rd_index tS22 rfl rfl (hv2.of_old hm405) h408) ?_
          refine t_rd rfl (rd_ld1 tO3 rfl ((hv2.of_old hm405).cells h408) (off := 0) rfl) ?_
          refine t_rd rfl (rd_lss rfl rfl) ?_
          refine rwt_nil ?_
          refine qn_then ?_
          obtain ⟨hb410, q411⟩ | ⟨hb410, q411⟩ := oi q409 <;> clear q409
          · refine cw_t rfl hb410 ?_
            refine cw_seq ?_
            refine cw_region ?_
            refine t_rd rfl (rd_assign rfl) ?_
            refine t_rd rfl (rd_assign rfl) ?_
            refine rwt_nil ?_
            refine qn_then ?_
            refine cw_ret ?_
            refine qr_then (qr_block (qr_then (qr_then ?_)))
            obtain rfl := hr390 _ (os q411)
            refine .inl (⟨_, rfl, ⟨rfl, ?_⟩⟩)
            exact ret2 rfl rfl rfl ⟨rfl, (hm405.pick [] (by decide) rfl)⟩
          · refine cw_f rfl hb410 ?_
            refine cw_skip ?_
            refine qn_then ?_
            refine cw_seq ?_
            refine cw_region ?_
            refine t_rd rfl (rd_move rfl) ?_
            refine t_rd rfl (rd_move rfl) ?_
            obtain ⟨l412, h413, q414⟩ := ob q411; clear q411
            refine t_rd rfl (rd_slcH tS23 rfl rfl (hv0.of_old hm405) h413) ?_
            refine t_rd rfl (rd_lenS tS23 rfl ((hv0.of_old hm405).sub h413)) ?_
            refine t_rd rfl (rd_move rfl) ?_
            refine rwt_nil ?_
            refine qn_then ?_
            refine cw_block ?_
            obtain ⟨r517, hit518, q519⟩ := ob q414; clear q414
            refine cw_loop2 (I := fun q envq wq => Sub [(0, v0), (1, (Value.int .i64 a1)), (2, v2), (9, (Value.int .i64 i384)), (10, (Value.pointer (some ⟨g402, 0, none⟩))), (24, v0), (25, (Value.int .i64 (List.length a0 : Int))), (26, (Value.int .i64 i384)), (38, (subV v0 0 i384 2)), (39, (Value.int .i64 (List.length l412 : Int))), (40, (Value.int .i64 q))] envq ∧ Mem w No [blk g402 29 [(Value.int .i64 x399.From), (Value.int .i64 x399.To)]] wq) (X := fun eq envq wq => (∃ p520, r517 = (Sum.inl p520) ∧ eq = .ret ∧ retQ Try.prog 74 Try.f16 (fun u w' => u = (Value.tuple #[(Value.bool p520.1), (Value.int .i64 p520.2)]) ∧ Mem w No [] w') .ret envq wq) ∨ (∃ p521, r517 = (Sum.inr p521) ∧ eq = .exit 2 ∧ Sub [(0, v0), (1, (Value.int .i64 a1)), (2, v2), (24, v0), (25, (Value.int .i64 (List.length a0 : Int))), (26, (Value.int .i64 i384))] envq ∧ Mem w No [] wq)) hit518 ⟨(by repeat (first | exact Sub.nil _ | refine Sub.cons rfl ?_)), (hm405.pick [0] (by decide) rfl)⟩ ?_ ?_
            · rintro i510 x512 env513 w514 hf515 hr516 ⟨hs_, hm_⟩
              have hs_ : Sub [(0, v0), (1, (Value.int .i64 a1)), (2, v2), (9, (Value.int .i64 i384)), (10, (Value.pointer (some ⟨g402, 0, none⟩))), (24, v0), (25, (Value.int .i64 (List.length a0 : Int))), (26, (Value.int .i64 i384)), (38, (subV v0 0 i384 2)), (39, (Value.int .i64 (List.length l412 : Int))), (40, (Value.int .i64 i510))] env513 := hs_
              have hm522 : Mem w No [blk g402 29 [(Value.int .i64 x399.From), (Value.int .i64 x399.To)]] w514 := hm_
              refine cw_sub hs_ ?_
              clear hs_ hm_ q519
              have h : engine_Check_l4 N a1 a2 i384 x399 l412 i510 = some x512 := hf515
              clear hf515
              refine cw_seq ?_
              refine cw_region ?_
              refine t_rd rfl (rd_lss rfl rfl) ?_
              refine rwt_nil ?_
              refine qn_then ?_
              refine cw_seq ?_
              obtain ⟨hb523, q524⟩ | ⟨hb523, q524⟩ := oi h <;> clear h
              · refine cw_t rfl hb523 ?_
                refine cw_skip ?_
                refine qn_then ?_
                refine cw_seq ?_
                refine cw_block ?_
                refine cw_seq ?_
                refine cw_region ?_
                refine t_rd rfl (rd_move rfl) ?_
                obtain ⟨x525, h526, q527⟩ := ob q524; clear q524
                refine t_rd rfl (rd_index tS23 rfl rfl ((hv0.of_old hm522).sub h413) h526) ?_
                refine t_rd rfl (rd_ld tA29 rfl (((hv0.of_old hm522).sub h413).cells h526) rfl) ?_
                refine t_ef rfl (ef_alloc hm522 tZ29 rfl) ?_
                rintro _ w530 ⟨g528, rfl, hm529⟩
                refine t_rd rfl (rd_assign rfl) ?_
                refine t_ef0 (ef_stw (k := 0) hm529 tA29 rfl rfl (oc_cons rfl (oc_cons rfl oc_nil)) rfl rfl rfl) ?_
                intro _ w532 hm531
                refine rwt_nil ?_
                refine qn_then ?_
                refine cw_seq ?_
                obtain ⟨w534, he536⟩ : ∃ q, q = w532.drew := ⟨_, rfl⟩
                have hm535 := hm531.drew; rw [← he536] at hm535
                refine cw_region_s (fun q => q = w534) (cls [] []) mixed ?_
                rintro _ rfl; rw [← he536]
                refine s_rp (i := 0) rfl (by kernel_rfl) rfl (fun _ => (rd_move rfl)) ?_
                refine s_rp (i := 1) rfl (by kernel_rfl) rfl (fun _ => (rd_move rfl)) ?_
                obtain ⟨x537, h538, q539⟩ := ob q527; clear q527
                refine s_rp (i := 2) rfl (by kernel_rfl) rfl (fun _ => (rd_index tS22 rfl rfl (hv2.of_old hm535) h538)) ?_
                refine s_rd (i := 3) rfl (by kernel_rfl) rfl (fun _ hS => by rw [hS]; exact (rd_ld1 tO3 rfl ((hv2.of_old hm535).cells h538) (off := 0) rfl)) rfl ?_
                refine s_rp (i := 4) rfl (by kernel_rfl) rfl (fun _ => (rd_move rfl)) ?_
                refine s_rp (i := 5) rfl (by kernel_rfl) rfl (fun _ => (rd_move rfl)) ?_
                obtain ⟨x540, h541, q542⟩ := ob q539; clear q539
                refine s_rp (i := 6) rfl (by kernel_rfl) rfl (fun _ => (rd_index tS22 rfl rfl (hv2.of_old hm535) h541)) ?_
                refine s_rd (i := 7) rfl (by kernel_rfl) rfl (fun _ hS => by rw [hS]; exact (rd_ld1 tO3 rfl ((hv2.of_old hm535).cells h541) (off := 0) rfl)) rfl ?_
                refine s_rp (i := 8) rfl (by kernel_rfl) rfl (fun _ => (rd_eql rfl rfl)) ?_
                refine s_rp (i := 9) rfl (by kernel_rfl) rfl (fun _ => (rd_move rfl)) ?_
                refine s_rpg (i := 10) rfl (by kernel_rfl) rfl rfl rfl rfl (gv_t _) (fun hg543 _ => (rd_fld tF29_0 rfl)) ?_
                refine s_rdg (i := 11) rfl (by kernel_rfl) rfl rfl rfl rfl (gv_t _) (fun hg544 => (fun _ hS => by rw [hS]; exact (rd_ld1 tO3 (gvx rfl hg544) (hm535.blk 1 rfl) (off := 0) rfl))) rfl ?_
                refine s_rpg (i := 12) rfl (by kernel_rfl) rfl rfl rfl rfl (gv_t _) (fun hg545 _ => (rd_fld tF29_1 rfl)) ?_
                refine s_rdg (i := 13) rfl (by kernel_rfl) rfl rfl rfl rfl (gv_t _) (fun hg546 => (fun _ hS => by rw [hS]; exact (rd_ld1 tO3 (gvx rfl hg546) (hm535.blk 0 rfl) (off := 1) rfl))) rfl ?_
                refine s_rpg (i := 14) rfl (by kernel_rfl) rfl rfl rfl rfl (gv_t _) (fun hg547 _ => (rd_move rfl)) ?_
                obtain ⟨x549, h550, q551⟩ := ob q542; clear q542
                refine s_rpg (i := 15) rfl (by kernel_rfl) rfl rfl rfl rfl (gv_t _) (fun hg548 _ => (rd_add64 (gO_t h550 hg548) (gvx rfl hg548) (gvx rfl hg548))) ?_
                refine s_rpg (i := 16) rfl (by kernel_rfl) rfl rfl rfl rfl (gv_t _) (fun hg552 _ => (rd_lss (gvx rfl hg552) (gvx rfl hg552))) ?_
                refine s_rp (i := 17) rfl (by kernel_rfl) rfl (fun _ => (rd_and rfl (fun hc553 => (gvx rfl hc553)))) ?_
                refine s_rp (i := 18) rfl (by kernel_rfl) rfl (fun _ => (rd_move rfl)) ?_
                refine s_rpg (i := 19) rfl (by kernel_rfl) rfl rfl rfl rfl (gv_t _) (fun hg554 _ => (rd_fld tF29_0 rfl)) ?_
                refine s_rdg (i := 20) rfl (by kernel_rfl) rfl rfl rfl rfl (gv_t _) (fun hg555 => (fun _ hS => by rw [hS]; exact (rd_ld1 tO3 (gvx rfl hg555) (hm535.blk 0 rfl) (off := 0) rfl))) rfl ?_
                refine s_rpg (i := 21) rfl (by kernel_rfl) rfl rfl rfl rfl (gv_t _) (fun hg556 _ => (rd_fld tF29_1 rfl)) ?_
                refine s_rdg (i := 22) rfl (by kernel_rfl) rfl rfl rfl rfl (gv_t _) (fun hg557 => (fun _ hS => by rw [hS]; exact (rd_ld1 tO3 (gvx rfl hg557) (hm535.blk 1 rfl) (off := 1) rfl))) rfl ?_
                refine s_rpg (i := 23) rfl (by kernel_rfl) rfl rfl rfl rfl (gv_t _) (fun hg558 _ => (rd_move rfl)) ?_
                obtain ⟨x560, h561, q562⟩ := ob q551; clear q551
                refine s_rpg (i := 24) rfl (by kernel_rfl) rfl rfl rfl rfl (gv_t _) (fun hg559 _ => (rd_add64 (gO_t h561 hg559) (gvx rfl hg559) (gvx rfl hg559))) ?_
                refine s_rpg (i := 25) rfl (by kernel_rfl) rfl rfl rfl rfl (gv_t _) (fun hg563 _ => (rd_lss (gvx rfl hg563) (gvx rfl hg563))) ?_
                refine s_rp (i := 26) rfl (by kernel_rfl) rfl (fun _ => (rd_and rfl (fun hc564 => (gvx rfl hc564)))) ?_
                refine s_nil (by kernel_rfl) ?_
                refine qn_then ?_
                obtain ⟨hb565, q566⟩ | ⟨hb565, q566⟩ := oi q562 <;> clear q562
                · refine cw_t rfl hb565 ?_
                  refine cw_seq ?_
                  refine cw_region ?_
                  refine t_rd rfl (rd_assign rfl) ?_
                  refine t_rd rfl (rd_assign rfl) ?_
                  refine rwt_nil ?_
                  refine qn_then ?_
                  refine cw_ret ?_
                  refine qr_block (qr_then (qr_then ?_))
                  obtain rfl := hr516 _ (os q566)
                  refine .inl (⟨_, rfl, ⟨rfl, ?_⟩⟩)
                  exact ret2 rfl rfl rfl ⟨rfl, (hm535.pick [] (by decide) rfl)⟩
                · refine cw_f rfl hb565 ?_
                  refine cw_skip ?_
                  refine qn_block (qn_then ?_)
                  refine cw_region ?_
                  obtain ⟨x567, h568, q569⟩ := ob q566; clear q566
                  refine t_rd rfl (rd_add64 h568 rfl rfl) ?_
                  refine t_rd rfl (rd_move rfl) ?_
                  refine rwt_nil ?_
                  refine qn_then ?_
                  refine ⟨_, (os q569), (by repeat (first | exact Sub.nil _ | refine Sub.cons rfl ?_)), (hm535.pick [1] (by decide) rfl)⟩
              · refine cw_f rfl hb523 ?_
                refine cw_exit ?_
                refine qx_then (qx_then ?_)
                obtain rfl := hr516 _ (os q524)
                exact .inr (⟨_, rfl, ⟨rfl, (by repeat (first | exact Sub.nil _ | refine Sub.cons rfl ?_)), (hm522.pick [] (by decide) rfl)⟩⟩)
            · skip
              intro e env570 w571 hX572
              rcases hX572 with hX572 | hX572
              · obtain ⟨p574, rfl, hX572⟩ := hX572
                obtain ⟨rfl, hq576⟩ := hX572
                obtain rfl := hr390 _ (os q519)
                exact qr_block (qr_block (qr_then (qr_then (.inl (⟨_, rfl, ⟨rfl, hq576⟩⟩)))))
              · obtain ⟨p577, rfl, hX572⟩ := hX572
                obtain ⟨rfl, hs578, hm579⟩ := hX572
                refine qx_same (qn_block (qn_then ?_))
                refine cw_sub hs578 ?_
                refine cw_region ?_
                obtain ⟨x580, h581, q582⟩ := ob q519; clear q519
                refine t_rd rfl (rd_add64 h581 rfl rfl) ?_
                refine t_rd rfl (rd_move rfl) ?_
                refine rwt_nil ?_
                refine qn_then ?_
                refine ⟨_, (os q582), (by repeat (first | exact Sub.nil _ | refine Sub.cons rfl ?_)), (hm579.pick [] (by decide) rfl)⟩
        · refine cw_f rfl hb397 ?_
          refine cw_exit ?_
          refine qx_then (qx_then ?_)
          obtain rfl := hr390 _ (os q398)
          exact .inr (⟨_, rfl, ⟨rfl, (by repeat (first | exact Sub.nil _ | refine Sub.cons rfl ?_)), (hm396.pick [] (by decide) rfl)⟩⟩)
      · skip
        intro e env583 w584 hX585
        rcases hX585 with hX585 | hX585
        · obtain ⟨p587, rfl, hX585⟩ := hX585
          obtain ⟨rfl, hq589⟩ := hX585
          exact qr_block (qr_then ((by have e := os q393; subst e; exact hq589)))
        · obtain ⟨p590, rfl, hX585⟩ := hX585
          obtain ⟨rfl, hs591, hm592⟩ := hX585
          refine qx_same (qn_then ?_)
          refine cw_sub hs591 ?_
          refine cw_seq ?_
          refine cw_region ?_
          refine t_rd rfl (rd_assign rfl) ?_
          refine t_rd rfl (rd_assign rfl) ?_
          refine rwt_nil ?_
          refine qn_then ?_
          refine cw_ret ?_
          obtain rfl := os q393
          exact ret2 rfl rfl rfl ⟨rfl, (hm592.pick [] (by decide) rfl)⟩

theorem r39_Check_ok {N : Nat} {a0 : List T_Task} {a1 : Int} {a2 : List Int} {res : Bool × Int} (h : r39_Check N a0 a1 a2 = some res) {w : World} {v0 : Value} {v2 : Value} (hv0 : Sl (Old w No) w v0 a0) (hv2 : Sl (Old w No) w v2 a2) :
    CallsR Try.prog 22 [v0, (Value.int .i64 a1), v2] w (fun u w' => u = (Value.tuple #[(Value.bool res.1), (Value.int .i64 res.2)]) ∧ Mem w No [] w') := by
  unfold r39_Check at h
  refine fn_ok Try.func22 rfl rfl rfl ?_
  have hm0 := Mem.nil w
  refine cw_seq ?_
  refine cw_region ?_
  refine t_rd rfl (rd_assign rfl) ?_
  refine t_rd rfl (rd_assign rfl) ?_
  refine rwt_nil ?_
  refine qn_then ?_
  refine cw_seq ?_
  refine cw_seq ?_
  refine cw_region ?_
  refine t_rd rfl (rd_move rfl) ?_
  refine t_rd rfl (rd_move rfl) ?_
  obtain ⟨r1, h2, q3⟩ := ob h; clear h
  refine t_ef rfl (ef_call tf19 rfl (r39_check_ok h2 (hv0.to_call hm0))) ?_
  rintro _ w5 ⟨e_, hm4⟩
  obtain rfl := e_.symm
  have hm6 := hm0.call hm4
  refine t_rd rfl (rd_assign rfl) ?_
  refine rwt_nil ?_
  refine qn_then ?_
  refine cw_seq ?_
  refine cw_region ?_
  refine t_rd rfl (rd_move rfl) ?_
  refine t_rd rfl (rd_neq rfl rfl) ?_
  refine rwt_nil ?_
  refine qn_then ?_
  obtain ⟨hb7, q8⟩ | ⟨hb7, q8⟩ := oi q3 <;> clear q3
  · refine cw_t rfl hb7 ?_
    refine cw_seq ?_
    refine cw_region ?_
    refine t_rd rfl (rd_move rfl) ?_
    refine t_rd rfl (rd_assign rfl) ?_
    refine t_rd rfl (rd_assign rfl) ?_
    refine rwt_nil ?_
    refine qn_then ?_
    refine cw_ret ?_
    refine qr_then ?_
    obtain rfl := os q8
    exact ret2 rfl rfl rfl ⟨rfl, (hm6.pick [] (by decide) rfl)⟩
  · refine cw_f rfl hb7 ?_
    refine cw_skip ?_
    refine qn_then ?_
    refine cw_seq ?_
    refine cw_seq ?_
    refine cw_region ?_
    refine t_rd rfl (rd_move rfl) ?_
    refine t_rd rfl (rd_lenS tS22 rfl (hv2.of_old hm6)) ?_
    refine t_rd rfl (rd_move rfl) ?_
    refine t_rd rfl (rd_lenS tS23 rfl (hv0.of_old hm6)) ?_
    refine t_rd rfl (rd_neq rfl rfl) ?_
    refine rwt_nil ?_
    refine qn_then ?_
    obtain ⟨hb9, q10⟩ | ⟨hb9, q10⟩ := oi q8 <;> clear q8
    · refine cw_t rfl hb9 ?_
      refine cw_seq ?_
      refine cw_region ?_
      refine t_rd rfl (rd_assign rfl) ?_
      refine t_rd rfl (rd_assign rfl) ?_
      refine rwt_nil ?_
      refine qn_then ?_
      refine cw_ret ?_
      refine qr_then ?_
      obtain rfl := os q10
      exact ret2 rfl rfl rfl ⟨rfl, (hm6.pick [] (by decide) rfl)⟩
    · refine cw_f rfl hb9 ?_
      refine cw_skip ?_
      refine qn_then ?_
      refine cw_seq ?_
      refine cw_seq ?_
      refine cw_region ?_
      refine t_rd rfl (rd_assign rfl) ?_
      refine rwt_nil ?_
      refine qn_then ?_
      refine cw_block ?_
      obtain ⟨r327, hit328, q329⟩ := ob q10; clear q10
      refine cw_loop2 (I := fun q envq wq => Sub [(0, v0), (1, (Value.int .i64 a1)), (2, v2), (9, (Value.int .i64 q))] envq ∧ Mem w No [] wq) (X := fun eq envq wq => (∃ p330, r327 = (Sum.inl p330) ∧ eq = .ret ∧ retQ Try.prog 59 Try.f22 (fun u w' => u = (Value.tuple #[(Value.bool p330.1), (Value.int .i64 p330.2)]) ∧ Mem w No [] w') .ret envq wq) ∨ (∃ p331, r327 = (Sum.inr p331) ∧ eq = .exit 0 ∧ Sub [] envq ∧ Mem w No [] wq)) hit328 ⟨(by repeat (first | exact Sub.nil _ | refine Sub.cons rfl ?_)), (hm6.pick [] (by decide) rfl)⟩ ?_ ?_
      · rintro i320 x322 env323 w324 hf325 hr326 ⟨hs_, hm_⟩
        have hs_ : Sub [(0, v0), (1, (Value.int .i64 a1)), (2, v2), (9, (Value.int .i64 i320))] env323 := hs_
        have hm332 : Mem w No [] w324 := hm_
        refine cw_sub hs_ ?_
        clear hs_ hm_ q329
        have h : r39_Check_l3 N a0 a1 a2 i320 = some x322 := hf325
        clear hf325
        refine cw_seq ?_
        refine cw_seq ?_
        refine cw_region ?_
        refine t_rd rfl (rd_move rfl) ?_
        refine t_rd rfl (rd_move rfl) ?_
        refine t_rd rfl (rd_lenS tS23 rfl (hv0.of_old hm332)) ?_
        refine t_rd rfl (rd_lss rfl rfl) ?_
        refine rwt_nil ?_
        refine qn_then ?_
        obtain ⟨hb333, q334⟩ | ⟨hb333, q334⟩ := oi h <;> clear h
        · refine cw_t rfl hb333 ?_
          refine cw_skip ?_
          refine qn_then ?_
          refine cw_seq ?_
          refine cw_block ?_
          refine cw_seq ?_
          refine cw_seq ?_
          refine cw_region ?_
          refine t_rd rfl (rd_move rfl) ?_
          refine t_rd rfl (rd_move rfl) ?_
          obtain ⟨x335, h336, q337⟩ := ob q334; clear q334
          refine t_rd rfl (rd_index tS22 rfl rfl (hv2.of_old hm332) h336) ?_
          refine t_rd rfl (rd_ld1 tO3 rfl ((hv2.of_old hm332).cells h336) (off := 0) rfl) ?_
          refine t_rd rfl (rd_lss rfl rfl) ?_
          refine rwt_nil ?_
          refine qn_then ?_
          obtain ⟨hb338, q339⟩ | ⟨hb338, q339⟩ := oi q337 <;> clear q337
          · refine cw_t rfl hb338 ?_
            refine cw_seq ?_
            refine cw_region ?_
            refine t_rd rfl (rd_assign rfl) ?_
            refine t_rd rfl (rd_assign rfl) ?_
            refine rwt_nil ?_
            refine qn_then ?_
            refine cw_ret ?_
            refine qr_then (qr_block (qr_then (qr_then ?_)))
            obtain rfl := hr326 _ (os q339)
            refine .inl (⟨_, rfl, ⟨rfl, ?_⟩⟩)
            exact ret2 rfl rfl rfl ⟨rfl, (hm332.pick [] (by decide) rfl)⟩
          · refine cw_f rfl hb338 ?_
            refine cw_skip ?_
            refine qn_then ?_
            refine cw_seq ?_
            refine cw_region ?_
            refine t_rd rfl (rd_assign rfl) ?_
            refine rwt_nil ?_
            refine qn_then ?_
            refine cw_block ?_
            obtain ⟨r428, hit429, q430⟩ := ob q339; clear q339
            refine cw_loop2 (I := fun q envq wq => Sub [(0, v0), (1, (Value.int .i64 a1)), (2, v2), (9, (Value.int .i64 i320)), (10, (Value.int .i64 q))] envq ∧ Mem w No [] wq) (X := fun eq envq wq => (∃ p431, r428 = (Sum.inl p431) ∧ eq = .ret ∧ retQ Try.prog 59 Try.f22 (fun u w' => u = (Value.tuple #[(Value.bool p431.1), (Value.int .i64 p431.2)]) ∧ Mem w No [] w') .ret envq wq) ∨ (∃ p432, r428 = (Sum.inr p432) ∧ eq = .exit 2 ∧ Sub [(0, v0), (1, (Value.int .i64 a1)), (2, v2), (9, (Value.int .i64 i320))] envq ∧ Mem w No [] wq)) hit429 ⟨(by repeat (first | exact Sub.nil _ | refine Sub.cons rfl ?_)), (hm332.pick [] (by decide) rfl)⟩ ?_ ?_
            · rintro i421 x423 env424 w425 hf426 hr427 ⟨hs_, hm_⟩
              have hs_ : Sub [(0, v0), (1, (Value.int .i64 a1)), (2, v2), (9, (Value.int .i64 i320)), (10, (Value.int .i64 i421))] env424 := hs_
              have hm433 : Mem w No [] w425 := hm_
              refine cw_sub hs_ ?_
              clear hs_ hm_ q430
              have h : r39_Check_l4 N a0 a1 a2 i320 i421 = some x423 := hf426
              clear hf426
              refine cw_seq ?_
              refine cw_seq ?_
              refine cw_region ?_
              refine t_rd rfl (rd_move rfl) ?_
              refine t_rd rfl (rd_move rfl) ?_
              refine t_rd rfl (rd_lss rfl rfl) ?_
              refine rwt_nil ?_
              refine qn_then ?_
              obtain ⟨hb434, q435⟩ | ⟨hb434, q435⟩ := oi h <;> clear h
              · refine cw_t rfl hb434 ?_
                refine cw_skip ?_
                refine qn_then ?_
                refine cw_seq ?_
                refine cw_block ?_
                refine cw_seq ?_
                obtain ⟨w437, he439⟩ : ∃ q, q = w425.drew := ⟨_, rfl⟩
                have hm438 := hm433.drew; rw [← he439] at hm438
                refine cw_region_s (fun q => q = w437) (cls [] [19]) mixed ?_
                rintro _ rfl; rw [← he439]
                refine s_rp (i := 0) rfl (by kernel_rfl) rfl (fun _ => (rd_move rfl)) ?_
                refine s_rp (i := 1) rfl (by kernel_rfl) rfl (fun _ => (rd_move rfl)) ?_
                obtain ⟨x440, h441, q442⟩ := ob q435; clear q435
                refine s_rp (i := 2) rfl (by kernel_rfl) rfl (fun _ => (rd_index tS22 rfl rfl (hv2.of_old hm438) h441)) ?_
                refine s_rd (i := 3) rfl (by kernel_rfl) rfl (fun _ hS => by rw [hS]; exact (rd_ld1 tO3 rfl ((hv2.of_old hm438).cells h441) (off := 0) rfl)) rfl ?_
                refine s_rp (i := 4) rfl (by kernel_rfl) rfl (fun _ => (rd_move rfl)) ?_
                refine s_rp (i := 5) rfl (by kernel_rfl) rfl (fun _ => (rd_move rfl)) ?_
                obtain ⟨x443, h444, q445⟩ := ob q442; clear q442
                refine s_rp (i := 6) rfl (by kernel_rfl) rfl (fun _ => (rd_index tS22 rfl rfl (hv2.of_old hm438) h444)) ?_
                refine s_rd (i := 7) rfl (by kernel_rfl) rfl (fun _ hS => by rw [hS]; exact (rd_ld1 tO3 rfl ((hv2.of_old hm438).cells h444) (off := 0) rfl)) rfl ?_
                refine s_rp (i := 8) rfl (by kernel_rfl) rfl (fun _ => (rd_eql rfl rfl)) ?_
                refine s_rp (i := 9) rfl (by kernel_rfl) rfl (fun _ => (rd_move rfl)) ?_
                refine s_rpg (i := 10) rfl (by kernel_rfl) rfl rfl rfl rfl (gv_t _) (fun hg446 _ => (rd_move rfl)) ?_
                refine s_rpg (i := 11) rfl (by kernel_rfl) rfl rfl rfl rfl (gv_t _) (fun hg447 _ => (rd_move rfl)) ?_
                obtain ⟨x449, h450, q451⟩ := ob q445; clear q445
                refine s_rpg (i := 12) rfl (by kernel_rfl) rfl rfl rfl rfl (gv_t _) (fun hg448 _ => (rd_index tS23 (gvx rfl hg448) (gvx rfl hg448) (hv0.of_old hm438) (gO_t h450 hg448))) ?_
                refine s_rdg (i := 13) rfl (by kernel_rfl) rfl rfl rfl rfl (gv_t _) (fun hg452 => (fun _ hS => by rw [hS]; exact (rd_ld tA29 (gvx rfl hg452) ((hv0.of_old hm438).cells (gO_t h450 hg452)) rfl))) rfl ?_
                refine s_rpg (i := 14) rfl (by kernel_rfl) rfl rfl rfl rfl (gv_t _) (fun hg453 _ => (rd_move rfl)) ?_
                refine s_rpg (i := 15) rfl (by kernel_rfl) rfl rfl rfl rfl (gv_t _) (fun hg454 _ => (rd_move rfl)) ?_
                obtain ⟨x456, h457, q458⟩ := ob q451; clear q451
                refine s_rpg (i := 16) rfl (by kernel_rfl) rfl rfl rfl rfl (gv_t _) (fun hg455 _ => (rd_index tS23 (gvx rfl hg455) (gvx rfl hg455) (hv0.of_old hm438) (gO_t h457 hg455))) ?_
                refine s_rdg (i := 17) rfl (by kernel_rfl) rfl rfl rfl rfl (gv_t _) (fun hg459 => (fun _ hS => by rw [hS]; exact (rd_ld tA29 (gvx rfl hg459) ((hv0.of_old hm438).cells (gO_t h457 hg459)) rfl))) rfl ?_
                refine s_rpg (i := 18) rfl (by kernel_rfl) rfl rfl rfl rfl (gv_t _) (fun hg460 _ => (rd_move rfl)) ?_
                obtain ⟨r462, h463, q464⟩ := ob q458; clear q458
                refine s_efg (i := 19) rfl (by kernel_rfl) rfl rfl rfl rfl (R := (fun v w' => v = gV (decide (x440 = x443)) (Value.bool r462) ∧ Mem w437 No [] w')) (gv_t _) (fun hg461 => (ef_call tf18 (evc (gvx rfl hg461) (evc (gvx rfl hg461) (evc (gvx rfl hg461) evn))) (r39_Excludes_ok (gO_t h463 hg461))).mono (by rintro _ _ ⟨rfl, q⟩; exact ⟨(gV_t hg461).symm, q⟩)) (fun q => ⟨(gV_f q).symm, Mem.nil _⟩) (by decide) (fun _ _ _ q => absurd q (by decide)) ?_
                rintro _ w466 ⟨rfl, hm465⟩
                have hm467 := hm438.call hm465
                refine s_rp (i := 20) rfl (by kernel_rfl) rfl (fun _ => (rd_and rfl (fun hc468 => (gvx rfl hc468)))) ?_
                refine s_nil (by kernel_rfl) ?_
                refine qn_then ?_
                obtain ⟨hb469, q470⟩ | ⟨hb469, q470⟩ := oi q464 <;> clear q464
                · refine cw_t rfl hb469 ?_
                  refine cw_seq ?_
                  refine cw_region ?_
                  refine t_rd rfl (rd_assign rfl) ?_
                  refine t_rd rfl (rd_assign rfl) ?_
                  refine rwt_nil ?_
                  refine qn_then ?_
                  refine cw_ret ?_
                  refine qr_block (qr_then (qr_then ?_))
                  obtain rfl := hr427 _ (os q470)
                  refine .inl (⟨_, rfl, ⟨rfl, ?_⟩⟩)
                  exact ret2 rfl rfl rfl ⟨rfl, (hm467.pick [] (by decide) rfl)⟩
                · refine cw_f rfl hb469 ?_
                  refine cw_skip ?_
                  refine qn_block (qn_then ?_)
                  refine cw_region ?_
                  refine t_rd rfl (rd_move rfl) ?_
                  obtain ⟨x471, h472, q473⟩ := ob q470; clear q470
                  refine t_rd rfl (rd_add64 h472 rfl rfl) ?_
                  refine t_rd rfl (rd_assign rfl) ?_
                  refine rwt_nil ?_
                  refine qn_then ?_
                  refine ⟨_, (os q473), (by repeat (first | exact Sub.nil _ | refine Sub.cons rfl ?_)), (hm467.pick [] (by decide) rfl)⟩
              · refine cw_f rfl hb434 ?_
                refine cw_exit ?_
                refine qx_then (qx_then ?_)
                obtain rfl := hr427 _ (os q435)
                exact .inr (⟨_, rfl, ⟨rfl, (by repeat (first | exact Sub.nil _ | refine Sub.cons rfl ?_)), (hm433.pick [] (by decide) rfl)⟩⟩)
            · skip
              intro e env474 w475 hX476
              rcases hX476 with hX476 | hX476
              · obtain ⟨p478, rfl, hX476⟩ := hX476
                obtain ⟨rfl, hq480⟩ := hX476
                obtain rfl := hr326 _ (os q430)
                exact qr_block (qr_block (qr_then (qr_then (.inl (⟨_, rfl, ⟨rfl, hq480⟩⟩)))))
              · obtain ⟨p481, rfl, hX476⟩ := hX476
                obtain ⟨rfl, hs482, hm483⟩ := hX476
                refine qx_same (qn_block (qn_then ?_))
                refine cw_sub hs482 ?_
                refine cw_region ?_
                refine t_rd rfl (rd_move rfl) ?_
                obtain ⟨x484, h485, q486⟩ := ob q430; clear q430
                refine t_rd rfl (rd_add64 h485 rfl rfl) ?_
                refine t_rd rfl (rd_assign rfl) ?_
                refine rwt_nil ?_
                refine qn_then ?_
                refine ⟨_, (os q486), (by repeat (first | exact Sub.nil _ | refine Sub.cons rfl ?_)), (hm483.pick [] (by decide) rfl)⟩
        · refine cw_f rfl hb333 ?_
          refine cw_exit ?_
          refine qx_then (qx_then ?_)
          obtain rfl := hr326 _ (os q334)
          exact .inr (⟨_, rfl, ⟨rfl, (by repeat (first | exact Sub.nil _ | refine Sub.cons rfl ?_)), (hm332.pick [] (by decide) rfl)⟩⟩)
      · skip
        intro e env487 w488 hX489
        rcases hX489 with hX489 | hX489
        · obtain ⟨p491, rfl, hX489⟩ := hX489
          obtain ⟨rfl, hq493⟩ := hX489
          exact qr_block (qr_then ((by have e := os q329; subst e; exact hq493)))
        · obtain ⟨p494, rfl, hX489⟩ := hX489
          obtain ⟨rfl, hs495, hm496⟩ := hX489
          refine qx_same (qn_then ?_)
          refine cw_sub hs495 ?_
          refine cw_seq ?_
          refine cw_region ?_
          refine t_rd rfl (rd_assign rfl) ?_
          refine t_rd rfl (rd_assign rfl) ?_
          refine rwt_nil ?_
          refine qn_then ?_
          refine cw_ret ?_
          obtain rfl := os q329
          exact ret2 rfl rfl rfl ⟨rfl, (hm496.pick [] (by decide) rfl)⟩

theorem humpgen_Ints_ok {N : Nat} {a0 : List Int} {a1 : List Int} {res : Bool} (h : humpgen_Ints N a0 a1 = some res) {w : World} {v0 : Value} {v1 : Value} (hv0 : Sl (Old w No) w v0 a0) (hv1 : Sl (Old w No) w v1 a1) :
    CallsR Try.prog 23 [v0, v1] w (fun u w' => u = (Value.bool res) ∧ Mem w No [] w') := by
  unfold humpgen_Ints at h
  refine fn_ok Try.func23 rfl rfl rfl ?_
  have hm0 := Mem.nil w
  refine cw_seq ?_
  refine cw_region ?_
  refine t_rd rfl (rd_assign rfl) ?_
  refine rwt_nil ?_
  refine qn_then ?_
  refine cw_seq ?_
  refine cw_seq ?_
  refine cw_region ?_
  refine t_rd rfl (rd_move rfl) ?_
  refine t_rd rfl (rd_lenS tS22 rfl (hv0.of_old hm0)) ?_
  refine t_rd rfl (rd_move rfl) ?_
  refine t_rd rfl (rd_lenS tS22 rfl (hv1.of_old hm0)) ?_
  refine t_rd rfl (rd_neq rfl rfl) ?_
  refine rwt_nil ?_
  refine qn_then ?_
  obtain ⟨hb1, q2⟩ | ⟨hb1, q2⟩ := oi h <;> clear h
  · refine cw_t rfl hb1 ?_
    refine cw_seq ?_
    refine cw_region ?_
    refine t_rd rfl (rd_assign rfl) ?_
    refine rwt_nil ?_
    refine qn_then ?_
    refine cw_ret ?_
    refine qr_then ?_
    obtain rfl := os q2
    exact ret1 rfl rfl ⟨rfl, (hm0.pick [] (by decide) rfl)⟩
  · refine cw_f rfl hb1 ?_
    refine cw_skip ?_
    refine qn_then ?_
    refine cw_seq ?_
    refine cw_seq ?_
    refine cw_region ?_
    refine t_rd rfl (rd_assign rfl) ?_
    refine rwt_nil ?_
    refine qn_then ?_
    refine cw_block ?_
    obtain ⟨r45, hit46, q47⟩ := ob q2; clear q2
    refine cw_loop2 (I := fun q envq wq => Sub [(0, v0), (1, v1), (5, (Value.int .i64 q))] envq ∧ Mem w No [] wq) (X := fun eq envq wq => (∃ p48, r45 = (Sum.inl p48) ∧ eq = .ret ∧ retQ Try.prog 26 Try.f23 (fun u w' => u = (Value.bool p48) ∧ Mem w No [] w') .ret envq wq) ∨ (∃ p49, r45 = (Sum.inr p49) ∧ eq = .exit 0 ∧ Sub [] envq ∧ Mem w No [] wq)) hit46 ⟨(by repeat (first | exact Sub.nil _ | refine Sub.cons rfl ?_)), (hm0.pick [] (by decide) rfl)⟩ ?_ ?_
    · rintro i38 x40 env41 w42 hf43 hr44 ⟨hs_, hm_⟩
      have hs_ : Sub [(0, v0), (1, v1), (5, (Value.int .i64 i38))] env41 := hs_
      have hm50 : Mem w No [] w42 := hm_
      refine cw_sub hs_ ?_
      clear hs_ hm_ q47
      have h : humpgen_Ints_l1 N a0 a1 i38 = some x40 := hf43
      clear hf43
      refine cw_seq ?_
      refine cw_seq ?_
      refine cw_region ?_
      refine t_rd rfl (rd_move rfl) ?_
      refine t_rd rfl (rd_move rfl) ?_
      refine t_rd rfl (rd_lenS tS22 rfl (hv0.of_old hm50)) ?_
      refine t_rd rfl (rd_lss rfl rfl) ?_
      refine rwt_nil ?_
      refine qn_then ?_
      obtain ⟨hb51, q52⟩ | ⟨hb51, q52⟩ := oi h <;> clear h
      · refine cw_t rfl hb51 ?_
        refine cw_skip ?_
        refine qn_then ?_
        refine cw_seq ?_
        refine cw_block ?_
        refine cw_seq ?_
        obtain ⟨w54, he56⟩ : ∃ q, q = w42.drew := ⟨_, rfl⟩
        have hm55 := hm50.drew; rw [← he56] at hm55
        refine cw_region_s (fun q => q = w54) (cls [] []) mixed ?_
        rintro _ rfl; rw [← he56]
        refine s_rp (i := 0) rfl (by kernel_rfl) rfl (fun _ => (rd_move rfl)) ?_
        refine s_rp (i := 1) rfl (by kernel_rfl) rfl (fun _ => (rd_move rfl)) ?_
        obtain ⟨x57, h58, q59⟩ := ob q52; clear q52
        refine s_rp (i := 2) rfl (by kernel_rfl) rfl (fun _ => (rd_index tS22 rfl rfl (hv0.of_old hm55) h58)) ?_
        refine s_rd (i := 3) rfl (by kernel_rfl) rfl (fun _ hS => by rw [hS]; exact (rd_ld1 tO3 rfl ((hv0.of_old hm55).cells h58) (off := 0) rfl)) rfl ?_
        refine s_rp (i := 4) rfl (by kernel_rfl) rfl (fun _ => (rd_move rfl)) ?_
        refine s_rp (i := 5) rfl (by kernel_rfl) rfl (fun _ => (rd_move rfl)) ?_
        obtain ⟨x60, h61, q62⟩ := ob q59; clear q59
        refine s_rp (i := 6) rfl (by kernel_rfl) rfl (fun _ => (rd_index tS22 rfl rfl (hv1.of_old hm55) h61)) ?_
        refine s_rd (i := 7) rfl (by kernel_rfl) rfl (fun _ hS => by rw [hS]; exact (rd_ld1 tO3 rfl ((hv1.of_old hm55).cells h61) (off := 0) rfl)) rfl ?_
        refine s_rp (i := 8) rfl (by kernel_rfl) rfl (fun _ => (rd_neq rfl rfl)) ?_
        refine s_nil (by kernel_rfl) ?_
        refine qn_then ?_
        obtain ⟨hb63, q64⟩ | ⟨hb63, q64⟩ := oi q62 <;> clear q62
        · refine cw_t rfl hb63 ?_
          refine cw_seq ?_
          refine cw_region ?_
          refine t_rd rfl (rd_assign rfl) ?_
          refine rwt_nil ?_
          refine qn_then ?_
          refine cw_ret ?_
          refine qr_block (qr_then (qr_then ?_))
          obtain rfl := hr44 _ (os q64)
          refine .inl (⟨_, rfl, ⟨rfl, ?_⟩⟩)
          exact ret1 rfl rfl ⟨rfl, (hm55.pick [] (by decide) rfl)⟩
        · refine cw_f rfl hb63 ?_
          refine cw_skip ?_
          refine qn_block (qn_then ?_)
          refine cw_region ?_
          refine t_rd rfl (rd_move rfl) ?_
          obtain ⟨x65, h66, q67⟩ := ob q64; clear q64
          refine t_rd rfl (rd_add64 h66 rfl rfl) ?_
          refine t_rd rfl (rd_assign rfl) ?_
          refine rwt_nil ?_
          refine qn_then ?_
          refine ⟨_, (os q67), (by repeat (first | exact Sub.nil _ | refine Sub.cons rfl ?_)), (hm55.pick [] (by decide) rfl)⟩
      · refine cw_f rfl hb51 ?_
        refine cw_exit ?_
        refine qx_then (qx_then ?_)
        obtain rfl := hr44 _ (os q52)
        exact .inr (⟨_, rfl, ⟨rfl, (by repeat (first | exact Sub.nil _ | refine Sub.cons rfl ?_)), (hm50.pick [] (by decide) rfl)⟩⟩)
    · skip
      intro e env68 w69 hX70
      rcases hX70 with hX70 | hX70
      · obtain ⟨p72, rfl, hX70⟩ := hX70
        obtain ⟨rfl, hq74⟩ := hX70
        exact qr_block (qr_then ((by have e := os q47; subst e; exact hq74)))
      · obtain ⟨p75, rfl, hX70⟩ := hX70
        obtain ⟨rfl, hs76, hm77⟩ := hX70
        refine qx_same (qn_then ?_)
        refine cw_sub hs76 ?_
        refine cw_seq ?_
        refine cw_region ?_
        refine t_rd rfl (rd_assign rfl) ?_
        refine rwt_nil ?_
        refine qn_then ?_
        refine cw_ret ?_
        obtain rfl := os q47
        exact ret1 rfl rfl ⟨rfl, (hm77.pick [] (by decide) rfl)⟩

theorem law39_exact_ok {N : Nat} {a0 : List T_Task} {a1 : Int} {a2 : List Int} {res : Bool} (h : law39_exact N a0 a1 a2 = some res) {w : World} {v0 : Value} {v2 : Value} (hv0 : Sl (Old w No) w v0 a0) (hv2 : Sl (Old w No) w v2 a2) :
    CallsR Try.prog 12 [v0, (Value.int .i64 a1), v2] w (fun u w' => u = (Value.bool res) ∧ Mem w No [] w') := by
  unfold law39_exact at h
  refine fn_ok Try.func12 rfl rfl rfl ?_
  have hm0 := Mem.nil w
  refine cw_seq ?_
  refine cw_region ?_
  refine t_rd rfl (rd_assign rfl) ?_
  refine rwt_nil ?_
  refine qn_then ?_
  refine cw_seq ?_
  refine cw_region ?_
  refine t_rd rfl (rd_move rfl) ?_
  refine t_rd rfl (rd_move rfl) ?_
  obtain ⟨r1, h2, q3⟩ := ob h; clear h
  refine t_ef rfl (ef_call tf15 rfl (engine_Assign_ok h2 (hv0.to_call hm0))) ?_
  rintro _ w6 ⟨v4, e_, hm5⟩
  obtain rfl := e_.symm
  have hm7 := hm0.call hm5
  refine t_rd rfl (rd_move rfl) ?_
  refine t_rd rfl (rd_extract rfl rfl) ?_
  refine t_rd rfl (rd_extract rfl rfl) ?_
  refine t_rd rfl (rd_extract rfl rfl) ?_
  refine t_rd rfl (rd_assign rfl) ?_
  refine t_rd rfl (rd_assign rfl) ?_
  refine t_rd rfl (rd_assign rfl) ?_
  refine rwt_nil ?_
  refine qn_then ?_
  refine cw_seq ?_
  refine cw_region ?_
  refine t_rd rfl (rd_move rfl) ?_
  refine t_rd rfl (rd_move rfl) ?_
  obtain ⟨r8, h9, q10⟩ := ob q3; clear q3
  refine t_ef rfl (ef_call tf10 rfl (r39_Assign_ok h9 (hv0.to_call hm7))) ?_
  rintro _ w13 ⟨v11, e_, hm12⟩
  obtain rfl := e_.symm
  have hm14 := hm7.call hm12
  refine t_rd rfl (rd_move rfl) ?_
  refine t_rd rfl (rd_extract rfl rfl) ?_
  refine t_rd rfl (rd_extract rfl rfl) ?_
  refine t_rd rfl (rd_extract rfl rfl) ?_
  refine t_rd rfl (rd_assign rfl) ?_
  refine t_rd rfl (rd_assign rfl) ?_
  refine t_rd rfl (rd_assign rfl) ?_
  refine rwt_nil ?_
  refine qn_then ?_
  refine cw_seq ?_
  refine cw_region ?_
  refine t_rd rfl (rd_move rfl) ?_
  refine t_rd rfl (rd_move rfl) ?_
  obtain ⟨r15, h16, q17⟩ := ob q10; clear q10
  refine t_ef rfl (ef_call tf17 rfl (engine_Witness_ok h16 (hv0.to_call hm14))) ?_
  rintro _ w20 ⟨v18, e_, hm19⟩
  obtain rfl := e_.symm
  have hm21 := hm14.call hm19
  refine t_rd rfl (rd_move rfl) ?_
  refine t_rd rfl (rd_extract rfl rfl) ?_
  refine t_rd rfl (rd_extract rfl rfl) ?_
  refine t_rd rfl (rd_extract rfl rfl) ?_
  refine t_rd rfl (rd_assign rfl) ?_
  refine t_rd rfl (rd_assign rfl) ?_
  refine t_rd rfl (rd_assign rfl) ?_
  refine rwt_nil ?_
  refine qn_then ?_
  refine cw_seq ?_
  refine cw_region ?_
  refine t_rd rfl (rd_move rfl) ?_
  refine t_rd rfl (rd_move rfl) ?_
  obtain ⟨r22, h23, q24⟩ := ob q17; clear q17
  refine t_ef rfl (ef_call tf21 rfl (r39_Witness_ok h23 (hv0.to_call hm21))) ?_
  rintro _ w27 ⟨v25, e_, hm26⟩
  obtain rfl := e_.symm
  have hm28 := hm21.call hm26
  refine t_rd rfl (rd_move rfl) ?_
  refine t_rd rfl (rd_extract rfl rfl) ?_
  refine t_rd rfl (rd_extract rfl rfl) ?_
  refine t_rd rfl (rd_extract rfl rfl) ?_
  refine t_rd rfl (rd_assign rfl) ?_
  refine t_rd rfl (rd_assign rfl) ?_
  refine t_rd rfl (rd_assign rfl) ?_
  refine rwt_nil ?_
  refine qn_then ?_
  refine cw_seq ?_
  refine cw_region ?_
  refine t_rd rfl (rd_move rfl) ?_
  refine t_rd rfl (rd_move rfl) ?_
  refine t_rd rfl (rd_move rfl) ?_
  obtain ⟨r29, h30, q31⟩ := ob q24; clear q24
  refine t_ef rfl (ef_call tf16 rfl (engine_Check_ok h30 (hv0.to_call hm28) (hv2.to_call hm28))) ?_
  rintro _ w33 ⟨e_, hm32⟩
  obtain rfl := e_.symm
  have hm34 := hm28.call hm32
  refine t_rd rfl (rd_move rfl) ?_
  refine t_rd rfl (rd_extract rfl rfl) ?_
  refine t_rd rfl (rd_extract rfl rfl) ?_
  refine t_rd rfl (rd_assign rfl) ?_
  refine t_rd rfl (rd_assign rfl) ?_
  refine rwt_nil ?_
  refine qn_then ?_
  refine cw_seq ?_
  refine cw_region ?_
  refine t_rd rfl (rd_move rfl) ?_
  refine t_rd rfl (rd_move rfl) ?_
  refine t_rd rfl (rd_move rfl) ?_
  obtain ⟨r35, h36, q37⟩ := ob q31; clear q31
  refine t_ef rfl (ef_call tf22 rfl (r39_Check_ok h36 (hv0.to_call hm34) (hv2.to_call hm34))) ?_
  rintro _ w39 ⟨e_, hm38⟩
  obtain rfl := e_.symm
  have hm40 := hm34.call hm38
  refine t_rd rfl (rd_move rfl) ?_
  refine t_rd rfl (rd_extract rfl rfl) ?_
  refine t_rd rfl (rd_extract rfl rfl) ?_
  refine t_rd rfl (rd_assign rfl) ?_
  refine t_rd rfl (rd_assign rfl) ?_
  refine rwt_nil ?_
  refine qn_then ?_
  refine cw_seq ?_
  refine cw_region ?_
  refine t_rd rfl (rd_move rfl) ?_
  refine t_rd rfl (rd_move rfl) ?_
  obtain ⟨r41, h42, q43⟩ := ob q37; clear q37
  refine t_ef rfl (ef_call tf23 rfl (humpgen_Ints_ok h42 (hm40.sl_call 3 rfl) (hm40.sl_call 2 rfl))) ?_
  rintro _ w45 ⟨e_, hm44⟩
  obtain rfl := e_.symm
  have hm46 := hm40.call hm44
  refine t_rd rfl (rd_move rfl) ?_
  refine t_rdg rfl rfl rfl rfl (gv_t _) (fun hg47 => (rd_move rfl)) ?_
  refine t_rdg rfl rfl rfl rfl (gv_t _) (fun hg48 => (rd_move rfl)) ?_
  refine t_rdg rfl rfl rfl rfl (gv_t _) (fun hg49 => (rd_eql (gvx rfl hg49) (gvx rfl hg49))) ?_
  refine t_rd rfl (rd_and rfl (fun hc50 => (gvx rfl hc50))) ?_
  refine t_rd rfl (rd_move rfl) ?_
  refine t_rdg rfl rfl rfl rfl (gv_t _) (fun hg51 => (rd_move rfl)) ?_
  refine t_rdg rfl rfl rfl rfl (gv_t _) (fun hg52 => (rd_move rfl)) ?_
  refine t_rdg rfl rfl rfl rfl (gv_t _) (fun hg53 => (rd_eql (gvx rfl hg53) (gvx rfl hg53))) ?_
  refine t_rd rfl (rd_and rfl (fun hc54 => (gvx rfl hc54))) ?_
  refine t_rd rfl (rd_move rfl) ?_
  refine t_rdg rfl rfl rfl rfl (gv_t _) (fun hg55 => (rd_move rfl)) ?_
  refine t_rdg rfl rfl rfl rfl (gv_t _) (fun hg56 => (rd_move rfl)) ?_
  refine t_rdg rfl rfl rfl rfl (gv_t _) (fun hg57 => (rd_eql (gvx rfl hg57) (gvx rfl hg57))) ?_
  refine t_rd rfl (rd_and rfl (fun hc58 => (gvx rfl hc58))) ?_
  refine t_rd rfl (rd_move rfl) ?_
  refine t_rdg rfl rfl rfl rfl (gv_t _) (fun hg59 => (rd_move rfl)) ?_
  refine t_rdg rfl rfl rfl rfl (gv_t _) (fun hg60 => (rd_move rfl)) ?_
  obtain ⟨r62, h63, q64⟩ := ob q43; clear q43
  refine t_efg rfl rfl rfl rfl (R := (fun v w' => v = gV (((r41 && decide (r1.2.1 = r8.2.1)) && decide (r1.2.2 = r8.2.2)) && decide (r15.1 = r22.1)) (Value.bool r62) ∧ Mem w45 No [] w')) (gv_t _) (fun hg61 => (ef_call tf23 (evc (gvx rfl hg61) (evc (gvx rfl hg61) evn)) (humpgen_Ints_ok (gO_t h63 hg61) (hm46.sl_call 1 rfl) (hm46.sl_call 0 rfl))).mono (by rintro _ _ ⟨rfl, q⟩; exact ⟨(gV_t hg61).symm, q⟩)) (fun q => ⟨(gV_f q).symm, Mem.nil _⟩) ?_
  rintro _ w66 ⟨rfl, hm65⟩
  have hm67 := hm46.call hm65
  refine t_rd rfl (rd_and rfl (fun hc68 => (gvx rfl hc68))) ?_
  refine t_rd rfl (rd_move rfl) ?_
  refine t_rdg rfl rfl rfl rfl (gv_t _) (fun hg69 => (rd_move rfl)) ?_
  refine t_rdg rfl rfl rfl rfl (gv_t _) (fun hg70 => (rd_move rfl)) ?_
  refine t_rdg rfl rfl rfl rfl (gv_t _) (fun hg71 => (rd_eql (gvx rfl hg71) (gvx rfl hg71))) ?_
  refine t_rd rfl (rd_and rfl (fun hc72 => (gvx rfl hc72))) ?_
  refine t_rd rfl (rd_move rfl) ?_
  refine t_rdg rfl rfl rfl rfl (gv_t _) (fun hg73 => (rd_move rfl)) ?_
  refine t_rdg rfl rfl rfl rfl (gv_t _) (fun hg74 => (rd_move rfl)) ?_
  refine t_rdg rfl rfl rfl rfl (gv_t _) (fun hg75 => (rd_eqlb tB4 (gvx rfl hg75) (gvx rfl hg75))) ?_
  refine t_rd rfl (rd_and rfl (fun hc76 => (gvx rfl hc76))) ?_
  refine t_rd rfl (rd_move rfl) ?_
  refine t_rdg rfl rfl rfl rfl (gv_t _) (fun hg77 => (rd_move rfl)) ?_
  refine t_rdg rfl rfl rfl rfl (gv_t _) (fun hg78 => (rd_move rfl)) ?_
  refine t_rdg rfl rfl rfl rfl (gv_t _) (fun hg79 => (rd_eql (gvx rfl hg79) (gvx rfl hg79))) ?_
  refine t_rd rfl (rd_and rfl (fun hc80 => (gvx rfl hc80))) ?_
  refine t_rd rfl (rd_assign rfl) ?_
  refine rwt_nil ?_
  refine qn_then ?_
  refine cw_ret ?_
  obtain rfl := os q64
  exact ret1 rfl rfl ⟨rfl, (hm67.pick [] (by decide) rfl)⟩

theorem law39_sane_ok {N : Nat} {res : Bool} (h : law39_sane N = some res) {w : World}   :
    CallsR Try.prog 13 [] w (fun u w' => u = (Value.bool res) ∧ Mem w No [] w') := by
  unfold law39_sane at h
  refine fn_ok Try.func13 rfl rfl rfl ?_
  have hm0 := Mem.nil w
  refine cw_seq ?_
  refine cw_region ?_
  refine t_rd rfl (rd_assign rfl) ?_
  refine rwt_nil ?_
  refine qn_then ?_
  refine cw_seq ?_
  refine cw_region ?_
  refine t_rd rfl (rd_build (cs := #[(Value.int .i64 0), (Value.int .i64 10)]) rfl (by kernel_rfl)) ?_
  refine t_rd rfl (rd_build (cs := #[(Value.int .i64 5), (Value.int .i64 15)]) rfl (by kernel_rfl)) ?_
  refine t_rd rfl (rd_build (cs := #[(Value.int .i64 10), (Value.int .i64 20)]) rfl (by kernel_rfl)) ?_
  refine t_ef rfl (ef_bslice (l := ([(T_Task.mk 0 10), (T_Task.mk 5 15), (T_Task.mk 10 20)] : List T_Task)) hm0 tS23 rfl (cs := #[(Value.int .i64 0), (Value.int .i64 10), (Value.int .i64 5), (Value.int .i64 15), (Value.int .i64 10), (Value.int .i64 20)]) (by unfold bsl; kernel_rfl) rfl rfl) ?_
  intro v1 w3 hm2
  refine t_rd rfl (rd_assign rfl) ?_
  refine rwt_nil ?_
  refine qn_then ?_
  refine cw_seq ?_
  refine cw_region ?_
  refine t_rd rfl (rd_move rfl) ?_
  obtain ⟨r4, h5, q6⟩ := ob h; clear h
  refine t_ef rfl (ef_call tf15 rfl (engine_Assign_ok h5 (hm2.sl_call 0 rfl))) ?_
  rintro _ w9 ⟨v7, e_, hm8⟩
  obtain rfl := e_.symm
  have hm10 := hm2.call hm8
  refine t_rd rfl (rd_move rfl) ?_
  refine t_rd rfl (rd_extract rfl rfl) ?_
  refine t_rd rfl (rd_extract rfl rfl) ?_
  refine t_rd rfl (rd_extract rfl rfl) ?_
  refine t_rd rfl (rd_assign rfl) ?_
  refine t_rd rfl (rd_assign rfl) ?_
  refine t_rd rfl (rd_assign rfl) ?_
  refine rwt_nil ?_
  refine qn_then ?_
  refine cw_seq ?_
  refine cw_region ?_
  refine t_rd rfl (rd_move rfl) ?_
  obtain ⟨r11, h12, q13⟩ := ob q6; clear q6
  refine t_ef rfl (ef_call tf17 rfl (engine_Witness_ok h12 (hm10.sl_call 1 rfl))) ?_
  rintro _ w16 ⟨v14, e_, hm15⟩
  obtain rfl := e_.symm
  have hm17 := hm10.call hm15
  refine t_rd rfl (rd_move rfl) ?_
  refine t_rd rfl (rd_extract rfl rfl) ?_
  refine t_rd rfl (rd_extract rfl rfl) ?_
  refine t_rd rfl (rd_extract rfl rfl) ?_
  refine t_rd rfl (rd_assign rfl) ?_
  refine t_rd rfl (rd_assign rfl) ?_
  refine t_rd rfl (rd_assign rfl) ?_
  refine rwt_nil ?_
  refine qn_then ?_
  refine cw_seq ?_
  refine cw_region ?_
  refine t_rd rfl (rd_move rfl) ?_
  refine t_rd rfl (rd_move rfl) ?_
  obtain ⟨r18, h19, q20⟩ := ob q13; clear q13
  refine t_ef rfl (ef_call tf16 rfl (engine_Check_ok h19 (hm17.sl_call 2 rfl) (hm17.sl_call 1 rfl))) ?_
  rintro _ w22 ⟨e_, hm21⟩
  obtain rfl := e_.symm
  have hm23 := hm17.call hm21
  refine t_rd rfl (rd_move rfl) ?_
  refine t_rd rfl (rd_extract rfl rfl) ?_
  refine t_rd rfl (rd_extract rfl rfl) ?_
  refine t_rd rfl (rd_assign rfl) ?_
  refine t_rd rfl (rd_assign rfl) ?_
  refine rwt_nil ?_
  refine qn_then ?_
  refine cw_seq ?_
  refine cw_region ?_
  refine t_rd rfl (rd_move rfl) ?_
  refine t_rd rfl (rd_eql rfl rfl) ?_
  refine t_rd rfl (rd_move rfl) ?_
  refine t_rdg rfl rfl rfl rfl (gv_t _) (fun hg24 => (rd_move rfl)) ?_
  refine t_rdg rfl rfl rfl rfl (gv_t _) (fun hg25 => (rd_eql (gvx rfl hg25) rfl)) ?_
  refine t_rd rfl (rd_and rfl (fun hc26 => (gvx rfl hc26))) ?_
  refine t_rd rfl (rd_move rfl) ?_
  refine t_rdg rfl rfl rfl rfl (gv_t _) (fun hg27 => (rd_move rfl)) ?_
  obtain ⟨hb29, q30⟩ | ⟨hb29, q30⟩ := oi q20 <;> clear q20
  · skip
    refine t_efg rfl rfl rfl rfl (gv_t _) (fun _ => (ef_bslice (l := ([0, 1, 0] : List Int)) hm23 tS22 rfl (cs := #[(Value.int .i64 0), (Value.int .i64 1), (Value.int .i64 0)]) (by unfold bsl; kernel_rfl) rfl rfl)) (fun q => bcontra q hb29) ?_
    intro v32 w34 hm33
    obtain ⟨r36, h37, q38⟩ := ob q30; clear q30
    refine t_efg rfl rfl rfl rfl (gv_t _) (fun _ => (ef_call tf23 (evc (gvx rfl hb29) (evc rfl evn)) (humpgen_Ints_ok h37 (hm33.sl_call 2 rfl) (hm33.sl_call 0 rfl)))) (fun q => bcontra q hb29) ?_
    rintro _ w40 ⟨e_, hm39⟩
    obtain rfl := e_.symm
    have hm41 := hm33.call hm39
    refine t_rd rfl (rd_and rfl (fun hc42 => rfl)) ?_
    refine t_rd rfl (rd_move rfl) ?_
    refine t_rdg rfl rfl rfl rfl (gv_t _) (fun hg43 => (rd_move rfl)) ?_
    refine t_rdg rfl rfl rfl rfl (gv_t _) (fun hg44 => (rd_eql (gvx rfl hg44) rfl)) ?_
    refine t_rd rfl (rd_and rfl (fun hc45 => (gvx rfl hc45))) ?_
    refine t_rd rfl (rd_move rfl) ?_
    refine t_rdg rfl rfl rfl rfl (gv_t _) (fun hg46 => (rd_move rfl)) ?_
    refine t_rdg rfl rfl rfl rfl (gv_t _) (fun hg47 => (rd_eql (gvx rfl hg47) rfl)) ?_
    refine t_rd rfl (rd_and rfl (fun hc48 => (gvx rfl hc48))) ?_
    refine t_rd rfl (rd_move rfl) ?_
    refine t_rdg rfl rfl rfl rfl (gv_t _) (fun hg49 => (rd_move rfl)) ?_
    obtain ⟨hb51, q52⟩ | ⟨hb51, q52⟩ := oi q38 <;> clear q38
    · skip
      refine t_efg rfl rfl rfl rfl (gv_t _) (fun _ => (ef_bslice (l := ([0, 1, 2] : List Int)) hm41 tS22 rfl (cs := #[(Value.int .i64 0), (Value.int .i64 1), (Value.int .i64 2)]) (by unfold bsl; kernel_rfl) rfl rfl)) (fun q => bcontra q hb51) ?_
      intro v54 w56 hm55
      obtain ⟨r58, h59, q60⟩ := ob q52; clear q52
      refine t_efg rfl rfl rfl rfl (gv_t _) (fun _ => (ef_call tf23 (evc (gvx rfl hb51) (evc rfl evn)) (humpgen_Ints_ok h59 (hm55.sl_call 2 rfl) (hm55.sl_call 0 rfl)))) (fun q => bcontra q hb51) ?_
      rintro _ w62 ⟨e_, hm61⟩
      obtain rfl := e_.symm
      have hm63 := hm55.call hm61
      refine t_rd rfl (rd_and rfl (fun hc64 => rfl)) ?_
      refine t_rd rfl (rd_move rfl) ?_
      refine t_rdg rfl rfl rfl rfl (gv_t _) (fun hg65 => (rd_move rfl)) ?_
      refine t_rdg rfl rfl rfl rfl (gv_t _) (fun hg66 => (rd_eql (gvx rfl hg66) rfl)) ?_
      refine t_rd rfl (rd_and rfl (fun hc67 => (gvx rfl hc67))) ?_
      refine t_rd rfl (rd_move rfl) ?_
      refine t_rdg rfl rfl rfl rfl (gv_t _) (fun hg68 => (rd_move rfl)) ?_
      refine t_rd rfl (rd_and rfl (fun hc69 => (gvx rfl hc69))) ?_
      refine t_rd rfl (rd_assign rfl) ?_
      refine rwt_nil ?_
      refine qn_then ?_
      refine cw_ret ?_
      obtain rfl := os q60
      exact ret1 rfl rfl ⟨rfl, (hm63.pick [] (by decide) rfl)⟩
    · skip
      refine t_efg rfl rfl rfl rfl (R := fun v w' => v = undef ∧ w' = w40) (gv_t _) (fun hg70 => bcontra hb51 hg70) (fun _ => ⟨rfl, rfl⟩) ?_
      rintro v_ w_ ⟨e1_, e2_⟩; rw [e1_, e2_]; clear e1_ e2_ v_ w_
      refine t_efg rfl rfl rfl rfl (R := fun v w' => v = undef ∧ w' = w40) (gv_t _) (fun hg71 => bcontra hb51 hg71) (fun _ => ⟨rfl, rfl⟩) ?_
      rintro v_ w_ ⟨e1_, e2_⟩; rw [e1_, e2_]; clear e1_ e2_ v_ w_
      refine t_rd rfl (rd_and (b := false) rfl (fun hc72 => bcontra hb51 hc72)) ?_
      refine t_rd rfl (rd_move rfl) ?_
      refine t_rdg rfl rfl rfl rfl (gv_t _) (v := undef) (fun hg73 => (bcontra (bandF hb51) hg73)) ?_
      refine t_rdg rfl rfl rfl rfl (gv_t _) (v := undef) (fun hg74 => (bcontra (bandF hb51) hg74)) ?_
      refine t_rd rfl (rd_and (b := false) rfl (fun hc75 => bcontra (bandF hb51) hc75)) ?_
      refine t_rd rfl (rd_move rfl) ?_
      refine t_rdg rfl rfl rfl rfl (gv_t _) (v := undef) (fun hg76 => (bcontra (bandF (bandF hb51)) hg76)) ?_
      refine t_rd rfl (rd_and (b := false) rfl (fun hc77 => bcontra (bandF (bandF hb51)) hc77)) ?_
      refine t_rd rfl (rd_assign rfl) ?_
      refine rwt_nil ?_
      refine qn_then ?_
      refine cw_ret ?_
      obtain rfl := os q52
      exact ret1 rfl rfl ⟨rfl, (hm41.pick [] (by decide) rfl)⟩
  · skip
    refine t_efg rfl rfl rfl rfl (R := fun v w' => v = undef ∧ w' = w22) (gv_t _) (fun hg78 => bcontra hb29 hg78) (fun _ => ⟨rfl, rfl⟩) ?_
    rintro v_ w_ ⟨e1_, e2_⟩; rw [e1_, e2_]; clear e1_ e2_ v_ w_
    refine t_efg rfl rfl rfl rfl (R := fun v w' => v = undef ∧ w' = w22) (gv_t _) (fun hg79 => bcontra hb29 hg79) (fun _ => ⟨rfl, rfl⟩) ?_
    rintro v_ w_ ⟨e1_, e2_⟩; rw [e1_, e2_]; clear e1_ e2_ v_ w_
    refine t_rd rfl (rd_and (b := false) rfl (fun hc80 => bcontra hb29 hc80)) ?_
    refine t_rd rfl (rd_move rfl) ?_
    refine t_rdg rfl rfl rfl rfl (gv_t _) (v := undef) (fun hg81 => (bcontra (bandF hb29) hg81)) ?_
    refine t_rdg rfl rfl rfl rfl (gv_t _) (v := undef) (fun hg82 => (bcontra (bandF hb29) hg82)) ?_
    refine t_rd rfl (rd_and (b := false) rfl (fun hc83 => bcontra (bandF hb29) hc83)) ?_
    refine t_rd rfl (rd_move rfl) ?_
    refine t_rdg rfl rfl rfl rfl (gv_t _) (v := undef) (fun hg84 => (bcontra (bandF (bandF hb29)) hg84)) ?_
    refine t_rdg rfl rfl rfl rfl (gv_t _) (v := undef) (fun hg85 => (bcontra (bandF (bandF hb29)) hg85)) ?_
    refine t_rd rfl (rd_and (b := false) rfl (fun hc86 => bcontra (bandF (bandF hb29)) hc86)) ?_
    refine t_rd rfl (rd_move rfl) ?_
    refine t_rdg rfl rfl rfl rfl (gv_t _) (v := undef) (fun hg87 => (bcontra (bandF (bandF (bandF hb29))) hg87)) ?_
    refine t_efg rfl rfl rfl rfl (R := fun v w' => v = undef ∧ w' = w22) (gv_t _) (fun hg88 => bcontra (bandF (bandF (bandF hb29))) hg88) (fun _ => ⟨rfl, rfl⟩) ?_
    rintro v_ w_ ⟨e1_, e2_⟩; rw [e1_, e2_]; clear e1_ e2_ v_ w_
    refine t_efg rfl rfl rfl rfl (R := fun v w' => v = undef ∧ w' = w22) (gv_t _) (fun hg89 => bcontra (bandF (bandF (bandF hb29))) hg89) (fun _ => ⟨rfl, rfl⟩) ?_
    rintro v_ w_ ⟨e1_, e2_⟩; rw [e1_, e2_]; clear e1_ e2_ v_ w_
    refine t_rd rfl (rd_and (b := false) rfl (fun hc90 => bcontra (bandF (bandF (bandF hb29))) hc90)) ?_
    refine t_rd rfl (rd_move rfl) ?_
    refine t_rdg rfl rfl rfl rfl (gv_t _) (v := undef) (fun hg91 => (bcontra (bandF (bandF (bandF (bandF hb29)))) hg91)) ?_
    refine t_rdg rfl rfl rfl rfl (gv_t _) (v := undef) (fun hg92 => (bcontra (bandF (bandF (bandF (bandF hb29)))) hg92)) ?_
    refine t_rd rfl (rd_and (b := false) rfl (fun hc93 => bcontra (bandF (bandF (bandF (bandF hb29)))) hc93)) ?_
    refine t_rd rfl (rd_move rfl) ?_
    refine t_rdg rfl rfl rfl rfl (gv_t _) (v := undef) (fun hg94 => (bcontra (bandF (bandF (bandF (bandF (bandF hb29))))) hg94)) ?_
    refine t_rd rfl (rd_and (b := false) rfl (fun hc95 => bcontra (bandF (bandF (bandF (bandF (bandF hb29))))) hc95)) ?_
    refine t_rd rfl (rd_assign rfl) ?_
    refine rwt_nil ?_
    refine qn_then ?_
    refine cw_ret ?_
    obtain rfl := os q30
    exact ret1 rfl rfl ⟨rfl, (hm23.pick [] (by decide) rfl)⟩

theorem law39_EngineExact_ok {N : Nat} {a0 : List Int} {a1 : List T_Task} {a2 : Int} {a3 : List Int} {res : Bool} (h : law39_EngineExact N a0 a1 a2 a3 = some res) {w : World} {v0 : Value} {v1 : Value} {v3 : Value} (hv0 : Sl (Old w No) w v0 a0) (hv1 : Sl (Old w No) w v1 a1) (hv3 : Sl (Old w No) w v3 a3) :
    CallsR Try.prog 3 [v0, v1, (Value.int .i64 a2), v3] w (fun u w' => u = (Value.bool res) ∧ Mem w No [] w') := by
  unfold law39_EngineExact at h
  refine fn_ok Try.func3 rfl rfl rfl ?_
  have hm0 := Mem.nil w
  refine cw_seq ?_
  refine cw_region ?_
  refine t_rd rfl (rd_assign rfl) ?_
  refine rwt_nil ?_
  refine qn_then ?_
  refine cw_seq ?_
  refine cw_region ?_
  refine t_rd rfl (rd_move rfl) ?_
  obtain ⟨r1, h2, q3⟩ := ob h; clear h
  refine t_ef rfl (ef_call tf7 rfl (humpgen_New_ok h2 (hv0.to_call hm0))) ?_
  rintro _ w6 ⟨g4, e_, hm5⟩
  obtain rfl := e_.symm
  have hm7 := hm0.call hm5
  refine t_rd rfl (rd_assign rfl) ?_
  refine rwt_nil ?_
  refine qn_then ?_
  refine cw_seq ?_
  refine cw_seq ?_
  refine cw_region ?_
  refine t_rd rfl (rd_assign rfl) ?_
  refine rwt_nil ?_
  refine qn_then ?_
  refine cw_block ?_
  obtain ⟨r378, hit379, q380⟩ := ob q3; clear q3
  refine cw_loop2 (I := fun q envq wq => Sub [(1, v1), (2, (Value.int .i64 a2)), (3, v3), (9, (Value.pointer (some ⟨g4, 0, none⟩))), (10, (Value.int .i64 q.1))] envq ∧ Mem w No [blk g4 48 [v0, (Value.int .i64 q.2)]] wq) (X := fun eq envq wq => (∃ p381, r378 = (Sum.inl p381) ∧ eq = .ret ∧ retQ Try.prog 93 Try.f3 (fun u w' => u = (Value.bool p381) ∧ Mem w No [] w') .ret envq wq) ∨ (∃ p382, r378 = (Sum.inr p382) ∧ eq = .exit 0 ∧ Sub [(1, v1), (2, (Value.int .i64 a2)), (3, v3)] envq ∧ Mem w No [] wq)) hit379 ⟨(by repeat (first | exact Sub.nil _ | refine Sub.cons rfl ?_)), (hm7.pick [0] (by decide) rfl)⟩ ?_ ?_
  · rintro ⟨i370, i371⟩ x373 env374 w375 hf376 hr377 ⟨hs_, hm_⟩
    have hs_ : Sub [(1, v1), (2, (Value.int .i64 a2)), (3, v3), (9, (Value.pointer (some ⟨g4, 0, none⟩))), (10, (Value.int .i64 i370))] env374 := hs_
    have hm383 : Mem w No [blk g4 48 [v0, (Value.int .i64 i371)]] w375 := hm_
    refine cw_sub hs_ ?_
    clear hs_ hm_ q380
    have h : law39_EngineExact_l1 N a0 a2 a3 i370 i371 = some x373 := hf376
    clear hf376
    refine cw_seq ?_
    refine cw_seq ?_
    refine cw_region ?_
    refine t_rd rfl (rd_move rfl) ?_
    refine t_rd rfl (rd_lss rfl rfl) ?_
    refine rwt_nil ?_
    refine qn_then ?_
    obtain ⟨hb384, q385⟩ | ⟨hb384, q385⟩ := oi h <;> clear h
    · refine cw_t rfl hb384 ?_
      refine cw_skip ?_
      refine qn_then ?_
      refine cw_seq ?_
      refine cw_block ?_
      refine cw_seq ?_
      refine cw_region ?_
      refine t_rd rfl (rd_move rfl) ?_
      obtain ⟨r386, h387, q388⟩ := ob q385; clear q385
      refine t_ef rfl (ef_call tf8 rfl (law39_tasks_ok h387 (hv0.to_callT (k := 0) hm383 rfl) (hm383.get (k := 0) rfl))) ?_
      rintro _ w391 ⟨v389, e_, hm390⟩
      obtain rfl := e_.symm
      have hm392 := hm383.callT (k := 0) rfl (fun _ h => h) hm390 (fun _ => Iff.rfl)
      refine t_rd rfl (rd_assign rfl) ?_
      refine rwt_nil ?_
      refine qn_then ?_
      refine cw_seq ?_
      refine cw_seq ?_
      refine cw_region ?_
      refine t_rd rfl (rd_move rfl) ?_
      refine t_rd rfl (rd_eql rfl rfl) ?_
      refine rwt_nil ?_
      refine qn_then ?_
      obtain ⟨j425, hit426, q427⟩ := ob q388; clear q388
      refine cw_join (X := fun eq envq wq => eq = .normal ∧ ∃ (v424 : Value), Sub [(1, v1), (2, (Value.int .i64 a2)), (3, v3), (9, (Value.pointer (some ⟨g4, 0, none⟩))), (10, (Value.int .i64 i370)), (11, v424)] envq ∧ Mem w No [ownL 29 v424 (j425.2 : List T_Task), blk g4 48 [v0, (Value.int .i64 j425.1)]] wq) ?_ ?_
      · clear q427
        obtain ⟨hb428, q429⟩ | ⟨hb428, q429⟩ := oi hit426 <;> clear hit426
        · refine cw_t rfl hb428 ?_
          refine cw_region ?_
          refine t_rd rfl (rd_move rfl) ?_
          refine t_rd rfl (rd_move rfl) ?_
          refine t_ef rfl (ef_bslice (l := ([(-1), 0, 5] : List Int)) hm392 tS22 rfl (cs := #[(Value.int .i64 (-1)), (Value.int .i64 0), (Value.int .i64 5)]) (by unfold bsl; kernel_rfl) rfl rfl) ?_
          intro v430 w432 hm431
          obtain ⟨r433, h434, q435⟩ := ob q429; clear q429
          refine t_ef rfl (ef_call tf9 rfl (Maker_Pick_ok h434 (hv0.to_callT (k := 2) hm431 rfl) (hm431.get (k := 2) rfl) (hm431.sl_callT 0 2 rfl rfl (by decide)))) ?_
          rintro _ w437 ⟨e_, hm436⟩
          obtain rfl := e_.symm
          have hm438 := hm431.callT (k := 2) rfl (fun _ h => h) hm436 (fun _ => Iff.rfl)
          refine t_rd rfl (rd_move rfl) ?_
          refine t_ef rfl (ef_bslice (l := ([0, 5, 10080, 10081] : List Int)) hm438 tS22 rfl (cs := #[(Value.int .i64 0), (Value.int .i64 5), (Value.int .i64 10080), (Value.int .i64 10081)]) (by unfold bsl; kernel_rfl) rfl rfl) ?_
          intro v439 w441 hm440
          obtain ⟨r442, h443, q444⟩ := ob q435; clear q435
          refine t_ef rfl (ef_call tf9 rfl (Maker_Pick_ok h443 (hv0.to_callT (k := 3) hm440 rfl) (hm440.get (k := 3) rfl) (hm440.sl_callT 0 3 rfl rfl (by decide)))) ?_
          rintro _ w446 ⟨e_, hm445⟩
          obtain rfl := e_.symm
          have hm447 := hm440.callT (k := 3) rfl (fun _ h => h) hm445 (fun _ => Iff.rfl)
          refine t_rd rfl (rd_build (cs := #[(Value.int .i64 r433.2), (Value.int .i64 r442.2)]) rfl (by kernel_rfl)) ?_
          refine t_ef rfl (ef_bslice (l := ([(T_Task.mk r433.2 r442.2)] : List T_Task)) hm447 tS23 rfl (cs := #[(Value.int .i64 r433.2), (Value.int .i64 r442.2)]) (by unfold bsl; kernel_rfl) rfl rfl) ?_
          intro v448 w450 hm449
          obtain ⟨l451, h452, q453⟩ := ob q444; clear q444
          refine t_ef rfl (ef_append (k := 3) hm449 tS23 tE29 rfl rfl rfl rfl (hm449.sl 0 rfl) h452) ?_
          intro v454 w456 hm455
          refine t_rd rfl (rd_assign rfl) ?_
          refine rwt_nil ?_
          obtain rfl := os q453
          exact ⟨rfl, v454, (by repeat (first | exact Sub.nil _ | refine Sub.cons rfl ?_)), (hm455.pick [3, 4] (by decide) rfl)⟩
        · refine cw_f rfl hb428 ?_
          refine cw_skip ?_
          obtain rfl := os q429
          exact ⟨rfl, v389, (by repeat (first | exact Sub.nil _ | refine Sub.cons rfl ?_)), (hm392.pick [0, 1] (by decide) rfl)⟩
      · clear hit426
        intro e env457 w458 hX459
        obtain ⟨rfl, v424, hs460, hm461⟩ := hX459
        refine qn_then ?_
        refine cw_sub hs460 ?_
        refine cw_seq ?_
        refine cw_region ?_
        refine t_rd rfl (rd_move rfl) ?_
        obtain ⟨r462, h463, q464⟩ := ob q427; clear q427
        refine t_ef rfl (ef_call tf10 rfl (r39_Assign_ok h463 (hm461.sl_call 0 rfl))) ?_
        rintro _ w467 ⟨v465, e_, hm466⟩
        obtain rfl := e_.symm
        have hm468 := hm461.call hm466
        refine t_rd rfl (rd_move rfl) ?_
        refine t_rd rfl (rd_extract rfl rfl) ?_
        refine t_rd rfl (rd_extract rfl rfl) ?_
        refine t_rd rfl (rd_extract rfl rfl) ?_
        refine t_rd rfl (rd_assign rfl) ?_
        refine t_rd rfl (rd_assign rfl) ?_
        refine t_rd rfl (rd_assign rfl) ?_
        refine rwt_nil ?_
        refine qn_then ?_
        refine cw_seq ?_
        refine cw_seq ?_
        refine cw_region ?_
        refine t_rd rfl (rd_move rfl) ?_
        refine t_rd rfl (rd_lenS tS22 rfl (hm468.sl 0 rfl)) ?_
        refine t_rd rfl (rd_gtr rfl rfl) ?_
        refine t_rd rfl (rd_move rfl) ?_
        refine t_rdg rfl rfl rfl rfl (gv_t _) (fun hg469 => (rd_move rfl)) ?_
        refine t_rdg rfl rfl rfl rfl (gv_t _) (fun hg470 => (rd_gtr (gvx rfl hg470) rfl)) ?_
        refine t_rd rfl (rd_and rfl (fun hc471 => (gvx rfl hc471))) ?_
        refine rwt_nil ?_
        refine qn_then ?_
        obtain ⟨j496, hit497, q498⟩ := ob q464; clear q464
        refine cw_join (X := fun eq envq wq => eq = .normal ∧ Sub [(1, v1), (2, (Value.int .i64 a2)), (3, v3), (9, (Value.pointer (some ⟨g4, 0, none⟩))), (10, (Value.int .i64 i370)), (11, v424), (12, v465)] envq ∧ Mem w No [ownL 3 v465 (j496.2 : List Int), ownL 29 v424 (j425.2 : List T_Task), blk g4 48 [v0, (Value.int .i64 j496.1)]] wq) ?_ ?_
        · clear q498
          obtain ⟨hb499, q500⟩ | ⟨hb499, q500⟩ := oi hit497 <;> clear hit497
          · refine cw_t rfl hb499 ?_
            refine cw_region ?_
            refine t_rd rfl (rd_move rfl) ?_
            refine t_rd rfl (rd_move rfl) ?_
            refine t_rd rfl (rd_move rfl) ?_
            refine t_rd rfl (rd_lenS tS22 rfl (hm468.sl 0 rfl)) ?_
            obtain ⟨r501, h502, q503⟩ := ob q500; clear q500
            refine t_ef rfl (ef_call tf11 rfl (Maker_Next_ok h502 (hv0.to_callT (k := 2) hm468 rfl) (hm468.get (k := 2) rfl))) ?_
            rintro _ w505 ⟨e_, hm504⟩
            obtain rfl := e_.symm
            have hm506 := hm468.callT (k := 2) rfl (fun _ h => h) hm504 (fun _ => Iff.rfl)
            refine t_rd rfl (rd_move rfl) ?_
            refine t_ef rfl (ef_bslice (l := ([0, 1, (-1), 99] : List Int)) hm506 tS22 rfl (cs := #[(Value.int .i64 0), (Value.int .i64 1), (Value.int .i64 (-1)), (Value.int .i64 99)]) (by unfold bsl; kernel_rfl) rfl rfl) ?_
            intro v507 w509 hm508
            obtain ⟨r510, h511, q512⟩ := ob q503; clear q503
            refine t_ef rfl (ef_call tf9 rfl (Maker_Pick_ok h511 (hv0.to_callT (k := 3) hm508 rfl) (hm508.get (k := 3) rfl) (hm508.sl_callT 0 3 rfl rfl (by decide)))) ?_
            rintro _ w514 ⟨e_, hm513⟩
            obtain rfl := e_.symm
            have hm515 := hm508.callT (k := 3) rfl (fun _ h => h) hm513 (fun _ => Iff.rfl)
            obtain ⟨x516, h517, q518⟩ := ob q512; clear q512
            refine t_rd rfl (rd_index tS22 rfl rfl (hm515.sl 1 rfl) h517) ?_
            refine t_ef0 (ef_stl (k := 1) (off := 0) (x' := r510.2) hm515 tO3 rfl rfl rfl rfl h517 rfl rfl) ?_
            intro _ w520 hm519
            refine rwt_nil ?_
            obtain rfl := os q518
            exact ⟨rfl, (by repeat (first | exact Sub.nil _ | refine Sub.cons rfl ?_)), (hm519.pick [1, 2, 3] (by decide) rfl)⟩
          · refine cw_f rfl hb499 ?_
            refine cw_skip ?_
            obtain rfl := os q500
            exact ⟨rfl, (by repeat (first | exact Sub.nil _ | refine Sub.cons rfl ?_)), (hm468.pick [0, 1, 2] (by decide) rfl)⟩
        · clear hit497
          intro e env521 w522 hX523
          obtain ⟨rfl, hs524, hm525⟩ := hX523
          refine qn_then ?_
          refine cw_sub hs524 ?_
          refine cw_seq ?_
          refine cw_region ?_
          refine t_rd rfl (rd_move rfl) ?_
          refine t_rd rfl (rd_move rfl) ?_
          refine t_ef rfl (ef_bslice (l := ([0, 5, 30, (-1), 10080, 10081] : List Int)) hm525 tS22 rfl (cs := #[(Value.int .i64 0), (Value.int .i64 5), (Value.int .i64 30), (Value.int .i64 (-1)), (Value.int .i64 10080), (Value.int .i64 10081)]) (by unfold bsl; kernel_rfl) rfl rfl) ?_
          intro v526 w528 hm527
          obtain ⟨r529, h530, q531⟩ := ob q498; clear q498
          refine t_ef rfl (ef_call tf9 rfl (Maker_Pick_ok h530 (hv0.to_callT (k := 3) hm527 rfl) (hm527.get (k := 3) rfl) (hm527.sl_callT 0 3 rfl rfl (by decide)))) ?_
          rintro _ w533 ⟨e_, hm532⟩
          obtain rfl := e_.symm
          have hm534 := hm527.callT (k := 3) rfl (fun _ h => h) hm532 (fun _ => Iff.rfl)
          refine t_rd rfl (rd_move rfl) ?_
          obtain ⟨r535, h536, q537⟩ := ob q531; clear q531
          refine t_ef rfl (ef_call tf12 rfl (law39_exact_ok h536 (hm534.sl_call 2 rfl) (hm534.sl_call 1 rfl))) ?_
          rintro _ w539 ⟨e_, hm538⟩
          obtain rfl := e_.symm
          have hm540 := hm534.call hm538
          refine t_rd rfl (rd_not rfl) ?_
          refine t_rd rfl (rd_move rfl) ?_
          refine t_rdg rfl rfl rfl rfl (gv_f _) (fun hg541 => (rd_move rfl)) ?_
          refine t_rdg rfl rfl rfl rfl (gv_f _) (fun hg542 => (rd_lenS tS22 (gvx rfl hg542) (hv3.of_old hm540))) ?_
          refine t_rdg rfl rfl rfl rfl (gv_f _) (fun hg543 => (rd_lss (gvx rfl hg543) rfl)) ?_
          refine t_rdg rfl rfl rfl rfl (gv_f _) (fun hg544 => (rd_move (gvx rfl hg544))) ?_
          refine t_rdg rfl rfl rfl rfl (gv_nt _ _) (fun hg545 => (rd_move rfl)) ?_
          refine t_rdg rfl rfl rfl rfl (gv_nt _ _) (fun hg546 => (rd_move rfl)) ?_
          refine t_rdg rfl rfl rfl rfl (gv_nt _ _) (fun hg547 => (rd_move rfl)) ?_
          obtain ⟨r549, h550, q551⟩ := ob q537; clear q537
          refine t_efg rfl rfl rfl rfl (R := (fun v w' => v = gV ((!(!r535)) && decide ((List.length a3 : Int) < 200)) (Value.bool r549) ∧ Mem w539 No [] w')) (gv_nt _ _) (fun hg548 => (ef_call tf12 (evc (gvx rfl hg548) (evc (gvx rfl hg548) (evc (gvx rfl hg548) evn))) (law39_exact_ok (gO_t h550 hg548) (hm540.sl_call 2 rfl) (hv3.to_call hm540))).mono (by rintro _ _ ⟨rfl, q⟩; exact ⟨(gV_t hg548).symm, q⟩)) (fun q => ⟨(gV_f q).symm, Mem.nil _⟩) ?_
          rintro _ w553 ⟨rfl, hm552⟩
          have hm554 := hm540.call hm552
          refine t_rdg rfl rfl rfl rfl (gv_nt _ _) (fun hg555 => (rd_not (gvx rfl hg555))) ?_
          refine t_rdg rfl rfl rfl rfl (gv_f _) (fun hg556 => (rd_and (gvx rfl hg556) (fun hc557 => (gvx rfl (band hg556 hc557))))) ?_
          refine t_rd rfl (rd_or rfl (fun hc558 => (gvx rfl (bnotIt hc558)))) ?_
          refine rwt_nil ?_
          refine qn_then ?_
          obtain ⟨hb559, q560⟩ | ⟨hb559, q560⟩ := oi q551 <;> clear q551
          · refine cw_t rfl hb559 ?_
            refine cw_seq ?_
            refine cw_region ?_
            refine t_rd rfl (rd_assign rfl) ?_
            refine rwt_nil ?_
            refine qn_then ?_
            refine cw_ret ?_
            refine qr_block (qr_then (qr_then ?_))
            obtain rfl := hr377 _ (os q560)
            refine .inl (⟨_, rfl, ⟨rfl, ?_⟩⟩)
            exact ret1 rfl rfl ⟨rfl, (hm554.pick [] (by decide) rfl)⟩
          · refine cw_f rfl hb559 ?_
            refine cw_skip ?_
            refine qn_block (qn_then ?_)
            refine cw_region ?_
            refine t_rd rfl (rd_move rfl) ?_
            obtain ⟨x561, h562, q563⟩ := ob q560; clear q560
            refine t_rd rfl (rd_add64 h562 rfl rfl) ?_
            refine t_rd rfl (rd_assign rfl) ?_
            refine rwt_nil ?_
            refine qn_then ?_
            refine ⟨_, (os q563), (by repeat (first | exact Sub.nil _ | refine Sub.cons rfl ?_)), (hm554.pick [3] (by decide) rfl)⟩
    · refine cw_f rfl hb384 ?_
      refine cw_exit ?_
      refine qx_then (qx_then ?_)
      obtain rfl := hr377 _ (os q385)
      exact .inr (⟨_, rfl, ⟨rfl, (by repeat (first | exact Sub.nil _ | refine Sub.cons rfl ?_)), (hm383.pick [] (by decide) rfl)⟩⟩)
  · skip
    intro e env564 w565 hX566
    rcases hX566 with hX566 | hX566
    · obtain ⟨p568, rfl, hX566⟩ := hX566
      obtain ⟨rfl, hq570⟩ := hX566
      exact qr_block (qr_then ((by have e := os q380; subst e; exact hq570)))
    · obtain ⟨p571, rfl, hX566⟩ := hX566
      obtain ⟨rfl, hs572, hm573⟩ := hX566
      refine qx_same (qn_then ?_)
      refine cw_sub hs572 ?_
      refine cw_seq ?_
      refine cw_region ?_
      refine t_rd rfl (rd_move rfl) ?_
      refine t_rd rfl (rd_lenS tS23 rfl (hv1.of_old hm573)) ?_
      refine t_rd rfl (rd_gtr rfl rfl) ?_
      refine t_rd rfl (rd_move rfl) ?_
      refine t_rdg rfl rfl rfl rfl (gv_f _) (fun hg574 => (rd_move rfl)) ?_
      refine t_rdg rfl rfl rfl rfl (gv_f _) (fun hg575 => (rd_lenS tS22 (gvx rfl hg575) (hv3.of_old hm573))) ?_
      refine t_rdg rfl rfl rfl rfl (gv_f _) (fun hg576 => (rd_gtr (gvx rfl hg576) rfl)) ?_
      refine t_rd rfl (rd_or rfl (fun hc577 => (gvx rfl (bnotIt hc577)))) ?_
      refine t_rd rfl (rd_move rfl) ?_
      refine t_rdg rfl rfl rfl rfl (gv_f _) (fun hg578 => (rd_move rfl)) ?_
      refine t_rdg rfl rfl rfl rfl (gv_f _) (fun hg579 => (rd_move rfl)) ?_
      refine t_rdg rfl rfl rfl rfl (gv_f _) (fun hg580 => (rd_move rfl)) ?_
      obtain ⟨r582, h583, q584⟩ := ob q380; clear q380
      refine t_efg rfl rfl rfl rfl (R := (fun v w' => v = gV (!(decide (100 < (List.length a1 : Int)) || decide (200 < (List.length a3 : Int)))) (Value.bool r582) ∧ Mem w565 No [] w')) (gv_f _) (fun hg581 => (ef_call tf12 (evc (gvx rfl hg581) (evc (gvx rfl hg581) (evc (gvx rfl hg581) evn))) (law39_exact_ok (gO_t h583 hg581) (hv1.to_call hm573) (hv3.to_call hm573))).mono (by rintro _ _ ⟨rfl, q⟩; exact ⟨(gV_t hg581).symm, q⟩)) (fun q => ⟨(gV_f q).symm, Mem.nil _⟩) ?_
      rintro _ w586 ⟨rfl, hm585⟩
      have hm587 := hm573.call hm585
      refine t_rdg rfl rfl rfl rfl (gv_f _) (fun hg588 => (rd_move (gvx rfl hg588))) ?_
      obtain ⟨r590, h591, q592⟩ := ob q584; clear q584
      refine t_efg rfl rfl rfl rfl (R := (fun v w' => v = gV ((!(decide (100 < (List.length a1 : Int)) || decide (200 < (List.length a3 : Int)))) && r582) (Value.bool r590) ∧ Mem w586 No [] w')) (gv_nt _ _) (fun hg589 => (ef_call tf13 rfl (law39_sane_ok (gO_t h591 hg589))).mono (by rintro _ _ ⟨rfl, q⟩; exact ⟨(gV_t hg589).symm, q⟩)) (fun q => ⟨(gV_f q).symm, Mem.nil _⟩) ?_
      rintro _ w594 ⟨rfl, hm593⟩
      have hm595 := hm587.call hm593
      refine t_rdg rfl rfl rfl rfl (gv_f _) (fun hg596 => (rd_and (gvx rfl hg596) (fun hc597 => (gvx rfl (band hg596 hc597))))) ?_
      refine t_rd rfl (rd_or rfl (fun hc598 => (gvx rfl (bnotIt hc598)))) ?_
      refine t_rd rfl (rd_assign rfl) ?_
      refine rwt_nil ?_
      refine qn_then ?_
      refine cw_ret ?_
      obtain rfl := os q592
      exact ret1 rfl rfl ⟨rfl, (hm595.pick [] (by decide) rfl)⟩

theorem yardgen_Place_ok {N : Nat} {a0 : Int} {a1 : Int} {res : Int} (h : yardgen_Place N a0 a1 = some res) {w : World}   :
    CallsR Try.prog 14 [(Value.int .i64 a0), (Value.int .i64 a1)] w (fun u w' => u = (Value.int .i64 res) ∧ Mem w No [] w') := by
  unfold yardgen_Place at h
  refine fn_ok Try.func14 rfl rfl rfl ?_
  have hm0 := Mem.nil w
  refine cw_seq ?_
  refine cw_region ?_
  refine t_rd rfl (rd_assign rfl) ?_
  refine rwt_nil ?_
  refine qn_then ?_
  refine cw_seq ?_
  refine cw_seq ?_
  refine cw_region ?_
  refine t_rd rfl (rd_move rfl) ?_
  refine t_rd rfl (rd_lss rfl rfl) ?_
  refine rwt_nil ?_
  refine qn_then ?_
  obtain ⟨hb1, q2⟩ | ⟨hb1, q2⟩ := oi h <;> clear h
  · refine cw_t rfl hb1 ?_
    refine cw_seq ?_
    refine cw_region ?_
    refine t_rd rfl (rd_assign rfl) ?_
    refine rwt_nil ?_
    refine qn_then ?_
    refine cw_ret ?_
    refine qr_then ?_
    obtain rfl := os q2
    exact ret1 rfl rfl ⟨rfl, (hm0.pick [] (by decide) rfl)⟩
  · refine cw_f rfl hb1 ?_
    refine cw_skip ?_
    refine qn_then ?_
    refine cw_seq ?_
    refine cw_region ?_
    refine t_rd rfl (rd_move rfl) ?_
    refine t_rd rfl (rd_move rfl) ?_
    obtain ⟨x3, h4, q5⟩ := ob q2; clear q2
    refine t_rd rfl (rd_rem64 h4 rfl rfl) ?_
    refine t_rd rfl (rd_assign rfl) ?_
    refine rwt_nil ?_
    refine qn_then ?_
    refine cw_seq ?_
    refine cw_seq ?_
    refine cw_region ?_
    refine t_rd rfl (rd_move rfl) ?_
    refine t_rd rfl (rd_lss rfl rfl) ?_
    refine rwt_nil ?_
    refine qn_then ?_
    obtain ⟨hb6, q7⟩ | ⟨hb6, q7⟩ := oi q5 <;> clear q5
    · refine cw_t rfl hb6 ?_
      refine cw_region ?_
      refine t_rd rfl (rd_move rfl) ?_
      refine t_rd rfl (rd_move rfl) ?_
      obtain ⟨x8, h9, q10⟩ := ob q7; clear q7
      refine t_rd rfl (rd_add64 h9 rfl rfl) ?_
      refine t_rd rfl (rd_assign rfl) ?_
      refine rwt_nil ?_
      refine qn_then ?_
      refine cw_seq ?_
      refine cw_region ?_
      refine t_rd rfl (rd_move rfl) ?_
      refine t_rd rfl (rd_assign rfl) ?_
      refine rwt_nil ?_
      refine qn_then ?_
      refine cw_ret ?_
      obtain rfl := os q10
      exact ret1 rfl rfl ⟨rfl, (hm0.pick [] (by decide) rfl)⟩
    · refine cw_f rfl hb6 ?_
      refine cw_skip ?_
      refine qn_then ?_
      refine cw_seq ?_
      refine cw_region ?_
      refine t_rd rfl (rd_move rfl) ?_
      refine t_rd rfl (rd_assign rfl) ?_
      refine rwt_nil ?_
      refine qn_then ?_
      refine cw_ret ?_
      obtain rfl := os q7
      exact ret1 rfl rfl ⟨rfl, (hm0.pick [] (by decide) rfl)⟩

theorem law39_EngineProves_ok {N : Nat} {a0 : List Int} {a1 : Int} {res : Bool} (h : law39_EngineProves N a0 a1 = some res) {w : World} {v0 : Value} (hv0 : Sl (Old w No) w v0 a0) :
    CallsR Try.prog 4 [v0, (Value.int .i64 a1)] w (fun u w' => u = (Value.bool res) ∧ Mem w No [] w') := by
  unfold law39_EngineProves at h
  refine fn_ok Try.func4 rfl rfl rfl ?_
  have hm0 := Mem.nil w
  refine cw_seq ?_
  refine cw_region ?_
  refine t_rd rfl (rd_assign rfl) ?_
  refine rwt_nil ?_
  refine qn_then ?_
  refine cw_seq ?_
  refine cw_region ?_
  refine t_rd rfl (rd_move rfl) ?_
  obtain ⟨r1, h2, q3⟩ := ob h; clear h
  refine t_ef rfl (ef_call tf7 rfl (humpgen_New_ok h2 (hv0.to_call hm0))) ?_
  rintro _ w6 ⟨g4, e_, hm5⟩
  obtain rfl := e_.symm
  have hm7 := hm0.call hm5
  refine t_rd rfl (rd_assign rfl) ?_
  refine rwt_nil ?_
  refine qn_then ?_
  refine cw_seq ?_
  refine cw_region ?_
  refine t_rd rfl (rd_move rfl) ?_
  obtain ⟨r8, h9, q10⟩ := ob q3; clear q3
  refine t_ef rfl (ef_call tf8 rfl (law39_tasks_ok h9 (hv0.to_callT (k := 0) hm7 rfl) (hm7.get (k := 0) rfl))) ?_
  rintro _ w13 ⟨v11, e_, hm12⟩
  obtain rfl := e_.symm
  have hm14 := hm7.callT (k := 0) rfl (fun _ h => h) hm12 (fun _ => Iff.rfl)
  refine t_rd rfl (rd_assign rfl) ?_
  refine rwt_nil ?_
  refine qn_then ?_
  refine cw_seq ?_
  refine cw_region ?_
  refine t_rd rfl (rd_move rfl) ?_
  obtain ⟨r15, h16, q17⟩ := ob q10; clear q10
  refine t_ef rfl (ef_call tf14 rfl (yardgen_Place_ok h16)) ?_
  rintro _ w19 ⟨e_, hm18⟩
  obtain rfl := e_.symm
  have hm20 := hm14.call hm18
  refine t_rd rfl (rd_assign rfl) ?_
  refine rwt_nil ?_
  refine qn_then ?_
  refine cw_seq ?_
  refine cw_region ?_
  refine t_rd rfl (rd_move rfl) ?_
  refine t_rd rfl (rd_move rfl) ?_
  obtain ⟨r21, h22, q23⟩ := ob q17; clear q17
  refine t_ef rfl (ef_call tf15 rfl (engine_Assign_ok h22 (hm20.sl_call 0 rfl))) ?_
  rintro _ w26 ⟨v24, e_, hm25⟩
  obtain rfl := e_.symm
  have hm27 := hm20.call hm25
  refine t_rd rfl (rd_move rfl) ?_
  refine t_rd rfl (rd_extract rfl rfl) ?_
  refine t_rd rfl (rd_extract rfl rfl) ?_
  refine t_rd rfl (rd_extract rfl rfl) ?_
  refine t_rd rfl (rd_assign rfl) ?_
  refine t_rd rfl (rd_assign rfl) ?_
  refine t_rd rfl (rd_assign rfl) ?_
  refine rwt_nil ?_
  refine qn_then ?_
  refine cw_seq ?_
  refine cw_region ?_
  refine t_rd rfl (rd_move rfl) ?_
  refine t_rd rfl (rd_move rfl) ?_
  refine t_rd rfl (rd_move rfl) ?_
  obtain ⟨r28, h29, q30⟩ := ob q23; clear q23
  refine t_ef rfl (ef_call tf16 rfl (engine_Check_ok h29 (hm27.sl_call 1 rfl) (hm27.sl_call 0 rfl))) ?_
  rintro _ w32 ⟨e_, hm31⟩
  obtain rfl := e_.symm
  have hm33 := hm27.call hm31
  refine t_rd rfl (rd_move rfl) ?_
  refine t_rd rfl (rd_extract rfl rfl) ?_
  refine t_rd rfl (rd_extract rfl rfl) ?_
  refine t_rd rfl (rd_assign rfl) ?_
  refine t_rd rfl (rd_assign rfl) ?_
  refine rwt_nil ?_
  refine qn_then ?_
  refine cw_seq ?_
  refine cw_region ?_
  refine t_rd rfl (rd_move rfl) ?_
  refine t_rd rfl (rd_move rfl) ?_
  obtain ⟨r34, h35, q36⟩ := ob q30; clear q30
  refine t_ef rfl (ef_call tf17 rfl (engine_Witness_ok h35 (hm33.sl_call 1 rfl))) ?_
  rintro _ w39 ⟨v37, e_, hm38⟩
  obtain rfl := e_.symm
  have hm40 := hm33.call hm38
  refine t_rd rfl (rd_move rfl) ?_
  refine t_rd rfl (rd_extract rfl rfl) ?_
  refine t_rd rfl (rd_extract rfl rfl) ?_
  refine t_rd rfl (rd_extract rfl rfl) ?_
  refine t_rd rfl (rd_assign rfl) ?_
  refine t_rd rfl (rd_assign rfl) ?_
  refine t_rd rfl (rd_assign rfl) ?_
  refine rwt_nil ?_
  refine qn_then ?_
  refine cw_seq ?_
  refine cw_seq ?_
  refine cw_region ?_
  refine t_rd rfl (rd_move rfl) ?_
  refine t_rd rfl (rd_neq rfl rfl) ?_
  refine t_rd rfl (rd_move rfl) ?_
  refine t_rdg rfl rfl rfl rfl (gv_f _) (fun hg41 => (rd_move rfl)) ?_
  refine t_rdg rfl rfl rfl rfl (gv_f _) (fun hg42 => (rd_neq (gvx rfl hg42) rfl)) ?_
  refine t_rd rfl (rd_or rfl (fun hc43 => (gvx rfl (bnotIt hc43)))) ?_
  refine t_rd rfl (rd_move rfl) ?_
  refine t_rdg rfl rfl rfl rfl (gv_f _) (fun hg44 => (rd_move rfl)) ?_
  refine t_rdg rfl rfl rfl rfl (gv_f _) (fun hg45 => (rd_neq (gvx rfl hg45) rfl)) ?_
  refine t_rd rfl (rd_or rfl (fun hc46 => (gvx rfl (bnotIt hc46)))) ?_
  refine t_rd rfl (rd_move rfl) ?_
  refine t_rdg rfl rfl rfl rfl (gv_f _) (fun hg47 => (rd_move rfl)) ?_
  refine t_rdg rfl rfl rfl rfl (gv_f _) (fun hg48 => (rd_not (gvx rfl hg48))) ?_
  refine t_rd rfl (rd_or rfl (fun hc49 => (gvx rfl (bnotIt hc49)))) ?_
  refine t_rd rfl (rd_move rfl) ?_
  refine t_rdg rfl rfl rfl rfl (gv_f _) (fun hg50 => (rd_move rfl)) ?_
  refine t_rdg rfl rfl rfl rfl (gv_f _) (fun hg51 => (rd_lenS tS22 (gvx rfl hg51) (hm40.sl 0 rfl))) ?_
  refine t_rdg rfl rfl rfl rfl (gv_f _) (fun hg52 => (rd_move rfl)) ?_
  refine t_rdg rfl rfl rfl rfl (gv_f _) (fun hg53 => (rd_neq (gvx rfl hg53) (gvx rfl hg53))) ?_
  refine t_rd rfl (rd_or rfl (fun hc54 => (gvx rfl (bnotIt hc54)))) ?_
  refine t_rd rfl (rd_move rfl) ?_
  refine t_rdg rfl rfl rfl rfl (gv_f _) (fun hg55 => (rd_move rfl)) ?_
  refine t_rdg rfl rfl rfl rfl (gv_f _) (fun hg56 => (rd_lenS tS22 (gvx rfl hg56) (hm40.sl 1 rfl))) ?_
  refine t_rdg rfl rfl rfl rfl (gv_f _) (fun hg57 => (rd_move rfl)) ?_
  refine t_rdg rfl rfl rfl rfl (gv_f _) (fun hg58 => (rd_lenS tS23 (gvx rfl hg58) (hm40.sl 2 rfl))) ?_
  refine t_rdg rfl rfl rfl rfl (gv_f _) (fun hg59 => (rd_neq (gvx rfl hg59) (gvx rfl hg59))) ?_
  refine t_rd rfl (rd_or rfl (fun hc60 => (gvx rfl (bnotIt hc60)))) ?_
  refine rwt_nil ?_
  refine qn_then ?_
  obtain ⟨hb61, q62⟩ | ⟨hb61, q62⟩ := oi q36 <;> clear q36
  · refine cw_t rfl hb61 ?_
    refine cw_seq ?_
    refine cw_region ?_
    refine t_rd rfl (rd_assign rfl) ?_
    refine rwt_nil ?_
    refine qn_then ?_
    refine cw_ret ?_
    refine qr_then ?_
    obtain rfl := os q62
    exact ret1 rfl rfl ⟨rfl, (hm40.pick [] (by decide) rfl)⟩
  · refine cw_f rfl hb61 ?_
    refine cw_skip ?_
    refine qn_then ?_
    refine cw_seq ?_
    refine cw_seq ?_
    refine cw_region ?_
    refine t_rd rfl (rd_assign rfl) ?_
    refine rwt_nil ?_
    refine qn_then ?_
    refine cw_block ?_
    obtain ⟨r111, hit112, q113⟩ := ob q62; clear q62
    refine cw_loop2 (I := fun q envq wq => Sub [(1, (Value.int .i64 r15)), (6, v11), (7, v24), (8, (Value.int .i64 r21.2.1)), (12, (Value.int .i64 r34.1)), (13, v37), (15, (Value.int .i64 q))] envq ∧ Mem w No [ownL 3 v37 (r34.2.1 : List Int), ownL 3 v24 (r21.1 : List Int), ownL 29 v11 (r8.2 : List T_Task)] wq) (X := fun eq envq wq => (∃ p114, r111 = (Sum.inl p114) ∧ eq = .ret ∧ retQ Try.prog 153 Try.f4 (fun u w' => u = (Value.bool p114) ∧ Mem w No [] w') .ret envq wq) ∨ (∃ p115, r111 = (Sum.inr p115) ∧ eq = .exit 0 ∧ Sub [(1, (Value.int .i64 r15)), (6, v11), (12, (Value.int .i64 r34.1)), (13, v37)] envq ∧ Mem w No [ownL 3 v37 (r34.2.1 : List Int), ownL 29 v11 (r8.2 : List T_Task)] wq)) hit112 ⟨(by repeat (first | exact Sub.nil _ | refine Sub.cons rfl ?_)), (hm40.pick [0, 1, 2] (by decide) rfl)⟩ ?_ ?_
    · rintro i104 x106 env107 w108 hf109 hr110 ⟨hs_, hm_⟩
      have hs_ : Sub [(1, (Value.int .i64 r15)), (6, v11), (7, v24), (8, (Value.int .i64 r21.2.1)), (12, (Value.int .i64 r34.1)), (13, v37), (15, (Value.int .i64 i104))] env107 := hs_
      have hm116 : Mem w No [ownL 3 v37 (r34.2.1 : List Int), ownL 3 v24 (r21.1 : List Int), ownL 29 v11 (r8.2 : List T_Task)] w108 := hm_
      refine cw_sub hs_ ?_
      clear hs_ hm_ q113
      have h : law39_EngineProves_l1 N r21 i104 = some x106 := hf109
      clear hf109
      refine cw_seq ?_
      refine cw_seq ?_
      refine cw_region ?_
      refine t_rd rfl (rd_move rfl) ?_
      refine t_rd rfl (rd_move rfl) ?_
      refine t_rd rfl (rd_lenS tS22 rfl (hm116.sl 1 rfl)) ?_
      refine t_rd rfl (rd_lss rfl rfl) ?_
      refine rwt_nil ?_
      refine qn_then ?_
      obtain ⟨hb117, q118⟩ | ⟨hb117, q118⟩ := oi h <;> clear h
      · refine cw_t rfl hb117 ?_
        refine cw_skip ?_
        refine qn_then ?_
        refine cw_seq ?_
        refine cw_block ?_
        refine cw_seq ?_
        refine cw_region ?_
        refine t_rd rfl (rd_move rfl) ?_
        refine t_rd rfl (rd_move rfl) ?_
        obtain ⟨x119, h120, q121⟩ := ob q118; clear q118
        refine t_rd rfl (rd_index tS22 rfl rfl (hm116.sl 1 rfl) h120) ?_
        refine t_rd rfl (rd_ld1 tO3 rfl ((hm116.sl 1 rfl).cells h120) (off := 0) rfl) ?_
        refine t_rd rfl (rd_lss rfl rfl) ?_
        refine t_rd rfl (rd_move rfl) ?_
        refine t_rdg rfl rfl rfl rfl (gv_f _) (fun hg122 => (rd_move rfl)) ?_
        refine t_rdg rfl rfl rfl rfl (gv_f _) (fun hg123 => (rd_move rfl)) ?_
        obtain ⟨x125, h126, q127⟩ := ob q121; clear q121
        refine t_rdg rfl rfl rfl rfl (gv_f _) (fun hg124 => (rd_index tS22 (gvx rfl hg124) (gvx rfl hg124) (hm116.sl 1 rfl) (gO_t h126 hg124))) ?_
        refine t_rdg rfl rfl rfl rfl (gv_f _) (fun hg128 => (rd_ld1 tO3 (gvx rfl hg128) ((hm116.sl 1 rfl).cells (gO_t h126 hg128)) (off := 0) rfl)) ?_
        refine t_rdg rfl rfl rfl rfl (gv_f _) (fun hg129 => (rd_move rfl)) ?_
        refine t_rdg rfl rfl rfl rfl (gv_f _) (fun hg130 => (rd_geq (gvx rfl hg130) (gvx rfl hg130))) ?_
        refine t_rd rfl (rd_or rfl (fun hc131 => (gvx rfl (bnotIt hc131)))) ?_
        refine rwt_nil ?_
        refine qn_then ?_
        obtain ⟨hb132, q133⟩ | ⟨hb132, q133⟩ := oi q127 <;> clear q127
        · refine cw_t rfl hb132 ?_
          refine cw_seq ?_
          refine cw_region ?_
          refine t_rd rfl (rd_assign rfl) ?_
          refine rwt_nil ?_
          refine qn_then ?_
          refine cw_ret ?_
          refine qr_block (qr_then (qr_then ?_))
          obtain rfl := hr110 _ (os q133)
          refine .inl (⟨_, rfl, ⟨rfl, ?_⟩⟩)
          exact ret1 rfl rfl ⟨rfl, (hm116.pick [] (by decide) rfl)⟩
        · refine cw_f rfl hb132 ?_
          refine cw_skip ?_
          refine qn_block (qn_then ?_)
          refine cw_region ?_
          refine t_rd rfl (rd_move rfl) ?_
          obtain ⟨x134, h135, q136⟩ := ob q133; clear q133
          refine t_rd rfl (rd_add64 h135 rfl rfl) ?_
          refine t_rd rfl (rd_assign rfl) ?_
          refine rwt_nil ?_
          refine qn_then ?_
          refine ⟨_, (os q136), (by repeat (first | exact Sub.nil _ | refine Sub.cons rfl ?_)), (hm116.pick [0, 1, 2] (by decide) rfl)⟩
      · refine cw_f rfl hb117 ?_
        refine cw_exit ?_
        refine qx_then (qx_then ?_)
        obtain rfl := hr110 _ (os q118)
        exact .inr (⟨_, rfl, ⟨rfl, (by repeat (first | exact Sub.nil _ | refine Sub.cons rfl ?_)), (hm116.pick [0, 2] (by decide) rfl)⟩⟩)
    · skip
      intro e env137 w138 hX139
      rcases hX139 with hX139 | hX139
      · obtain ⟨p141, rfl, hX139⟩ := hX139
        obtain ⟨rfl, hq143⟩ := hX139
        exact qr_block (qr_then ((by have e := os q113; subst e; exact hq143)))
      · obtain ⟨p144, rfl, hX139⟩ := hX139
        obtain ⟨rfl, hs145, hm146⟩ := hX139
        refine qx_same (qn_then ?_)
        refine cw_sub hs145 ?_
        refine cw_seq ?_
        refine cw_seq ?_
        refine cw_region ?_
        refine t_rd rfl (rd_assign rfl) ?_
        refine rwt_nil ?_
        refine qn_then ?_
        refine cw_block ?_
        obtain ⟨r335, hit336, q337⟩ := ob q113; clear q113
        refine cw_loop2 (I := fun q envq wq => Sub [(1, (Value.int .i64 r15)), (6, v11), (12, (Value.int .i64 r34.1)), (13, v37), (16, (Value.int .i64 q))] envq ∧ Mem w No [ownL 3 v37 (r34.2.1 : List Int), ownL 29 v11 (r8.2 : List T_Task)] wq) (X := fun eq envq wq => (∃ p338, r335 = (Sum.inl p338) ∧ eq = .ret ∧ retQ Try.prog 153 Try.f4 (fun u w' => u = (Value.bool p338) ∧ Mem w No [] w') .ret envq wq) ∨ (∃ p339, r335 = (Sum.inr p339) ∧ eq = .exit 2 ∧ Sub [] envq ∧ Mem w No [] wq)) hit336 ⟨(by repeat (first | exact Sub.nil _ | refine Sub.cons rfl ?_)), (hm146.pick [0, 1] (by decide) rfl)⟩ ?_ ?_
        · rintro i328 x330 env331 w332 hf333 hr334 ⟨hs_, hm_⟩
          have hs_ : Sub [(1, (Value.int .i64 r15)), (6, v11), (12, (Value.int .i64 r34.1)), (13, v37), (16, (Value.int .i64 i328))] env331 := hs_
          have hm340 : Mem w No [ownL 3 v37 (r34.2.1 : List Int), ownL 29 v11 (r8.2 : List T_Task)] w332 := hm_
          refine cw_sub hs_ ?_
          clear hs_ hm_ q337
          have h : law39_EngineProves_l2 N r8 r15 r34 i328 = some x330 := hf333
          clear hf333
          refine cw_seq ?_
          refine cw_seq ?_
          refine cw_region ?_
          refine t_rd rfl (rd_move rfl) ?_
          refine t_rd rfl (rd_move rfl) ?_
          refine t_rd rfl (rd_lenS tS22 rfl (hm340.sl 0 rfl)) ?_
          refine t_rd rfl (rd_lss rfl rfl) ?_
          refine rwt_nil ?_
          refine qn_then ?_
          obtain ⟨hb341, q342⟩ | ⟨hb341, q342⟩ := oi h <;> clear h
          · refine cw_t rfl hb341 ?_
            refine cw_skip ?_
            refine qn_then ?_
            refine cw_seq ?_
            refine cw_block ?_
            refine cw_seq ?_
            obtain ⟨w344, he346⟩ : ∃ q, q = w332.drew := ⟨_, rfl⟩
            have hm345 := hm340.drew; rw [← he346] at hm345
            refine cw_region_s (fun q => q = w344) (cls [] []) mixed ?_
            rintro _ rfl; rw [← he346]
            refine s_rp (i := 0) rfl (by kernel_rfl) rfl (fun _ => (rd_move rfl)) ?_
            refine s_rp (i := 1) rfl (by kernel_rfl) rfl (fun _ => (rd_gtr rfl rfl)) ?_
            refine s_rp (i := 2) rfl (by kernel_rfl) rfl (fun _ => (rd_move rfl)) ?_
            refine s_rpg (i := 3) rfl (by kernel_rfl) rfl rfl rfl rfl (gv_t _) (fun hg347 _ => (rd_move rfl)) ?_
            refine s_rpg (i := 4) rfl (by kernel_rfl) rfl rfl rfl rfl (gv_t _) (fun hg348 _ => (rd_move rfl)) ?_
            obtain ⟨x350, h351, q352⟩ := ob q342; clear q342
            refine s_rpg (i := 5) rfl (by kernel_rfl) rfl rfl rfl rfl (gv_t _) (fun hg349 _ => (rd_index tS22 (gvx rfl hg349) (gvx rfl hg349) (hm345.sl 0 rfl) (gO_t h351 hg349))) ?_
            refine s_rdg (i := 6) rfl (by kernel_rfl) rfl rfl rfl rfl (gv_t _) (fun hg353 => (fun _ hS => by rw [hS]; exact (rd_ld1 tO3 (gvx rfl hg353) ((hm345.sl 0 rfl).cells (gO_t h351 hg353)) (off := 0) rfl))) rfl ?_
            refine s_rpg (i := 7) rfl (by kernel_rfl) rfl rfl rfl rfl (gv_t _) (fun hg354 _ => (rd_move rfl)) ?_
            refine s_rpg (i := 8) rfl (by kernel_rfl) rfl rfl rfl rfl (gv_t _) (fun hg355 _ => (rd_move rfl)) ?_
            obtain ⟨x357, h358, q359⟩ := ob q352; clear q352
            refine s_rpg (i := 9) rfl (by kernel_rfl) rfl rfl rfl rfl (gv_t _) (fun hg356 _ => (rd_sub64 (gO_t h358 hg356) (gvx rfl hg356) rfl)) ?_
            obtain ⟨x361, h362, q363⟩ := ob q359; clear q359
            refine s_rpg (i := 10) rfl (by kernel_rfl) rfl rfl rfl rfl (gv_t _) (fun hg360 _ => (rd_index tS22 (gvx rfl hg360) (gvx rfl hg360) (hm345.sl 0 rfl) (gO_t h362 hg360))) ?_
            refine s_rdg (i := 11) rfl (by kernel_rfl) rfl rfl rfl rfl (gv_t _) (fun hg364 => (fun _ hS => by rw [hS]; exact (rd_ld1 tO3 (gvx rfl hg364) ((hm345.sl 0 rfl).cells (gO_t h362 hg364)) (off := 0) rfl))) rfl ?_
            refine s_rpg (i := 12) rfl (by kernel_rfl) rfl rfl rfl rfl (gv_t _) (fun hg365 _ => (rd_leq (gvx rfl hg365) (gvx rfl hg365))) ?_
            refine s_rp (i := 13) rfl (by kernel_rfl) rfl (fun _ => (rd_and rfl (fun hc366 => (gvx rfl hc366)))) ?_
            refine s_rp (i := 14) rfl (by kernel_rfl) rfl (fun _ => (rd_move rfl)) ?_
            refine s_rpg (i := 15) rfl (by kernel_rfl) rfl rfl rfl rfl (gv_f _) (fun hg367 _ => (rd_move rfl)) ?_
            refine s_rpg (i := 16) rfl (by kernel_rfl) rfl rfl rfl rfl (gv_f _) (fun hg368 _ => (rd_move rfl)) ?_
            obtain ⟨x370, h371, q372⟩ := ob q363; clear q363
            refine s_rpg (i := 17) rfl (by kernel_rfl) rfl rfl rfl rfl (gv_f _) (fun hg369 _ => (rd_index tS22 (gvx rfl hg369) (gvx rfl hg369) (hm345.sl 0 rfl) (gO_t h371 hg369))) ?_
            refine s_rdg (i := 18) rfl (by kernel_rfl) rfl rfl rfl rfl (gv_f _) (fun hg373 => (fun _ hS => by rw [hS]; exact (rd_ld1 tO3 (gvx rfl hg373) ((hm345.sl 0 rfl).cells (gO_t h371 hg373)) (off := 0) rfl))) rfl ?_
            refine s_rpg (i := 19) rfl (by kernel_rfl) rfl rfl rfl rfl (gv_f _) (fun hg374 _ => (rd_lss (gvx rfl hg374) rfl)) ?_
            refine s_rp (i := 20) rfl (by kernel_rfl) rfl (fun _ => (rd_or rfl (fun hc375 => (gvx rfl (bnotIt hc375))))) ?_
            refine s_rp (i := 21) rfl (by kernel_rfl) rfl (fun _ => (rd_move rfl)) ?_
            refine s_rpg (i := 22) rfl (by kernel_rfl) rfl rfl rfl rfl (gv_f _) (fun hg376 _ => (rd_move rfl)) ?_
            refine s_rpg (i := 23) rfl (by kernel_rfl) rfl rfl rfl rfl (gv_f _) (fun hg377 _ => (rd_move rfl)) ?_
            obtain ⟨x379, h380, q381⟩ := ob q372; clear q372
            refine s_rpg (i := 24) rfl (by kernel_rfl) rfl rfl rfl rfl (gv_f _) (fun hg378 _ => (rd_index tS22 (gvx rfl hg378) (gvx rfl hg378) (hm345.sl 0 rfl) (gO_t h380 hg378))) ?_
            refine s_rdg (i := 25) rfl (by kernel_rfl) rfl rfl rfl rfl (gv_f _) (fun hg382 => (fun _ hS => by rw [hS]; exact (rd_ld1 tO3 (gvx rfl hg382) ((hm345.sl 0 rfl).cells (gO_t h380 hg382)) (off := 0) rfl))) rfl ?_
            refine s_rpg (i := 26) rfl (by kernel_rfl) rfl rfl rfl rfl (gv_f _) (fun hg383 _ => (rd_move rfl)) ?_
            refine s_rpg (i := 27) rfl (by kernel_rfl) rfl rfl rfl rfl (gv_f _) (fun hg384 _ => (rd_lenS tS23 (gvx rfl hg384) (hm345.sl 1 rfl))) ?_
            refine s_rpg (i := 28) rfl (by kernel_rfl) rfl rfl rfl rfl (gv_f _) (fun hg385 _ => (rd_geq (gvx rfl hg385) (gvx rfl hg385))) ?_
            refine s_rp (i := 29) rfl (by kernel_rfl) rfl (fun _ => (rd_or rfl (fun hc386 => (gvx rfl (bnotIt hc386))))) ?_
            refine s_rp (i := 30) rfl (by kernel_rfl) rfl (fun _ => (rd_move rfl)) ?_
            refine s_rpg (i := 31) rfl (by kernel_rfl) rfl rfl rfl rfl (gv_f _) (fun hg387 _ => (rd_move rfl)) ?_
            refine s_rpg (i := 32) rfl (by kernel_rfl) rfl rfl rfl rfl (gv_f _) (fun hg388 _ => (rd_move rfl)) ?_
            refine s_rpg (i := 33) rfl (by kernel_rfl) rfl rfl rfl rfl (gv_f _) (fun hg389 _ => (rd_move rfl)) ?_
            obtain ⟨x391, h392, q393⟩ := ob q381; clear q381
            refine s_rpg (i := 34) rfl (by kernel_rfl) rfl rfl rfl rfl (gv_f _) (fun hg390 _ => (rd_index tS22 (gvx rfl hg390) (gvx rfl hg390) (hm345.sl 0 rfl) (gO_t h392 hg390))) ?_
            refine s_rdg (i := 35) rfl (by kernel_rfl) rfl rfl rfl rfl (gv_f _) (fun hg394 => (fun _ hS => by rw [hS]; exact (rd_ld1 tO3 (gvx rfl hg394) ((hm345.sl 0 rfl).cells (gO_t h392 hg394)) (off := 0) rfl))) rfl ?_
            obtain ⟨x396, h397, q398⟩ := ob q393; clear q393
            refine s_rpg (i := 36) rfl (by kernel_rfl) rfl rfl rfl rfl (gv_f _) (fun hg395 _ => (rd_index tS23 (gvx rfl hg395) (gvx rfl hg395) (hm345.sl 1 rfl) (gO_t h397 hg395))) ?_
            refine s_rpg (i := 37) rfl (by kernel_rfl) rfl rfl rfl rfl (gv_f _) (fun hg399 _ => (rd_fld tF29_0 (gvx rfl hg399))) ?_
            refine s_rdg (i := 38) rfl (by kernel_rfl) rfl rfl rfl rfl (gv_f _) (fun hg400 => (fun _ hS => by rw [hS]; exact (rd_ld1 tO3 (gvx rfl hg400) ((hm345.sl 1 rfl).cells (gO_t h397 hg400)) (off := 0) rfl))) rfl ?_
            refine s_rpg (i := 39) rfl (by kernel_rfl) rfl rfl rfl rfl (gv_f _) (fun hg401 _ => (rd_move rfl)) ?_
            refine s_rpg (i := 40) rfl (by kernel_rfl) rfl rfl rfl rfl (gv_f _) (fun hg402 _ => (rd_gtr (gvx rfl hg402) (gvx rfl hg402))) ?_
            refine s_rp (i := 41) rfl (by kernel_rfl) rfl (fun _ => (rd_or rfl (fun hc403 => (gvx rfl (bnotIt hc403))))) ?_
            refine s_rp (i := 42) rfl (by kernel_rfl) rfl (fun _ => (rd_move rfl)) ?_
            refine s_rpg (i := 43) rfl (by kernel_rfl) rfl rfl rfl rfl (gv_f _) (fun hg404 _ => (rd_move rfl)) ?_
            refine s_rpg (i := 44) rfl (by kernel_rfl) rfl rfl rfl rfl (gv_f _) (fun hg405 _ => (rd_move rfl)) ?_
            refine s_rpg (i := 45) rfl (by kernel_rfl) rfl rfl rfl rfl (gv_f _) (fun hg406 _ => (rd_move rfl)) ?_
            obtain ⟨x408, h409, q410⟩ := ob q398; clear q398
            refine s_rpg (i := 46) rfl (by kernel_rfl) rfl rfl rfl rfl (gv_f _) (fun hg407 _ => (rd_index tS22 (gvx rfl hg407) (gvx rfl hg407) (hm345.sl 0 rfl) (gO_t h409 hg407))) ?_
            refine s_rdg (i := 47) rfl (by kernel_rfl) rfl rfl rfl rfl (gv_f _) (fun hg411 => (fun _ hS => by rw [hS]; exact (rd_ld1 tO3 (gvx rfl hg411) ((hm345.sl 0 rfl).cells (gO_t h409 hg411)) (off := 0) rfl))) rfl ?_
            obtain ⟨x413, h414, q415⟩ := ob q410; clear q410
            refine s_rpg (i := 48) rfl (by kernel_rfl) rfl rfl rfl rfl (gv_f _) (fun hg412 _ => (rd_index tS23 (gvx rfl hg412) (gvx rfl hg412) (hm345.sl 1 rfl) (gO_t h414 hg412))) ?_
            refine s_rpg (i := 49) rfl (by kernel_rfl) rfl rfl rfl rfl (gv_f _) (fun hg416 _ => (rd_fld tF29_1 (gvx rfl hg416))) ?_
            refine s_rdg (i := 50) rfl (by kernel_rfl) rfl rfl rfl rfl (gv_f _) (fun hg417 => (fun _ hS => by rw [hS]; exact (rd_ld1 tO3 (gvx rfl hg417) ((hm345.sl 1 rfl).cells (gO_t h414 hg417)) (off := 1) rfl))) rfl ?_
            refine s_rpg (i := 51) rfl (by kernel_rfl) rfl rfl rfl rfl (gv_f _) (fun hg418 _ => (rd_move rfl)) ?_
            obtain ⟨x420, h421, q422⟩ := ob q415; clear q415
            refine s_rpg (i := 52) rfl (by kernel_rfl) rfl rfl rfl rfl (gv_f _) (fun hg419 _ => (rd_add64 (gO_t h421 hg419) (gvx rfl hg419) (gvx rfl hg419))) ?_
            refine s_rpg (i := 53) rfl (by kernel_rfl) rfl rfl rfl rfl (gv_f _) (fun hg423 _ => (rd_move rfl)) ?_
            refine s_rpg (i := 54) rfl (by kernel_rfl) rfl rfl rfl rfl (gv_f _) (fun hg424 _ => (rd_leq (gvx rfl hg424) (gvx rfl hg424))) ?_
            refine s_rp (i := 55) rfl (by kernel_rfl) rfl (fun _ => (rd_or rfl (fun hc425 => (gvx rfl (bnotIt hc425))))) ?_
            refine s_nil (by kernel_rfl) ?_
            refine qn_then ?_
            obtain ⟨hb426, q427⟩ | ⟨hb426, q427⟩ := oi q422 <;> clear q422
            · refine cw_t rfl hb426 ?_
              refine cw_seq ?_
              refine cw_region ?_
              refine t_rd rfl (rd_assign rfl) ?_
              refine rwt_nil ?_
              refine qn_then ?_
              refine cw_ret ?_
              refine qr_block (qr_then (qr_then ?_))
              obtain rfl := hr334 _ (os q427)
              refine .inl (⟨_, rfl, ⟨rfl, ?_⟩⟩)
              exact ret1 rfl rfl ⟨rfl, (hm345.pick [] (by decide) rfl)⟩
            · refine cw_f rfl hb426 ?_
              refine cw_skip ?_
              refine qn_block (qn_then ?_)
              refine cw_region ?_
              refine t_rd rfl (rd_move rfl) ?_
              obtain ⟨x428, h429, q430⟩ := ob q427; clear q427
              refine t_rd rfl (rd_add64 h429 rfl rfl) ?_
              refine t_rd rfl (rd_assign rfl) ?_
              refine rwt_nil ?_
              refine qn_then ?_
              refine ⟨_, (os q430), (by repeat (first | exact Sub.nil _ | refine Sub.cons rfl ?_)), (hm345.pick [0, 1] (by decide) rfl)⟩
          · refine cw_f rfl hb341 ?_
            refine cw_exit ?_
            refine qx_then (qx_then ?_)
            obtain rfl := hr334 _ (os q342)
            exact .inr (⟨_, rfl, ⟨rfl, (by repeat (first | exact Sub.nil _ | refine Sub.cons rfl ?_)), (hm340.pick [] (by decide) rfl)⟩⟩)
        · skip
          intro e env431 w432 hX433
          rcases hX433 with hX433 | hX433
          · obtain ⟨p435, rfl, hX433⟩ := hX433
            obtain ⟨rfl, hq437⟩ := hX433
            exact qr_block (qr_then ((by have e := os q337; subst e; exact hq437)))
          · obtain ⟨p438, rfl, hX433⟩ := hX433
            obtain ⟨rfl, hs439, hm440⟩ := hX433
            refine qx_same (qn_then ?_)
            refine cw_sub hs439 ?_
            refine cw_seq ?_
            refine cw_region ?_
            obtain ⟨r441, h442, q443⟩ := ob q337; clear q337
            refine t_ef rfl (ef_call tf13 rfl (law39_sane_ok h442)) ?_
            rintro _ w445 ⟨e_, hm444⟩
            obtain rfl := e_.symm
            have hm446 := hm440.call hm444
            refine t_rd rfl (rd_assign rfl) ?_
            refine rwt_nil ?_
            refine qn_then ?_
            refine cw_ret ?_
            obtain rfl := os q443
            exact ret1 rfl rfl ⟨rfl, (hm446.pick [] (by decide) rfl)⟩

theorem law39_EngineLeast_ok {N : Nat} {a0 : List Int} {a1 : Int} {a2 : List Int} {res : Bool} (h : law39_EngineLeast N a0 a1 a2 = some res) {w : World} {v0 : Value} {v2 : Value} (hv0 : Sl (Old w No) w v0 a0) (hv2 : Sl (Old w No) w v2 a2) :
    CallsR Try.prog 5 [v0, (Value.int .i64 a1), v2] w (fun u w' => u = (Value.bool res) ∧ Mem w No [] w') := by
  unfold law39_EngineLeast at h
  refine fn_ok Try.func5 rfl rfl rfl ?_
  have hm0 := Mem.nil w
  refine cw_seq ?_
  refine cw_region ?_
  refine t_rd rfl (rd_assign rfl) ?_
  refine rwt_nil ?_
  refine qn_then ?_
  refine cw_seq ?_
  refine cw_region ?_
  refine t_rd rfl (rd_move rfl) ?_
  obtain ⟨r1, h2, q3⟩ := ob h; clear h
  refine t_ef rfl (ef_call tf7 rfl (humpgen_New_ok h2 (hv0.to_call hm0))) ?_
  rintro _ w6 ⟨g4, e_, hm5⟩
  obtain rfl := e_.symm
  have hm7 := hm0.call hm5
  refine t_rd rfl (rd_assign rfl) ?_
  refine rwt_nil ?_
  refine qn_then ?_
  refine cw_seq ?_
  refine cw_region ?_
  refine t_rd rfl (rd_move rfl) ?_
  obtain ⟨r8, h9, q10⟩ := ob q3; clear q3
  refine t_ef rfl (ef_call tf8 rfl (law39_tasks_ok h9 (hv0.to_callT (k := 0) hm7 rfl) (hm7.get (k := 0) rfl))) ?_
  rintro _ w13 ⟨v11, e_, hm12⟩
  obtain rfl := e_.symm
  have hm14 := hm7.callT (k := 0) rfl (fun _ h => h) hm12 (fun _ => Iff.rfl)
  refine t_rd rfl (rd_assign rfl) ?_
  refine rwt_nil ?_
  refine qn_then ?_
  refine cw_seq ?_
  refine cw_region ?_
  refine t_rd rfl (rd_move rfl) ?_
  obtain ⟨r15, h16, q17⟩ := ob q10; clear q10
  refine t_ef rfl (ef_call tf14 rfl (yardgen_Place_ok h16)) ?_
  rintro _ w19 ⟨e_, hm18⟩
  obtain rfl := e_.symm
  have hm20 := hm14.call hm18
  refine t_rd rfl (rd_assign rfl) ?_
  refine rwt_nil ?_
  refine qn_then ?_
  refine cw_seq ?_
  refine cw_region ?_
  refine t_rd rfl (rd_move rfl) ?_
  refine t_rd rfl (rd_move rfl) ?_
  obtain ⟨r21, h22, q23⟩ := ob q17; clear q17
  refine t_ef rfl (ef_call tf15 rfl (engine_Assign_ok h22 (hm20.sl_call 0 rfl))) ?_
  rintro _ w26 ⟨v24, e_, hm25⟩
  obtain rfl := e_.symm
  have hm27 := hm20.call hm25
  refine t_rd rfl (rd_move rfl) ?_
  refine t_rd rfl (rd_extract rfl rfl) ?_
  refine t_rd rfl (rd_extract rfl rfl) ?_
  refine t_rd rfl (rd_extract rfl rfl) ?_
  refine t_rd rfl (rd_assign rfl) ?_
  refine t_rd rfl (rd_assign rfl) ?_
  refine t_rd rfl (rd_assign rfl) ?_
  refine rwt_nil ?_
  refine qn_then ?_
  refine cw_seq ?_
  refine cw_seq ?_
  refine cw_region ?_
  refine t_rd rfl (rd_move rfl) ?_
  refine t_rd rfl (rd_neq rfl rfl) ?_
  refine rwt_nil ?_
  refine qn_then ?_
  obtain ⟨hb28, q29⟩ | ⟨hb28, q29⟩ := oi q23 <;> clear q23
  · refine cw_t rfl hb28 ?_
    refine cw_seq ?_
    refine cw_region ?_
    refine t_rd rfl (rd_assign rfl) ?_
    refine rwt_nil ?_
    refine qn_then ?_
    refine cw_ret ?_
    refine qr_then ?_
    obtain rfl := os q29
    exact ret1 rfl rfl ⟨rfl, (hm27.pick [] (by decide) rfl)⟩
  · refine cw_f rfl hb28 ?_
    refine cw_skip ?_
    refine qn_then ?_
    refine cw_seq ?_
    refine cw_region ?_
    refine t_rd rfl (rd_assign rfl) ?_
    refine t_rd rfl (rd_assign rfl) ?_
    refine rwt_nil ?_
    refine qn_then ?_
    refine cw_seq ?_
    refine cw_seq ?_
    refine cw_region ?_
    refine t_rd rfl (rd_assign rfl) ?_
    refine rwt_nil ?_
    refine qn_then ?_
    refine cw_block ?_
    have hm263 := hm27.addNil (α := Int) 3
    have hm264 := hm263.addNil (α := Int) 3
    obtain ⟨r751, hit752, q753⟩ := ob q29; clear q29
    refine cw_loop2 (I := fun q envq wq => ∃ (v744 : Value) (v742 : Value), Sub [(1, (Value.int .i64 r15)), (2, v2), (7, (Value.pointer (some ⟨g4, 0, none⟩))), (8, v11), (10, (Value.int .i64 r21.2.1)), (12, v742), (13, v744), (14, (Value.int .i64 q.1))] envq ∧ Mem w No [ownL 3 v744 (q.2.2.2 : List Int), ownL 3 v742 (q.2.2.1 : List Int), ownL 29 v11 (r8.2 : List T_Task), blk g4 48 [v0, (Value.int .i64 q.2.1)]] wq) (X := fun eq envq wq => eq = .exit 0 ∧ ∃ (v738 : Value) (v736 : Value), Sub [(1, (Value.int .i64 r15)), (8, v11), (10, (Value.int .i64 r21.2.1)), (12, v736), (13, v738)] envq ∧ Mem w No [ownL 3 v738 (r751.2 : List Int), ownL 3 v736 (r751.1 : List Int), ownL 29 v11 (r8.2 : List T_Task)] wq) hit752 ⟨(Value.slice none 0 0), (Value.slice none 0 0), (by repeat (first | exact Sub.nil _ | refine Sub.cons rfl ?_)), (hm264.pick [0, 1, 3, 4] (by decide) rfl)⟩ ?_ ?_
    · rintro ⟨i739, i740, l741, l743⟩ x746 env747 w748 hf749 hr750 ⟨v744, v742, hs_, hm_⟩
      have hs_ : Sub [(1, (Value.int .i64 r15)), (2, v2), (7, (Value.pointer (some ⟨g4, 0, none⟩))), (8, v11), (10, (Value.int .i64 r21.2.1)), (12, v742), (13, v744), (14, (Value.int .i64 i739))] env747 := hs_
      have hm754 : Mem w No [ownL 3 v744 (l743 : List Int), ownL 3 v742 (l741 : List Int), ownL 29 v11 (r8.2 : List T_Task), blk g4 48 [v0, (Value.int .i64 i740)]] w748 := hm_
      refine cw_sub hs_ ?_
      clear hs_ hm_ q753
      have h : law39_EngineLeast_l4 N a0 a2 r8 r15 i739 i740 l741 l743 = some x746 := hf749
      clear hf749
      refine cw_seq ?_
      refine cw_seq ?_
      refine cw_region ?_
      refine t_rd rfl (rd_move rfl) ?_
      refine t_rd rfl (rd_move rfl) ?_
      refine t_rd rfl (rd_lenS tS23 rfl (hm754.sl 2 rfl)) ?_
      refine t_rd rfl (rd_lss rfl rfl) ?_
      refine rwt_nil ?_
      refine qn_then ?_
      obtain ⟨hb755, q756⟩ | ⟨hb755, q756⟩ := oi h <;> clear h
      · refine cw_t rfl hb755 ?_
        refine cw_skip ?_
        refine qn_then ?_
        refine cw_seq ?_
        refine cw_block ?_
        refine cw_seq ?_
        refine cw_region ?_
        refine t_rd rfl (rd_move rfl) ?_
        refine t_rd rfl (rd_move rfl) ?_
        obtain ⟨r757, h758, q759⟩ := ob q756; clear q756
        refine t_ef rfl (ef_call tf11 rfl (Maker_Next_ok h758 (hv0.to_callT (k := 3) hm754 rfl) (hm754.get (k := 3) rfl))) ?_
        rintro _ w761 ⟨e_, hm760⟩
        obtain rfl := e_.symm
        have hm762 := hm754.callT (k := 3) rfl (fun _ h => h) hm760 (fun _ => Iff.rfl)
        refine t_ef rfl (ef_bslice (l := ([r757.2] : List Int)) hm762 tS22 rfl (cs := #[(Value.int .i64 r757.2)]) (by unfold bsl; kernel_rfl) rfl rfl) ?_
        intro v763 w765 hm764
        obtain ⟨l766, h767, q768⟩ := ob q759; clear q759
        refine t_ef rfl (ef_append (k := 2) hm764 tS22 tE3 rfl rfl rfl rfl (hm764.sl 0 rfl) h767) ?_
        intro v769 w771 hm770
        refine t_rd rfl (rd_assign rfl) ?_
        refine rwt_nil ?_
        refine qn_then ?_
        refine cw_seq ?_
        refine cw_seq ?_
        refine cw_region ?_
        refine t_rd rfl (rd_move rfl) ?_
        refine t_rd rfl (rd_lenS tS22 rfl (hv2.of_old hm770)) ?_
        refine t_rd rfl (rd_gtr rfl rfl) ?_
        refine rwt_nil ?_
        refine qn_then ?_
        obtain ⟨j792, hit793, q794⟩ := ob q768; clear q768
        refine cw_join (X := fun eq envq wq => eq = .normal ∧ Sub [(1, (Value.int .i64 r15)), (2, v2), (7, (Value.pointer (some ⟨g4, 0, none⟩))), (8, v11), (10, (Value.int .i64 r21.2.1)), (12, v769), (13, v744), (14, (Value.int .i64 i739))] envq ∧ Mem w No [ownL 3 v744 (l743 : List Int), ownL 3 v769 (j792 : List Int), ownL 29 v11 (r8.2 : List T_Task), blk g4 48 [v0, (Value.int .i64 r757.1)]] wq) ?_ ?_
        · clear q794
          obtain ⟨hb795, q796⟩ | ⟨hb795, q796⟩ := oi hit793 <;> clear hit793
          · refine cw_t rfl hb795 ?_
            refine cw_region ?_
            refine t_rd rfl (rd_move rfl) ?_
            refine t_rd rfl (rd_move rfl) ?_
            refine t_rd rfl (rd_move rfl) ?_
            refine t_rd rfl (rd_move rfl) ?_
            refine t_rd rfl (rd_move rfl) ?_
            refine t_rd rfl (rd_lenS tS22 rfl (hv2.of_old hm770)) ?_
            obtain ⟨x797, h798, q799⟩ := ob q796; clear q796
            refine t_rd rfl (rd_rem64 h798 rfl rfl) ?_
            obtain ⟨x800, h801, q802⟩ := ob q799; clear q799
            refine t_rd rfl (rd_index tS22 rfl rfl (hv2.of_old hm770) h801) ?_
            refine t_rd rfl (rd_ld1 tO3 rfl ((hv2.of_old hm770).cells h801) (off := 0) rfl) ?_
            obtain ⟨r803, h804, q805⟩ := ob q802; clear q802
            refine t_ef rfl (ef_call tf14 rfl (yardgen_Place_ok h804)) ?_
            rintro _ w807 ⟨e_, hm806⟩
            obtain rfl := e_.symm
            have hm808 := hm770.call hm806
            obtain ⟨x809, h810, q811⟩ := ob q805; clear q805
            refine t_rd rfl (rd_index tS22 rfl rfl (hm808.sl 2 rfl) h810) ?_
            refine t_ef0 (ef_stl (k := 2) (off := 0) (x' := r803) hm808 tO3 rfl rfl rfl rfl h810 rfl rfl) ?_
            intro _ w813 hm812
            refine rwt_nil ?_
            obtain rfl := os q811
            exact ⟨rfl, (by repeat (first | exact Sub.nil _ | refine Sub.cons rfl ?_)), (hm812.pick [1, 2, 3, 4] (by decide) rfl)⟩
          · refine cw_f rfl hb795 ?_
            refine cw_skip ?_
            obtain rfl := os q796
            exact ⟨rfl, (by repeat (first | exact Sub.nil _ | refine Sub.cons rfl ?_)), (hm770.pick [1, 2, 3, 4] (by decide) rfl)⟩
        · clear hit793
          intro e env814 w815 hX816
          obtain ⟨rfl, hs817, hm818⟩ := hX816
          refine qn_then ?_
          refine cw_sub hs817 ?_
          refine cw_seq ?_
          refine cw_region ?_
          refine t_rd rfl (rd_move rfl) ?_
          obtain ⟨r819, h820, q821⟩ := ob q794; clear q794
          refine t_ef rfl (ef_call tf11 rfl (Maker_Next_ok h820 (hv0.to_callT (k := 3) hm818 rfl) (hm818.get (k := 3) rfl))) ?_
          rintro _ w823 ⟨e_, hm822⟩
          obtain rfl := e_.symm
          have hm824 := hm818.callT (k := 3) rfl (fun _ h => h) hm822 (fun _ => Iff.rfl)
          refine t_rd rfl (rd_assign rfl) ?_
          refine rwt_nil ?_
          refine qn_then ?_
          refine cw_seq ?_
          refine cw_seq ?_
          refine cw_region ?_
          refine t_rd rfl (rd_assign rfl) ?_
          refine rwt_nil ?_
          refine qn_then ?_
          refine cw_block ?_
          obtain ⟨r922, hit923, q924⟩ := ob q821; clear q821
          refine cw_loop2 (I := fun q envq wq => Sub [(1, (Value.int .i64 r15)), (2, v2), (7, (Value.pointer (some ⟨g4, 0, none⟩))), (8, v11), (10, (Value.int .i64 r21.2.1)), (12, v769), (13, v744), (14, (Value.int .i64 i739)), (15, (Value.int .i64 q.1)), (16, (Value.int .i64 q.2))] envq ∧ Mem w No [ownL 3 v744 (l743 : List Int), ownL 3 v769 (j792 : List Int), ownL 29 v11 (r8.2 : List T_Task), blk g4 48 [v0, (Value.int .i64 r819.1)]] wq) (X := fun eq envq wq => eq = .exit 2 ∧ Sub [(1, (Value.int .i64 r15)), (2, v2), (7, (Value.pointer (some ⟨g4, 0, none⟩))), (8, v11), (10, (Value.int .i64 r21.2.1)), (12, v769), (13, v744), (14, (Value.int .i64 i739)), (15, (Value.int .i64 r922))] envq ∧ Mem w No [ownL 3 v744 (l743 : List Int), ownL 3 v769 (j792 : List Int), ownL 29 v11 (r8.2 : List T_Task), blk g4 48 [v0, (Value.int .i64 r819.1)]] wq) hit923 ⟨(by repeat (first | exact Sub.nil _ | refine Sub.cons rfl ?_)), (hm824.pick [0, 1, 2, 3] (by decide) rfl)⟩ ?_ ?_
          · rintro ⟨i914, i915⟩ x917 env918 w919 hf920 hr921 ⟨hs_, hm_⟩
            have hs_ : Sub [(1, (Value.int .i64 r15)), (2, v2), (7, (Value.pointer (some ⟨g4, 0, none⟩))), (8, v11), (10, (Value.int .i64 r21.2.1)), (12, v769), (13, v744), (14, (Value.int .i64 i739)), (15, (Value.int .i64 i914)), (16, (Value.int .i64 i915))] env918 := hs_
            have hm925 : Mem w No [ownL 3 v744 (l743 : List Int), ownL 3 v769 (j792 : List Int), ownL 29 v11 (r8.2 : List T_Task), blk g4 48 [v0, (Value.int .i64 r819.1)]] w919 := hm_
            refine cw_sub hs_ ?_
            clear hs_ hm_ q924
            have h : law39_EngineLeast_l5 N r8 r15 i739 l743 i914 i915 = some x917 := hf920
            clear hf920
            refine cw_seq ?_
            refine cw_seq ?_
            refine cw_region ?_
            refine t_rd rfl (rd_move rfl) ?_
            refine t_rd rfl (rd_move rfl) ?_
            refine t_rd rfl (rd_lenS tS22 rfl (hm925.sl 0 rfl)) ?_
            refine t_rd rfl (rd_lss rfl rfl) ?_
            refine rwt_nil ?_
            refine qn_then ?_
            obtain ⟨hb926, q927⟩ | ⟨hb926, q927⟩ := oi h <;> clear h
            · refine cw_t rfl hb926 ?_
              refine cw_skip ?_
              refine qn_then ?_
              refine cw_seq ?_
              refine cw_block ?_
              refine cw_seq ?_
              obtain ⟨w929, he931⟩ : ∃ q, q = w919.drew := ⟨_, rfl⟩
              have hm930 := hm925.drew; rw [← he931] at hm930
              refine cw_region_s (fun q => q = w929) (cls [] [16]) mixed ?_
              rintro _ rfl; rw [← he931]
              refine s_rp (i := 0) rfl (by kernel_rfl) rfl (fun _ => (rd_move rfl)) ?_
              refine s_rp (i := 1) rfl (by kernel_rfl) rfl (fun _ => (rd_move rfl)) ?_
              obtain ⟨x932, h933, q934⟩ := ob q927; clear q927
              refine s_rp (i := 2) rfl (by kernel_rfl) rfl (fun _ => (rd_index tS22 rfl rfl (hm930.sl 0 rfl) h933)) ?_
              refine s_rd (i := 3) rfl (by kernel_rfl) rfl (fun _ hS => by rw [hS]; exact (rd_ld1 tO3 rfl ((hm930.sl 0 rfl).cells h933) (off := 0) rfl)) rfl ?_
              refine s_rp (i := 4) rfl (by kernel_rfl) rfl (fun _ => (rd_move rfl)) ?_
              refine s_rp (i := 5) rfl (by kernel_rfl) rfl (fun _ => (rd_eql rfl rfl)) ?_
              refine s_rp (i := 6) rfl (by kernel_rfl) rfl (fun _ => (rd_move rfl)) ?_
              refine s_rpg (i := 7) rfl (by kernel_rfl) rfl rfl rfl rfl (gv_t _) (fun hg935 _ => (rd_move rfl)) ?_
              refine s_rpg (i := 8) rfl (by kernel_rfl) rfl rfl rfl rfl (gv_t _) (fun hg936 _ => (rd_move rfl)) ?_
              obtain ⟨x938, h939, q940⟩ := ob q934; clear q934
              refine s_rpg (i := 9) rfl (by kernel_rfl) rfl rfl rfl rfl (gv_t _) (fun hg937 _ => (rd_index tS23 (gvx rfl hg937) (gvx rfl hg937) (hm930.sl 2 rfl) (gO_t h939 hg937))) ?_
              refine s_rdg (i := 10) rfl (by kernel_rfl) rfl rfl rfl rfl (gv_t _) (fun hg941 => (fun _ hS => by rw [hS]; exact (rd_ld tA29 (gvx rfl hg941) ((hm930.sl 2 rfl).cells (gO_t h939 hg941)) rfl))) rfl ?_
              refine s_rpg (i := 11) rfl (by kernel_rfl) rfl rfl rfl rfl (gv_t _) (fun hg942 _ => (rd_move rfl)) ?_
              refine s_rpg (i := 12) rfl (by kernel_rfl) rfl rfl rfl rfl (gv_t _) (fun hg943 _ => (rd_move rfl)) ?_
              obtain ⟨x945, h946, q947⟩ := ob q940; clear q940
              refine s_rpg (i := 13) rfl (by kernel_rfl) rfl rfl rfl rfl (gv_t _) (fun hg944 _ => (rd_index tS23 (gvx rfl hg944) (gvx rfl hg944) (hm930.sl 2 rfl) (gO_t h946 hg944))) ?_
              refine s_rdg (i := 14) rfl (by kernel_rfl) rfl rfl rfl rfl (gv_t _) (fun hg948 => (fun _ hS => by rw [hS]; exact (rd_ld tA29 (gvx rfl hg948) ((hm930.sl 2 rfl).cells (gO_t h946 hg948)) rfl))) rfl ?_
              refine s_rpg (i := 15) rfl (by kernel_rfl) rfl rfl rfl rfl (gv_t _) (fun hg949 _ => (rd_move rfl)) ?_
              obtain ⟨r951, h952, q953⟩ := ob q947; clear q947
              refine s_efg (i := 16) rfl (by kernel_rfl) rfl rfl rfl rfl (R := (fun v w' => v = gV (decide (x932 = i914)) (Value.bool r951) ∧ Mem w929 No [] w')) (gv_t _) (fun hg950 => (ef_call tf18 (evc (gvx rfl hg950) (evc (gvx rfl hg950) (evc (gvx rfl hg950) evn))) (r39_Excludes_ok (gO_t h952 hg950))).mono (by rintro _ _ ⟨rfl, q⟩; exact ⟨(gV_t hg950).symm, q⟩)) (fun q => ⟨(gV_f q).symm, Mem.nil _⟩) (by decide) (fun _ _ _ q => absurd q (by decide)) ?_
              rintro _ w955 ⟨rfl, hm954⟩
              have hm956 := hm930.call hm954
              refine s_rp (i := 17) rfl (by kernel_rfl) rfl (fun _ => (rd_and rfl (fun hc957 => (gvx rfl hc957)))) ?_
              refine s_nil (by kernel_rfl) ?_
              refine qn_then ?_
              obtain ⟨hb958, q959⟩ | ⟨hb958, q959⟩ := oi q953 <;> clear q953
              · refine cw_t rfl hb958 ?_
                refine cw_region ?_
                refine t_rd rfl (rd_move rfl) ?_
                obtain ⟨x960, h961, q962⟩ := ob q959; clear q959
                refine t_rd rfl (rd_add64 h961 rfl rfl) ?_
                refine t_rd rfl (rd_assign rfl) ?_
                refine t_rd rfl (rd_assign rfl) ?_
                refine rwt_nil ?_
                refine qn_block (qn_then ?_)
                refine cw_region ?_
                refine t_rd rfl (rd_move rfl) ?_
                obtain ⟨x963, h964, q965⟩ := ob q962; clear q962
                refine t_rd rfl (rd_add64 h964 rfl rfl) ?_
                refine t_rd rfl (rd_assign rfl) ?_
                refine rwt_nil ?_
                refine qn_then ?_
                refine ⟨_, (os q965), (by repeat (first | exact Sub.nil _ | refine Sub.cons rfl ?_)), (hm956.pick [0, 1, 2, 3] (by decide) rfl)⟩
              · refine cw_f rfl hb958 ?_
                refine cw_skip ?_
                refine qn_block (qn_then ?_)
                refine cw_region ?_
                refine t_rd rfl (rd_move rfl) ?_
                obtain ⟨x966, h967, q968⟩ := ob q959; clear q959
                refine t_rd rfl (rd_add64 h967 rfl rfl) ?_
                refine t_rd rfl (rd_assign rfl) ?_
                refine rwt_nil ?_
                refine qn_then ?_
                refine ⟨_, (os q968), (by repeat (first | exact Sub.nil _ | refine Sub.cons rfl ?_)), (hm956.pick [0, 1, 2, 3] (by decide) rfl)⟩
            · refine cw_f rfl hb926 ?_
              refine cw_exit ?_
              refine qx_then (qx_then ?_)
              obtain rfl := hr921 _ (os q927)
              exact ⟨rfl, (by repeat (first | exact Sub.nil _ | refine Sub.cons rfl ?_)), (hm925.pick [0, 1, 2, 3] (by decide) rfl)⟩
          · skip
            intro e env969 w970 hX971
            obtain ⟨rfl, hs972, hm973⟩ := hX971
            refine qx_same (qn_then ?_)
            refine cw_sub hs972 ?_
            refine cw_region ?_
            refine t_rd rfl (rd_move rfl) ?_
            refine t_rd rfl (rd_move rfl) ?_
            refine t_ef rfl (ef_bslice (l := ([r922] : List Int)) hm973 tS22 rfl (cs := #[(Value.int .i64 r922)]) (by unfold bsl; kernel_rfl) rfl rfl) ?_
            intro v974 w976 hm975
            obtain ⟨l977, h978, q979⟩ := ob q924; clear q924
            refine t_ef rfl (ef_append (k := 1) hm975 tS22 tE3 rfl rfl rfl rfl (hm975.sl 0 rfl) h978) ?_
            intro v980 w982 hm981
            refine t_rd rfl (rd_assign rfl) ?_
            refine rwt_nil ?_
            refine qn_block (qn_then ?_)
            refine cw_region ?_
            refine t_rd rfl (rd_move rfl) ?_
            obtain ⟨x983, h984, q985⟩ := ob q979; clear q979
            refine t_rd rfl (rd_add64 h984 rfl rfl) ?_
            refine t_rd rfl (rd_assign rfl) ?_
            refine rwt_nil ?_
            refine qn_then ?_
            refine ⟨_, (os q985), v980, v769, (by repeat (first | exact Sub.nil _ | refine Sub.cons rfl ?_)), (hm981.pick [1, 2, 3, 4] (by decide) rfl)⟩
      · refine cw_f rfl hb755 ?_
        refine cw_exit ?_
        refine qx_then (qx_then ?_)
        obtain rfl := hr750 _ (os q756)
        exact ⟨rfl, v744, v742, (by repeat (first | exact Sub.nil _ | refine Sub.cons rfl ?_)), (hm754.pick [0, 1, 2] (by decide) rfl)⟩
    · skip
      intro e env986 w987 hX988
      obtain ⟨rfl, v738, v736, hs989, hm990⟩ := hX988
      refine qx_same (qn_then ?_)
      refine cw_sub hs989 ?_
      refine cw_seq ?_
      refine cw_seq ?_
      refine cw_region ?_
      refine t_rd rfl (rd_move rfl) ?_
      refine t_rd rfl (rd_move rfl) ?_
      refine t_rd rfl (rd_build (cs := #[v736, v738]) rfl (by obtain ⟨_, _, e⟩ := ((hm990.sl 1 rfl)).val; rw [e]; clear e; obtain ⟨_, _, e⟩ := ((hm990.sl 0 rfl)).val; rw [e]; clear e; kernel_rfl)) ?_
      refine t_rd rfl (rd_move rfl) ?_
      refine rwt_nil ?_
      refine qn_then ?_
      refine cw_block ?_
      obtain ⟨r1747, hit1748, q1749⟩ := ob q753; clear q753
      refine cw_loop2 (I := fun q envq wq => Sub [(1, (Value.int .i64 r15)), (8, v11), (10, (Value.int .i64 r21.2.1)), (13, v738), (101, (Value.agg #[v736, v738])), (102, (Value.int .i64 q))] envq ∧ Mem w No [ownL 3 v738 (r751.2 : List Int), ownL 3 v736 (r751.1 : List Int), ownL 29 v11 (r8.2 : List T_Task)] wq) (X := fun eq envq wq => (∃ p1750, r1747 = (Sum.inl p1750) ∧ eq = .ret ∧ retQ Try.prog 164 Try.f5 (fun u w' => u = (Value.bool p1750) ∧ Mem w No [] w') .ret envq wq) ∨ (∃ p1751, r1747 = (Sum.inr p1751) ∧ eq = .exit 4 ∧ Sub [(1, (Value.int .i64 r15)), (8, v11), (13, v738)] envq ∧ Mem w No [ownL 3 v738 (r751.2 : List Int), ownL 29 v11 (r8.2 : List T_Task)] wq)) hit1748 ⟨(by repeat (first | exact Sub.nil _ | refine Sub.cons rfl ?_)), (hm990.pick [0, 1, 2] (by decide) rfl)⟩ ?_ ?_
      · rintro i1740 x1742 env1743 w1744 hf1745 hr1746 ⟨hs_, hm_⟩
        have hs_ : Sub [(1, (Value.int .i64 r15)), (8, v11), (10, (Value.int .i64 r21.2.1)), (13, v738), (101, (Value.agg #[v736, v738])), (102, (Value.int .i64 i1740))] env1743 := hs_
        have hm1752 : Mem w No [ownL 3 v738 (r751.2 : List Int), ownL 3 v736 (r751.1 : List Int), ownL 29 v11 (r8.2 : List T_Task)] w1744 := hm_
        refine cw_sub hs_ ?_
        clear hs_ hm_ q1749
        have h : law39_EngineLeast_l14 N r8 r15 r21 r751 i1740 = some x1742 := hf1745
        clear hf1745
        refine cw_seq ?_
        refine cw_region ?_
        refine t_rd rfl (rd_lss rfl rfl) ?_
        refine rwt_nil ?_
        refine qn_then ?_
        refine cw_seq ?_
        obtain ⟨hb1753, q1754⟩ | ⟨hb1753, q1754⟩ := oi h <;> clear h
        · refine cw_t rfl hb1753 ?_
          refine cw_skip ?_
          refine qn_then ?_
          refine cw_seq ?_
          refine cw_block ?_
          refine cw_seq ?_
          refine cw_region ?_
          obtain ⟨zd1755, ez1756⟩ : ∃ z : Hdr, z.1 = v736 := ⟨⟨v736, sl_one (hm1752.sl 1 rfl)⟩, rfl⟩
          obtain ⟨zd1757, ez1758⟩ : ∃ z : Hdr, z.1 = v738 := ⟨⟨v738, sl_one (hm1752.sl 0 rfl)⟩, rfl⟩
          obtain ⟨l1759, h1760, q1761⟩ := ob q1754; clear q1754
          obtain ⟨zd1762, hz1763⟩ := rowI (hs := ([zd1755, zd1757] : List Hdr)) (ls := ([r751.1, r751.2] : List (List Int))) rfl h1760
          refine t_rd rfl (rd_idxh (hs := ([zd1755, zd1757] : List Hdr)) tAr44 tO22 rfl (agg_cast (cs1 := #[v736, v738]) rfl (by show #[zd1755.1, zd1757.1] = #[v736, v738]; rw [ez1756, ez1758])) rfl hz1763) ?_
          refine t_rd rfl (rd_assign rfl) ?_
          refine rwt_nil ?_
          refine qn_then ?_
          refine cw_seq ?_
          refine cw_region ?_
          refine t_rd rfl (rd_move rfl) ?_
          refine t_rd rfl (rd_move rfl) ?_
          refine t_rd rfl (rd_move rfl) ?_
          obtain ⟨r1764, h1765, q1766⟩ := ob q1761; clear q1761
          refine t_ef rfl (ef_call tf16 rfl (engine_Check_ok h1765 (hm1752.sl_call 2 rfl) ((Rows.cons (hm1752.sl_call 1 rfl) ez1756 (Rows.cons (hm1752.sl_call 0 rfl) ez1758 Rows.nil)).get hz1763 h1760))) ?_
          rintro _ w1768 ⟨e_, hm1767⟩
          obtain rfl := e_.symm
          have hm1769 := hm1752.call hm1767
          refine t_rd rfl (rd_move rfl) ?_
          refine t_rd rfl (rd_extract rfl rfl) ?_
          refine t_rd rfl (rd_extract rfl rfl) ?_
          refine t_rd rfl (rd_assign rfl) ?_
          refine t_rd rfl (rd_assign rfl) ?_
          refine rwt_nil ?_
          refine qn_then ?_
          refine cw_seq ?_
          refine cw_region ?_
          refine t_rd rfl (rd_assign rfl) ?_
          refine rwt_nil ?_
          refine qn_then ?_
          refine cw_seq ?_
          refine cw_seq ?_
          refine cw_region ?_
          refine t_rd rfl (rd_assign rfl) ?_
          refine rwt_nil ?_
          refine qn_then ?_
          refine cw_block ?_
          obtain ⟨r1997, hit1998, q1999⟩ := ob q1766; clear q1766
          refine cw_loop2 (I := fun q envq wq => Sub [(1, (Value.int .i64 r15)), (8, v11), (10, (Value.int .i64 r21.2.1)), (13, v738), (18, zd1762.1), (19, (Value.bool r1764.1)), (20, (Value.int .i64 r1764.2)), (21, (Value.int .i64 q.1)), (22, (Value.int .i64 q.2)), (101, (Value.agg #[v736, v738])), (102, (Value.int .i64 i1740))] envq ∧ Mem w No [ownL 3 v738 (r751.2 : List Int), ownL 3 v736 (r751.1 : List Int), ownL 29 v11 (r8.2 : List T_Task)] wq) (X := fun eq envq wq => eq = .exit 6 ∧ Sub [(1, (Value.int .i64 r15)), (8, v11), (10, (Value.int .i64 r21.2.1)), (13, v738), (19, (Value.bool r1764.1)), (20, (Value.int .i64 r1764.2)), (21, (Value.int .i64 r1997)), (101, (Value.agg #[v736, v738])), (102, (Value.int .i64 i1740))] envq ∧ Mem w No [ownL 3 v738 (r751.2 : List Int), ownL 3 v736 (r751.1 : List Int), ownL 29 v11 (r8.2 : List T_Task)] wq) hit1998 ⟨(by repeat (first | exact Sub.nil _ | refine Sub.cons rfl ?_)), (hm1769.pick [0, 1, 2] (by decide) rfl)⟩ ?_ ?_
          · rintro ⟨i1989, i1990⟩ x1992 env1993 w1994 hf1995 hr1996 ⟨hs_, hm_⟩
            have hs_ : Sub [(1, (Value.int .i64 r15)), (8, v11), (10, (Value.int .i64 r21.2.1)), (13, v738), (18, zd1762.1), (19, (Value.bool r1764.1)), (20, (Value.int .i64 r1764.2)), (21, (Value.int .i64 i1989)), (22, (Value.int .i64 i1990)), (101, (Value.agg #[v736, v738])), (102, (Value.int .i64 i1740))] env1993 := hs_
            have hm2000 : Mem w No [ownL 3 v738 (r751.2 : List Int), ownL 3 v736 (r751.1 : List Int), ownL 29 v11 (r8.2 : List T_Task)] w1994 := hm_
            refine cw_sub hs_ ?_
            clear hs_ hm_ q1999
            have h : law39_EngineLeast_l17 N l1759 i1989 i1990 = some x1992 := hf1995
            clear hf1995
            refine cw_seq ?_
            refine cw_seq ?_
            refine cw_region ?_
            refine t_rd rfl (rd_move rfl) ?_
            refine t_rd rfl (rd_move rfl) ?_
            refine t_rd rfl (rd_lenS tS22 rfl ((Rows.cons (hm2000.sl_call 1 rfl) ez1756 (Rows.cons (hm2000.sl_call 0 rfl) ez1758 Rows.nil)).get hz1763 h1760)) ?_
            refine t_rd rfl (rd_lss rfl rfl) ?_
            refine rwt_nil ?_
            refine qn_then ?_
            obtain ⟨hb2001, q2002⟩ | ⟨hb2001, q2002⟩ := oi h <;> clear h
            · refine cw_t rfl hb2001 ?_
              refine cw_skip ?_
              refine qn_then ?_
              refine cw_seq ?_
              refine cw_block ?_
              refine cw_seq ?_
              refine cw_region ?_
              refine t_rd rfl (rd_assign rfl) ?_
              refine rwt_nil ?_
              refine qn_then ?_
              refine cw_seq ?_
              refine cw_seq ?_
              refine cw_region ?_
              refine t_rd rfl (rd_assign rfl) ?_
              refine rwt_nil ?_
              refine qn_then ?_
              refine cw_block ?_
              obtain ⟨r2064, hit2065, q2066⟩ := ob q2002; clear q2002
              refine cw_loop2 (I := fun q envq wq => Sub [(1, (Value.int .i64 r15)), (8, v11), (10, (Value.int .i64 r21.2.1)), (13, v738), (18, zd1762.1), (19, (Value.bool r1764.1)), (20, (Value.int .i64 r1764.2)), (21, (Value.int .i64 i1989)), (22, (Value.int .i64 i1990)), (23, (Value.bool q.1)), (24, (Value.int .i64 q.2)), (101, (Value.agg #[v736, v738])), (102, (Value.int .i64 i1740))] envq ∧ Mem w No [ownL 3 v738 (r751.2 : List Int), ownL 3 v736 (r751.1 : List Int), ownL 29 v11 (r8.2 : List T_Task)] wq) (X := fun eq envq wq => eq = .exit 8 ∧ Sub [(1, (Value.int .i64 r15)), (8, v11), (10, (Value.int .i64 r21.2.1)), (13, v738), (18, zd1762.1), (19, (Value.bool r1764.1)), (20, (Value.int .i64 r1764.2)), (21, (Value.int .i64 i1989)), (22, (Value.int .i64 i1990)), (23, (Value.bool r2064)), (101, (Value.agg #[v736, v738])), (102, (Value.int .i64 i1740))] envq ∧ Mem w No [ownL 3 v738 (r751.2 : List Int), ownL 3 v736 (r751.1 : List Int), ownL 29 v11 (r8.2 : List T_Task)] wq) hit2065 ⟨(by repeat (first | exact Sub.nil _ | refine Sub.cons rfl ?_)), (hm2000.pick [0, 1, 2] (by decide) rfl)⟩ ?_ ?_
              · rintro ⟨b2056, i2057⟩ x2059 env2060 w2061 hf2062 hr2063 ⟨hs_, hm_⟩
                have hs_ : Sub [(1, (Value.int .i64 r15)), (8, v11), (10, (Value.int .i64 r21.2.1)), (13, v738), (18, zd1762.1), (19, (Value.bool r1764.1)), (20, (Value.int .i64 r1764.2)), (21, (Value.int .i64 i1989)), (22, (Value.int .i64 i1990)), (23, (Value.bool b2056)), (24, (Value.int .i64 i2057)), (101, (Value.agg #[v736, v738])), (102, (Value.int .i64 i1740))] env2060 := hs_
                have hm2067 : Mem w No [ownL 3 v738 (r751.2 : List Int), ownL 3 v736 (r751.1 : List Int), ownL 29 v11 (r8.2 : List T_Task)] w2061 := hm_
                refine cw_sub hs_ ?_
                clear hs_ hm_ q2066
                have h : law39_EngineLeast_l18 N l1759 i1990 b2056 i2057 = some x2059 := hf2062
                clear hf2062
                refine cw_seq ?_
                refine cw_seq ?_
                refine cw_region ?_
                refine t_rd rfl (rd_move rfl) ?_
                refine t_rd rfl (rd_move rfl) ?_
                refine t_rd rfl (rd_lss rfl rfl) ?_
                refine rwt_nil ?_
                refine qn_then ?_
                obtain ⟨hb2068, q2069⟩ | ⟨hb2068, q2069⟩ := oi h <;> clear h
                · refine cw_t rfl hb2068 ?_
                  refine cw_skip ?_
                  refine qn_then ?_
                  refine cw_seq ?_
                  refine cw_block ?_
                  obtain ⟨w2071, he2073⟩ : ∃ q, q = w2061.drew := ⟨_, rfl⟩
                  have hm2072 := hm2067.drew; rw [← he2073] at hm2072
                  refine cw_region_s (fun q => q = w2071) (cls [] []) mixed ?_
                  rintro _ rfl; rw [← he2073]
                  refine s_rp (i := 0) rfl (by kernel_rfl) rfl (fun _ => (rd_move rfl)) ?_
                  refine s_rp (i := 1) rfl (by kernel_rfl) rfl (fun _ => (rd_move rfl)) ?_
                  refine s_rpg (i := 2) rfl (by kernel_rfl) rfl rfl rfl rfl (gv_t _) (fun hg2074 _ => (rd_move rfl)) ?_
                  refine s_rpg (i := 3) rfl (by kernel_rfl) rfl rfl rfl rfl (gv_t _) (fun hg2075 _ => (rd_move rfl)) ?_
                  obtain ⟨x2077, h2078, q2079⟩ := ob q2069; clear q2069
                  refine s_rpg (i := 4) rfl (by kernel_rfl) rfl rfl rfl rfl (gv_t _) (fun hg2076 _ => (rd_index tS22 (gvx rfl hg2076) (gvx rfl hg2076) ((Rows.cons (hm2072.sl_call 1 rfl) ez1756 (Rows.cons (hm2072.sl_call 0 rfl) ez1758 Rows.nil)).get hz1763 h1760) (gO_t h2078 hg2076))) ?_
                  refine s_rdg (i := 5) rfl (by kernel_rfl) rfl rfl rfl rfl (gv_t _) (fun hg2080 => (fun _ hS => by rw [hS]; exact (rd_ld1 tO3 (gvx rfl hg2080) (((Rows.cons (hm2072.sl_call 1 rfl) ez1756 (Rows.cons (hm2072.sl_call 0 rfl) ez1758 Rows.nil)).get hz1763 h1760).cells (gO_t h2078 hg2080)) (off := 0) rfl))) rfl ?_
                  refine s_rpg (i := 6) rfl (by kernel_rfl) rfl rfl rfl rfl (gv_t _) (fun hg2081 _ => (rd_move rfl)) ?_
                  refine s_rpg (i := 7) rfl (by kernel_rfl) rfl rfl rfl rfl (gv_t _) (fun hg2082 _ => (rd_move rfl)) ?_
                  obtain ⟨x2084, h2085, q2086⟩ := ob q2079; clear q2079
                  refine s_rpg (i := 8) rfl (by kernel_rfl) rfl rfl rfl rfl (gv_t _) (fun hg2083 _ => (rd_index tS22 (gvx rfl hg2083) (gvx rfl hg2083) ((Rows.cons (hm2072.sl_call 1 rfl) ez1756 (Rows.cons (hm2072.sl_call 0 rfl) ez1758 Rows.nil)).get hz1763 h1760) (gO_t h2085 hg2083))) ?_
                  refine s_rdg (i := 9) rfl (by kernel_rfl) rfl rfl rfl rfl (gv_t _) (fun hg2087 => (fun _ hS => by rw [hS]; exact (rd_ld1 tO3 (gvx rfl hg2087) (((Rows.cons (hm2072.sl_call 1 rfl) ez1756 (Rows.cons (hm2072.sl_call 0 rfl) ez1758 Rows.nil)).get hz1763 h1760).cells (gO_t h2085 hg2087)) (off := 0) rfl))) rfl ?_
                  refine s_rpg (i := 10) rfl (by kernel_rfl) rfl rfl rfl rfl (gv_t _) (fun hg2088 _ => (rd_neq (gvx rfl hg2088) (gvx rfl hg2088))) ?_
                  refine s_rp (i := 11) rfl (by kernel_rfl) rfl (fun _ => (rd_and rfl (fun hc2089 => (gvx rfl hc2089)))) ?_
                  refine s_rp (i := 12) rfl (by kernel_rfl) rfl (fun _ => (rd_assign rfl)) ?_
                  refine s_nil (by kernel_rfl) ?_
                  refine qn_block (qn_then ?_)
                  refine cw_region ?_
                  refine t_rd rfl (rd_move rfl) ?_
                  obtain ⟨x2090, h2091, q2092⟩ := ob q2086; clear q2086
                  refine t_rd rfl (rd_add64 h2091 rfl rfl) ?_
                  refine t_rd rfl (rd_assign rfl) ?_
                  refine rwt_nil ?_
                  refine qn_then ?_
                  refine ⟨_, (os q2092), (by repeat (first | exact Sub.nil _ | refine Sub.cons rfl ?_)), (hm2072.pick [0, 1, 2] (by decide) rfl)⟩
                · refine cw_f rfl hb2068 ?_
                  refine cw_exit ?_
                  refine qx_then (qx_then ?_)
                  obtain rfl := hr2063 _ (os q2069)
                  exact ⟨rfl, (by repeat (first | exact Sub.nil _ | refine Sub.cons rfl ?_)), (hm2067.pick [0, 1, 2] (by decide) rfl)⟩
              · skip
                intro e env2093 w2094 hX2095
                obtain ⟨rfl, hs2096, hm2097⟩ := hX2095
                refine qx_same (qn_then ?_)
                refine cw_sub hs2096 ?_
                refine cw_seq ?_
                refine cw_region ?_
                refine t_rd rfl (rd_move rfl) ?_
                refine rwt_nil ?_
                refine qn_then ?_
                obtain ⟨hb2098, q2099⟩ | ⟨hb2098, q2099⟩ := oi q2066 <;> clear q2066
                · refine cw_t rfl hb2098 ?_
                  refine cw_region ?_
                  refine t_rd rfl (rd_move rfl) ?_
                  obtain ⟨x2100, h2101, q2102⟩ := ob q2099; clear q2099
                  refine t_rd rfl (rd_add64 h2101 rfl rfl) ?_
                  refine t_rd rfl (rd_assign rfl) ?_
                  refine rwt_nil ?_
                  refine qn_block (qn_then ?_)
                  refine cw_region ?_
                  refine t_rd rfl (rd_move rfl) ?_
                  obtain ⟨x2103, h2104, q2105⟩ := ob q2102; clear q2102
                  refine t_rd rfl (rd_add64 h2104 rfl rfl) ?_
                  refine t_rd rfl (rd_assign rfl) ?_
                  refine rwt_nil ?_
                  refine qn_then ?_
                  refine ⟨_, (os q2105), (by repeat (first | exact Sub.nil _ | refine Sub.cons rfl ?_)), (hm2097.pick [0, 1, 2] (by decide) rfl)⟩
                · refine cw_f rfl hb2098 ?_
                  refine cw_skip ?_
                  refine qn_block (qn_then ?_)
                  refine cw_region ?_
                  refine t_rd rfl (rd_move rfl) ?_
                  obtain ⟨x2106, h2107, q2108⟩ := ob q2099; clear q2099
                  refine t_rd rfl (rd_add64 h2107 rfl rfl) ?_
                  refine t_rd rfl (rd_assign rfl) ?_
                  refine rwt_nil ?_
                  refine qn_then ?_
                  refine ⟨_, (os q2108), (by repeat (first | exact Sub.nil _ | refine Sub.cons rfl ?_)), (hm2097.pick [0, 1, 2] (by decide) rfl)⟩
            · refine cw_f rfl hb2001 ?_
              refine cw_exit ?_
              refine qx_then (qx_then ?_)
              obtain rfl := hr1996 _ (os q2002)
              exact ⟨rfl, (by repeat (first | exact Sub.nil _ | refine Sub.cons rfl ?_)), (hm2000.pick [0, 1, 2] (by decide) rfl)⟩
          · skip
            intro e env2109 w2110 hX2111
            obtain ⟨rfl, hs2112, hm2113⟩ := hX2111
            refine qx_same (qn_then ?_)
            refine cw_sub hs2112 ?_
            refine cw_seq ?_
            refine cw_region ?_
            refine t_rd rfl (rd_move rfl) ?_
            refine t_rd rfl (rd_neq rfl rfl) ?_
            refine t_rd rfl (rd_move rfl) ?_
            refine t_rdg rfl rfl rfl rfl (gv_f _) (fun hg2114 => (rd_move rfl)) ?_
            refine t_rdg rfl rfl rfl rfl (gv_f _) (fun hg2115 => (rd_move (gvx rfl hg2115))) ?_
            refine t_rdg rfl rfl rfl rfl (gv_nt _ _) (fun hg2116 => (rd_move rfl)) ?_
            refine t_rdg rfl rfl rfl rfl (gv_nt _ _) (fun hg2117 => (rd_move rfl)) ?_
            refine t_rdg rfl rfl rfl rfl (gv_nt _ _) (fun hg2118 => (rd_lss (gvx rfl hg2118) (gvx rfl hg2118))) ?_
            refine t_rdg rfl rfl rfl rfl (gv_f _) (fun hg2119 => (rd_and (gvx rfl hg2119) (fun hc2120 => (gvx rfl (band hg2119 hc2120))))) ?_
            refine t_rd rfl (rd_or rfl (fun hc2121 => (gvx rfl (bnotIt hc2121)))) ?_
            refine rwt_nil ?_
            refine qn_then ?_
            obtain ⟨hb2122, q2123⟩ | ⟨hb2122, q2123⟩ := oi q1999 <;> clear q1999
            · refine cw_t rfl hb2122 ?_
              refine cw_seq ?_
              refine cw_region ?_
              refine t_rd rfl (rd_assign rfl) ?_
              refine rwt_nil ?_
              refine qn_then ?_
              refine cw_ret ?_
              refine qr_block (qr_then (qr_then ?_))
              obtain rfl := hr1746 _ (os q2123)
              refine .inl (⟨_, rfl, ⟨rfl, ?_⟩⟩)
              exact ret1 rfl rfl ⟨rfl, (hm2113.pick [] (by decide) rfl)⟩
            · refine cw_f rfl hb2122 ?_
              refine cw_skip ?_
              refine qn_block (qn_then ?_)
              refine cw_region ?_
              obtain ⟨x2124, h2125, q2126⟩ := ob q2123; clear q2123
              refine t_rd rfl (rd_add64 h2125 rfl rfl) ?_
              refine t_rd rfl (rd_move rfl) ?_
              refine rwt_nil ?_
              refine qn_then ?_
              refine ⟨_, (os q2126), (by repeat (first | exact Sub.nil _ | refine Sub.cons rfl ?_)), (hm2113.pick [0, 1, 2] (by decide) rfl)⟩
        · refine cw_f rfl hb1753 ?_
          refine cw_exit ?_
          refine qx_then (qx_then ?_)
          obtain rfl := hr1746 _ (os q1754)
          exact .inr (⟨_, rfl, ⟨rfl, (by repeat (first | exact Sub.nil _ | refine Sub.cons rfl ?_)), (hm1752.pick [0, 2] (by decide) rfl)⟩⟩)
      · skip
        intro e env2127 w2128 hX2129
        rcases hX2129 with hX2129 | hX2129
        · obtain ⟨p2131, rfl, hX2129⟩ := hX2129
          obtain ⟨rfl, hq2133⟩ := hX2129
          exact qr_block (qr_then ((by have e := os q1749; subst e; exact hq2133)))
        · obtain ⟨p2134, rfl, hX2129⟩ := hX2129
          obtain ⟨rfl, hs2135, hm2136⟩ := hX2129
          refine qx_same (qn_then ?_)
          refine cw_sub hs2135 ?_
          refine cw_seq ?_
          refine cw_region ?_
          refine t_rd rfl (rd_move rfl) ?_
          refine t_rd rfl (rd_move rfl) ?_
          refine t_rd rfl (rd_move rfl) ?_
          obtain ⟨r2137, h2138, q2139⟩ := ob q1749; clear q1749
          refine t_ef rfl (ef_call tf16 rfl (engine_Check_ok h2138 (hm2136.sl_call 1 rfl) (hm2136.sl_call 0 rfl))) ?_
          rintro _ w2141 ⟨e_, hm2140⟩
          obtain rfl := e_.symm
          have hm2142 := hm2136.call hm2140
          refine t_rd rfl (rd_move rfl) ?_
          refine t_rd rfl (rd_extract rfl rfl) ?_
          refine t_rd rfl (rd_extract rfl rfl) ?_
          refine t_rd rfl (rd_assign rfl) ?_
          refine t_rd rfl (rd_assign rfl) ?_
          refine rwt_nil ?_
          refine qn_then ?_
          refine cw_seq ?_
          refine cw_region ?_
          refine t_rd rfl (rd_move rfl) ?_
          refine t_rd rfl (rd_eql rfl rfl) ?_
          refine t_rd rfl (rd_move rfl) ?_
          refine t_rdg rfl rfl rfl rfl (gv_t _) (fun hg2143 => (rd_move rfl)) ?_
          refine t_rd rfl (rd_and rfl (fun hc2144 => (gvx rfl hc2144))) ?_
          refine t_rd rfl (rd_move rfl) ?_
          obtain ⟨r2146, h2147, q2148⟩ := ob q2139; clear q2139
          refine t_efg rfl rfl rfl rfl (R := (fun v w' => v = gV (decide (r2137.2 = 0) && r2137.1) (Value.bool r2146) ∧ Mem w2141 No [] w')) (gv_t _) (fun hg2145 => (ef_call tf13 rfl (law39_sane_ok (gO_t h2147 hg2145))).mono (by rintro _ _ ⟨rfl, q⟩; exact ⟨(gV_t hg2145).symm, q⟩)) (fun q => ⟨(gV_f q).symm, Mem.nil _⟩) ?_
          rintro _ w2150 ⟨rfl, hm2149⟩
          have hm2151 := hm2142.call hm2149
          refine t_rd rfl (rd_and rfl (fun hc2152 => (gvx rfl hc2152))) ?_
          refine t_rd rfl (rd_assign rfl) ?_
          refine rwt_nil ?_
          refine qn_then ?_
          refine cw_ret ?_
          obtain rfl := os q2148
          exact ret1 rfl rfl ⟨rfl, (hm2151.pick [] (by decide) rfl)⟩

theorem law39_EngineTurns_ok {N : Nat} {a0 : List Int} {a1 : Int} {a2 : Int} {res : Bool} (h : law39_EngineTurns N a0 a1 a2 = some res) {w : World} {v0 : Value} (hv0 : Sl (Old w No) w v0 a0) :
    CallsR Try.prog 6 [v0, (Value.int .i64 a1), (Value.int .i64 a2)] w (fun u w' => u = (Value.bool res) ∧ Mem w No [] w') := by
  unfold law39_EngineTurns at h
  refine fn_ok Try.func6 rfl rfl rfl ?_
  have hm0 := Mem.nil w
  refine cw_seq ?_
  refine cw_region ?_
  refine t_rd rfl (rd_assign rfl) ?_
  refine rwt_nil ?_
  refine qn_then ?_
  refine cw_seq ?_
  refine cw_region ?_
  refine t_rd rfl (rd_move rfl) ?_
  obtain ⟨r1, h2, q3⟩ := ob h; clear h
  refine t_ef rfl (ef_call tf7 rfl (humpgen_New_ok h2 (hv0.to_call hm0))) ?_
  rintro _ w6 ⟨g4, e_, hm5⟩
  obtain rfl := e_.symm
  have hm7 := hm0.call hm5
  refine t_rd rfl (rd_assign rfl) ?_
  refine rwt_nil ?_
  refine qn_then ?_
  refine cw_seq ?_
  refine cw_region ?_
  refine t_rd rfl (rd_move rfl) ?_
  obtain ⟨r8, h9, q10⟩ := ob q3; clear q3
  refine t_ef rfl (ef_call tf8 rfl (law39_tasks_ok h9 (hv0.to_callT (k := 0) hm7 rfl) (hm7.get (k := 0) rfl))) ?_
  rintro _ w13 ⟨v11, e_, hm12⟩
  obtain rfl := e_.symm
  have hm14 := hm7.callT (k := 0) rfl (fun _ h => h) hm12 (fun _ => Iff.rfl)
  refine t_rd rfl (rd_assign rfl) ?_
  refine rwt_nil ?_
  refine qn_then ?_
  refine cw_seq ?_
  refine cw_region ?_
  refine t_rd rfl (rd_move rfl) ?_
  obtain ⟨r15, h16, q17⟩ := ob q10; clear q10
  refine t_ef rfl (ef_call tf14 rfl (yardgen_Place_ok h16)) ?_
  rintro _ w19 ⟨e_, hm18⟩
  obtain rfl := e_.symm
  have hm20 := hm14.call hm18
  refine t_rd rfl (rd_move rfl) ?_
  obtain ⟨r21, h22, q23⟩ := ob q17; clear q17
  refine t_ef rfl (ef_call tf14 rfl (yardgen_Place_ok h22)) ?_
  rintro _ w25 ⟨e_, hm24⟩
  obtain rfl := e_.symm
  have hm26 := hm20.call hm24
  refine t_rd rfl (rd_assign rfl) ?_
  refine t_rd rfl (rd_assign rfl) ?_
  refine rwt_nil ?_
  refine qn_then ?_
  refine cw_seq ?_
  refine cw_region ?_
  refine t_rd rfl (rd_move rfl) ?_
  refine t_rd rfl (rd_move rfl) ?_
  obtain ⟨r27, h28, q29⟩ := ob q23; clear q23
  refine t_ef rfl (ef_call tf15 rfl (engine_Assign_ok h28 (hm26.sl_call 0 rfl))) ?_
  rintro _ w32 ⟨v30, e_, hm31⟩
  obtain rfl := e_.symm
  have hm33 := hm26.call hm31
  refine t_rd rfl (rd_move rfl) ?_
  refine t_rd rfl (rd_extract rfl rfl) ?_
  refine t_rd rfl (rd_extract rfl rfl) ?_
  refine t_rd rfl (rd_extract rfl rfl) ?_
  refine t_rd rfl (rd_assign rfl) ?_
  refine t_rd rfl (rd_assign rfl) ?_
  refine t_rd rfl (rd_assign rfl) ?_
  refine rwt_nil ?_
  refine qn_then ?_
  refine cw_seq ?_
  refine cw_region ?_
  refine t_rd rfl (rd_move rfl) ?_
  refine t_rd rfl (rd_move rfl) ?_
  refine t_rd rfl (rd_move rfl) ?_
  obtain ⟨x34, h35, q36⟩ := ob q29; clear q29
  refine t_rd rfl (rd_add64 h35 rfl rfl) ?_
  obtain ⟨r37, h38, q39⟩ := ob q36; clear q36
  refine t_ef rfl (ef_call tf15 rfl (engine_Assign_ok h38 (hm33.sl_call 1 rfl))) ?_
  rintro _ w42 ⟨v40, e_, hm41⟩
  obtain rfl := e_.symm
  have hm43 := hm33.call hm41
  refine t_rd rfl (rd_move rfl) ?_
  refine t_rd rfl (rd_extract rfl rfl) ?_
  refine t_rd rfl (rd_extract rfl rfl) ?_
  refine t_rd rfl (rd_extract rfl rfl) ?_
  refine t_rd rfl (rd_assign rfl) ?_
  refine t_rd rfl (rd_assign rfl) ?_
  refine t_rd rfl (rd_assign rfl) ?_
  refine rwt_nil ?_
  refine qn_then ?_
  refine cw_seq ?_
  refine cw_region ?_
  refine t_ef rfl (ef_bslice0 (α := T_Task) hm43 tS23) ?_
  intro v44 w46 hm45
  refine t_rd rfl (rd_move rfl) ?_
  obtain ⟨l47, h48, q49⟩ := ob q39; clear q39
  refine t_ef rfl (ef_append (k := 0) hm45 tS23 tE29 rfl rfl rfl rfl (hm45.sl 3 rfl) h48) ?_
  intro v50 w52 hm51
  refine t_rd rfl (rd_move rfl) ?_
  obtain ⟨r53, h54, q55⟩ := ob q49; clear q49
  refine t_ef rfl (ef_call tf11 rfl (Maker_Next_ok h54 (hv0.to_callT (k := 4) hm51 rfl) (hm51.get (k := 4) rfl))) ?_
  rintro _ w57 ⟨e_, hm56⟩
  obtain rfl := e_.symm
  have hm58 := hm51.callT (k := 4) rfl (fun _ h => h) hm56 (fun _ => Iff.rfl)
  refine t_rd rfl (rd_build (cs := #[(Value.int .i64 r53.2), (Value.int .i64 300)]) rfl (by kernel_rfl)) ?_
  refine t_ef rfl (ef_bslice (l := ([(T_Task.mk r53.2 300)] : List T_Task)) hm58 tS23 rfl (cs := #[(Value.int .i64 r53.2), (Value.int .i64 300)]) (by unfold bsl; kernel_rfl) rfl rfl) ?_
  intro v59 w61 hm60
  obtain ⟨l62, h63, q64⟩ := ob q55; clear q55
  refine t_ef rfl (ef_append (k := 1) hm60 tS23 tE29 rfl rfl rfl rfl (hm60.sl 0 rfl) h63) ?_
  intro v65 w67 hm66
  refine t_rd rfl (rd_move rfl) ?_
  obtain ⟨r68, h69, q70⟩ := ob q64; clear q64
  refine t_ef rfl (ef_call tf15 rfl (engine_Assign_ok h69 (hm66.sl_call 1 rfl))) ?_
  rintro _ w73 ⟨v71, e_, hm72⟩
  obtain rfl := e_.symm
  have hm74 := hm66.call hm72
  refine t_rd rfl (rd_move rfl) ?_
  refine t_rd rfl (rd_extract rfl rfl) ?_
  refine t_rd rfl (rd_extract rfl rfl) ?_
  refine t_rd rfl (rd_extract rfl rfl) ?_
  refine t_rd rfl (rd_assign rfl) ?_
  refine t_rd rfl (rd_assign rfl) ?_
  refine t_rd rfl (rd_assign rfl) ?_
  refine rwt_nil ?_
  refine qn_then ?_
  refine cw_seq ?_
  refine cw_region ?_
  refine t_rd rfl (rd_move rfl) ?_
  obtain ⟨r75, h76, q77⟩ := ob q70; clear q70
  refine t_ef rfl (ef_call tf15 rfl (engine_Assign_ok h76 (hm74.sl_call 5 rfl))) ?_
  rintro _ w80 ⟨v78, e_, hm79⟩
  obtain rfl := e_.symm
  have hm81 := hm74.call hm79
  refine t_rd rfl (rd_move rfl) ?_
  refine t_rd rfl (rd_extract rfl rfl) ?_
  refine t_rd rfl (rd_extract rfl rfl) ?_
  refine t_rd rfl (rd_extract rfl rfl) ?_
  refine t_rd rfl (rd_assign rfl) ?_
  refine t_rd rfl (rd_assign rfl) ?_
  refine t_rd rfl (rd_assign rfl) ?_
  refine rwt_nil ?_
  refine qn_then ?_
  refine cw_seq ?_
  refine cw_region ?_
  refine t_rd rfl (rd_move rfl) ?_
  refine t_rd rfl (rd_eql rfl rfl) ?_
  refine t_rd rfl (rd_move rfl) ?_
  refine t_rdg rfl rfl rfl rfl (gv_t _) (fun hg82 => (rd_move rfl)) ?_
  refine t_rdg rfl rfl rfl rfl (gv_t _) (fun hg83 => (rd_eql (gvx rfl hg83) rfl)) ?_
  refine t_rd rfl (rd_and rfl (fun hc84 => (gvx rfl hc84))) ?_
  refine t_rd rfl (rd_move rfl) ?_
  refine t_rdg rfl rfl rfl rfl (gv_t _) (fun hg85 => (rd_move rfl)) ?_
  refine t_rdg rfl rfl rfl rfl (gv_t _) (fun hg86 => (rd_eql (gvx rfl hg86) rfl)) ?_
  refine t_rd rfl (rd_and rfl (fun hc87 => (gvx rfl hc87))) ?_
  refine t_rd rfl (rd_move rfl) ?_
  refine t_rdg rfl rfl rfl rfl (gv_t _) (fun hg88 => (rd_move rfl)) ?_
  refine t_rdg rfl rfl rfl rfl (gv_t _) (fun hg89 => (rd_eql (gvx rfl hg89) rfl)) ?_
  refine t_rd rfl (rd_and rfl (fun hc90 => (gvx rfl hc90))) ?_
  refine t_rd rfl (rd_move rfl) ?_
  refine t_rdg rfl rfl rfl rfl (gv_t _) (fun hg91 => (rd_move rfl)) ?_
  refine t_rdg rfl rfl rfl rfl (gv_t _) (fun hg92 => (rd_move rfl)) ?_
  refine t_rdg rfl rfl rfl rfl (gv_t _) (fun hg93 => (rd_leq (gvx rfl hg93) (gvx rfl hg93))) ?_
  refine t_rd rfl (rd_and rfl (fun hc94 => (gvx rfl hc94))) ?_
  refine t_rd rfl (rd_move rfl) ?_
  refine t_rdg rfl rfl rfl rfl (gv_t _) (fun hg95 => (rd_move rfl)) ?_
  refine t_rdg rfl rfl rfl rfl (gv_t _) (fun hg96 => (rd_move rfl)) ?_
  refine t_rdg rfl rfl rfl rfl (gv_t _) (fun hg97 => (rd_leq (gvx rfl hg97) (gvx rfl hg97))) ?_
  refine t_rd rfl (rd_and rfl (fun hc98 => (gvx rfl hc98))) ?_
  refine t_rd rfl (rd_move rfl) ?_
  refine t_rdg rfl rfl rfl rfl (gv_t _) (fun hg99 => (rd_move rfl)) ?_
  refine t_rdg rfl rfl rfl rfl (gv_t _) (fun hg100 => (rd_move rfl)) ?_
  obtain ⟨x102, h103, q104⟩ := ob q77; clear q77
  refine t_rdg rfl rfl rfl rfl (gv_t _) (fun hg101 => (rd_add64 (gO_t h103 hg101) (gvx rfl hg101) rfl)) ?_
  refine t_rdg rfl rfl rfl rfl (gv_t _) (fun hg105 => (rd_leq (gvx rfl hg105) (gvx rfl hg105))) ?_
  refine t_rd rfl (rd_and rfl (fun hc106 => (gvx rfl hc106))) ?_
  refine t_rd rfl (rd_move rfl) ?_
  refine t_rdg rfl rfl rfl rfl (gv_t _) (fun hg107 => (rd_move rfl)) ?_
  refine t_rdg rfl rfl rfl rfl (gv_t _) (fun hg108 => (rd_move rfl)) ?_
  refine t_rdg rfl rfl rfl rfl (gv_t _) (fun hg109 => (rd_lenS tS23 (gvx rfl hg109) (hm81.sl 6 rfl))) ?_
  refine t_rdg rfl rfl rfl rfl (gv_t _) (fun hg110 => (rd_eql (gvx rfl hg110) (gvx rfl hg110))) ?_
  refine t_rd rfl (rd_and rfl (fun hc111 => (gvx rfl hc111))) ?_
  refine t_rd rfl (rd_move rfl) ?_
  obtain ⟨r113, h114, q115⟩ := ob q104; clear q104
  refine t_efg rfl rfl rfl rfl (R := (fun v w' => v = gV (((((((decide (r27.2.2 = 0) && decide (r37.2.2 = 0)) && decide (r68.2.2 = 0)) && decide (r75.2.2 = 0)) && decide (r27.2.1 ≤ r37.2.1)) && decide (r27.2.1 ≤ r68.2.1)) && decide (r68.2.1 ≤ x102)) && decide (r75.2.1 = (List.length r8.2 : Int))) (Value.bool r113) ∧ Mem w80 No [] w')) (gv_t _) (fun hg112 => (ef_call tf13 rfl (law39_sane_ok (gO_t h114 hg112))).mono (by rintro _ _ ⟨rfl, q⟩; exact ⟨(gV_t hg112).symm, q⟩)) (fun q => ⟨(gV_f q).symm, Mem.nil _⟩) ?_
  rintro _ w117 ⟨rfl, hm116⟩
  have hm118 := hm81.call hm116
  refine t_rd rfl (rd_and rfl (fun hc119 => (gvx rfl hc119))) ?_
  refine t_rd rfl (rd_assign rfl) ?_
  refine rwt_nil ?_
  refine qn_then ?_
  refine cw_ret ?_
  obtain rfl := os q115
  exact ret1 rfl rfl ⟨rfl, (hm118.pick [] (by decide) rfl)⟩

end Go.Proofs.Ytodjacghadpbfaa
