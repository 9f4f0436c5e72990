/- Each call computes what its mirror does; written by a program of mine (gowalk.py). -/
import Derived.Test.YtpljjjcfinpgeaaWka
namespace Go.Proofs.Ytpljjjcfinpgeaa
open Go.Gv Go.RowKit
set_option linter.unusedVariables false
set_option maxRecDepth 100000

theorem r34_check_ok {N : Nat} {a0 : List Int} {res : Int} (h : r34_check N a0 = some res) {w : World} {v0 : Value} (hv0 : Sl (Old w No) w v0 a0) :
    CallsR Try.prog 27 [v0] w (fun u w' => u = (Value.int .i64 res) ∧ Mem w No [] w') := by
  unfold r34_check at h
  refine fn_ok Try.func27 rfl rfl rfl ?_
  have hm0 := Mem.nil w
  refine cw_seq ?_
  refine cw_region ?_
  refine t_rd rfl (rd_assign rfl) ?_
  refine rwt_nil ?_
  refine qn_then ?_
  refine cw_seq ?_
  refine cw_seq ?_
  refine cw_region ?_
  refine t_rd rfl (rd_move rfl) ?_
  refine t_rd rfl (rd_lenS tS22 rfl (hv0.of_old hm0)) ?_
  refine t_rd rfl (rd_gtr rfl rfl) ?_
  refine rwt_nil ?_
  refine qn_then ?_
  obtain ⟨hb1, q2⟩ | ⟨hb1, q2⟩ := oi h <;> clear h
  · refine cw_t rfl hb1 ?_
    refine cw_seq ?_
    refine cw_region ?_
    refine t_rd rfl (rd_assign rfl) ?_
    refine rwt_nil ?_
    refine qn_then ?_
    refine cw_ret ?_
    refine qr_then ?_
    obtain rfl := os q2
    exact ret1 rfl rfl ⟨rfl, (hm0.pick [] (by decide) rfl)⟩
  · refine cw_f rfl hb1 ?_
    refine cw_skip ?_
    refine qn_then ?_
    refine cw_seq ?_
    refine cw_seq ?_
    refine cw_region ?_
    refine t_rd rfl (rd_move rfl) ?_
    obtain ⟨r3, h4, q5⟩ := ob q2; clear q2
    refine t_ef rfl (ef_call tf25 rfl (r34_inside_ok h4 (hv0.to_call hm0))) ?_
    rintro _ w7 ⟨e_, hm6⟩
    obtain rfl := e_.symm
    have hm8 := hm0.call hm6
    refine t_rd rfl (rd_not rfl) ?_
    refine rwt_nil ?_
    refine qn_then ?_
    obtain ⟨hb9, q10⟩ | ⟨hb9, q10⟩ := oi q5 <;> clear q5
    · refine cw_t rfl hb9 ?_
      refine cw_seq ?_
      refine cw_region ?_
      refine t_rd rfl (rd_assign rfl) ?_
      refine rwt_nil ?_
      refine qn_then ?_
      refine cw_ret ?_
      refine qr_then ?_
      obtain rfl := os q10
      exact ret1 rfl rfl ⟨rfl, (hm8.pick [] (by decide) rfl)⟩
    · refine cw_f rfl hb9 ?_
      refine cw_skip ?_
      refine qn_then ?_
      refine cw_seq ?_
      refine cw_region ?_
      refine t_rd rfl (rd_assign rfl) ?_
      refine rwt_nil ?_
      refine qn_then ?_
      refine cw_ret ?_
      obtain rfl := os q10
      exact ret1 rfl rfl ⟨rfl, (hm8.pick [] (by decide) rfl)⟩

theorem r34_Groups_ok {N : Nat} {a0 : List Int} {res : Int × Int} (h : r34_Groups N a0 = some res) {w : World} {v0 : Value} (hv0 : Sl (Old w No) w v0 a0) :
    CallsR Try.prog 21 [v0] w (fun u w' => u = (Value.tuple #[(Value.int .i64 res.1), (Value.int .i64 res.2)]) ∧ Mem w No [] w') := by
  unfold r34_Groups at h
  refine fn_ok Try.func21 rfl rfl rfl ?_
  have hm0 := Mem.nil w
  refine cw_seq ?_
  refine cw_region ?_
  refine t_rd rfl (rd_assign rfl) ?_
  refine t_rd rfl (rd_assign rfl) ?_
  refine rwt_nil ?_
  refine qn_then ?_
  refine cw_seq ?_
  refine cw_seq ?_
  refine cw_region ?_
  refine t_rd rfl (rd_move rfl) ?_
  obtain ⟨r1, h2, q3⟩ := ob h; clear h
  refine t_ef rfl (ef_call tf27 rfl (r34_check_ok h2 (hv0.to_call hm0))) ?_
  rintro _ w5 ⟨e_, hm4⟩
  obtain rfl := e_.symm
  have hm6 := hm0.call hm4
  refine t_rd rfl (rd_assign rfl) ?_
  refine rwt_nil ?_
  refine qn_then ?_
  refine cw_seq ?_
  refine cw_region ?_
  refine t_rd rfl (rd_move rfl) ?_
  refine t_rd rfl (rd_neq rfl rfl) ?_
  refine rwt_nil ?_
  refine qn_then ?_
  obtain ⟨hb7, q8⟩ | ⟨hb7, q8⟩ := oi q3 <;> clear q3
  · refine cw_t rfl hb7 ?_
    refine cw_seq ?_
    refine cw_region ?_
    refine t_rd rfl (rd_move rfl) ?_
    refine t_rd rfl (rd_assign rfl) ?_
    refine t_rd rfl (rd_assign rfl) ?_
    refine rwt_nil ?_
    refine qn_then ?_
    refine cw_ret ?_
    refine qr_then ?_
    obtain rfl := os q8
    exact ret2 rfl rfl rfl ⟨rfl, (hm6.pick [] (by decide) rfl)⟩
  · refine cw_f rfl hb7 ?_
    refine cw_skip ?_
    refine qn_then ?_
    refine cw_seq ?_
    refine cw_region ?_
    refine t_rd rfl (rd_assign rfl) ?_
    refine rwt_nil ?_
    refine qn_then ?_
    refine cw_seq ?_
    refine cw_seq ?_
    refine cw_region ?_
    refine t_rd rfl (rd_assign rfl) ?_
    refine rwt_nil ?_
    refine qn_then ?_
    refine cw_block ?_
    obtain ⟨r48, hit49, q50⟩ := ob q8; clear q8
    refine cw_loop2 (I := fun q envq wq => Sub [(0, v0), (5, (Value.int .i64 q.1)), (6, (Value.int .i64 q.2))] envq ∧ Mem w No [] wq) (X := fun eq envq wq => eq = .exit 0 ∧ Sub [(5, (Value.int .i64 r48))] envq ∧ Mem w No [] wq) hit49 ⟨(by repeat (first | exact Sub.nil _ | refine Sub.cons rfl ?_)), (hm6.pick [] (by decide) rfl)⟩ ?_ ?_
    · rintro ⟨i40, i41⟩ x43 env44 w45 hf46 hr47 ⟨hs_, hm_⟩
      have hs_ : Sub [(0, v0), (5, (Value.int .i64 i40)), (6, (Value.int .i64 i41))] env44 := hs_
      have hm51 : Mem w No [] w45 := hm_
      refine cw_sub hs_ ?_
      clear hs_ hm_ q50
      have h : r34_Groups_l1 N a0 i40 i41 = some x43 := hf46
      clear hf46
      refine cw_seq ?_
      refine cw_seq ?_
      refine cw_region ?_
      refine t_rd rfl (rd_move rfl) ?_
      refine t_rd rfl (rd_lss rfl rfl) ?_
      refine rwt_nil ?_
      refine qn_then ?_
      obtain ⟨hb52, q53⟩ | ⟨hb52, q53⟩ := oi h <;> clear h
      · refine cw_t rfl hb52 ?_
        refine cw_skip ?_
        refine qn_then ?_
        refine cw_seq ?_
        refine cw_block ?_
        refine cw_seq ?_
        refine cw_region ?_
        refine t_rd rfl (rd_move rfl) ?_
        refine t_rd rfl (rd_move rfl) ?_
        obtain ⟨r54, h55, q56⟩ := ob q53; clear q53
        refine t_ef rfl (ef_call tf26 rfl (r34_At_ok h55 (hv0.to_call hm51))) ?_
        rintro _ w58 ⟨e_, hm57⟩
        obtain rfl := e_.symm
        have hm59 := hm51.call hm57
        refine t_rd rfl (rd_move rfl) ?_
        refine t_rd rfl (rd_extract rfl rfl) ?_
        refine t_rd rfl (rd_extract rfl rfl) ?_
        refine t_rd rfl (rd_assign rfl) ?_
        refine t_rd rfl (rd_assign rfl) ?_
        refine rwt_nil ?_
        refine qn_then ?_
        refine cw_region ?_
        refine t_rd rfl (rd_move rfl) ?_
        refine t_rd rfl (rd_move rfl) ?_
        obtain ⟨x60, h61, q62⟩ := ob q56; clear q56
        refine t_rd rfl (rd_add64 h61 rfl rfl) ?_
        refine t_rd rfl (rd_assign rfl) ?_
        refine rwt_nil ?_
        refine qn_block (qn_then ?_)
        refine cw_region ?_
        refine t_rd rfl (rd_move rfl) ?_
        obtain ⟨x63, h64, q65⟩ := ob q62; clear q62
        refine t_rd rfl (rd_add64 h64 rfl rfl) ?_
        refine t_rd rfl (rd_assign rfl) ?_
        refine rwt_nil ?_
        refine qn_then ?_
        refine ⟨_, (os q65), (by repeat (first | exact Sub.nil _ | refine Sub.cons rfl ?_)), (hm59.pick [] (by decide) rfl)⟩
      · refine cw_f rfl hb52 ?_
        refine cw_exit ?_
        refine qx_then (qx_then ?_)
        obtain rfl := hr47 _ (os q53)
        exact ⟨rfl, (by repeat (first | exact Sub.nil _ | refine Sub.cons rfl ?_)), (hm51.pick [] (by decide) rfl)⟩
    · skip
      intro e env66 w67 hX68
      obtain ⟨rfl, hs69, hm70⟩ := hX68
      refine qx_same (qn_then ?_)
      refine cw_sub hs69 ?_
      refine cw_seq ?_
      refine cw_region ?_
      refine t_rd rfl (rd_move rfl) ?_
      refine t_rd rfl (rd_assign rfl) ?_
      refine t_rd rfl (rd_assign rfl) ?_
      refine rwt_nil ?_
      refine qn_then ?_
      refine cw_ret ?_
      obtain rfl := os q50
      exact ret2 rfl rfl rfl ⟨rfl, (hm70.pick [] (by decide) rfl)⟩

theorem r34_Best_ok {N : Nat} {a0 : List Int} {res : List Int × Int} (h : r34_Best N a0 = some res) {w : World} {v0 : Value} (hv0 : Sl (Old w No) w v0 a0) :
    CallsR Try.prog 22 [v0] w (fun u w' => ∃ (y0 : Value), u = (Value.tuple #[y0, (Value.int .i64 res.2)]) ∧ Mem w No [ownL 3 y0 (res.1 : List Int)] w') := by
  unfold r34_Best at h
  refine fn_ok Try.func22 rfl rfl rfl ?_
  have hm0 := Mem.nil w
  refine cw_seq ?_
  refine cw_region ?_
  refine t_rd rfl (rd_assign rfl) ?_
  refine t_rd rfl (rd_assign rfl) ?_
  refine rwt_nil ?_
  refine qn_then ?_
  refine cw_seq ?_
  refine cw_seq ?_
  refine cw_region ?_
  refine t_rd rfl (rd_move rfl) ?_
  obtain ⟨r1, h2, q3⟩ := ob h; clear h
  refine t_ef rfl (ef_call tf27 rfl (r34_check_ok h2 (hv0.to_call hm0))) ?_
  rintro _ w5 ⟨e_, hm4⟩
  obtain rfl := e_.symm
  have hm6 := hm0.call hm4
  refine t_rd rfl (rd_assign rfl) ?_
  refine rwt_nil ?_
  refine qn_then ?_
  refine cw_seq ?_
  refine cw_region ?_
  refine t_rd rfl (rd_move rfl) ?_
  refine t_rd rfl (rd_neq rfl rfl) ?_
  refine rwt_nil ?_
  refine qn_then ?_
  obtain ⟨hb7, q8⟩ | ⟨hb7, q8⟩ := oi q3 <;> clear q3
  · refine cw_t rfl hb7 ?_
    refine cw_seq ?_
    refine cw_region ?_
    refine t_rd rfl (rd_move rfl) ?_
    refine t_rd rfl (rd_assign rfl) ?_
    refine t_rd rfl (rd_assign rfl) ?_
    refine rwt_nil ?_
    refine qn_then ?_
    refine cw_ret ?_
    refine qr_then ?_
    obtain rfl := os q8
    have hm9 := hm6.addNil (α := Int) 3
    exact ret2 rfl rfl rfl ⟨(Value.slice none 0 0), rfl, (hm9.pick [0] (by decide) rfl)⟩
  · refine cw_f rfl hb7 ?_
    refine cw_skip ?_
    refine qn_then ?_
    refine cw_seq ?_
    refine cw_region ?_
    refine t_rd rfl (rd_assign rfl) ?_
    refine rwt_nil ?_
    refine qn_then ?_
    refine cw_seq ?_
    refine cw_seq ?_
    refine cw_region ?_
    refine t_rd rfl (rd_assign rfl) ?_
    refine rwt_nil ?_
    refine qn_then ?_
    refine cw_block ?_
    have hm129 := hm6.addNil (α := Int) 3
    obtain ⟨r333, hit334, q335⟩ := ob q8; clear q8
    refine cw_loop2 (I := fun q envq wq => ∃ (v326 : Value), Sub [(0, v0), (5, v326), (6, (Value.int .i64 q.1))] envq ∧ Mem w No [ownL 3 v326 (q.2 : List Int)] wq) (X := fun eq envq wq => eq = .exit 0 ∧ ∃ (v323 : Value), Sub [(5, v323)] envq ∧ Mem w No [ownL 3 v323 (r333 : List Int)] wq) hit334 ⟨(Value.slice none 0 0), (by repeat (first | exact Sub.nil _ | refine Sub.cons rfl ?_)), (hm129.pick [0] (by decide) rfl)⟩ ?_ ?_
    · rintro ⟨i324, l325⟩ x328 env329 w330 hf331 hr332 ⟨v326, hs_, hm_⟩
      have hs_ : Sub [(0, v0), (5, v326), (6, (Value.int .i64 i324))] env329 := hs_
      have hm336 : Mem w No [ownL 3 v326 (l325 : List Int)] w330 := hm_
      refine cw_sub hs_ ?_
      clear hs_ hm_ q335
      have h : r34_Best_l4 N a0 i324 l325 = some x328 := hf331
      clear hf331
      refine cw_seq ?_
      refine cw_seq ?_
      refine cw_region ?_
      refine t_rd rfl (rd_move rfl) ?_
      refine t_rd rfl (rd_geq rfl rfl) ?_
      refine rwt_nil ?_
      refine qn_then ?_
      obtain ⟨hb337, q338⟩ | ⟨hb337, q338⟩ := oi h <;> clear h
      · refine cw_t rfl hb337 ?_
        refine cw_skip ?_
        refine qn_then ?_
        refine cw_seq ?_
        refine cw_block ?_
        refine cw_seq ?_
        refine cw_region ?_
        refine t_rd rfl (rd_assign rfl) ?_
        refine rwt_nil ?_
        refine qn_then ?_
        refine cw_block ?_
        obtain ⟨r397, hit398, q399⟩ := ob q338; clear q338
        refine cw_loop2 (I := fun q envq wq => ∃ (v390 : Value), Sub [(0, v0), (5, v390), (6, (Value.int .i64 i324)), (7, (Value.int .i64 q.1))] envq ∧ Mem w No [ownL 3 v390 (q.2 : List Int)] wq) (X := fun eq envq wq => eq = .exit 2 ∧ ∃ (v387 : Value), Sub [(0, v0), (5, v387), (6, (Value.int .i64 i324))] envq ∧ Mem w No [ownL 3 v387 (r397 : List Int)] wq) hit398 ⟨v326, (by repeat (first | exact Sub.nil _ | refine Sub.cons rfl ?_)), (hm336.pick [0] (by decide) rfl)⟩ ?_ ?_
        · rintro ⟨i388, l389⟩ x392 env393 w394 hf395 hr396 ⟨v390, hs_, hm_⟩
          have hs_ : Sub [(0, v0), (5, v390), (6, (Value.int .i64 i324)), (7, (Value.int .i64 i388))] env393 := hs_
          have hm400 : Mem w No [ownL 3 v390 (l389 : List Int)] w394 := hm_
          refine cw_sub hs_ ?_
          clear hs_ hm_ q399
          have h : r34_Best_l5 N a0 i324 i388 l389 = some x392 := hf395
          clear hf395
          refine cw_seq ?_
          refine cw_seq ?_
          refine cw_region ?_
          refine t_rd rfl (rd_move rfl) ?_
          refine t_rd rfl (rd_move rfl) ?_
          refine t_rd rfl (rd_lenS tS22 rfl (hv0.of_old hm400)) ?_
          refine t_rd rfl (rd_lss rfl rfl) ?_
          refine rwt_nil ?_
          refine qn_then ?_
          obtain ⟨hb401, q402⟩ | ⟨hb401, q402⟩ := oi h <;> clear h
          · refine cw_t rfl hb401 ?_
            refine cw_skip ?_
            refine qn_then ?_
            refine cw_seq ?_
            refine cw_block ?_
            refine cw_seq ?_
            refine cw_region ?_
            refine t_rd rfl (rd_move rfl) ?_
            refine t_rd rfl (rd_move rfl) ?_
            obtain ⟨x403, h404, q405⟩ := ob q402; clear q402
            refine t_rd rfl (rd_index tS22 rfl rfl (hv0.of_old hm400) h404) ?_
            refine t_rd rfl (rd_ld1 tO3 rfl ((hv0.of_old hm400).cells h404) (off := 0) rfl) ?_
            refine t_rd rfl (rd_move rfl) ?_
            refine t_rd rfl (rd_eql rfl rfl) ?_
            refine rwt_nil ?_
            refine qn_then ?_
            obtain ⟨hb406, q407⟩ | ⟨hb406, q407⟩ := oi q405 <;> clear q405
            · refine cw_t rfl hb406 ?_
              refine cw_region ?_
              refine t_rd rfl (rd_move rfl) ?_
              refine t_rd rfl (rd_move rfl) ?_
              refine t_ef rfl (ef_bslice (l := ([i388] : List Int)) hm400 tS22 rfl (cs := #[(Value.int .i64 i388)]) (by unfold bsl; kernel_rfl) rfl rfl) ?_
              intro v408 w410 hm409
              obtain ⟨l411, h412, q413⟩ := ob q407; clear q407
              refine t_ef rfl (ef_append (k := 1) hm409 tS22 tE3 rfl rfl rfl rfl (hm409.sl 0 rfl) h412) ?_
              intro v414 w416 hm415
              refine t_rd rfl (rd_assign rfl) ?_
              refine rwt_nil ?_
              refine qn_block (qn_then ?_)
              refine cw_region ?_
              refine t_rd rfl (rd_move rfl) ?_
              obtain ⟨x417, h418, q419⟩ := ob q413; clear q413
              refine t_rd rfl (rd_add64 h418 rfl rfl) ?_
              refine t_rd rfl (rd_assign rfl) ?_
              refine rwt_nil ?_
              refine qn_then ?_
              refine ⟨_, (os q419), v414, (by repeat (first | exact Sub.nil _ | refine Sub.cons rfl ?_)), (hm415.pick [1] (by decide) rfl)⟩
            · refine cw_f rfl hb406 ?_
              refine cw_skip ?_
              refine qn_block (qn_then ?_)
              refine cw_region ?_
              refine t_rd rfl (rd_move rfl) ?_
              obtain ⟨x420, h421, q422⟩ := ob q407; clear q407
              refine t_rd rfl (rd_add64 h421 rfl rfl) ?_
              refine t_rd rfl (rd_assign rfl) ?_
              refine rwt_nil ?_
              refine qn_then ?_
              refine ⟨_, (os q422), v390, (by repeat (first | exact Sub.nil _ | refine Sub.cons rfl ?_)), (hm400.pick [0] (by decide) rfl)⟩
          · refine cw_f rfl hb401 ?_
            refine cw_exit ?_
            refine qx_then (qx_then ?_)
            obtain rfl := hr396 _ (os q402)
            exact ⟨rfl, v390, (by repeat (first | exact Sub.nil _ | refine Sub.cons rfl ?_)), (hm400.pick [0] (by decide) rfl)⟩
        · skip
          intro e env423 w424 hX425
          obtain ⟨rfl, v387, hs426, hm427⟩ := hX425
          refine qx_same (qn_block (qn_then ?_))
          refine cw_sub hs426 ?_
          refine cw_region ?_
          refine t_rd rfl (rd_move rfl) ?_
          obtain ⟨x428, h429, q430⟩ := ob q399; clear q399
          refine t_rd rfl (rd_sub64 h429 rfl rfl) ?_
          refine t_rd rfl (rd_assign rfl) ?_
          refine rwt_nil ?_
          refine qn_then ?_
          refine ⟨_, (os q430), v387, (by repeat (first | exact Sub.nil _ | refine Sub.cons rfl ?_)), (hm427.pick [0] (by decide) rfl)⟩
      · refine cw_f rfl hb337 ?_
        refine cw_exit ?_
        refine qx_then (qx_then ?_)
        obtain rfl := hr332 _ (os q338)
        exact ⟨rfl, v326, (by repeat (first | exact Sub.nil _ | refine Sub.cons rfl ?_)), (hm336.pick [0] (by decide) rfl)⟩
    · skip
      intro e env431 w432 hX433
      obtain ⟨rfl, v323, hs434, hm435⟩ := hX433
      refine qx_same (qn_then ?_)
      refine cw_sub hs434 ?_
      refine cw_seq ?_
      refine cw_region ?_
      refine t_rd rfl (rd_move rfl) ?_
      refine t_rd rfl (rd_assign rfl) ?_
      refine t_rd rfl (rd_assign rfl) ?_
      refine rwt_nil ?_
      refine qn_then ?_
      refine cw_ret ?_
      obtain rfl := os q335
      exact ret2 rfl rfl rfl ⟨v323, rfl, (hm435.pick [0] (by decide) rfl)⟩

theorem law34_exact_ok {N : Nat} {a0 : List Int} {a1 : Int} {res : Bool} (h : law34_exact N a0 a1 = some res) {w : World} {v0 : Value} (hv0 : Sl (Old w No) w v0 a0) :
    CallsR Try.prog 12 [v0, (Value.int .i64 a1)] w (fun u w' => u = (Value.bool res) ∧ Mem w No [] w') := by
  unfold law34_exact at h
  refine fn_ok Try.func12 rfl rfl rfl ?_
  have hm0 := Mem.nil w
  refine cw_seq ?_
  refine cw_region ?_
  refine t_rd rfl (rd_assign rfl) ?_
  refine rwt_nil ?_
  refine qn_then ?_
  refine cw_seq ?_
  refine cw_region ?_
  refine t_rd rfl (rd_move rfl) ?_
  refine t_rd rfl (rd_move rfl) ?_
  obtain ⟨r1, h2, q3⟩ := ob h; clear h
  refine t_ef rfl (ef_call tf9 rfl (setout_Plan_ok h2 (hv0.to_call hm0))) ?_
  rintro _ w6 ⟨v4, e_, hm5⟩
  obtain rfl := e_.symm
  have hm7 := hm0.call hm5
  refine t_rd rfl (rd_move rfl) ?_
  refine t_rd rfl (rd_extract rfl rfl) ?_
  refine t_rd rfl (rd_extract rfl rfl) ?_
  refine t_rd rfl (rd_assign rfl) ?_
  refine t_rd rfl (rd_assign rfl) ?_
  refine rwt_nil ?_
  refine qn_then ?_
  refine cw_seq ?_
  refine cw_region ?_
  refine t_rd rfl (rd_move rfl) ?_
  refine t_rd rfl (rd_move rfl) ?_
  obtain ⟨r8, h9, q10⟩ := ob q3; clear q3
  refine t_ef rfl (ef_call tf20 rfl (r34_Plan_ok h9 (hv0.to_call hm7))) ?_
  rintro _ w13 ⟨v11, e_, hm12⟩
  obtain rfl := e_.symm
  have hm14 := hm7.call hm12
  refine t_rd rfl (rd_move rfl) ?_
  refine t_rd rfl (rd_extract rfl rfl) ?_
  refine t_rd rfl (rd_extract rfl rfl) ?_
  refine t_rd rfl (rd_assign rfl) ?_
  refine t_rd rfl (rd_assign rfl) ?_
  refine rwt_nil ?_
  refine qn_then ?_
  refine cw_seq ?_
  refine cw_region ?_
  refine t_rd rfl (rd_move rfl) ?_
  obtain ⟨r15, h16, q17⟩ := ob q10; clear q10
  refine t_ef rfl (ef_call tf13 rfl (setout_Groups_ok h16 (hv0.to_call hm14))) ?_
  rintro _ w19 ⟨e_, hm18⟩
  obtain rfl := e_.symm
  have hm20 := hm14.call hm18
  refine t_rd rfl (rd_move rfl) ?_
  refine t_rd rfl (rd_extract rfl rfl) ?_
  refine t_rd rfl (rd_extract rfl rfl) ?_
  refine t_rd rfl (rd_assign rfl) ?_
  refine t_rd rfl (rd_assign rfl) ?_
  refine rwt_nil ?_
  refine qn_then ?_
  refine cw_seq ?_
  refine cw_region ?_
  refine t_rd rfl (rd_move rfl) ?_
  obtain ⟨r21, h22, q23⟩ := ob q17; clear q17
  refine t_ef rfl (ef_call tf21 rfl (r34_Groups_ok h22 (hv0.to_call hm20))) ?_
  rintro _ w25 ⟨e_, hm24⟩
  obtain rfl := e_.symm
  have hm26 := hm20.call hm24
  refine t_rd rfl (rd_move rfl) ?_
  refine t_rd rfl (rd_extract rfl rfl) ?_
  refine t_rd rfl (rd_extract rfl rfl) ?_
  refine t_rd rfl (rd_assign rfl) ?_
  refine t_rd rfl (rd_assign rfl) ?_
  refine rwt_nil ?_
  refine qn_then ?_
  refine cw_seq ?_
  refine cw_region ?_
  refine t_rd rfl (rd_move rfl) ?_
  obtain ⟨r27, h28, q29⟩ := ob q23; clear q23
  refine t_ef rfl (ef_call tf14 rfl (setout_Best_ok h28 (hv0.to_call hm26))) ?_
  rintro _ w32 ⟨v30, e_, hm31⟩
  obtain rfl := e_.symm
  have hm33 := hm26.call hm31
  refine t_rd rfl (rd_move rfl) ?_
  refine t_rd rfl (rd_extract rfl rfl) ?_
  refine t_rd rfl (rd_extract rfl rfl) ?_
  refine t_rd rfl (rd_assign rfl) ?_
  refine t_rd rfl (rd_assign rfl) ?_
  refine rwt_nil ?_
  refine qn_then ?_
  refine cw_seq ?_
  refine cw_region ?_
  refine t_rd rfl (rd_move rfl) ?_
  obtain ⟨r34, h35, q36⟩ := ob q29; clear q29
  refine t_ef rfl (ef_call tf22 rfl (r34_Best_ok h35 (hv0.to_call hm33))) ?_
  rintro _ w39 ⟨v37, e_, hm38⟩
  obtain rfl := e_.symm
  have hm40 := hm33.call hm38
  refine t_rd rfl (rd_move rfl) ?_
  refine t_rd rfl (rd_extract rfl rfl) ?_
  refine t_rd rfl (rd_extract rfl rfl) ?_
  refine t_rd rfl (rd_assign rfl) ?_
  refine t_rd rfl (rd_assign rfl) ?_
  refine rwt_nil ?_
  refine qn_then ?_
  refine cw_seq ?_
  refine cw_region ?_
  refine t_rd rfl (rd_move rfl) ?_
  refine t_rd rfl (rd_move rfl) ?_
  obtain ⟨r41, h42, q43⟩ := ob q36; clear q36
  refine t_ef rfl (ef_call tf18 rfl (yardgen_SameSetOuts_ok h42 (hm40.sl_call 3 rfl) (hm40.sl_call 2 rfl))) ?_
  rintro _ w45 ⟨e_, hm44⟩
  obtain rfl := e_.symm
  have hm46 := hm40.call hm44
  refine t_rd rfl (rd_move rfl) ?_
  refine t_rdg rfl rfl rfl rfl (gv_t _) (fun hg47 => (rd_move rfl)) ?_
  refine t_rdg rfl rfl rfl rfl (gv_t _) (fun hg48 => (rd_move rfl)) ?_
  refine t_rdg rfl rfl rfl rfl (gv_t _) (fun hg49 => (rd_eql (gvx rfl hg49) (gvx rfl hg49))) ?_
  refine t_rd rfl (rd_and rfl (fun hc50 => (gvx rfl hc50))) ?_
  refine t_rd rfl (rd_move rfl) ?_
  refine t_rdg rfl rfl rfl rfl (gv_t _) (fun hg51 => (rd_move rfl)) ?_
  refine t_rdg rfl rfl rfl rfl (gv_t _) (fun hg52 => (rd_move rfl)) ?_
  refine t_rdg rfl rfl rfl rfl (gv_t _) (fun hg53 => (rd_eql (gvx rfl hg53) (gvx rfl hg53))) ?_
  refine t_rd rfl (rd_and rfl (fun hc54 => (gvx rfl hc54))) ?_
  refine t_rd rfl (rd_move rfl) ?_
  refine t_rdg rfl rfl rfl rfl (gv_t _) (fun hg55 => (rd_move rfl)) ?_
  refine t_rdg rfl rfl rfl rfl (gv_t _) (fun hg56 => (rd_move rfl)) ?_
  refine t_rdg rfl rfl rfl rfl (gv_t _) (fun hg57 => (rd_eql (gvx rfl hg57) (gvx rfl hg57))) ?_
  refine t_rd rfl (rd_and rfl (fun hc58 => (gvx rfl hc58))) ?_
  refine t_rd rfl (rd_move rfl) ?_
  refine t_rdg rfl rfl rfl rfl (gv_t _) (fun hg59 => (rd_move rfl)) ?_
  refine t_rdg rfl rfl rfl rfl (gv_t _) (fun hg60 => (rd_move rfl)) ?_
  obtain ⟨r62, h63, q64⟩ := ob q43; clear q43
  refine t_efg rfl rfl rfl rfl (R := (fun v w' => v = gV (((r41 && decide (r1.2 = r8.2)) && decide (r15.1 = r21.1)) && decide (r15.2 = r21.2)) (Value.bool r62) ∧ Mem w45 No [] w')) (gv_t _) (fun hg61 => (ef_call tf19 (evc (gvx rfl hg61) (evc (gvx rfl hg61) evn)) (humpgen_Ints_ok (gO_t h63 hg61) (hm46.sl_call 1 rfl) (hm46.sl_call 0 rfl))).mono (by rintro _ _ ⟨rfl, q⟩; exact ⟨(gV_t hg61).symm, q⟩)) (fun q => ⟨(gV_f q).symm, Mem.nil _⟩) ?_
  rintro _ w66 ⟨rfl, hm65⟩
  have hm67 := hm46.call hm65
  refine t_rd rfl (rd_and rfl (fun hc68 => (gvx rfl hc68))) ?_
  refine t_rd rfl (rd_move rfl) ?_
  refine t_rdg rfl rfl rfl rfl (gv_t _) (fun hg69 => (rd_move rfl)) ?_
  refine t_rdg rfl rfl rfl rfl (gv_t _) (fun hg70 => (rd_move rfl)) ?_
  refine t_rdg rfl rfl rfl rfl (gv_t _) (fun hg71 => (rd_eql (gvx rfl hg71) (gvx rfl hg71))) ?_
  refine t_rd rfl (rd_and rfl (fun hc72 => (gvx rfl hc72))) ?_
  refine t_rd rfl (rd_assign rfl) ?_
  refine rwt_nil ?_
  refine qn_then ?_
  refine cw_ret ?_
  obtain rfl := os q64
  exact ret1 rfl rfl ⟨rfl, (hm67.pick [] (by decide) rfl)⟩

theorem law34_SetoutExact_ok {N : Nat} {a0 : List Int} {a1 : List Int} {a2 : Int} {res : Bool} (h : law34_SetoutExact N a0 a1 a2 = some res) {w : World} {v0 : Value} {v1 : Value} (hv0 : Sl (Old w No) w v0 a0) (hv1 : Sl (Old w No) w v1 a1) :
    CallsR Try.prog 4 [v0, v1, (Value.int .i64 a2)] w (fun u w' => u = (Value.bool res) ∧ Mem w No [] w') := by
  unfold law34_SetoutExact at h
  refine fn_ok Try.func4 rfl rfl rfl ?_
  have hm0 := Mem.nil w
  refine cw_seq ?_
  refine cw_region ?_
  refine t_rd rfl (rd_assign rfl) ?_
  refine rwt_nil ?_
  refine qn_then ?_
  refine cw_seq ?_
  refine cw_region ?_
  refine t_rd rfl (rd_move rfl) ?_
  obtain ⟨r1, h2, q3⟩ := ob h; clear h
  refine t_ef rfl (ef_call tf7 rfl (humpgen_New_ok h2 (hv0.to_call hm0))) ?_
  rintro _ w6 ⟨g4, e_, hm5⟩
  obtain rfl := e_.symm
  have hm7 := hm0.call hm5
  refine t_rd rfl (rd_assign rfl) ?_
  refine rwt_nil ?_
  refine qn_then ?_
  refine cw_seq ?_
  refine cw_seq ?_
  refine cw_region ?_
  refine t_rd rfl (rd_assign rfl) ?_
  refine rwt_nil ?_
  refine qn_then ?_
  refine cw_block ?_
  obtain ⟨r200, hit201, q202⟩ := ob q3; clear q3
  refine cw_loop2 (I := fun q envq wq => Sub [(1, v1), (2, (Value.int .i64 a2)), (7, (Value.pointer (some ⟨g4, 0, none⟩))), (8, (Value.int .i64 q.1))] envq ∧ Mem w No [blk g4 43 [v0, (Value.int .i64 q.2)]] wq) (X := fun eq envq wq => (∃ p203, r200 = (Sum.inl p203) ∧ eq = .ret ∧ retQ Try.prog 49 Try.f4 (fun u w' => u = (Value.bool p203) ∧ Mem w No [] w') .ret envq wq) ∨ (∃ p204, r200 = (Sum.inr p204) ∧ eq = .exit 0 ∧ Sub [(1, v1), (2, (Value.int .i64 a2))] envq ∧ Mem w No [] wq)) hit201 ⟨(by repeat (first | exact Sub.nil _ | refine Sub.cons rfl ?_)), (hm7.pick [0] (by decide) rfl)⟩ ?_ ?_
  · rintro ⟨i192, i193⟩ x195 env196 w197 hf198 hr199 ⟨hs_, hm_⟩
    have hs_ : Sub [(1, v1), (2, (Value.int .i64 a2)), (7, (Value.pointer (some ⟨g4, 0, none⟩))), (8, (Value.int .i64 i192))] env196 := hs_
    have hm205 : Mem w No [blk g4 43 [v0, (Value.int .i64 i193)]] w197 := hm_
    refine cw_sub hs_ ?_
    clear hs_ hm_ q202
    have h : law34_SetoutExact_l1 N a0 a2 i192 i193 = some x195 := hf198
    clear hf198
    refine cw_seq ?_
    refine cw_seq ?_
    refine cw_region ?_
    refine t_rd rfl (rd_move rfl) ?_
    refine t_rd rfl (rd_lss rfl rfl) ?_
    refine rwt_nil ?_
    refine qn_then ?_
    obtain ⟨hb206, q207⟩ | ⟨hb206, q207⟩ := oi h <;> clear h
    · refine cw_t rfl hb206 ?_
      refine cw_skip ?_
      refine qn_then ?_
      refine cw_seq ?_
      refine cw_block ?_
      refine cw_seq ?_
      refine cw_region ?_
      refine t_rd rfl (rd_move rfl) ?_
      obtain ⟨r208, h209, q210⟩ := ob q207; clear q207
      refine t_ef rfl (ef_call tf8 rfl (law34_train_ok h209 (hv0.to_callT (k := 0) hm205 rfl) (hm205.get (k := 0) rfl))) ?_
      rintro _ w213 ⟨v211, e_, hm212⟩
      obtain rfl := e_.symm
      have hm214 := hm205.callT (k := 0) rfl (fun _ h => h) hm212 (fun _ => Iff.rfl)
      refine t_rd rfl (rd_assign rfl) ?_
      refine rwt_nil ?_
      refine qn_then ?_
      refine cw_seq ?_
      refine cw_seq ?_
      refine cw_region ?_
      refine t_rd rfl (rd_move rfl) ?_
      refine t_rd rfl (rd_eql rfl rfl) ?_
      refine rwt_nil ?_
      refine qn_then ?_
      obtain ⟨j238, hit239, q240⟩ := ob q210; clear q210
      refine cw_join (X := fun eq envq wq => eq = .normal ∧ ∃ (v237 : Value), Sub [(1, v1), (2, (Value.int .i64 a2)), (7, (Value.pointer (some ⟨g4, 0, none⟩))), (8, (Value.int .i64 i192)), (9, v237)] envq ∧ Mem w No [ownL 3 v237 (j238.2 : List Int), blk g4 43 [v0, (Value.int .i64 j238.1)]] wq) ?_ ?_
      · clear q240
        obtain ⟨hb241, q242⟩ | ⟨hb241, q242⟩ := oi hit239 <;> clear hit239
        · refine cw_t rfl hb241 ?_
          refine cw_region ?_
          refine t_rd rfl (rd_move rfl) ?_
          refine t_rd rfl (rd_move rfl) ?_
          refine t_ef rfl (ef_bslice (l := ([(-1), 15, 16] : List Int)) hm214 tS22 rfl (cs := #[(Value.int .i64 (-1)), (Value.int .i64 15), (Value.int .i64 16)]) (by unfold bsl; kernel_rfl) rfl rfl) ?_
          intro v243 w245 hm244
          obtain ⟨r246, h247, q248⟩ := ob q242; clear q242
          refine t_ef rfl (ef_call tf11 rfl (Maker_Pick_ok h247 (hv0.to_callT (k := 2) hm244 rfl) (hm244.get (k := 2) rfl) (hm244.sl_callT 0 2 rfl rfl (by decide)))) ?_
          rintro _ w250 ⟨e_, hm249⟩
          obtain rfl := e_.symm
          have hm251 := hm244.callT (k := 2) rfl (fun _ h => h) hm249 (fun _ => Iff.rfl)
          refine t_ef rfl (ef_bslice (l := ([r246.2] : List Int)) hm251 tS22 rfl (cs := #[(Value.int .i64 r246.2)]) (by unfold bsl; kernel_rfl) rfl rfl) ?_
          intro v252 w254 hm253
          obtain ⟨l255, h256, q257⟩ := ob q248; clear q248
          refine t_ef rfl (ef_append (k := 2) hm253 tS22 tE3 rfl rfl rfl rfl (hm253.sl 0 rfl) h256) ?_
          intro v258 w260 hm259
          refine t_rd rfl (rd_assign rfl) ?_
          refine rwt_nil ?_
          obtain rfl := os q257
          exact ⟨rfl, v258, (by repeat (first | exact Sub.nil _ | refine Sub.cons rfl ?_)), (hm259.pick [2, 3] (by decide) rfl)⟩
        · refine cw_f rfl hb241 ?_
          refine cw_skip ?_
          obtain rfl := os q242
          exact ⟨rfl, v211, (by repeat (first | exact Sub.nil _ | refine Sub.cons rfl ?_)), (hm214.pick [0, 1] (by decide) rfl)⟩
      · clear hit239
        intro e env261 w262 hX263
        obtain ⟨rfl, v237, hs264, hm265⟩ := hX263
        refine qn_then ?_
        refine cw_sub hs264 ?_
        refine cw_seq ?_
        refine cw_region ?_
        refine t_rd rfl (rd_move rfl) ?_
        refine t_rd rfl (rd_move rfl) ?_
        refine t_ef rfl (ef_bslice (l := ([0, 1, 4, 5, 16, 17, (-1)] : List Int)) hm265 tS22 rfl (cs := #[(Value.int .i64 0), (Value.int .i64 1), (Value.int .i64 4), (Value.int .i64 5), (Value.int .i64 16), (Value.int .i64 17), (Value.int .i64 (-1))]) (by unfold bsl; kernel_rfl) rfl rfl) ?_
        intro v266 w268 hm267
        obtain ⟨r269, h270, q271⟩ := ob q240; clear q240
        refine t_ef rfl (ef_call tf11 rfl (Maker_Pick_ok h270 (hv0.to_callT (k := 2) hm267 rfl) (hm267.get (k := 2) rfl) (hm267.sl_callT 0 2 rfl rfl (by decide)))) ?_
        rintro _ w273 ⟨e_, hm272⟩
        obtain rfl := e_.symm
        have hm274 := hm267.callT (k := 2) rfl (fun _ h => h) hm272 (fun _ => Iff.rfl)
        obtain ⟨r275, h276, q277⟩ := ob q271; clear q271
        refine t_ef rfl (ef_call tf12 rfl (law34_exact_ok h276 (hm274.sl_call 1 rfl))) ?_
        rintro _ w279 ⟨e_, hm278⟩
        obtain rfl := e_.symm
        have hm280 := hm274.call hm278
        refine t_rd rfl (rd_not rfl) ?_
        refine t_rd rfl (rd_move rfl) ?_
        refine t_rdg rfl rfl rfl rfl (gv_f _) (fun hg281 => (rd_move rfl)) ?_
        refine t_rdg rfl rfl rfl rfl (gv_f _) (fun hg282 => (rd_move rfl)) ?_
        obtain ⟨r284, h285, q286⟩ := ob q277; clear q277
        refine t_efg rfl rfl rfl rfl (R := (fun v w' => v = gV (!(!r275)) (Value.bool r284) ∧ Mem w279 No [] w')) (gv_f _) (fun hg283 => (ef_call tf12 (evc (gvx rfl hg283) (evc (gvx rfl hg283) evn)) (law34_exact_ok (gO_t h285 hg283) (hm280.sl_call 1 rfl))).mono (by rintro _ _ ⟨rfl, q⟩; exact ⟨(gV_t hg283).symm, q⟩)) (fun q => ⟨(gV_f q).symm, Mem.nil _⟩) ?_
        rintro _ w288 ⟨rfl, hm287⟩
        have hm289 := hm280.call hm287
        refine t_rdg rfl rfl rfl rfl (gv_f _) (fun hg290 => (rd_not (gvx rfl hg290))) ?_
        refine t_rd rfl (rd_or rfl (fun hc291 => (gvx rfl (bnotIt hc291)))) ?_
        refine rwt_nil ?_
        refine qn_then ?_
        obtain ⟨hb292, q293⟩ | ⟨hb292, q293⟩ := oi q286 <;> clear q286
        · refine cw_t rfl hb292 ?_
          refine cw_seq ?_
          refine cw_region ?_
          refine t_rd rfl (rd_assign rfl) ?_
          refine rwt_nil ?_
          refine qn_then ?_
          refine cw_ret ?_
          refine qr_block (qr_then (qr_then ?_))
          obtain rfl := hr199 _ (os q293)
          refine .inl (⟨_, rfl, ⟨rfl, ?_⟩⟩)
          exact ret1 rfl rfl ⟨rfl, (hm289.pick [] (by decide) rfl)⟩
        · refine cw_f rfl hb292 ?_
          refine cw_skip ?_
          refine qn_block (qn_then ?_)
          refine cw_region ?_
          refine t_rd rfl (rd_move rfl) ?_
          obtain ⟨x294, h295, q296⟩ := ob q293; clear q293
          refine t_rd rfl (rd_add64 h295 rfl rfl) ?_
          refine t_rd rfl (rd_assign rfl) ?_
          refine rwt_nil ?_
          refine qn_then ?_
          refine ⟨_, (os q296), (by repeat (first | exact Sub.nil _ | refine Sub.cons rfl ?_)), (hm289.pick [2] (by decide) rfl)⟩
    · refine cw_f rfl hb206 ?_
      refine cw_exit ?_
      refine qx_then (qx_then ?_)
      obtain rfl := hr199 _ (os q207)
      exact .inr (⟨_, rfl, ⟨rfl, (by repeat (first | exact Sub.nil _ | refine Sub.cons rfl ?_)), (hm205.pick [] (by decide) rfl)⟩⟩)
  · skip
    intro e env297 w298 hX299
    rcases hX299 with hX299 | hX299
    · obtain ⟨p301, rfl, hX299⟩ := hX299
      obtain ⟨rfl, hq303⟩ := hX299
      exact qr_block (qr_then ((by have e := os q202; subst e; exact hq303)))
    · obtain ⟨p304, rfl, hX299⟩ := hX299
      obtain ⟨rfl, hs305, hm306⟩ := hX299
      refine qx_same (qn_then ?_)
      refine cw_sub hs305 ?_
      refine cw_seq ?_
      refine cw_region ?_
      refine t_rd rfl (rd_move rfl) ?_
      refine t_rd rfl (rd_lenS tS22 rfl (hv1.of_old hm306)) ?_
      refine t_rd rfl (rd_gtr rfl rfl) ?_
      refine t_rd rfl (rd_move rfl) ?_
      refine t_rdg rfl rfl rfl rfl (gv_f _) (fun hg307 => (rd_move rfl)) ?_
      refine t_rdg rfl rfl rfl rfl (gv_f _) (fun hg308 => (rd_move rfl)) ?_
      obtain ⟨r310, h311, q312⟩ := ob q202; clear q202
      refine t_efg rfl rfl rfl rfl (R := (fun v w' => v = gV (!decide (300 < (List.length a1 : Int))) (Value.bool r310) ∧ Mem w298 No [] w')) (gv_f _) (fun hg309 => (ef_call tf12 (evc (gvx rfl hg309) (evc (gvx rfl hg309) evn)) (law34_exact_ok (gO_t h311 hg309) (hv1.to_call hm306))).mono (by rintro _ _ ⟨rfl, q⟩; exact ⟨(gV_t hg309).symm, q⟩)) (fun q => ⟨(gV_f q).symm, Mem.nil _⟩) ?_
      rintro _ w314 ⟨rfl, hm313⟩
      have hm315 := hm306.call hm313
      refine t_rdg rfl rfl rfl rfl (gv_f _) (fun hg316 => (rd_move (gvx rfl hg316))) ?_
      obtain ⟨r318, h319, q320⟩ := ob q312; clear q312
      refine t_efg rfl rfl rfl rfl (R := (fun v w' => v = gV ((!decide (300 < (List.length a1 : Int))) && r310) (Value.bool r318) ∧ Mem w314 No [] w')) (gv_nt _ _) (fun hg317 => (ef_call tf10 rfl (law34_sane_ok (gO_t h319 hg317))).mono (by rintro _ _ ⟨rfl, q⟩; exact ⟨(gV_t hg317).symm, q⟩)) (fun q => ⟨(gV_f q).symm, Mem.nil _⟩) ?_
      rintro _ w322 ⟨rfl, hm321⟩
      have hm323 := hm315.call hm321
      refine t_rdg rfl rfl rfl rfl (gv_f _) (fun hg324 => (rd_and (gvx rfl hg324) (fun hc325 => (gvx rfl (band hg324 hc325))))) ?_
      refine t_rd rfl (rd_or rfl (fun hc326 => (gvx rfl (bnotIt hc326)))) ?_
      refine t_rd rfl (rd_assign rfl) ?_
      refine rwt_nil ?_
      refine qn_then ?_
      refine cw_ret ?_
      obtain rfl := os q320
      exact ret1 rfl rfl ⟨rfl, (hm323.pick [] (by decide) rfl)⟩

theorem law34_SetoutAdds_ok {N : Nat} {a0 : List Int} {res : Bool} (h : law34_SetoutAdds N a0 = some res) {w : World} {v0 : Value} (hv0 : Sl (Old w No) w v0 a0) :
    CallsR Try.prog 5 [v0] w (fun u w' => u = (Value.bool res) ∧ Mem w No [] w') := by
  unfold law34_SetoutAdds at h
  refine fn_ok Try.func5 rfl rfl rfl ?_
  have hm0 := Mem.nil w
  refine cw_seq ?_
  refine cw_region ?_
  refine t_rd rfl (rd_assign rfl) ?_
  refine rwt_nil ?_
  refine qn_then ?_
  refine cw_seq ?_
  refine cw_region ?_
  refine t_rd rfl (rd_move rfl) ?_
  obtain ⟨r1, h2, q3⟩ := ob h; clear h
  refine t_ef rfl (ef_call tf7 rfl (humpgen_New_ok h2 (hv0.to_call hm0))) ?_
  rintro _ w6 ⟨g4, e_, hm5⟩
  obtain rfl := e_.symm
  have hm7 := hm0.call hm5
  refine t_rd rfl (rd_assign rfl) ?_
  refine rwt_nil ?_
  refine qn_then ?_
  refine cw_seq ?_
  refine cw_region ?_
  refine t_rd rfl (rd_move rfl) ?_
  obtain ⟨r8, h9, q10⟩ := ob q3; clear q3
  refine t_ef rfl (ef_call tf8 rfl (law34_train_ok h9 (hv0.to_callT (k := 0) hm7 rfl) (hm7.get (k := 0) rfl))) ?_
  rintro _ w13 ⟨v11, e_, hm12⟩
  obtain rfl := e_.symm
  have hm14 := hm7.callT (k := 0) rfl (fun _ h => h) hm12 (fun _ => Iff.rfl)
  refine t_rd rfl (rd_assign rfl) ?_
  refine rwt_nil ?_
  refine qn_then ?_
  refine cw_seq ?_
  refine cw_region ?_
  refine t_rd rfl (rd_move rfl) ?_
  obtain ⟨r15, h16, q17⟩ := ob q10; clear q10
  refine t_ef rfl (ef_call tf9 rfl (setout_Plan_ok h16 (hm14.sl_call 0 rfl))) ?_
  rintro _ w20 ⟨v18, e_, hm19⟩
  obtain rfl := e_.symm
  have hm21 := hm14.call hm19
  refine t_rd rfl (rd_move rfl) ?_
  refine t_rd rfl (rd_extract rfl rfl) ?_
  refine t_rd rfl (rd_extract rfl rfl) ?_
  refine t_rd rfl (rd_assign rfl) ?_
  refine t_rd rfl (rd_assign rfl) ?_
  refine rwt_nil ?_
  refine qn_then ?_
  refine cw_seq ?_
  refine cw_region ?_
  refine t_rd rfl (rd_move rfl) ?_
  obtain ⟨r22, h23, q24⟩ := ob q17; clear q17
  refine t_ef rfl (ef_call tf13 rfl (setout_Groups_ok h23 (hm21.sl_call 1 rfl))) ?_
  rintro _ w26 ⟨e_, hm25⟩
  obtain rfl := e_.symm
  have hm27 := hm21.call hm25
  refine t_rd rfl (rd_move rfl) ?_
  refine t_rd rfl (rd_extract rfl rfl) ?_
  refine t_rd rfl (rd_extract rfl rfl) ?_
  refine t_rd rfl (rd_assign rfl) ?_
  refine t_rd rfl (rd_assign rfl) ?_
  refine rwt_nil ?_
  refine qn_then ?_
  refine cw_seq ?_
  refine cw_seq ?_
  refine cw_region ?_
  refine t_rd rfl (rd_move rfl) ?_
  refine t_rd rfl (rd_neq rfl rfl) ?_
  refine t_rd rfl (rd_move rfl) ?_
  refine t_rdg rfl rfl rfl rfl (gv_f _) (fun hg28 => (rd_move rfl)) ?_
  refine t_rdg rfl rfl rfl rfl (gv_f _) (fun hg29 => (rd_neq (gvx rfl hg29) rfl)) ?_
  refine t_rd rfl (rd_or rfl (fun hc30 => (gvx rfl (bnotIt hc30)))) ?_
  refine rwt_nil ?_
  refine qn_then ?_
  obtain ⟨hb31, q32⟩ | ⟨hb31, q32⟩ := oi q24 <;> clear q24
  · refine cw_t rfl hb31 ?_
    refine cw_seq ?_
    refine cw_region ?_
    refine t_rd rfl (rd_assign rfl) ?_
    refine rwt_nil ?_
    refine qn_then ?_
    refine cw_ret ?_
    refine qr_then ?_
    obtain rfl := os q32
    exact ret1 rfl rfl ⟨rfl, (hm27.pick [] (by decide) rfl)⟩
  · refine cw_f rfl hb31 ?_
    refine cw_skip ?_
    refine qn_then ?_
    refine cw_seq ?_
    refine cw_region ?_
    refine t_rd rfl (rd_assign rfl) ?_
    refine rwt_nil ?_
    refine qn_then ?_
    refine cw_seq ?_
    refine cw_seq ?_
    refine cw_region ?_
    refine t_rd rfl (rd_assign rfl) ?_
    refine rwt_nil ?_
    refine qn_then ?_
    refine cw_block ?_
    obtain ⟨r193, hit194, q195⟩ := ob q32; clear q32
    refine cw_loop2 (I := fun q envq wq => Sub [(4, v11), (5, v18), (7, (Value.int .i64 q.1)), (9, (Value.int .i64 q.2.1)), (10, (Value.int .i64 q.2.2))] envq ∧ Mem w No [ownL 31 v18 (r15.1 : List T_SetOut), ownL 3 v11 (r8.2 : List Int)] wq) (X := fun eq envq wq => (∃ p196, r193 = (Sum.inl p196) ∧ eq = .ret ∧ retQ Try.prog 99 Try.f5 (fun u w' => u = (Value.bool p196) ∧ Mem w No [] w') .ret envq wq) ∨ (∃ p197, r193 = (Sum.inr p197) ∧ eq = .exit 0 ∧ Sub [(4, v11), (7, (Value.int .i64 p197.1)), (9, (Value.int .i64 p197.2))] envq ∧ Mem w No [ownL 3 v11 (r8.2 : List Int)] wq)) hit194 ⟨(by repeat (first | exact Sub.nil _ | refine Sub.cons rfl ?_)), (hm27.pick [0, 1] (by decide) rfl)⟩ ?_ ?_
    · rintro ⟨i184, i185, i186⟩ x188 env189 w190 hf191 hr192 ⟨hs_, hm_⟩
      have hs_ : Sub [(4, v11), (5, v18), (7, (Value.int .i64 i184)), (9, (Value.int .i64 i185)), (10, (Value.int .i64 i186))] env189 := hs_
      have hm198 : Mem w No [ownL 31 v18 (r15.1 : List T_SetOut), ownL 3 v11 (r8.2 : List Int)] w190 := hm_
      refine cw_sub hs_ ?_
      clear hs_ hm_ q195
      have h : law34_SetoutAdds_l1 N r15 i184 i185 i186 = some x188 := hf191
      clear hf191
      refine cw_seq ?_
      refine cw_seq ?_
      refine cw_region ?_
      refine t_rd rfl (rd_move rfl) ?_
      refine t_rd rfl (rd_move rfl) ?_
      refine t_rd rfl (rd_lenS tS26 rfl (hm198.sl 0 rfl)) ?_
      refine t_rd rfl (rd_lss rfl rfl) ?_
      refine rwt_nil ?_
      refine qn_then ?_
      obtain ⟨hb199, q200⟩ | ⟨hb199, q200⟩ := oi h <;> clear h
      · refine cw_t rfl hb199 ?_
        refine cw_skip ?_
        refine qn_then ?_
        refine cw_seq ?_
        refine cw_block ?_
        refine cw_seq ?_
        refine cw_seq ?_
        obtain ⟨w202, he204⟩ : ∃ q, q = w190.drew := ⟨_, rfl⟩
        have hm203 := hm198.drew; rw [← he204] at hm203
        refine cw_region_s (fun q => q = w202) (cls [] []) mixed ?_
        rintro _ rfl; rw [← he204]
        refine s_rp (i := 0) rfl (by kernel_rfl) rfl (fun _ => (rd_move rfl)) ?_
        refine s_rp (i := 1) rfl (by kernel_rfl) rfl (fun _ => (rd_gtr rfl rfl)) ?_
        refine s_rp (i := 2) rfl (by kernel_rfl) rfl (fun _ => (rd_move rfl)) ?_
        refine s_rpg (i := 3) rfl (by kernel_rfl) rfl rfl rfl rfl (gv_t _) (fun hg205 _ => (rd_move rfl)) ?_
        refine s_rpg (i := 4) rfl (by kernel_rfl) rfl rfl rfl rfl (gv_t _) (fun hg206 _ => (rd_move rfl)) ?_
        obtain ⟨x208, h209, q210⟩ := ob q200; clear q200
        refine s_rpg (i := 5) rfl (by kernel_rfl) rfl rfl rfl rfl (gv_t _) (fun hg207 _ => (rd_index tS26 (gvx rfl hg207) (gvx rfl hg207) (hm203.sl 0 rfl) (gO_t h209 hg207))) ?_
        refine s_rpg (i := 6) rfl (by kernel_rfl) rfl rfl rfl rfl (gv_t _) (fun hg211 _ => (rd_fld tF31_0 (gvx rfl hg211))) ?_
        refine s_rdg (i := 7) rfl (by kernel_rfl) rfl rfl rfl rfl (gv_t _) (fun hg212 => (fun _ hS => by rw [hS]; exact (rd_ld1 tO3 (gvx rfl hg212) ((hm203.sl 0 rfl).cells (gO_t h209 hg212)) (off := 0) rfl))) rfl ?_
        refine s_rpg (i := 8) rfl (by kernel_rfl) rfl rfl rfl rfl (gv_t _) (fun hg213 _ => (rd_move rfl)) ?_
        refine s_rpg (i := 9) rfl (by kernel_rfl) rfl rfl rfl rfl (gv_t _) (fun hg214 _ => (rd_move rfl)) ?_
        obtain ⟨x216, h217, q218⟩ := ob q210; clear q210
        refine s_rpg (i := 10) rfl (by kernel_rfl) rfl rfl rfl rfl (gv_t _) (fun hg215 _ => (rd_sub64 (gO_t h217 hg215) (gvx rfl hg215) rfl)) ?_
        obtain ⟨x220, h221, q222⟩ := ob q218; clear q218
        refine s_rpg (i := 11) rfl (by kernel_rfl) rfl rfl rfl rfl (gv_t _) (fun hg219 _ => (rd_index tS26 (gvx rfl hg219) (gvx rfl hg219) (hm203.sl 0 rfl) (gO_t h221 hg219))) ?_
        refine s_rpg (i := 12) rfl (by kernel_rfl) rfl rfl rfl rfl (gv_t _) (fun hg223 _ => (rd_fld tF31_0 (gvx rfl hg223))) ?_
        refine s_rdg (i := 13) rfl (by kernel_rfl) rfl rfl rfl rfl (gv_t _) (fun hg224 => (fun _ hS => by rw [hS]; exact (rd_ld1 tO3 (gvx rfl hg224) ((hm203.sl 0 rfl).cells (gO_t h221 hg224)) (off := 0) rfl))) rfl ?_
        refine s_rpg (i := 14) rfl (by kernel_rfl) rfl rfl rfl rfl (gv_t _) (fun hg225 _ => (rd_leq (gvx rfl hg225) (gvx rfl hg225))) ?_
        refine s_rp (i := 15) rfl (by kernel_rfl) rfl (fun _ => (rd_and rfl (fun hc226 => (gvx rfl hc226)))) ?_
        refine s_rp (i := 16) rfl (by kernel_rfl) rfl (fun _ => (rd_move rfl)) ?_
        refine s_rpg (i := 17) rfl (by kernel_rfl) rfl rfl rfl rfl (gv_f _) (fun hg227 _ => (rd_move rfl)) ?_
        refine s_rpg (i := 18) rfl (by kernel_rfl) rfl rfl rfl rfl (gv_f _) (fun hg228 _ => (rd_move rfl)) ?_
        obtain ⟨x230, h231, q232⟩ := ob q222; clear q222
        refine s_rpg (i := 19) rfl (by kernel_rfl) rfl rfl rfl rfl (gv_f _) (fun hg229 _ => (rd_index tS26 (gvx rfl hg229) (gvx rfl hg229) (hm203.sl 0 rfl) (gO_t h231 hg229))) ?_
        refine s_rpg (i := 20) rfl (by kernel_rfl) rfl rfl rfl rfl (gv_f _) (fun hg233 _ => (rd_fld tF31_2 (gvx rfl hg233))) ?_
        refine s_rdg (i := 21) rfl (by kernel_rfl) rfl rfl rfl rfl (gv_f _) (fun hg234 => (fun _ hS => by rw [hS]; exact (rd_ld1 tO3 (gvx rfl hg234) ((hm203.sl 0 rfl).cells (gO_t h231 hg234)) (off := 2) rfl))) rfl ?_
        refine s_rpg (i := 22) rfl (by kernel_rfl) rfl rfl rfl rfl (gv_f _) (fun hg235 _ => (rd_lss (gvx rfl hg235) rfl)) ?_
        refine s_rp (i := 23) rfl (by kernel_rfl) rfl (fun _ => (rd_or rfl (fun hc236 => (gvx rfl (bnotIt hc236))))) ?_
        refine s_rp (i := 24) rfl (by kernel_rfl) rfl (fun _ => (rd_move rfl)) ?_
        refine s_rpg (i := 25) rfl (by kernel_rfl) rfl rfl rfl rfl (gv_f _) (fun hg237 _ => (rd_move rfl)) ?_
        refine s_rpg (i := 26) rfl (by kernel_rfl) rfl rfl rfl rfl (gv_f _) (fun hg238 _ => (rd_move rfl)) ?_
        obtain ⟨x240, h241, q242⟩ := ob q232; clear q232
        refine s_rpg (i := 27) rfl (by kernel_rfl) rfl rfl rfl rfl (gv_f _) (fun hg239 _ => (rd_index tS26 (gvx rfl hg239) (gvx rfl hg239) (hm203.sl 0 rfl) (gO_t h241 hg239))) ?_
        refine s_rpg (i := 28) rfl (by kernel_rfl) rfl rfl rfl rfl (gv_f _) (fun hg243 _ => (rd_fld tF31_2 (gvx rfl hg243))) ?_
        refine s_rdg (i := 29) rfl (by kernel_rfl) rfl rfl rfl rfl (gv_f _) (fun hg244 => (fun _ hS => by rw [hS]; exact (rd_ld1 tO3 (gvx rfl hg244) ((hm203.sl 0 rfl).cells (gO_t h241 hg244)) (off := 2) rfl))) rfl ?_
        refine s_rpg (i := 30) rfl (by kernel_rfl) rfl rfl rfl rfl (gv_f _) (fun hg245 _ => (rd_move rfl)) ?_
        refine s_rpg (i := 31) rfl (by kernel_rfl) rfl rfl rfl rfl (gv_f _) (fun hg246 _ => (rd_move rfl)) ?_
        obtain ⟨x248, h249, q250⟩ := ob q242; clear q242
        refine s_rpg (i := 32) rfl (by kernel_rfl) rfl rfl rfl rfl (gv_f _) (fun hg247 _ => (rd_index tS26 (gvx rfl hg247) (gvx rfl hg247) (hm203.sl 0 rfl) (gO_t h249 hg247))) ?_
        refine s_rpg (i := 33) rfl (by kernel_rfl) rfl rfl rfl rfl (gv_f _) (fun hg251 _ => (rd_fld tF31_1 (gvx rfl hg251))) ?_
        refine s_rdg (i := 34) rfl (by kernel_rfl) rfl rfl rfl rfl (gv_f _) (fun hg252 => (fun _ hS => by rw [hS]; exact (rd_ld1 tO3 (gvx rfl hg252) ((hm203.sl 0 rfl).cells (gO_t h249 hg252)) (off := 1) rfl))) rfl ?_
        refine s_rpg (i := 35) rfl (by kernel_rfl) rfl rfl rfl rfl (gv_f _) (fun hg253 _ => (rd_gtr (gvx rfl hg253) (gvx rfl hg253))) ?_
        refine s_rp (i := 36) rfl (by kernel_rfl) rfl (fun _ => (rd_or rfl (fun hc254 => (gvx rfl (bnotIt hc254))))) ?_
        refine s_nil (by kernel_rfl) ?_
        refine qn_then ?_
        obtain ⟨hb255, q256⟩ | ⟨hb255, q256⟩ := oi q250 <;> clear q250
        · refine cw_t rfl hb255 ?_
          refine cw_seq ?_
          refine cw_region ?_
          refine t_rd rfl (rd_assign rfl) ?_
          refine rwt_nil ?_
          refine qn_then ?_
          refine cw_ret ?_
          refine qr_then (qr_block (qr_then (qr_then ?_)))
          obtain rfl := hr192 _ (os q256)
          refine .inl (⟨_, rfl, ⟨rfl, ?_⟩⟩)
          exact ret1 rfl rfl ⟨rfl, (hm203.pick [] (by decide) rfl)⟩
        · refine cw_f rfl hb255 ?_
          refine cw_skip ?_
          refine qn_then ?_
          refine cw_seq ?_
          refine cw_region ?_
          refine t_rd rfl (rd_move rfl) ?_
          refine t_rd rfl (rd_move rfl) ?_
          refine t_rd rfl (rd_move rfl) ?_
          obtain ⟨x257, h258, q259⟩ := ob q256; clear q256
          refine t_rd rfl (rd_index tS26 rfl rfl (hm203.sl 0 rfl) h258) ?_
          refine t_rd rfl (rd_fld tF31_1 rfl) ?_
          refine t_rd rfl (rd_ld1 tO3 rfl ((hm203.sl 0 rfl).cells h258) (off := 1) rfl) ?_
          obtain ⟨x260, h261, q262⟩ := ob q259; clear q259
          refine t_rd rfl (rd_add64 h261 rfl rfl) ?_
          refine t_rd rfl (rd_assign rfl) ?_
          refine rwt_nil ?_
          refine qn_then ?_
          refine cw_region ?_
          refine t_rd rfl (rd_move rfl) ?_
          refine t_rd rfl (rd_move rfl) ?_
          refine t_rd rfl (rd_move rfl) ?_
          obtain ⟨x263, h264, q265⟩ := ob q262; clear q262
          refine t_rd rfl (rd_index tS26 rfl rfl (hm203.sl 0 rfl) h264) ?_
          refine t_rd rfl (rd_fld tF31_2 rfl) ?_
          refine t_rd rfl (rd_ld1 tO3 rfl ((hm203.sl 0 rfl).cells h264) (off := 2) rfl) ?_
          obtain ⟨x266, h267, q268⟩ := ob q265; clear q265
          refine t_rd rfl (rd_sub64 h267 rfl rfl) ?_
          refine t_rd rfl (rd_assign rfl) ?_
          refine rwt_nil ?_
          refine qn_block (qn_then ?_)
          refine cw_region ?_
          refine t_rd rfl (rd_move rfl) ?_
          obtain ⟨x269, h270, q271⟩ := ob q268; clear q268
          refine t_rd rfl (rd_add64 h270 rfl rfl) ?_
          refine t_rd rfl (rd_assign rfl) ?_
          refine rwt_nil ?_
          refine qn_then ?_
          refine ⟨_, (os q271), (by repeat (first | exact Sub.nil _ | refine Sub.cons rfl ?_)), (hm203.pick [0, 1] (by decide) rfl)⟩
      · refine cw_f rfl hb199 ?_
        refine cw_exit ?_
        refine qx_then (qx_then ?_)
        obtain rfl := hr192 _ (os q200)
        exact .inr (⟨_, rfl, ⟨rfl, (by repeat (first | exact Sub.nil _ | refine Sub.cons rfl ?_)), (hm198.pick [1] (by decide) rfl)⟩⟩)
    · skip
      intro e env272 w273 hX274
      rcases hX274 with hX274 | hX274
      · obtain ⟨p276, rfl, hX274⟩ := hX274
        obtain ⟨rfl, hq278⟩ := hX274
        exact qr_block (qr_then ((by have e := os q195; subst e; exact hq278)))
      · obtain ⟨p279, rfl, hX274⟩ := hX274
        obtain ⟨rfl, hs280, hm281⟩ := hX274
        refine qx_same (qn_then ?_)
        refine cw_sub hs280 ?_
        refine cw_seq ?_
        refine cw_region ?_
        refine t_rd rfl (rd_move rfl) ?_
        refine t_rd rfl (rd_move rfl) ?_
        refine t_rd rfl (rd_lenS tS22 rfl (hm281.sl 0 rfl)) ?_
        refine t_rd rfl (rd_eql rfl rfl) ?_
        refine t_rd rfl (rd_move rfl) ?_
        refine t_rdg rfl rfl rfl rfl (gv_t _) (fun hg282 => (rd_move rfl)) ?_
        refine t_rdg rfl rfl rfl rfl (gv_t _) (fun hg283 => (rd_eql (gvx rfl hg283) rfl)) ?_
        refine t_rd rfl (rd_and rfl (fun hc284 => (gvx rfl hc284))) ?_
        refine t_rd rfl (rd_move rfl) ?_
        obtain ⟨r286, h287, q288⟩ := ob q195; clear q195
        refine t_efg rfl rfl rfl rfl (R := (fun v w' => v = gV (decide (p279.2 = (List.length r8.2 : Int)) && decide (p279.1 = 0)) (Value.bool r286) ∧ Mem w273 No [] w')) (gv_t _) (fun hg285 => (ef_call tf10 rfl (law34_sane_ok (gO_t h287 hg285))).mono (by rintro _ _ ⟨rfl, q⟩; exact ⟨(gV_t hg285).symm, q⟩)) (fun q => ⟨(gV_f q).symm, Mem.nil _⟩) ?_
        rintro _ w290 ⟨rfl, hm289⟩
        have hm291 := hm281.call hm289
        refine t_rd rfl (rd_and rfl (fun hc292 => (gvx rfl hc292))) ?_
        refine t_rd rfl (rd_assign rfl) ?_
        refine rwt_nil ?_
        refine qn_then ?_
        refine cw_ret ?_
        obtain rfl := os q288
        exact ret1 rfl rfl ⟨rfl, (hm291.pick [] (by decide) rfl)⟩

theorem law34_SetoutBests_ok {N : Nat} {a0 : List Int} {res : Bool} (h : law34_SetoutBests N a0 = some res) {w : World} {v0 : Value} (hv0 : Sl (Old w No) w v0 a0) :
    CallsR Try.prog 6 [v0] w (fun u w' => u = (Value.bool res) ∧ Mem w No [] w') := by
  unfold law34_SetoutBests at h
  refine fn_ok Try.func6 rfl rfl rfl ?_
  have hm0 := Mem.nil w
  refine cw_seq ?_
  refine cw_region ?_
  refine t_rd rfl (rd_assign rfl) ?_
  refine rwt_nil ?_
  refine qn_then ?_
  refine cw_seq ?_
  refine cw_region ?_
  refine t_rd rfl (rd_move rfl) ?_
  obtain ⟨r1, h2, q3⟩ := ob h; clear h
  refine t_ef rfl (ef_call tf7 rfl (humpgen_New_ok h2 (hv0.to_call hm0))) ?_
  rintro _ w6 ⟨g4, e_, hm5⟩
  obtain rfl := e_.symm
  have hm7 := hm0.call hm5
  refine t_rd rfl (rd_assign rfl) ?_
  refine rwt_nil ?_
  refine qn_then ?_
  refine cw_seq ?_
  refine cw_region ?_
  refine t_rd rfl (rd_move rfl) ?_
  obtain ⟨r8, h9, q10⟩ := ob q3; clear q3
  refine t_ef rfl (ef_call tf8 rfl (law34_train_ok h9 (hv0.to_callT (k := 0) hm7 rfl) (hm7.get (k := 0) rfl))) ?_
  rintro _ w13 ⟨v11, e_, hm12⟩
  obtain rfl := e_.symm
  have hm14 := hm7.callT (k := 0) rfl (fun _ h => h) hm12 (fun _ => Iff.rfl)
  refine t_rd rfl (rd_assign rfl) ?_
  refine rwt_nil ?_
  refine qn_then ?_
  refine cw_seq ?_
  refine cw_region ?_
  refine t_rd rfl (rd_move rfl) ?_
  obtain ⟨r15, h16, q17⟩ := ob q10; clear q10
  refine t_ef rfl (ef_call tf14 rfl (setout_Best_ok h16 (hm14.sl_call 0 rfl))) ?_
  rintro _ w20 ⟨v18, e_, hm19⟩
  obtain rfl := e_.symm
  have hm21 := hm14.call hm19
  refine t_rd rfl (rd_move rfl) ?_
  refine t_rd rfl (rd_extract rfl rfl) ?_
  refine t_rd rfl (rd_extract rfl rfl) ?_
  refine t_rd rfl (rd_assign rfl) ?_
  refine t_rd rfl (rd_assign rfl) ?_
  refine rwt_nil ?_
  refine qn_then ?_
  refine cw_seq ?_
  refine cw_seq ?_
  refine cw_region ?_
  refine t_rd rfl (rd_move rfl) ?_
  refine t_rd rfl (rd_neq rfl rfl) ?_
  refine t_rd rfl (rd_move rfl) ?_
  refine t_rdg rfl rfl rfl rfl (gv_f _) (fun hg22 => (rd_move rfl)) ?_
  refine t_rdg rfl rfl rfl rfl (gv_f _) (fun hg23 => (rd_lenS tS22 (gvx rfl hg23) (hm21.sl 0 rfl))) ?_
  refine t_rdg rfl rfl rfl rfl (gv_f _) (fun hg24 => (rd_move rfl)) ?_
  refine t_rdg rfl rfl rfl rfl (gv_f _) (fun hg25 => (rd_lenS tS22 (gvx rfl hg25) (hm21.sl 1 rfl))) ?_
  refine t_rdg rfl rfl rfl rfl (gv_f _) (fun hg26 => (rd_neq (gvx rfl hg26) (gvx rfl hg26))) ?_
  refine t_rd rfl (rd_or rfl (fun hc27 => (gvx rfl (bnotIt hc27)))) ?_
  refine rwt_nil ?_
  refine qn_then ?_
  obtain ⟨hb28, q29⟩ | ⟨hb28, q29⟩ := oi q17 <;> clear q17
  · refine cw_t rfl hb28 ?_
    refine cw_seq ?_
    refine cw_region ?_
    refine t_rd rfl (rd_assign rfl) ?_
    refine rwt_nil ?_
    refine qn_then ?_
    refine cw_ret ?_
    refine qr_then ?_
    obtain rfl := os q29
    exact ret1 rfl rfl ⟨rfl, (hm21.pick [] (by decide) rfl)⟩
  · refine cw_f rfl hb28 ?_
    refine cw_skip ?_
    refine qn_then ?_
    refine cw_seq ?_
    refine cw_region ?_
    refine t_rd rfl (rd_assign rfl) ?_
    refine rwt_nil ?_
    refine qn_then ?_
    refine cw_seq ?_
    refine cw_region ?_
    refine t_rd rfl (rd_move rfl) ?_
    refine t_rd rfl (rd_lenS tS22 rfl (hm21.sl 1 rfl)) ?_
    obtain ⟨l30, h31, q32⟩ := ob q29; clear q29
    refine t_ef rfl (ef_make hm21 tS41 tE4 rfl rfl rfl h31) ?_
    intro v33 w35 hm34
    refine t_rd rfl (rd_assign rfl) ?_
    refine rwt_nil ?_
    refine qn_then ?_
    refine cw_seq ?_
    refine cw_seq ?_
    refine cw_region ?_
    refine t_rd rfl (rd_assign rfl) ?_
    refine rwt_nil ?_
    refine qn_then ?_
    refine cw_block ?_
    have hm158 := hm34.addNil (α := Int) 3
    obtain ⟨r419, hit420, q421⟩ := ob q32; clear q32
    refine cw_loop2 (I := fun q envq wq => ∃ (v412 : Value), Sub [(4, v11), (5, v18), (7, v412), (8, v33), (9, (Value.int .i64 q.1))] envq ∧ Mem w No [ownL 3 v412 (q.2.2 : List Int), ownL 4 v33 (q.2.1 : List Bool), ownL 3 v18 (r15.1 : List Int), ownL 3 v11 (r8.2 : List Int)] wq) (X := fun eq envq wq => (∃ p422, r419 = (Sum.inl p422) ∧ eq = .ret ∧ retQ Try.prog 182 Try.f6 (fun u w' => u = (Value.bool p422) ∧ Mem w No [] w') .ret envq wq) ∨ (∃ p423, r419 = (Sum.inr p423) ∧ eq = .exit 0 ∧ ∃ (v408 : Value), Sub [(4, v11), (7, v408)] envq ∧ Mem w No [ownL 3 v408 (p423 : List Int), ownL 3 v11 (r8.2 : List Int)] wq)) hit420 ⟨(Value.slice none 0 0), (by repeat (first | exact Sub.nil _ | refine Sub.cons rfl ?_)), (hm158.pick [0, 1, 2, 3] (by decide) rfl)⟩ ?_ ?_
    · rintro ⟨i409, l410, l411⟩ x414 env415 w416 hf417 hr418 ⟨v412, hs_, hm_⟩
      have hs_ : Sub [(4, v11), (5, v18), (7, v412), (8, v33), (9, (Value.int .i64 i409))] env415 := hs_
      have hm424 : Mem w No [ownL 3 v412 (l411 : List Int), ownL 4 v33 (l410 : List Bool), ownL 3 v18 (r15.1 : List Int), ownL 3 v11 (r8.2 : List Int)] w416 := hm_
      refine cw_sub hs_ ?_
      clear hs_ hm_ q421
      have h : law34_SetoutBests_l1 N r8 r15 i409 l410 l411 = some x414 := hf417
      clear hf417
      refine cw_seq ?_
      refine cw_seq ?_
      refine cw_region ?_
      refine t_rd rfl (rd_move rfl) ?_
      refine t_rd rfl (rd_move rfl) ?_
      refine t_rd rfl (rd_lenS tS22 rfl (hm424.sl 2 rfl)) ?_
      refine t_rd rfl (rd_lss rfl rfl) ?_
      refine rwt_nil ?_
      refine qn_then ?_
      obtain ⟨hb425, q426⟩ | ⟨hb425, q426⟩ := oi h <;> clear h
      · refine cw_t rfl hb425 ?_
        refine cw_skip ?_
        refine qn_then ?_
        refine cw_seq ?_
        refine cw_block ?_
        refine cw_seq ?_
        refine cw_seq ?_
        obtain ⟨w428, he430⟩ : ∃ q, q = w416.drew := ⟨_, rfl⟩
        have hm429 := hm424.drew; rw [← he430] at hm429
        refine cw_region_s (fun q => q = w428) (cls [] []) mixed ?_
        rintro _ rfl; rw [← he430]
        refine s_rp (i := 0) rfl (by kernel_rfl) rfl (fun _ => (rd_move rfl)) ?_
        refine s_rp (i := 1) rfl (by kernel_rfl) rfl (fun _ => (rd_move rfl)) ?_
        obtain ⟨x431, h432, q433⟩ := ob q426; clear q426
        refine s_rp (i := 2) rfl (by kernel_rfl) rfl (fun _ => (rd_index tS22 rfl rfl (hm429.sl 2 rfl) h432)) ?_
        refine s_rd (i := 3) rfl (by kernel_rfl) rfl (fun _ hS => by rw [hS]; exact (rd_ld1 tO3 rfl ((hm429.sl 2 rfl).cells h432) (off := 0) rfl)) rfl ?_
        refine s_rp (i := 4) rfl (by kernel_rfl) rfl (fun _ => (rd_lss rfl rfl)) ?_
        refine s_rp (i := 5) rfl (by kernel_rfl) rfl (fun _ => (rd_move rfl)) ?_
        refine s_rpg (i := 6) rfl (by kernel_rfl) rfl rfl rfl rfl (gv_f _) (fun hg434 _ => (rd_move rfl)) ?_
        refine s_rpg (i := 7) rfl (by kernel_rfl) rfl rfl rfl rfl (gv_f _) (fun hg435 _ => (rd_move rfl)) ?_
        obtain ⟨x437, h438, q439⟩ := ob q433; clear q433
        refine s_rpg (i := 8) rfl (by kernel_rfl) rfl rfl rfl rfl (gv_f _) (fun hg436 _ => (rd_index tS22 (gvx rfl hg436) (gvx rfl hg436) (hm429.sl 2 rfl) (gO_t h438 hg436))) ?_
        refine s_rdg (i := 9) rfl (by kernel_rfl) rfl rfl rfl rfl (gv_f _) (fun hg440 => (fun _ hS => by rw [hS]; exact (rd_ld1 tO3 (gvx rfl hg440) ((hm429.sl 2 rfl).cells (gO_t h438 hg440)) (off := 0) rfl))) rfl ?_
        refine s_rpg (i := 10) rfl (by kernel_rfl) rfl rfl rfl rfl (gv_f _) (fun hg441 _ => (rd_move rfl)) ?_
        refine s_rpg (i := 11) rfl (by kernel_rfl) rfl rfl rfl rfl (gv_f _) (fun hg442 _ => (rd_lenS tS22 (gvx rfl hg442) (hm429.sl 3 rfl))) ?_
        refine s_rpg (i := 12) rfl (by kernel_rfl) rfl rfl rfl rfl (gv_f _) (fun hg443 _ => (rd_geq (gvx rfl hg443) (gvx rfl hg443))) ?_
        refine s_rp (i := 13) rfl (by kernel_rfl) rfl (fun _ => (rd_or rfl (fun hc444 => (gvx rfl (bnotIt hc444))))) ?_
        refine s_rp (i := 14) rfl (by kernel_rfl) rfl (fun _ => (rd_move rfl)) ?_
        refine s_rpg (i := 15) rfl (by kernel_rfl) rfl rfl rfl rfl (gv_f _) (fun hg445 _ => (rd_move rfl)) ?_
        refine s_rpg (i := 16) rfl (by kernel_rfl) rfl rfl rfl rfl (gv_f _) (fun hg446 _ => (rd_move rfl)) ?_
        refine s_rpg (i := 17) rfl (by kernel_rfl) rfl rfl rfl rfl (gv_f _) (fun hg447 _ => (rd_move rfl)) ?_
        obtain ⟨x449, h450, q451⟩ := ob q439; clear q439
        refine s_rpg (i := 18) rfl (by kernel_rfl) rfl rfl rfl rfl (gv_f _) (fun hg448 _ => (rd_index tS22 (gvx rfl hg448) (gvx rfl hg448) (hm429.sl 2 rfl) (gO_t h450 hg448))) ?_
        refine s_rdg (i := 19) rfl (by kernel_rfl) rfl rfl rfl rfl (gv_f _) (fun hg452 => (fun _ hS => by rw [hS]; exact (rd_ld1 tO3 (gvx rfl hg452) ((hm429.sl 2 rfl).cells (gO_t h450 hg452)) (off := 0) rfl))) rfl ?_
        obtain ⟨x454, h455, q456⟩ := ob q451; clear q451
        refine s_rpg (i := 20) rfl (by kernel_rfl) rfl rfl rfl rfl (gv_f _) (fun hg453 _ => (rd_index tS41 (gvx rfl hg453) (gvx rfl hg453) (hm429.sl 1 rfl) (gO_t h455 hg453))) ?_
        refine s_rdg (i := 21) rfl (by kernel_rfl) rfl rfl rfl rfl (gv_f _) (fun hg457 => (fun _ hS => by rw [hS]; exact (rd_ld1 tO4 (gvx rfl hg457) ((hm429.sl 1 rfl).cells (gO_t h455 hg457)) (off := 0) rfl))) rfl ?_
        refine s_rp (i := 22) rfl (by kernel_rfl) rfl (fun _ => (rd_or rfl (fun hc458 => (gvx rfl (bnotIt hc458))))) ?_
        refine s_rp (i := 23) rfl (by kernel_rfl) rfl (fun _ => (rd_move rfl)) ?_
        refine s_rpg (i := 24) rfl (by kernel_rfl) rfl rfl rfl rfl (gv_f _) (fun hg459 _ => (rd_move rfl)) ?_
        refine s_rpg (i := 25) rfl (by kernel_rfl) rfl rfl rfl rfl (gv_f _) (fun hg460 _ => (rd_gtr (gvx rfl hg460) rfl)) ?_
        refine s_rpg (i := 26) rfl (by kernel_rfl) rfl rfl rfl rfl (gv_f _) (fun hg461 _ => (rd_move (gvx rfl hg461))) ?_
        refine s_rpg (i := 27) rfl (by kernel_rfl) rfl rfl rfl rfl (gv_nt _ _) (fun hg462 _ => (rd_move rfl)) ?_
        refine s_rpg (i := 28) rfl (by kernel_rfl) rfl rfl rfl rfl (gv_nt _ _) (fun hg463 _ => (rd_move rfl)) ?_
        refine s_rpg (i := 29) rfl (by kernel_rfl) rfl rfl rfl rfl (gv_nt _ _) (fun hg464 _ => (rd_move rfl)) ?_
        obtain ⟨x466, h467, q468⟩ := ob q456; clear q456
        refine s_rpg (i := 30) rfl (by kernel_rfl) rfl rfl rfl rfl (gv_nt _ _) (fun hg465 _ => (rd_index tS22 (gvx rfl hg465) (gvx rfl hg465) (hm429.sl 2 rfl) (gO_t h467 hg465))) ?_
        refine s_rdg (i := 31) rfl (by kernel_rfl) rfl rfl rfl rfl (gv_nt _ _) (fun hg469 => (fun _ hS => by rw [hS]; exact (rd_ld1 tO3 (gvx rfl hg469) ((hm429.sl 2 rfl).cells (gO_t h467 hg469)) (off := 0) rfl))) rfl ?_
        obtain ⟨x471, h472, q473⟩ := ob q468; clear q468
        refine s_rpg (i := 32) rfl (by kernel_rfl) rfl rfl rfl rfl (gv_nt _ _) (fun hg470 _ => (rd_index tS22 (gvx rfl hg470) (gvx rfl hg470) (hm429.sl 3 rfl) (gO_t h472 hg470))) ?_
        refine s_rdg (i := 33) rfl (by kernel_rfl) rfl rfl rfl rfl (gv_nt _ _) (fun hg474 => (fun _ hS => by rw [hS]; exact (rd_ld1 tO3 (gvx rfl hg474) ((hm429.sl 3 rfl).cells (gO_t h472 hg474)) (off := 0) rfl))) rfl ?_
        refine s_rpg (i := 34) rfl (by kernel_rfl) rfl rfl rfl rfl (gv_nt _ _) (fun hg475 _ => (rd_move rfl)) ?_
        refine s_rpg (i := 35) rfl (by kernel_rfl) rfl rfl rfl rfl (gv_nt _ _) (fun hg476 _ => (rd_move rfl)) ?_
        refine s_rpg (i := 36) rfl (by kernel_rfl) rfl rfl rfl rfl (gv_nt _ _) (fun hg477 _ => (rd_move rfl)) ?_
        obtain ⟨x479, h480, q481⟩ := ob q473; clear q473
        refine s_rpg (i := 37) rfl (by kernel_rfl) rfl rfl rfl rfl (gv_nt _ _) (fun hg478 _ => (rd_sub64 (gO_t h480 hg478) (gvx rfl hg478) rfl)) ?_
        obtain ⟨x483, h484, q485⟩ := ob q481; clear q481
        refine s_rpg (i := 38) rfl (by kernel_rfl) rfl rfl rfl rfl (gv_nt _ _) (fun hg482 _ => (rd_index tS22 (gvx rfl hg482) (gvx rfl hg482) (hm429.sl 2 rfl) (gO_t h484 hg482))) ?_
        refine s_rdg (i := 39) rfl (by kernel_rfl) rfl rfl rfl rfl (gv_nt _ _) (fun hg486 => (fun _ hS => by rw [hS]; exact (rd_ld1 tO3 (gvx rfl hg486) ((hm429.sl 2 rfl).cells (gO_t h484 hg486)) (off := 0) rfl))) rfl ?_
        obtain ⟨x488, h489, q490⟩ := ob q485; clear q485
        refine s_rpg (i := 40) rfl (by kernel_rfl) rfl rfl rfl rfl (gv_nt _ _) (fun hg487 _ => (rd_index tS22 (gvx rfl hg487) (gvx rfl hg487) (hm429.sl 3 rfl) (gO_t h489 hg487))) ?_
        refine s_rdg (i := 41) rfl (by kernel_rfl) rfl rfl rfl rfl (gv_nt _ _) (fun hg491 => (fun _ hS => by rw [hS]; exact (rd_ld1 tO3 (gvx rfl hg491) ((hm429.sl 3 rfl).cells (gO_t h489 hg491)) (off := 0) rfl))) rfl ?_
        refine s_rpg (i := 42) rfl (by kernel_rfl) rfl rfl rfl rfl (gv_nt _ _) (fun hg492 _ => (rd_eql (gvx rfl hg492) (gvx rfl hg492))) ?_
        refine s_rpg (i := 43) rfl (by kernel_rfl) rfl rfl rfl rfl (gv_f _) (fun hg493 _ => (rd_and (gvx rfl hg493) (fun hc494 => (gvx rfl (band hg493 hc494))))) ?_
        refine s_rpg (i := 44) rfl (by kernel_rfl) rfl rfl rfl rfl (gv_f _) (fun hg495 _ => (rd_move (gvx rfl hg495))) ?_
        refine s_rpg (i := 45) rfl (by kernel_rfl) rfl rfl rfl rfl (gv_nt _ _) (fun hg496 _ => (rd_move rfl)) ?_
        refine s_rpg (i := 46) rfl (by kernel_rfl) rfl rfl rfl rfl (gv_nt _ _) (fun hg497 _ => (rd_move rfl)) ?_
        obtain ⟨x499, h500, q501⟩ := ob q490; clear q490
        refine s_rpg (i := 47) rfl (by kernel_rfl) rfl rfl rfl rfl (gv_nt _ _) (fun hg498 _ => (rd_index tS22 (gvx rfl hg498) (gvx rfl hg498) (hm429.sl 2 rfl) (gO_t h500 hg498))) ?_
        refine s_rdg (i := 48) rfl (by kernel_rfl) rfl rfl rfl rfl (gv_nt _ _) (fun hg502 => (fun _ hS => by rw [hS]; exact (rd_ld1 tO3 (gvx rfl hg502) ((hm429.sl 2 rfl).cells (gO_t h500 hg502)) (off := 0) rfl))) rfl ?_
        refine s_rpg (i := 49) rfl (by kernel_rfl) rfl rfl rfl rfl (gv_nt _ _) (fun hg503 _ => (rd_move rfl)) ?_
        refine s_rpg (i := 50) rfl (by kernel_rfl) rfl rfl rfl rfl (gv_nt _ _) (fun hg504 _ => (rd_move rfl)) ?_
        obtain ⟨x506, h507, q508⟩ := ob q501; clear q501
        refine s_rpg (i := 51) rfl (by kernel_rfl) rfl rfl rfl rfl (gv_nt _ _) (fun hg505 _ => (rd_sub64 (gO_t h507 hg505) (gvx rfl hg505) rfl)) ?_
        obtain ⟨x510, h511, q512⟩ := ob q508; clear q508
        refine s_rpg (i := 52) rfl (by kernel_rfl) rfl rfl rfl rfl (gv_nt _ _) (fun hg509 _ => (rd_index tS22 (gvx rfl hg509) (gvx rfl hg509) (hm429.sl 2 rfl) (gO_t h511 hg509))) ?_
        refine s_rdg (i := 53) rfl (by kernel_rfl) rfl rfl rfl rfl (gv_nt _ _) (fun hg513 => (fun _ hS => by rw [hS]; exact (rd_ld1 tO3 (gvx rfl hg513) ((hm429.sl 2 rfl).cells (gO_t h511 hg513)) (off := 0) rfl))) rfl ?_
        refine s_rpg (i := 54) rfl (by kernel_rfl) rfl rfl rfl rfl (gv_nt _ _) (fun hg514 _ => (rd_lss (gvx rfl hg514) (gvx rfl hg514))) ?_
        refine s_rpg (i := 55) rfl (by kernel_rfl) rfl rfl rfl rfl (gv_f _) (fun hg515 _ => (rd_and (gvx rfl hg515) (fun hc516 => (gvx rfl (band hg515 hc516))))) ?_
        refine s_rp (i := 56) rfl (by kernel_rfl) rfl (fun _ => (rd_or rfl (fun hc517 => (gvx rfl (bnotIt hc517))))) ?_
        refine s_nil (by kernel_rfl) ?_
        refine qn_then ?_
        obtain ⟨hb518, q519⟩ | ⟨hb518, q519⟩ := oi q512 <;> clear q512
        · refine cw_t rfl hb518 ?_
          refine cw_seq ?_
          refine cw_region ?_
          refine t_rd rfl (rd_assign rfl) ?_
          refine rwt_nil ?_
          refine qn_then ?_
          refine cw_ret ?_
          refine qr_then (qr_block (qr_then (qr_then ?_)))
          obtain rfl := hr418 _ (os q519)
          refine .inl (⟨_, rfl, ⟨rfl, ?_⟩⟩)
          exact ret1 rfl rfl ⟨rfl, (hm429.pick [] (by decide) rfl)⟩
        · refine cw_f rfl hb518 ?_
          refine cw_skip ?_
          refine qn_then ?_
          refine cw_seq ?_
          refine cw_region ?_
          refine t_rd rfl (rd_move rfl) ?_
          refine t_rd rfl (rd_move rfl) ?_
          refine t_rd rfl (rd_move rfl) ?_
          obtain ⟨x520, h521, q522⟩ := ob q519; clear q519
          refine t_rd rfl (rd_index tS22 rfl rfl (hm429.sl 2 rfl) h521) ?_
          refine t_rd rfl (rd_ld1 tO3 rfl ((hm429.sl 2 rfl).cells h521) (off := 0) rfl) ?_
          obtain ⟨x523, h524, q525⟩ := ob q522; clear q522
          refine t_rd rfl (rd_index tS41 rfl rfl (hm429.sl 1 rfl) h524) ?_
          refine t_ef0 (ef_stl (k := 1) (off := 0) (x' := true) hm429 tO4 rfl rfl rfl rfl h524 rfl rfl) ?_
          intro _ w527 hm526
          refine rwt_nil ?_
          refine qn_then ?_
          refine cw_region ?_
          refine t_rd rfl (rd_move rfl) ?_
          refine t_rd rfl (rd_move rfl) ?_
          refine t_rd rfl (rd_move rfl) ?_
          refine t_rd rfl (rd_move rfl) ?_
          obtain ⟨x528, h529, q530⟩ := ob q525; clear q525
          refine t_rd rfl (rd_index tS22 rfl rfl (hm526.sl 2 rfl) h529) ?_
          refine t_rd rfl (rd_ld1 tO3 rfl ((hm526.sl 2 rfl).cells h529) (off := 0) rfl) ?_
          obtain ⟨x531, h532, q533⟩ := ob q530; clear q530
          refine t_rd rfl (rd_index tS22 rfl rfl (hm526.sl 3 rfl) h532) ?_
          refine t_rd rfl (rd_ld1 tO3 rfl ((hm526.sl 3 rfl).cells h532) (off := 0) rfl) ?_
          refine t_ef rfl (ef_bslice (l := ([x531] : List Int)) hm526 tS22 rfl (cs := #[(Value.int .i64 x531)]) (by unfold bsl; kernel_rfl) rfl rfl) ?_
          intro v534 w536 hm535
          obtain ⟨l537, h538, q539⟩ := ob q533; clear q533
          refine t_ef rfl (ef_append (k := 1) hm535 tS22 tE3 rfl rfl rfl rfl (hm535.sl 0 rfl) h538) ?_
          intro v540 w542 hm541
          refine t_rd rfl (rd_assign rfl) ?_
          refine rwt_nil ?_
          refine qn_block (qn_then ?_)
          refine cw_region ?_
          refine t_rd rfl (rd_move rfl) ?_
          obtain ⟨x543, h544, q545⟩ := ob q539; clear q539
          refine t_rd rfl (rd_add64 h544 rfl rfl) ?_
          refine t_rd rfl (rd_assign rfl) ?_
          refine rwt_nil ?_
          refine qn_then ?_
          refine ⟨_, (os q545), v540, (by repeat (first | exact Sub.nil _ | refine Sub.cons rfl ?_)), (hm541.pick [1, 2, 3, 4] (by decide) rfl)⟩
      · refine cw_f rfl hb425 ?_
        refine cw_exit ?_
        refine qx_then (qx_then ?_)
        obtain rfl := hr418 _ (os q426)
        exact .inr (⟨_, rfl, ⟨rfl, v412, (by repeat (first | exact Sub.nil _ | refine Sub.cons rfl ?_)), (hm424.pick [0, 3] (by decide) rfl)⟩⟩)
    · skip
      intro e env546 w547 hX548
      rcases hX548 with hX548 | hX548
      · obtain ⟨p550, rfl, hX548⟩ := hX548
        obtain ⟨rfl, hq552⟩ := hX548
        exact qr_block (qr_then ((by have e := os q421; subst e; exact hq552)))
      · obtain ⟨p553, rfl, hX548⟩ := hX548
        obtain ⟨rfl, v408, hs554, hm555⟩ := hX548
        refine qx_same (qn_then ?_)
        refine cw_sub hs554 ?_
        refine cw_seq ?_
        refine cw_region ?_
        refine t_rd rfl (rd_move rfl) ?_
        obtain ⟨r556, h557, q558⟩ := ob q421; clear q421
        refine t_ef rfl (ef_call tf9 rfl (setout_Plan_ok h557 (hm555.sl_call 0 rfl))) ?_
        rintro _ w561 ⟨v559, e_, hm560⟩
        obtain rfl := e_.symm
        have hm562 := hm555.call hm560
        refine t_rd rfl (rd_move rfl) ?_
        refine t_rd rfl (rd_extract rfl rfl) ?_
        refine t_rd rfl (rd_extract rfl rfl) ?_
        refine t_rd rfl (rd_assign rfl) ?_
        refine t_rd rfl (rd_assign rfl) ?_
        refine rwt_nil ?_
        refine qn_then ?_
        refine cw_seq ?_
        refine cw_region ?_
        refine t_rd rfl (rd_move rfl) ?_
        obtain ⟨r563, h564, q565⟩ := ob q558; clear q558
        refine t_ef rfl (ef_call tf13 rfl (setout_Groups_ok h564 (hm562.sl_call 1 rfl))) ?_
        rintro _ w567 ⟨e_, hm566⟩
        obtain rfl := e_.symm
        have hm568 := hm562.call hm566
        refine t_rd rfl (rd_move rfl) ?_
        refine t_rd rfl (rd_extract rfl rfl) ?_
        refine t_rd rfl (rd_extract rfl rfl) ?_
        refine t_rd rfl (rd_assign rfl) ?_
        refine t_rd rfl (rd_assign rfl) ?_
        refine rwt_nil ?_
        refine qn_then ?_
        refine cw_seq ?_
        refine cw_region ?_
        refine t_rd rfl (rd_move rfl) ?_
        obtain ⟨r569, h570, q571⟩ := ob q565; clear q565
        refine t_ef rfl (ef_call tf13 rfl (setout_Groups_ok h570 (hm568.sl_call 2 rfl))) ?_
        rintro _ w573 ⟨e_, hm572⟩
        obtain rfl := e_.symm
        have hm574 := hm568.call hm572
        refine t_rd rfl (rd_move rfl) ?_
        refine t_rd rfl (rd_extract rfl rfl) ?_
        refine t_rd rfl (rd_extract rfl rfl) ?_
        refine t_rd rfl (rd_assign rfl) ?_
        refine t_rd rfl (rd_assign rfl) ?_
        refine rwt_nil ?_
        refine qn_then ?_
        refine cw_seq ?_
        refine cw_seq ?_
        refine cw_region ?_
        refine t_rd rfl (rd_move rfl) ?_
        refine t_rd rfl (rd_neq rfl rfl) ?_
        refine t_rd rfl (rd_move rfl) ?_
        refine t_rdg rfl rfl rfl rfl (gv_f _) (fun hg575 => (rd_move rfl)) ?_
        refine t_rdg rfl rfl rfl rfl (gv_f _) (fun hg576 => (rd_neq (gvx rfl hg576) rfl)) ?_
        refine t_rd rfl (rd_or rfl (fun hc577 => (gvx rfl (bnotIt hc577)))) ?_
        refine t_rd rfl (rd_move rfl) ?_
        refine t_rdg rfl rfl rfl rfl (gv_f _) (fun hg578 => (rd_move rfl)) ?_
        refine t_rdg rfl rfl rfl rfl (gv_f _) (fun hg579 => (rd_neq (gvx rfl hg579) rfl)) ?_
        refine t_rd rfl (rd_or rfl (fun hc580 => (gvx rfl (bnotIt hc580)))) ?_
        refine t_rd rfl (rd_move rfl) ?_
        refine t_rdg rfl rfl rfl rfl (gv_f _) (fun hg581 => (rd_move rfl)) ?_
        refine t_rdg rfl rfl rfl rfl (gv_f _) (fun hg582 => (rd_move rfl)) ?_
        refine t_rdg rfl rfl rfl rfl (gv_f _) (fun hg583 => (rd_lenS tS26 (gvx rfl hg583) (hm574.sl 0 rfl))) ?_
        refine t_rdg rfl rfl rfl rfl (gv_f _) (fun hg584 => (rd_neq (gvx rfl hg584) (gvx rfl hg584))) ?_
        refine t_rd rfl (rd_or rfl (fun hc585 => (gvx rfl (bnotIt hc585)))) ?_
        refine t_rd rfl (rd_move rfl) ?_
        refine t_rdg rfl rfl rfl rfl (gv_f _) (fun hg586 => (rd_move rfl)) ?_
        refine t_rdg rfl rfl rfl rfl (gv_f _) (fun hg587 => (rd_move rfl)) ?_
        refine t_rdg rfl rfl rfl rfl (gv_f _) (fun hg588 => (rd_gtr (gvx rfl hg588) (gvx rfl hg588))) ?_
        refine t_rd rfl (rd_or rfl (fun hc589 => (gvx rfl (bnotIt hc589)))) ?_
        refine rwt_nil ?_
        refine qn_then ?_
        obtain ⟨hb590, q591⟩ | ⟨hb590, q591⟩ := oi q571 <;> clear q571
        · refine cw_t rfl hb590 ?_
          refine cw_seq ?_
          refine cw_region ?_
          refine t_rd rfl (rd_assign rfl) ?_
          refine rwt_nil ?_
          refine qn_then ?_
          refine cw_ret ?_
          refine qr_then ?_
          obtain rfl := os q591
          exact ret1 rfl rfl ⟨rfl, (hm574.pick [] (by decide) rfl)⟩
        · refine cw_f rfl hb590 ?_
          refine cw_skip ?_
          refine qn_then ?_
          refine cw_seq ?_
          refine cw_region ?_
          refine t_rd rfl (rd_move rfl) ?_
          obtain ⟨r592, h593, q594⟩ := ob q591; clear q591
          refine t_ef rfl (ef_call tf14 rfl (setout_Best_ok h593 (hm574.sl_call 1 rfl))) ?_
          rintro _ w597 ⟨v595, e_, hm596⟩
          obtain rfl := e_.symm
          have hm598 := hm574.call hm596
          refine t_rd rfl (rd_move rfl) ?_
          refine t_rd rfl (rd_extract rfl rfl) ?_
          refine t_rd rfl (rd_extract rfl rfl) ?_
          refine t_rd rfl (rd_assign rfl) ?_
          refine t_rd rfl (rd_assign rfl) ?_
          refine rwt_nil ?_
          refine qn_then ?_
          refine cw_seq ?_
          refine cw_seq ?_
          refine cw_region ?_
          refine t_rd rfl (rd_assign rfl) ?_
          refine rwt_nil ?_
          refine qn_then ?_
          refine cw_block ?_
          obtain ⟨r627, hit628, q629⟩ := ob q594; clear q594
          refine cw_loop2 (I := fun q envq wq => Sub [(4, v11), (12, (Value.int .i64 r592.2)), (15, v595), (16, (Value.int .i64 q))] envq ∧ Mem w No [ownL 3 v595 (r592.1 : List Int), ownL 3 v11 (r8.2 : List Int)] wq) (X := fun eq envq wq => (∃ p630, r627 = (Sum.inl p630) ∧ eq = .ret ∧ retQ Try.prog 182 Try.f6 (fun u w' => u = (Value.bool p630) ∧ Mem w No [] w') .ret envq wq) ∨ (∃ p631, r627 = (Sum.inr p631) ∧ eq = .exit 2 ∧ Sub [(4, v11), (12, (Value.int .i64 r592.2)), (15, v595)] envq ∧ Mem w No [ownL 3 v595 (r592.1 : List Int), ownL 3 v11 (r8.2 : List Int)] wq)) hit628 ⟨(by repeat (first | exact Sub.nil _ | refine Sub.cons rfl ?_)), (hm598.pick [0, 3] (by decide) rfl)⟩ ?_ ?_
          · rintro i620 x622 env623 w624 hf625 hr626 ⟨hs_, hm_⟩
            have hs_ : Sub [(4, v11), (12, (Value.int .i64 r592.2)), (15, v595), (16, (Value.int .i64 i620))] env623 := hs_
            have hm632 : Mem w No [ownL 3 v595 (r592.1 : List Int), ownL 3 v11 (r8.2 : List Int)] w624 := hm_
            refine cw_sub hs_ ?_
            clear hs_ hm_ q629
            have h : law34_SetoutBests_l2 N r592 i620 = some x622 := hf625
            clear hf625
            refine cw_seq ?_
            refine cw_seq ?_
            refine cw_region ?_
            refine t_rd rfl (rd_move rfl) ?_
            refine t_rd rfl (rd_move rfl) ?_
            refine t_rd rfl (rd_lenS tS22 rfl (hm632.sl 0 rfl)) ?_
            refine t_rd rfl (rd_lss rfl rfl) ?_
            refine rwt_nil ?_
            refine qn_then ?_
            obtain ⟨hb633, q634⟩ | ⟨hb633, q634⟩ := oi h <;> clear h
            · refine cw_t rfl hb633 ?_
              refine cw_skip ?_
              refine qn_then ?_
              refine cw_seq ?_
              refine cw_block ?_
              refine cw_seq ?_
              refine cw_region ?_
              refine t_rd rfl (rd_move rfl) ?_
              refine t_rd rfl (rd_move rfl) ?_
              obtain ⟨x635, h636, q637⟩ := ob q634; clear q634
              refine t_rd rfl (rd_index tS22 rfl rfl (hm632.sl 0 rfl) h636) ?_
              refine t_rd rfl (rd_ld1 tO3 rfl ((hm632.sl 0 rfl).cells h636) (off := 0) rfl) ?_
              refine t_rd rfl (rd_move rfl) ?_
              refine t_rd rfl (rd_neq rfl rfl) ?_
              refine rwt_nil ?_
              refine qn_then ?_
              obtain ⟨hb638, q639⟩ | ⟨hb638, q639⟩ := oi q637 <;> clear q637
              · refine cw_t rfl hb638 ?_
                refine cw_seq ?_
                refine cw_region ?_
                refine t_rd rfl (rd_assign rfl) ?_
                refine rwt_nil ?_
                refine qn_then ?_
                refine cw_ret ?_
                refine qr_block (qr_then (qr_then ?_))
                obtain rfl := hr626 _ (os q639)
                refine .inl (⟨_, rfl, ⟨rfl, ?_⟩⟩)
                exact ret1 rfl rfl ⟨rfl, (hm632.pick [] (by decide) rfl)⟩
              · refine cw_f rfl hb638 ?_
                refine cw_skip ?_
                refine qn_block (qn_then ?_)
                refine cw_region ?_
                refine t_rd rfl (rd_move rfl) ?_
                obtain ⟨x640, h641, q642⟩ := ob q639; clear q639
                refine t_rd rfl (rd_add64 h641 rfl rfl) ?_
                refine t_rd rfl (rd_assign rfl) ?_
                refine rwt_nil ?_
                refine qn_then ?_
                refine ⟨_, (os q642), (by repeat (first | exact Sub.nil _ | refine Sub.cons rfl ?_)), (hm632.pick [0, 1] (by decide) rfl)⟩
            · refine cw_f rfl hb633 ?_
              refine cw_exit ?_
              refine qx_then (qx_then ?_)
              obtain rfl := hr626 _ (os q634)
              exact .inr (⟨_, rfl, ⟨rfl, (by repeat (first | exact Sub.nil _ | refine Sub.cons rfl ?_)), (hm632.pick [0, 1] (by decide) rfl)⟩⟩)
          · skip
            intro e env643 w644 hX645
            rcases hX645 with hX645 | hX645
            · obtain ⟨p647, rfl, hX645⟩ := hX645
              obtain ⟨rfl, hq649⟩ := hX645
              exact qr_block (qr_then ((by have e := os q629; subst e; exact hq649)))
            · obtain ⟨p650, rfl, hX645⟩ := hX645
              obtain ⟨rfl, hs651, hm652⟩ := hX645
              refine qx_same (qn_then ?_)
              refine cw_sub hs651 ?_
              refine cw_seq ?_
              refine cw_region ?_
              refine t_rd rfl (rd_move rfl) ?_
              refine t_rd rfl (rd_eql rfl rfl) ?_
              refine t_rd rfl (rd_move rfl) ?_
              refine t_rdg rfl rfl rfl rfl (gv_t _) (fun hg653 => (rd_move rfl)) ?_
              refine t_rdg rfl rfl rfl rfl (gv_t _) (fun hg654 => (rd_lenS tS22 (gvx rfl hg654) (hm652.sl 0 rfl))) ?_
              refine t_rdg rfl rfl rfl rfl (gv_t _) (fun hg655 => (rd_move rfl)) ?_
              refine t_rdg rfl rfl rfl rfl (gv_t _) (fun hg656 => (rd_lenS tS22 (gvx rfl hg656) (hm652.sl 1 rfl))) ?_
              refine t_rdg rfl rfl rfl rfl (gv_t _) (fun hg657 => (rd_eql (gvx rfl hg657) (gvx rfl hg657))) ?_
              refine t_rd rfl (rd_and rfl (fun hc658 => (gvx rfl hc658))) ?_
              refine t_rd rfl (rd_move rfl) ?_
              obtain ⟨r660, h661, q662⟩ := ob q629; clear q629
              refine t_efg rfl rfl rfl rfl (R := (fun v w' => v = gV (decide (r592.2 = 0) && decide ((List.length r592.1 : Int) = (List.length r8.2 : Int))) (Value.bool r660) ∧ Mem w644 No [] w')) (gv_t _) (fun hg659 => (ef_call tf10 rfl (law34_sane_ok (gO_t h661 hg659))).mono (by rintro _ _ ⟨rfl, q⟩; exact ⟨(gV_t hg659).symm, q⟩)) (fun q => ⟨(gV_f q).symm, Mem.nil _⟩) ?_
              rintro _ w664 ⟨rfl, hm663⟩
              have hm665 := hm652.call hm663
              refine t_rd rfl (rd_and rfl (fun hc666 => (gvx rfl hc666))) ?_
              refine t_rd rfl (rd_assign rfl) ?_
              refine rwt_nil ?_
              refine qn_then ?_
              refine cw_ret ?_
              obtain rfl := os q662
              exact ret1 rfl rfl ⟨rfl, (hm665.pick [] (by decide) rfl)⟩

end Go.Proofs.Ytpljjjcfinpgeaa
