/- Each call computes what its mirror does; written by a program of mine (gowalk.py). -/
import Derived.Test.YtlpkbkbjohhleaaGreatWka
namespace Go.Proofs.YtlpkbkbjohhleaaGreat
open Go.Gv Go.RowKit
set_option linter.unusedVariables false
set_option maxRecDepth 100000

theorem machine_push_ok {N : Nat} {a0_j_Items : List T_Item} {a0_j_Weight : Int} {a0_p_Steps : Int} {a0_p_Codes : List Int} {a0_steps : List (List Int)} {a0_trains : List (List Int)} {a0_moves : Int} {a0_pushes : Int} {a1 : Int} {a2 : Int} {res : List (List Int) × List (List Int) × Int} (h : machine_push N a0_j_Items a0_j_Weight a0_p_Steps a0_p_Codes a0_steps a0_trains a0_moves a0_pushes a1 a2 = some res) {w : World} {g0 : Nat} {v0_j_Items : Value} {v0_p_Codes : Value} {v0_steps : Value} {zs_a0_steps : List Hdr} {v0_trains : Value} {zs_a0_trains : List Hdr} (hv0_j_Items : Sl (Old w (bunC [blk g0 131 [v0_j_Items, (Value.int .i64 a0_j_Weight), (Value.int .i64 a0_p_Steps), v0_p_Codes, v0_steps, v0_trains, (Value.int .i64 a0_moves), (Value.int .i64 a0_pushes)], ownL 22 v0_steps (zs_a0_steps : List Hdr), rowsC 3 zs_a0_steps (a0_steps : List (List Int)) none, ownL 22 v0_trains (zs_a0_trains : List Hdr), rowsC 3 zs_a0_trains (a0_trains : List (List Int)) none]).D) w v0_j_Items a0_j_Items) (hv0_p_Codes : Sl (Old w (bunC [blk g0 131 [v0_j_Items, (Value.int .i64 a0_j_Weight), (Value.int .i64 a0_p_Steps), v0_p_Codes, v0_steps, v0_trains, (Value.int .i64 a0_moves), (Value.int .i64 a0_pushes)], ownL 22 v0_steps (zs_a0_steps : List Hdr), rowsC 3 zs_a0_steps (a0_steps : List (List Int)) none, ownL 22 v0_trains (zs_a0_trains : List Hdr), rowsC 3 zs_a0_trains (a0_trains : List (List Int)) none]).D) w v0_p_Codes a0_p_Codes) (hkb : (bunC [blk g0 131 [v0_j_Items, (Value.int .i64 a0_j_Weight), (Value.int .i64 a0_p_Steps), v0_p_Codes, v0_steps, v0_trains, (Value.int .i64 a0_moves), (Value.int .i64 a0_pushes)], ownL 22 v0_steps (zs_a0_steps : List Hdr), rowsC 3 zs_a0_steps (a0_steps : List (List Int)) none, ownL 22 v0_trains (zs_a0_trains : List Hdr), rowsC 3 zs_a0_trains (a0_trains : List (List Int)) none]).φ w) :
    CallsR Tryz.prog 101 [(Value.pointer (some ⟨g0, 0, none⟩)), (Value.int .i64 a1), (Value.int .i64 a2)] w (fun u w' => ∃ (zy0 : List Hdr) (zy1 : List Hdr), u = (Value.tuple #[]) ∧ Mem w (bunC [blk g0 131 [v0_j_Items, (Value.int .i64 a0_j_Weight), (Value.int .i64 a0_p_Steps), v0_p_Codes, v0_steps, v0_trains, (Value.int .i64 a0_moves), (Value.int .i64 a0_pushes)], ownL 22 v0_steps (zs_a0_steps : List Hdr), rowsC 3 zs_a0_steps (a0_steps : List (List Int)) none, ownL 22 v0_trains (zs_a0_trains : List Hdr), rowsC 3 zs_a0_trains (a0_trains : List (List Int)) none]).D [bunC [blk g0 131 [v0_j_Items, (Value.int .i64 a0_j_Weight), (Value.int .i64 a0_p_Steps), v0_p_Codes, v0_steps, v0_trains, (Value.int .i64 res.2.2), (Value.int .i64 a0_pushes)], ownL 22 v0_steps (zy0 : List Hdr), rowsC 3 zy0 (res.1 : List (List Int)) none, ownL 22 v0_trains (zy1 : List Hdr), rowsC 3 zy1 (res.2.1 : List (List Int)) none]] w') := by
  unfold machine_push at h
  refine fn_ok Tryz.func101 rfl rfl rfl ?_
  have hm0 := Mem.opened hkb
  refine cw_seq ?_
  refine cw_region ?_
  refine t_rd rfl (rd_move rfl) ?_
  refine t_rd rfl (rd_nilCheck rfl) ?_
  refine t_rd rfl (rd_fld tF131_4 rfl) ?_
  refine t_rd rfl (rd_ld1 tO3 rfl (hm0.blk 0 rfl) (off := 6) rfl) ?_
  obtain ⟨x397, h398, q399⟩ := ob h; clear h
  refine t_rd rfl (rd_add64 h398 rfl rfl) ?_
  refine t_rd rfl (rd_nilCheck rfl) ?_
  refine t_rd rfl (rd_fld tF131_4 rfl) ?_
  refine t_ef0 (ef_st1 (k := 0) (off := 6) hm0 tO3 rfl rfl rfl rfl rfl rfl) ?_
  intro _ w401 hm400
  refine rwt_nil ?_
  refine qn_then ?_
  refine cw_seq ?_
  refine cw_seq ?_
  refine cw_region ?_
  refine t_rd rfl (rd_move rfl) ?_
  refine t_rd rfl (rd_assign rfl) ?_
  refine rwt_nil ?_
  refine qn_then ?_
  refine cw_block ?_
  obtain ⟨r600, hit601, q602⟩ := ob q399; clear q399
  refine cw_loop2 (I := fun q envq wq => Sub [(0, (Value.pointer (some ⟨g0, 0, none⟩))), (1, (Value.int .i64 a1)), (6, (Value.int .i64 q))] envq ∧ Mem w (bunC [blk g0 131 [v0_j_Items, (Value.int .i64 a0_j_Weight), (Value.int .i64 a0_p_Steps), v0_p_Codes, v0_steps, v0_trains, (Value.int .i64 a0_moves), (Value.int .i64 a0_pushes)], ownL 22 v0_steps (zs_a0_steps : List Hdr), rowsC 3 zs_a0_steps (a0_steps : List (List Int)) none, ownL 22 v0_trains (zs_a0_trains : List Hdr), rowsC 3 zs_a0_trains (a0_trains : List (List Int)) none]).D [blk g0 131 [v0_j_Items, (Value.int .i64 a0_j_Weight), (Value.int .i64 a0_p_Steps), v0_p_Codes, v0_steps, v0_trains, (Value.int .i64 x397), (Value.int .i64 a0_pushes)], ownL 22 v0_steps (zs_a0_steps : List Hdr), rowsC 3 zs_a0_steps (a0_steps : List (List Int)) none, ownL 22 v0_trains (zs_a0_trains : List Hdr), rowsC 3 zs_a0_trains (a0_trains : List (List Int)) none] wq) (X := fun eq envq wq => (∃ p603, r600 = (Sum.inl p603) ∧ eq = .ret ∧ retQ Tryz.prog 78 Tryz.f101 (fun u w' => ∃ (zy0 : List Hdr) (zy1 : List Hdr), u = (Value.tuple #[]) ∧ Mem w (bunC [blk g0 131 [v0_j_Items, (Value.int .i64 a0_j_Weight), (Value.int .i64 a0_p_Steps), v0_p_Codes, v0_steps, v0_trains, (Value.int .i64 a0_moves), (Value.int .i64 a0_pushes)], ownL 22 v0_steps (zs_a0_steps : List Hdr), rowsC 3 zs_a0_steps (a0_steps : List (List Int)) none, ownL 22 v0_trains (zs_a0_trains : List Hdr), rowsC 3 zs_a0_trains (a0_trains : List (List Int)) none]).D [bunC [blk g0 131 [v0_j_Items, (Value.int .i64 a0_j_Weight), (Value.int .i64 a0_p_Steps), v0_p_Codes, v0_steps, v0_trains, (Value.int .i64 p603.2.2), (Value.int .i64 a0_pushes)], ownL 22 v0_steps (zy0 : List Hdr), rowsC 3 zy0 (p603.1 : List (List Int)) none, ownL 22 v0_trains (zy1 : List Hdr), rowsC 3 zy1 (p603.2.1 : List (List Int)) none]] w') .ret envq wq) ∨ (∃ p604, r600 = (Sum.inr p604) ∧ eq = .exit 0 ∧ Sub [(0, (Value.pointer (some ⟨g0, 0, none⟩))), (1, (Value.int .i64 a1))] envq ∧ Mem w (bunC [blk g0 131 [v0_j_Items, (Value.int .i64 a0_j_Weight), (Value.int .i64 a0_p_Steps), v0_p_Codes, v0_steps, v0_trains, (Value.int .i64 a0_moves), (Value.int .i64 a0_pushes)], ownL 22 v0_steps (zs_a0_steps : List Hdr), rowsC 3 zs_a0_steps (a0_steps : List (List Int)) none, ownL 22 v0_trains (zs_a0_trains : List Hdr), rowsC 3 zs_a0_trains (a0_trains : List (List Int)) none]).D [blk g0 131 [v0_j_Items, (Value.int .i64 a0_j_Weight), (Value.int .i64 a0_p_Steps), v0_p_Codes, v0_steps, v0_trains, (Value.int .i64 x397), (Value.int .i64 a0_pushes)], ownL 22 v0_steps (zs_a0_steps : List Hdr), rowsC 3 zs_a0_steps (a0_steps : List (List Int)) none, ownL 22 v0_trains (zs_a0_trains : List Hdr), rowsC 3 zs_a0_trains (a0_trains : List (List Int)) none] wq)) hit601 ⟨(by repeat (first | exact Sub.nil _ | refine Sub.cons rfl ?_)), (hm400.pick [0, 1, 2, 3, 4] (by decide) rfl)⟩ ?_ ?_
  · rintro i593 x595 env596 w597 hf598 hr599 ⟨hs_, hm_⟩
    have hs_ : Sub [(0, (Value.pointer (some ⟨g0, 0, none⟩))), (1, (Value.int .i64 a1)), (6, (Value.int .i64 i593))] env596 := hs_
    have hm605 : Mem w (bunC [blk g0 131 [v0_j_Items, (Value.int .i64 a0_j_Weight), (Value.int .i64 a0_p_Steps), v0_p_Codes, v0_steps, v0_trains, (Value.int .i64 a0_moves), (Value.int .i64 a0_pushes)], ownL 22 v0_steps (zs_a0_steps : List Hdr), rowsC 3 zs_a0_steps (a0_steps : List (List Int)) none, ownL 22 v0_trains (zs_a0_trains : List Hdr), rowsC 3 zs_a0_trains (a0_trains : List (List Int)) none]).D [blk g0 131 [v0_j_Items, (Value.int .i64 a0_j_Weight), (Value.int .i64 a0_p_Steps), v0_p_Codes, v0_steps, v0_trains, (Value.int .i64 x397), (Value.int .i64 a0_pushes)], ownL 22 v0_steps (zs_a0_steps : List Hdr), rowsC 3 zs_a0_steps (a0_steps : List (List Int)) none, ownL 22 v0_trains (zs_a0_trains : List Hdr), rowsC 3 zs_a0_trains (a0_trains : List (List Int)) none] w597 := hm_
    refine cw_sub hs_ ?_
    clear hs_ hm_ q602
    have h : machine_push_l1 N a0_p_Steps a0_p_Codes a0_steps a0_trains a1 x397 i593 = some x595 := hf598
    clear hf598
    refine cw_seq ?_
    refine cw_seq ?_
    refine cw_region ?_
    refine t_rd rfl (rd_move rfl) ?_
    refine t_rd rfl (rd_move rfl) ?_
    refine t_rd rfl (rd_nilCheck rfl) ?_
    refine t_rd rfl (rd_fld tF131_1 rfl) ?_
    refine t_rd rfl (rd_fld tF30_0 rfl) ?_
    refine t_rd rfl (rd_ld1 tO3 rfl (hm605.blk 0 rfl) (off := 2) rfl) ?_
    refine t_rd rfl (rd_lss rfl rfl) ?_
    refine rwt_nil ?_
    refine qn_then ?_
    obtain ⟨hb606, q607⟩ | ⟨hb606, q607⟩ := oi h <;> clear h
    · refine cw_t rfl hb606 ?_
      refine cw_skip ?_
      refine qn_then ?_
      refine cw_seq ?_
      refine cw_block ?_
      refine cw_seq ?_
      refine cw_region ?_
      refine t_rd rfl (rd_move rfl) ?_
      refine t_rd rfl (rd_nilCheck rfl) ?_
      refine t_rd rfl (rd_fld tF131_1 rfl) ?_
      refine t_rd rfl (rd_fld tF30_1 rfl) ?_
      refine t_rd rfl (rd_ld1 tO22 rfl (hm605.blk 0 rfl) (off := 3) rfl) ?_
      refine t_rd rfl (rd_move rfl) ?_
      obtain ⟨x608, h609, q610⟩ := ob q607; clear q607
      refine t_rd rfl (rd_index tS22 rfl rfl (hv0_p_Codes.of_old hm605) h609) ?_
      refine t_rd rfl (rd_ld1 tO3 rfl ((hv0_p_Codes.of_old hm605).cells h609) (off := 0) rfl) ?_
      refine t_rd rfl (rd_move rfl) ?_
      obtain ⟨x611, h612, q613⟩ := ob q610; clear q610
      refine t_rd rfl (rd_shr_i64 h612 rfl rfl) ?_
      obtain ⟨x614, h615, q616⟩ := ob q613; clear q613
      refine t_rd rfl (rd_bits_and_i64 h615 rfl rfl) ?_
      refine t_rd rfl (rd_eql rfl rfl) ?_
      refine rwt_nil ?_
      refine qn_then ?_
      obtain ⟨hb617, q618⟩ | ⟨hb617, q618⟩ := oi q616 <;> clear q616
      · refine cw_t rfl hb617 ?_
        refine cw_seq ?_
        obtain ⟨w645, he647⟩ : ∃ q, q = w597.drew := ⟨_, rfl⟩
        have hm646 := hm605.drew; rw [← he647] at hm646
        refine cw_region_s (fun q => (blk g0 131 [v0_j_Items, (Value.int .i64 a0_j_Weight), (Value.int .i64 a0_p_Steps), v0_p_Codes, v0_steps, v0_trains, (Value.int .i64 x397), (Value.int .i64 a0_pushes)]).φ q ∧ (ownL 22 v0_steps (zs_a0_steps : List Hdr)).φ q) (cls [13, 14] [16]) mixed ?_
        rintro _ rfl; rw [← he647]
        refine s_rp (i := 0) rfl (by kernel_rfl) rfl (fun _ => (rd_move rfl)) ?_
        refine s_rp (i := 1) rfl (by kernel_rfl) rfl (fun _ => (rd_nilCheck rfl)) ?_
        refine s_rp (i := 2) rfl (by kernel_rfl) rfl (fun _ => (rd_fld tF131_2 rfl)) ?_
        refine s_rd (i := 3) rfl (by kernel_rfl) rfl (fun w644 hS => (rd_ld1 tO41 rfl (cells_blk hS.1) (off := 4) rfl)) ⟨(hm646.get (k := 0) rfl), (hm646.get (k := 1) rfl)⟩ ?_
        refine s_rp (i := 4) rfl (by kernel_rfl) rfl (fun _ => (rd_move rfl)) ?_
        refine s_rp (i := 5) rfl (by kernel_rfl) rfl (fun _ => (rd_move rfl)) ?_
        refine s_rp (i := 6) rfl (by kernel_rfl) rfl (fun _ => (rd_nilCheck rfl)) ?_
        refine s_rp (i := 7) rfl (by kernel_rfl) rfl (fun _ => (rd_fld tF131_2 rfl)) ?_
        refine s_rd (i := 8) rfl (by kernel_rfl) rfl (fun w644 hS => (rd_ld1 tO41 rfl (cells_blk hS.1) (off := 4) rfl)) ⟨(hm646.get (k := 0) rfl), (hm646.get (k := 1) rfl)⟩ ?_
        refine s_rp (i := 9) rfl (by kernel_rfl) rfl (fun _ => (rd_move rfl)) ?_
        obtain ⟨x673, h674, q675⟩ := ob q618; clear q618
        refine s_rp (i := 10) rfl (by kernel_rfl) rfl (fun _ => (rd_index tS41 rfl rfl ((Nl.mk (hm646.sl_call 1 rfl) (hm646.rows_call 2 rfl)).sl) h674)) ?_
        obtain ⟨zd676, hz677⟩ := (Nl.mk (hm646.sl_call 1 rfl) (hm646.rows_call 2 rfl)).row h674
        refine s_rd (i := 11) rfl (by kernel_rfl) rfl (fun w644 hS => (rd_ld1 tO22 rfl ((sl_of_own hS.2).cells hz677) (off := 0) rfl)) ⟨(hm646.get (k := 0) rfl), (hm646.get (k := 1) rfl)⟩ ?_
        refine s_rp (i := 12) rfl (by kernel_rfl) rfl (fun _ => (rd_move rfl)) ?_
        refine s_ef (i := 13) rfl (by kernel_rfl) rfl (ef_bslice (l := ([a1] : List Int)) hm646 tS22 rfl (cs := #[(Value.int .i64 a1)]) (by unfold bsl; kernel_rfl) rfl rfl) (by decide) ?_ ?_
        · intro v678 w680 hm679
          intro _
          exact ⟨(hm679.get (k := 1) rfl), (hm679.get (k := 2) rfl)⟩
        intro v678 w680 hm679
        have hm681 := hm679.pick [3, 0, 1, 2, 4, 5] (L' := [rowsC 3 zs_a0_steps (a0_steps : List (List Int)) none, ownL 3 v678 ([a1] : List Int), blk g0 131 [v0_j_Items, (Value.int .i64 a0_j_Weight), (Value.int .i64 a0_p_Steps), v0_p_Codes, v0_steps, v0_trains, (Value.int .i64 x397), (Value.int .i64 a0_pushes)], ownL 22 v0_steps (zs_a0_steps : List Hdr), ownL 22 v0_trains (zs_a0_trains : List Hdr), rowsC 3 zs_a0_trains (a0_trains : List (List Int)) none]) (by decide) rfl
        have hm682 := hm681.focus hz677 h674
        obtain ⟨l683, h684, q685⟩ := ob q675; clear q675
        refine s_ef (i := 14) rfl (by kernel_rfl) rfl (ef_append (k := 1) hm682 tS22 tE3 rfl rfl rfl rfl (hm682.sl 2 rfl) h684) (by decide) ?_ ?_
        · intro v686 w688 hm687
          intro _
          exact ⟨(hm687.get (k := 3) rfl), (hm687.get (k := 4) rfl)⟩
        intro v686 w688 hm687
        obtain ⟨zd689, hz690⟩ := rowI (hm687.get (k := 0) rfl).1 h674
        refine s_rp (i := 15) rfl (by kernel_rfl) rfl (fun _ => (rd_index (α := Hdr) tS41 rfl rfl (hm687.sl 4 rfl) hz690)) ?_
        obtain ⟨zd691, ez692⟩ : ∃ z : Hdr, z.1 = v686 := ⟨⟨v686, sl_one (hm687.sl 1 rfl)⟩, rfl⟩
        obtain ⟨zd693, hz694⟩ := rowI (hm687.get (k := 0) rfl).1 h674
        refine s_ef0 (i := 16) rfl (by kernel_rfl) (ef_stl (k := 4) (off := 0) (x' := zd691) hm687 tO22 rfl rfl (sl_one (hm687.sl 1 rfl)) rfl hz694 (by show [v686] = [zd691.1]; rw [ez692]) rfl) (by decide) (fun _ _ _ q => absurd q (by decide)) ?_
        intro _ w696 hm695
        have hm697 := hm695.fill ez692
        refine s_nil (by kernel_rfl) ?_
        refine qn_then ?_
        refine cw_ret ?_
        refine qr_block (qr_then (qr_then ?_))
        obtain rfl := hr599 _ (os q685)
        refine .inl (⟨_, rfl, ⟨rfl, ?_⟩⟩)
        exact ret0 rfl ⟨(List.set zs_a0_steps (Int.toNat i593) zd691), zs_a0_trains, rfl, (Mem.bundle [blk g0 131 [v0_j_Items, (Value.int .i64 a0_j_Weight), (Value.int .i64 a0_p_Steps), v0_p_Codes, v0_steps, v0_trains, (Value.int .i64 x397), (Value.int .i64 a0_pushes)], ownL 22 v0_steps ((List.set zs_a0_steps (Int.toNat i593) zd691) : List Hdr), rowsC 3 (List.set zs_a0_steps (Int.toNat i593) zd691) ((List.set a0_steps (Int.toNat i593) l683) : List (List Int)) none, ownL 22 v0_trains (zs_a0_trains : List Hdr), rowsC 3 zs_a0_trains (a0_trains : List (List Int)) none] [] (hm697.pick (L' := [blk g0 131 [v0_j_Items, (Value.int .i64 a0_j_Weight), (Value.int .i64 a0_p_Steps), v0_p_Codes, v0_steps, v0_trains, (Value.int .i64 x397), (Value.int .i64 a0_pushes)], ownL 22 v0_steps ((List.set zs_a0_steps (Int.toNat i593) zd691) : List Hdr), rowsC 3 (List.set zs_a0_steps (Int.toNat i593) zd691) ((List.set a0_steps (Int.toNat i593) l683) : List (List Int)) none, ownL 22 v0_trains (zs_a0_trains : List Hdr), rowsC 3 zs_a0_trains (a0_trains : List (List Int)) none]) [2, 3, 0, 4, 5] (by decide) rfl))⟩
      · refine cw_f rfl hb617 ?_
        refine cw_skip ?_
        refine qn_block (qn_then ?_)
        refine cw_region ?_
        refine t_rd rfl (rd_move rfl) ?_
        obtain ⟨x698, h699, q700⟩ := ob q618; clear q618
        refine t_rd rfl (rd_add64 h699 rfl rfl) ?_
        refine t_rd rfl (rd_assign rfl) ?_
        refine rwt_nil ?_
        refine qn_then ?_
        refine ⟨_, (os q700), (by repeat (first | exact Sub.nil _ | refine Sub.cons rfl ?_)), (hm605.pick [0, 1, 2, 3, 4] (by decide) rfl)⟩
    · refine cw_f rfl hb606 ?_
      refine cw_exit ?_
      refine qx_then (qx_then ?_)
      obtain rfl := hr599 _ (os q607)
      exact .inr (⟨_, rfl, ⟨rfl, (by repeat (first | exact Sub.nil _ | refine Sub.cons rfl ?_)), (hm605.pick [0, 1, 2, 3, 4] (by decide) rfl)⟩⟩)
  · skip
    intro e env701 w702 hX703
    rcases hX703 with hX703 | hX703
    · obtain ⟨p705, rfl, hX703⟩ := hX703
      obtain ⟨rfl, hq707⟩ := hX703
      exact qr_block (qr_then ((by have e := os q602; subst e; exact hq707)))
    · obtain ⟨p708, rfl, hX703⟩ := hX703
      obtain ⟨rfl, hs709, hm710⟩ := hX703
      refine qx_same (qn_then ?_)
      refine cw_sub hs709 ?_
      refine cw_seq ?_
      refine cw_region ?_
      refine t_rd rfl (rd_move rfl) ?_
      refine t_rd rfl (rd_nilCheck rfl) ?_
      refine t_rd rfl (rd_fld tF131_0 rfl) ?_
      refine t_rd rfl (rd_fld tF27_0 rfl) ?_
      refine t_rd rfl (rd_ld1 tO25 rfl (hm710.blk 0 rfl) (off := 0) rfl) ?_
      refine t_rd rfl (rd_move rfl) ?_
      obtain ⟨x711, h712, q713⟩ := ob q602; clear q602
      refine t_rd rfl (rd_index tS25 rfl rfl (hv0_j_Items.of_old hm710) h712) ?_
      refine t_rd rfl (rd_fld tF40_0 rfl) ?_
      refine t_rd rfl (rd_ld1 tO3 rfl ((hv0_j_Items.of_old hm710).cells h712) (off := 0) rfl) ?_
      refine t_rd rfl (rd_assign rfl) ?_
      refine rwt_nil ?_
      refine qn_then ?_
      obtain ⟨w740, he742⟩ : ∃ q, q = w702.drew := ⟨_, rfl⟩
      have hm741 := hm710.drew; rw [← he742] at hm741
      refine cw_region_s (fun q => (blk g0 131 [v0_j_Items, (Value.int .i64 a0_j_Weight), (Value.int .i64 a0_p_Steps), v0_p_Codes, v0_steps, v0_trains, (Value.int .i64 x397), (Value.int .i64 a0_pushes)]).φ q ∧ (ownL 22 v0_trains (zs_a0_trains : List Hdr)).φ q) (cls [13, 14] [16]) mixed ?_
      rintro _ rfl; rw [← he742]
      refine s_rp (i := 0) rfl (by kernel_rfl) rfl (fun _ => (rd_move rfl)) ?_
      refine s_rp (i := 1) rfl (by kernel_rfl) rfl (fun _ => (rd_nilCheck rfl)) ?_
      refine s_rp (i := 2) rfl (by kernel_rfl) rfl (fun _ => (rd_fld tF131_3 rfl)) ?_
      refine s_rd (i := 3) rfl (by kernel_rfl) rfl (fun w739 hS => (rd_ld1 tO41 rfl (cells_blk hS.1) (off := 5) rfl)) ⟨(hm741.get (k := 0) rfl), (hm741.get (k := 3) rfl)⟩ ?_
      refine s_rp (i := 4) rfl (by kernel_rfl) rfl (fun _ => (rd_move rfl)) ?_
      refine s_rp (i := 5) rfl (by kernel_rfl) rfl (fun _ => (rd_move rfl)) ?_
      refine s_rp (i := 6) rfl (by kernel_rfl) rfl (fun _ => (rd_nilCheck rfl)) ?_
      refine s_rp (i := 7) rfl (by kernel_rfl) rfl (fun _ => (rd_fld tF131_3 rfl)) ?_
      refine s_rd (i := 8) rfl (by kernel_rfl) rfl (fun w739 hS => (rd_ld1 tO41 rfl (cells_blk hS.1) (off := 5) rfl)) ⟨(hm741.get (k := 0) rfl), (hm741.get (k := 3) rfl)⟩ ?_
      refine s_rp (i := 9) rfl (by kernel_rfl) rfl (fun _ => (rd_move rfl)) ?_
      obtain ⟨x768, h769, q770⟩ := ob q713; clear q713
      refine s_rp (i := 10) rfl (by kernel_rfl) rfl (fun _ => (rd_index tS41 rfl rfl ((Nl.mk (hm741.sl_call 3 rfl) (hm741.rows_call 4 rfl)).sl) h769)) ?_
      obtain ⟨zd771, hz772⟩ := (Nl.mk (hm741.sl_call 3 rfl) (hm741.rows_call 4 rfl)).row h769
      refine s_rd (i := 11) rfl (by kernel_rfl) rfl (fun w739 hS => (rd_ld1 tO22 rfl ((sl_of_own hS.2).cells hz772) (off := 0) rfl)) ⟨(hm741.get (k := 0) rfl), (hm741.get (k := 3) rfl)⟩ ?_
      refine s_rp (i := 12) rfl (by kernel_rfl) rfl (fun _ => (rd_move rfl)) ?_
      refine s_ef (i := 13) rfl (by kernel_rfl) rfl (ef_bslice (l := ([a1] : List Int)) hm741 tS22 rfl (cs := #[(Value.int .i64 a1)]) (by unfold bsl; kernel_rfl) rfl rfl) (by decide) ?_ ?_
      · intro v773 w775 hm774
        intro _
        exact ⟨(hm774.get (k := 1) rfl), (hm774.get (k := 4) rfl)⟩
      intro v773 w775 hm774
      have hm776 := hm774.pick [5, 0, 1, 2, 3, 4] (L' := [rowsC 3 zs_a0_trains (a0_trains : List (List Int)) none, ownL 3 v773 ([a1] : List Int), blk g0 131 [v0_j_Items, (Value.int .i64 a0_j_Weight), (Value.int .i64 a0_p_Steps), v0_p_Codes, v0_steps, v0_trains, (Value.int .i64 x397), (Value.int .i64 a0_pushes)], ownL 22 v0_steps (zs_a0_steps : List Hdr), rowsC 3 zs_a0_steps (a0_steps : List (List Int)) none, ownL 22 v0_trains (zs_a0_trains : List Hdr)]) (by decide) rfl
      have hm777 := hm776.focus hz772 h769
      obtain ⟨l778, h779, q780⟩ := ob q770; clear q770
      refine s_ef (i := 14) rfl (by kernel_rfl) rfl (ef_append (k := 1) hm777 tS22 tE3 rfl rfl rfl rfl (hm777.sl 2 rfl) h779) (by decide) ?_ ?_
      · intro v781 w783 hm782
        intro _
        exact ⟨(hm782.get (k := 3) rfl), (hm782.get (k := 6) rfl)⟩
      intro v781 w783 hm782
      obtain ⟨zd784, hz785⟩ := rowI (hm782.get (k := 0) rfl).1 h769
      refine s_rp (i := 15) rfl (by kernel_rfl) rfl (fun _ => (rd_index (α := Hdr) tS41 rfl rfl (hm782.sl 6 rfl) hz785)) ?_
      obtain ⟨zd786, ez787⟩ : ∃ z : Hdr, z.1 = v781 := ⟨⟨v781, sl_one (hm782.sl 1 rfl)⟩, rfl⟩
      obtain ⟨zd788, hz789⟩ := rowI (hm782.get (k := 0) rfl).1 h769
      refine s_ef0 (i := 16) rfl (by kernel_rfl) (ef_stl (k := 6) (off := 0) (x' := zd786) hm782 tO22 rfl rfl (sl_one (hm782.sl 1 rfl)) rfl hz789 (by show [v781] = [zd786.1]; rw [ez787]) rfl) (by decide) (fun _ _ _ q => absurd q (by decide)) ?_
      intro _ w791 hm790
      have hm792 := hm790.fill ez787
      refine s_nil (by kernel_rfl) ?_
      obtain rfl := os q780
      refine retn ?_
      exact ret0 rfl ⟨zs_a0_steps, (List.set zs_a0_trains (Int.toNat x711.Train) zd786), rfl, (Mem.bundle [blk g0 131 [v0_j_Items, (Value.int .i64 a0_j_Weight), (Value.int .i64 a0_p_Steps), v0_p_Codes, v0_steps, v0_trains, (Value.int .i64 x397), (Value.int .i64 a0_pushes)], ownL 22 v0_steps (zs_a0_steps : List Hdr), rowsC 3 zs_a0_steps (a0_steps : List (List Int)) none, ownL 22 v0_trains ((List.set zs_a0_trains (Int.toNat x711.Train) zd786) : List Hdr), rowsC 3 (List.set zs_a0_trains (Int.toNat x711.Train) zd786) ((List.set a0_trains (Int.toNat x711.Train) l778) : List (List Int)) none] [] (hm792.pick (L' := [blk g0 131 [v0_j_Items, (Value.int .i64 a0_j_Weight), (Value.int .i64 a0_p_Steps), v0_p_Codes, v0_steps, v0_trains, (Value.int .i64 x397), (Value.int .i64 a0_pushes)], ownL 22 v0_steps (zs_a0_steps : List Hdr), rowsC 3 zs_a0_steps (a0_steps : List (List Int)) none, ownL 22 v0_trains ((List.set zs_a0_trains (Int.toNat x711.Train) zd786) : List Hdr), rowsC 3 (List.set zs_a0_trains (Int.toNat x711.Train) zd786) ((List.set a0_trains (Int.toNat x711.Train) l778) : List (List Int)) none]) [2, 3, 4, 5, 0] (by decide) rfl))⟩

theorem machine_at_ok {N : Nat} {a0_j_Items : List T_Item} {a0_j_Weight : Int} {a0_p_Steps : Int} {a0_p_Codes : List Int} {a0_steps : List (List Int)} {a0_trains : List (List Int)} {a0_moves : Int} {a0_pushes : Int} {a1 : Int} {res : List (List Int) × List (List Int) × Int × Int} (h : machine_at N a0_j_Items a0_j_Weight a0_p_Steps a0_p_Codes a0_steps a0_trains a0_moves a0_pushes a1 = some res) {w : World} {g0 : Nat} {v0_j_Items : Value} {v0_p_Codes : Value} {v0_steps : Value} {zs_a0_steps : List Hdr} {v0_trains : Value} {zs_a0_trains : List Hdr} (hv0_j_Items : Sl (Old w (bunC [blk g0 131 [v0_j_Items, (Value.int .i64 a0_j_Weight), (Value.int .i64 a0_p_Steps), v0_p_Codes, v0_steps, v0_trains, (Value.int .i64 a0_moves), (Value.int .i64 a0_pushes)], ownL 22 v0_steps (zs_a0_steps : List Hdr), rowsC 3 zs_a0_steps (a0_steps : List (List Int)) none, ownL 22 v0_trains (zs_a0_trains : List Hdr), rowsC 3 zs_a0_trains (a0_trains : List (List Int)) none]).D) w v0_j_Items a0_j_Items) (hv0_p_Codes : Sl (Old w (bunC [blk g0 131 [v0_j_Items, (Value.int .i64 a0_j_Weight), (Value.int .i64 a0_p_Steps), v0_p_Codes, v0_steps, v0_trains, (Value.int .i64 a0_moves), (Value.int .i64 a0_pushes)], ownL 22 v0_steps (zs_a0_steps : List Hdr), rowsC 3 zs_a0_steps (a0_steps : List (List Int)) none, ownL 22 v0_trains (zs_a0_trains : List Hdr), rowsC 3 zs_a0_trains (a0_trains : List (List Int)) none]).D) w v0_p_Codes a0_p_Codes) (hkb : (bunC [blk g0 131 [v0_j_Items, (Value.int .i64 a0_j_Weight), (Value.int .i64 a0_p_Steps), v0_p_Codes, v0_steps, v0_trains, (Value.int .i64 a0_moves), (Value.int .i64 a0_pushes)], ownL 22 v0_steps (zs_a0_steps : List Hdr), rowsC 3 zs_a0_steps (a0_steps : List (List Int)) none, ownL 22 v0_trains (zs_a0_trains : List Hdr), rowsC 3 zs_a0_trains (a0_trains : List (List Int)) none]).φ w) :
    CallsR Tryz.prog 87 [(Value.pointer (some ⟨g0, 0, none⟩)), (Value.int .i64 a1)] w (fun u w' => ∃ (zy0 : List Hdr) (y1 : Value) (zy2 : List Hdr) (y3 : Value), u = (Value.tuple #[]) ∧ Mem w (bunC [blk g0 131 [v0_j_Items, (Value.int .i64 a0_j_Weight), (Value.int .i64 a0_p_Steps), v0_p_Codes, v0_steps, v0_trains, (Value.int .i64 a0_moves), (Value.int .i64 a0_pushes)], ownL 22 v0_steps (zs_a0_steps : List Hdr), rowsC 3 zs_a0_steps (a0_steps : List (List Int)) none, ownL 22 v0_trains (zs_a0_trains : List Hdr), rowsC 3 zs_a0_trains (a0_trains : List (List Int)) none]).D [bunC [blk g0 131 [v0_j_Items, (Value.int .i64 a0_j_Weight), (Value.int .i64 a0_p_Steps), v0_p_Codes, y1, y3, (Value.int .i64 res.2.2.1), (Value.int .i64 res.2.2.2)], ownL 22 y1 (zy0 : List Hdr), rowsC 3 zy0 (res.1 : List (List Int)) none, ownL 22 y3 (zy2 : List Hdr), rowsC 3 zy2 (res.2.1 : List (List Int)) none]] w') := by
  unfold machine_at at h
  refine fn_ok Tryz.func87 rfl rfl rfl ?_
  have hm0 := Mem.opened hkb
  refine cw_seq ?_
  refine cw_region ?_
  refine t_rd rfl (rd_move rfl) ?_
  refine t_rd rfl (rd_nilCheck rfl) ?_
  refine t_rd rfl (rd_fld tF131_4 rfl) ?_
  refine t_rd rfl (rd_ld1 tO3 rfl (hm0.blk 0 rfl) (off := 6) rfl) ?_
  refine t_rd rfl (rd_assign rfl) ?_
  refine rwt_nil ?_
  refine qn_then ?_
  refine cw_seq ?_
  refine cw_seq ?_
  refine cw_region ?_
  refine t_rd rfl (rd_move rfl) ?_
  refine t_rd rfl (rd_gtr rfl rfl) ?_
  refine rwt_nil ?_
  refine qn_then ?_
  obtain ⟨j503, hit504, q505⟩ := ob h; clear h
  refine cw_join (X := fun eq envq wq => eq = .normal ∧ ∃ (v497 : Value) (zs498 : List Hdr) (v500 : Value) (zs501 : List Hdr), Sub [(0, (Value.pointer (some ⟨g0, 0, none⟩))), (1, (Value.int .i64 a1)), (4, (Value.int .i64 a0_moves))] envq ∧ Mem w (bunC [blk g0 131 [v0_j_Items, (Value.int .i64 a0_j_Weight), (Value.int .i64 a0_p_Steps), v0_p_Codes, v0_steps, v0_trains, (Value.int .i64 a0_moves), (Value.int .i64 a0_pushes)], ownL 22 v0_steps (zs_a0_steps : List Hdr), rowsC 3 zs_a0_steps (a0_steps : List (List Int)) none, ownL 22 v0_trains (zs_a0_trains : List Hdr), rowsC 3 zs_a0_trains (a0_trains : List (List Int)) none]).D [blk g0 131 [v0_j_Items, (Value.int .i64 a0_j_Weight), (Value.int .i64 a0_p_Steps), v0_p_Codes, v497, v500, (Value.int .i64 j503.2.2), (Value.int .i64 a0_pushes)], ownL 22 v497 (zs498 : List Hdr), rowsC 3 zs498 (j503.1 : List (List Int)) none, ownL 22 v500 (zs501 : List Hdr), rowsC 3 zs501 (j503.2.1 : List (List Int)) none] wq) ?_ ?_
  · clear q505
    obtain ⟨hb506, q507⟩ | ⟨hb506, q507⟩ := oi hit504 <;> clear hit504
    · refine cw_t rfl hb506 ?_
      refine cw_seq ?_
      refine cw_region ?_
      refine t_rd rfl (rd_move rfl) ?_
      refine t_rd rfl (rd_nilCheck rfl) ?_
      refine t_rd rfl (rd_fld tF131_2 rfl) ?_
      refine t_rd rfl (rd_ld1 tO41 rfl (hm0.blk 0 rfl) (off := 4) rfl) ?_
      refine t_rd rfl (rd_move rfl) ?_
      obtain ⟨x508, h509, q510⟩ := ob q507; clear q507
      refine t_rd rfl (rd_sub64 h509 rfl rfl) ?_
      obtain ⟨x511, h512, q513⟩ := ob q510; clear q510
      refine t_rd rfl (rd_index tS41 rfl rfl ((Nl.mk (hm0.sl_call 1 rfl) (hm0.rows_call 2 rfl)).sl) h512) ?_
      obtain ⟨zd514, hz515⟩ := (Nl.mk (hm0.sl_call 1 rfl) (hm0.rows_call 2 rfl)).row h512
      refine t_rd rfl (rd_ld1 tO22 rfl ((Nl.mk (hm0.sl_call 1 rfl) (hm0.rows_call 2 rfl)).cells hz515) (off := 0) rfl) ?_
      refine t_rd rfl (rd_assign rfl) ?_
      refine rwt_nil ?_
      refine qn_then ?_
      refine cw_seq ?_
      refine cw_region ?_
      refine t_rd rfl (rd_move rfl) ?_
      refine t_rd rfl (rd_nilCheck rfl) ?_
      refine t_rd rfl (rd_fld tF131_2 rfl) ?_
      refine t_rd rfl (rd_ld1 tO41 rfl (hm0.blk 0 rfl) (off := 4) rfl) ?_
      refine t_rd rfl (rd_move rfl) ?_
      refine t_rd rfl (rd_sub64 h509 rfl rfl) ?_
      refine t_rd rfl (rd_index tS41 rfl rfl ((Nl.mk (hm0.sl_call 1 rfl) (hm0.rows_call 2 rfl)).sl) h512) ?_
      have hm516 := hm0.addNil (α := Int) 3
      obtain ⟨zd517, ez518⟩ : ∃ z : Hdr, z.1 = (Value.slice none 0 0) := ⟨⟨(Value.slice none 0 0), sl_one (hm516.sl 0 rfl)⟩, rfl⟩
      have hm521 := hm516.pick [3, 0, 1, 2, 4, 5] (L' := [rowsC 3 zs_a0_steps (a0_steps : List (List Int)) none, ownL 3 (Value.slice none 0 0) ([] : List Int), blk g0 131 [v0_j_Items, (Value.int .i64 a0_j_Weight), (Value.int .i64 a0_p_Steps), v0_p_Codes, v0_steps, v0_trains, (Value.int .i64 a0_moves), (Value.int .i64 a0_pushes)], ownL 22 v0_steps (zs_a0_steps : List Hdr), ownL 22 v0_trains (zs_a0_trains : List Hdr), rowsC 3 zs_a0_trains (a0_trains : List (List Int)) none]) (by decide) rfl
      have hm522 := hm521.focus hz515 h512
      obtain ⟨zd519, hz520⟩ := rowI (hm522.get (k := 0) rfl).1 h512
      refine t_ef0 (ef_stl (k := 4) (off := 0) (x' := zd517) hm522 tO22 rfl rfl (sl_one (hm522.sl 2 rfl)) rfl hz520 (by show [(Value.slice none 0 0)] = [zd517.1]; rw [ez518]) rfl) ?_
      intro _ w524 hm523
      have hm525 := hm523.pick [0, 2, 1, 3, 4, 5, 6] (L' := [rowsC 3 zs_a0_steps (a0_steps : List (List Int)) (some (Int.toNat x508)), ownL 3 (Value.slice none 0 0) ([] : List Int), ownL 3 zd514.1 (x511 : List Int), blk g0 131 [v0_j_Items, (Value.int .i64 a0_j_Weight), (Value.int .i64 a0_p_Steps), v0_p_Codes, v0_steps, v0_trains, (Value.int .i64 a0_moves), (Value.int .i64 a0_pushes)], ownL 22 v0_steps ((List.set zs_a0_steps (Int.toNat x508) zd517) : List Hdr), ownL 22 v0_trains (zs_a0_trains : List Hdr), rowsC 3 zs_a0_trains (a0_trains : List (List Int)) none]) (by decide) rfl
      have hm526 := hm525.fill ez518
      refine rwt_nil ?_
      refine qn_then ?_
      refine cw_seq ?_
      refine cw_region ?_
      refine t_rd rfl (rd_move rfl) ?_
      refine t_rd rfl (rd_lenS tS22 rfl (hm526.sl 1 rfl)) ?_
      refine t_rd rfl (rd_move rfl) ?_
      refine rwt_nil ?_
      refine qn_then ?_
      refine cw_block ?_
      obtain ⟨r594, hit595, q596⟩ := ob q513; clear q513
      refine cw_loop2 (I := fun q envq wq => ∃ (v582 : Value) (zs583 : List Hdr) (v585 : Value) (zs586 : List Hdr), Sub [(0, (Value.pointer (some ⟨g0, 0, none⟩))), (1, (Value.int .i64 a1)), (4, (Value.int .i64 a0_moves)), (31, zd514.1), (32, (Value.int .i64 (List.length x511 : Int))), (33, (Value.int .i64 q.1))] envq ∧ Mem w (bunC [blk g0 131 [v0_j_Items, (Value.int .i64 a0_j_Weight), (Value.int .i64 a0_p_Steps), v0_p_Codes, v0_steps, v0_trains, (Value.int .i64 a0_moves), (Value.int .i64 a0_pushes)], ownL 22 v0_steps (zs_a0_steps : List Hdr), rowsC 3 zs_a0_steps (a0_steps : List (List Int)) none, ownL 22 v0_trains (zs_a0_trains : List Hdr), rowsC 3 zs_a0_trains (a0_trains : List (List Int)) none]).D [rowsC 3 zs583 (q.2.1 : List (List Int)) none, ownL 3 zd514.1 (x511 : List Int), blk g0 131 [v0_j_Items, (Value.int .i64 a0_j_Weight), (Value.int .i64 a0_p_Steps), v0_p_Codes, v582, v585, (Value.int .i64 q.2.2.2), (Value.int .i64 a0_pushes)], ownL 22 v582 (zs583 : List Hdr), ownL 22 v585 (zs586 : List Hdr), rowsC 3 zs586 (q.2.2.1 : List (List Int)) none] wq) (X := fun eq envq wq => eq = .exit 0 ∧ ∃ (v574 : Value) (zs575 : List Hdr) (v577 : Value) (zs578 : List Hdr), Sub [(0, (Value.pointer (some ⟨g0, 0, none⟩))), (1, (Value.int .i64 a1)), (4, (Value.int .i64 a0_moves))] envq ∧ Mem w (bunC [blk g0 131 [v0_j_Items, (Value.int .i64 a0_j_Weight), (Value.int .i64 a0_p_Steps), v0_p_Codes, v0_steps, v0_trains, (Value.int .i64 a0_moves), (Value.int .i64 a0_pushes)], ownL 22 v0_steps (zs_a0_steps : List Hdr), rowsC 3 zs_a0_steps (a0_steps : List (List Int)) none, ownL 22 v0_trains (zs_a0_trains : List Hdr), rowsC 3 zs_a0_trains (a0_trains : List (List Int)) none]).D [rowsC 3 zs575 (r594.1 : List (List Int)) none, blk g0 131 [v0_j_Items, (Value.int .i64 a0_j_Weight), (Value.int .i64 a0_p_Steps), v0_p_Codes, v574, v577, (Value.int .i64 r594.2.2), (Value.int .i64 a0_pushes)], ownL 22 v574 (zs575 : List Hdr), ownL 22 v577 (zs578 : List Hdr), rowsC 3 zs578 (r594.2.1 : List (List Int)) none] wq) hit595 ⟨v0_steps, (List.set zs_a0_steps (Int.toNat x508) zd517), v0_trains, zs_a0_trains, (by repeat (first | exact Sub.nil _ | refine Sub.cons rfl ?_)), (hm526.pick [0, 1, 2, 3, 4, 5] (by decide) rfl)⟩ ?_ ?_
      · rintro ⟨i580, l581, l584, i587⟩ x589 env590 w591 hf592 hr593 ⟨v582, zs583, v585, zs586, hs_, hm_⟩
        have hs_ : Sub [(0, (Value.pointer (some ⟨g0, 0, none⟩))), (1, (Value.int .i64 a1)), (4, (Value.int .i64 a0_moves)), (31, zd514.1), (32, (Value.int .i64 (List.length x511 : Int))), (33, (Value.int .i64 i580))] env590 := hs_
        have hm597 : Mem w (bunC [blk g0 131 [v0_j_Items, (Value.int .i64 a0_j_Weight), (Value.int .i64 a0_p_Steps), v0_p_Codes, v0_steps, v0_trains, (Value.int .i64 a0_moves), (Value.int .i64 a0_pushes)], ownL 22 v0_steps (zs_a0_steps : List Hdr), rowsC 3 zs_a0_steps (a0_steps : List (List Int)) none, ownL 22 v0_trains (zs_a0_trains : List Hdr), rowsC 3 zs_a0_trains (a0_trains : List (List Int)) none]).D [rowsC 3 zs583 (l581 : List (List Int)) none, ownL 3 zd514.1 (x511 : List Int), blk g0 131 [v0_j_Items, (Value.int .i64 a0_j_Weight), (Value.int .i64 a0_p_Steps), v0_p_Codes, v582, v585, (Value.int .i64 i587), (Value.int .i64 a0_pushes)], ownL 22 v582 (zs583 : List Hdr), ownL 22 v585 (zs586 : List Hdr), rowsC 3 zs586 (l584 : List (List Int)) none] w591 := hm_
        refine cw_sub hs_ ?_
        clear hs_ hm_ q596
        have h : machine_at_l2 N a0_j_Items a0_j_Weight a0_p_Steps a0_p_Codes a0_pushes a1 x511 i580 l581 l584 i587 = some x589 := hf592
        clear hf592
        refine cw_seq ?_
        refine cw_region ?_
        refine t_rd rfl (rd_lss rfl rfl) ?_
        refine rwt_nil ?_
        refine qn_then ?_
        refine cw_seq ?_
        obtain ⟨hb598, q599⟩ | ⟨hb598, q599⟩ := oi h <;> clear h
        · refine cw_t rfl hb598 ?_
          refine cw_skip ?_
          refine qn_then ?_
          refine cw_seq ?_
          refine cw_block ?_
          refine cw_seq ?_
          refine cw_region ?_
          obtain ⟨x600, h601, q602⟩ := ob q599; clear q599
          refine t_rd rfl (rd_index tS22 rfl rfl (hm597.sl 1 rfl) h601) ?_
          refine t_rd rfl (rd_ld1 tO3 rfl ((hm597.sl 1 rfl).cells h601) (off := 0) rfl) ?_
          refine t_rd rfl (rd_assign rfl) ?_
          refine rwt_nil ?_
          refine qn_then ?_
          refine cw_region ?_
          refine t_rd rfl (rd_move rfl) ?_
          refine t_rd rfl (rd_move rfl) ?_
          refine t_rd rfl (rd_move rfl) ?_
          have hm603 := hm597.pick [2, 3, 0, 4, 5, 1] (L' := [blk g0 131 [v0_j_Items, (Value.int .i64 a0_j_Weight), (Value.int .i64 a0_p_Steps), v0_p_Codes, v582, v585, (Value.int .i64 i587), (Value.int .i64 a0_pushes)], ownL 22 v582 (zs583 : List Hdr), rowsC 3 zs583 (l581 : List (List Int)) none, ownL 22 v585 (zs586 : List Hdr), rowsC 3 zs586 (l584 : List (List Int)) none, ownL 3 zd514.1 (x511 : List Int)]) (by decide) rfl
          have hm604 := hm603.bundle [blk g0 131 [v0_j_Items, (Value.int .i64 a0_j_Weight), (Value.int .i64 a0_p_Steps), v0_p_Codes, v582, v585, (Value.int .i64 i587), (Value.int .i64 a0_pushes)], ownL 22 v582 (zs583 : List Hdr), rowsC 3 zs583 (l581 : List (List Int)) none, ownL 22 v585 (zs586 : List Hdr), rowsC 3 zs586 (l584 : List (List Int)) none] [ownL 3 zd514.1 (x511 : List Int)]
          obtain ⟨r605, h606, q607⟩ := ob q602; clear q602
          refine t_ef rfl (ef_call tf101 rfl (machine_push_ok h606 (hv0_j_Items.to_callT (k := 0) hm604 rfl) (hv0_p_Codes.to_callT (k := 0) hm604 rfl) (hm604.get (k := 0) rfl))) ?_
          rintro _ w611 ⟨zs608, zs609, e_, hm610⟩
          obtain rfl := e_.symm
          have hm612 := hm604.callM (k := 0) rfl (fun _ h => h) hm610
          have hm613 := hm612.unbundle [blk g0 131 [v0_j_Items, (Value.int .i64 a0_j_Weight), (Value.int .i64 a0_p_Steps), v0_p_Codes, v582, v585, (Value.int .i64 r605.2.2), (Value.int .i64 a0_pushes)], ownL 22 v582 (zs608 : List Hdr), rowsC 3 zs608 (r605.1 : List (List Int)) none, ownL 22 v585 (zs609 : List Hdr), rowsC 3 zs609 (r605.2.1 : List (List Int)) none] [ownL 3 zd514.1 (x511 : List Int)]
          refine rwt_nil ?_
          refine qn_block (qn_then ?_)
          refine cw_region ?_
          obtain ⟨x614, h615, q616⟩ := ob q607; clear q607
          refine t_rd rfl (rd_add64 h615 rfl rfl) ?_
          refine t_rd rfl (rd_move rfl) ?_
          refine rwt_nil ?_
          refine qn_then ?_
          refine ⟨_, (os q616), v582, zs608, v585, zs609, (by repeat (first | exact Sub.nil _ | refine Sub.cons rfl ?_)), (hm613.pick [2, 5, 0, 1, 3, 4] (by decide) rfl)⟩
        · refine cw_f rfl hb598 ?_
          refine cw_exit ?_
          refine qx_then (qx_then ?_)
          obtain rfl := hr593 _ (os q599)
          exact ⟨rfl, v582, zs583, v585, zs586, (by repeat (first | exact Sub.nil _ | refine Sub.cons rfl ?_)), (hm597.pick [0, 2, 3, 4, 5] (by decide) rfl)⟩
      · skip
        intro e env617 w618 hX619
        obtain ⟨rfl, v574, zs575, v577, zs578, hs620, hm621⟩ := hX619
        refine qx_same ?_
        obtain rfl := os q596
        exact ⟨rfl, v574, zs575, v577, zs578, (Sub.tr (by repeat (first | exact Sub.nil _ | refine Sub.cons rfl ?_)) hs620), (hm621.pick [1, 2, 0, 3, 4] (by decide) rfl)⟩
    · refine cw_f rfl hb506 ?_
      refine cw_skip ?_
      obtain rfl := os q507
      exact ⟨rfl, v0_steps, zs_a0_steps, v0_trains, zs_a0_trains, (by repeat (first | exact Sub.nil _ | refine Sub.cons rfl ?_)), (hm0.pick [0, 1, 2, 3, 4] (by decide) rfl)⟩
  · clear hit504
    intro e env622 w623 hX624
    obtain ⟨rfl, v497, zs498, v500, zs501, hs625, hm626⟩ := hX624
    refine qn_then ?_
    refine cw_sub hs625 ?_
    refine cw_seq ?_
    refine cw_seq ?_
    refine cw_region ?_
    refine t_rd rfl (rd_move rfl) ?_
    refine t_rd rfl (rd_nilCheck rfl) ?_
    refine t_rd rfl (rd_fld tF131_0 rfl) ?_
    refine t_rd rfl (rd_fld tF27_0 rfl) ?_
    refine t_rd rfl (rd_ld1 tO25 rfl (hm626.blk 0 rfl) (off := 0) rfl) ?_
    refine t_rd rfl (rd_lenS tS25 rfl (hv0_j_Items.of_old hm626)) ?_
    refine t_rd rfl (rd_move rfl) ?_
    refine rwt_nil ?_
    refine qn_then ?_
    refine cw_block ?_
    obtain ⟨r714, hit715, q716⟩ := ob q505; clear q505
    refine cw_loop2 (I := fun q envq wq => ∃ (v702 : Value) (zs703 : List Hdr) (v705 : Value) (zs706 : List Hdr), Sub [(0, (Value.pointer (some ⟨g0, 0, none⟩))), (1, (Value.int .i64 a1)), (4, (Value.int .i64 a0_moves)), (46, v0_j_Items), (47, (Value.int .i64 (List.length a0_j_Items : Int))), (48, (Value.int .i64 q.1))] envq ∧ Mem w (bunC [blk g0 131 [v0_j_Items, (Value.int .i64 a0_j_Weight), (Value.int .i64 a0_p_Steps), v0_p_Codes, v0_steps, v0_trains, (Value.int .i64 a0_moves), (Value.int .i64 a0_pushes)], ownL 22 v0_steps (zs_a0_steps : List Hdr), rowsC 3 zs_a0_steps (a0_steps : List (List Int)) none, ownL 22 v0_trains (zs_a0_trains : List Hdr), rowsC 3 zs_a0_trains (a0_trains : List (List Int)) none]).D [blk g0 131 [v0_j_Items, (Value.int .i64 a0_j_Weight), (Value.int .i64 a0_p_Steps), v0_p_Codes, v702, v705, (Value.int .i64 q.2.2.2), (Value.int .i64 a0_pushes)], ownL 22 v702 (zs703 : List Hdr), rowsC 3 zs703 (q.2.1 : List (List Int)) none, ownL 22 v705 (zs706 : List Hdr), rowsC 3 zs706 (q.2.2.1 : List (List Int)) none] wq) (X := fun eq envq wq => eq = .exit 2 ∧ ∃ (v694 : Value) (zs695 : List Hdr) (v697 : Value) (zs698 : List Hdr), Sub [(0, (Value.pointer (some ⟨g0, 0, none⟩))), (4, (Value.int .i64 a0_moves))] envq ∧ Mem w (bunC [blk g0 131 [v0_j_Items, (Value.int .i64 a0_j_Weight), (Value.int .i64 a0_p_Steps), v0_p_Codes, v0_steps, v0_trains, (Value.int .i64 a0_moves), (Value.int .i64 a0_pushes)], ownL 22 v0_steps (zs_a0_steps : List Hdr), rowsC 3 zs_a0_steps (a0_steps : List (List Int)) none, ownL 22 v0_trains (zs_a0_trains : List Hdr), rowsC 3 zs_a0_trains (a0_trains : List (List Int)) none]).D [blk g0 131 [v0_j_Items, (Value.int .i64 a0_j_Weight), (Value.int .i64 a0_p_Steps), v0_p_Codes, v694, v697, (Value.int .i64 r714.2.2), (Value.int .i64 a0_pushes)], ownL 22 v694 (zs695 : List Hdr), rowsC 3 zs695 (r714.1 : List (List Int)) none, ownL 22 v697 (zs698 : List Hdr), rowsC 3 zs698 (r714.2.1 : List (List Int)) none] wq) hit715 ⟨v497, zs498, v500, zs501, (by repeat (first | exact Sub.nil _ | refine Sub.cons rfl ?_)), (hm626.pick [0, 1, 2, 3, 4] (by decide) rfl)⟩ ?_ ?_
    · rintro ⟨i700, l701, l704, i707⟩ x709 env710 w711 hf712 hr713 ⟨v702, zs703, v705, zs706, hs_, hm_⟩
      have hs_ : Sub [(0, (Value.pointer (some ⟨g0, 0, none⟩))), (1, (Value.int .i64 a1)), (4, (Value.int .i64 a0_moves)), (46, v0_j_Items), (47, (Value.int .i64 (List.length a0_j_Items : Int))), (48, (Value.int .i64 i700))] env710 := hs_
      have hm717 : Mem w (bunC [blk g0 131 [v0_j_Items, (Value.int .i64 a0_j_Weight), (Value.int .i64 a0_p_Steps), v0_p_Codes, v0_steps, v0_trains, (Value.int .i64 a0_moves), (Value.int .i64 a0_pushes)], ownL 22 v0_steps (zs_a0_steps : List Hdr), rowsC 3 zs_a0_steps (a0_steps : List (List Int)) none, ownL 22 v0_trains (zs_a0_trains : List Hdr), rowsC 3 zs_a0_trains (a0_trains : List (List Int)) none]).D [blk g0 131 [v0_j_Items, (Value.int .i64 a0_j_Weight), (Value.int .i64 a0_p_Steps), v0_p_Codes, v702, v705, (Value.int .i64 i707), (Value.int .i64 a0_pushes)], ownL 22 v702 (zs703 : List Hdr), rowsC 3 zs703 (l701 : List (List Int)) none, ownL 22 v705 (zs706 : List Hdr), rowsC 3 zs706 (l704 : List (List Int)) none] w711 := hm_
      refine cw_sub hs_ ?_
      clear hs_ hm_ q716
      have h : machine_at_l3 N a0_j_Items a0_j_Weight a0_p_Steps a0_p_Codes a0_pushes a1 i700 l701 l704 i707 = some x709 := hf712
      clear hf712
      refine cw_seq ?_
      refine cw_region ?_
      refine t_rd rfl (rd_lss rfl rfl) ?_
      refine rwt_nil ?_
      refine qn_then ?_
      refine cw_seq ?_
      obtain ⟨hb718, q719⟩ | ⟨hb718, q719⟩ := oi h <;> clear h
      · refine cw_t rfl hb718 ?_
        refine cw_skip ?_
        refine qn_then ?_
        refine cw_seq ?_
        refine cw_block ?_
        refine cw_seq ?_
        refine cw_region ?_
        refine t_rd rfl (rd_move rfl) ?_
        obtain ⟨x720, h721, q722⟩ := ob q719; clear q719
        refine t_rd rfl (rd_index tS25 rfl rfl (hv0_j_Items.of_old hm717) h721) ?_
        refine t_rd rfl (rd_ld tA40 rfl ((hv0_j_Items.of_old hm717).cells h721) rfl) ?_
        refine t_ef rfl (ef_alloc hm717 tZ40 rfl) ?_
        rintro _ w725 ⟨g723, rfl, hm724⟩
        refine t_rd rfl (rd_assign rfl) ?_
        refine t_ef0 (ef_stw (k := 0) hm724 tA40 rfl rfl (oc_cons rfl (oc_cons rfl (oc_cons rfl (oc_cons rfl oc_nil)))) rfl rfl rfl) ?_
        intro _ w727 hm726
        refine rwt_nil ?_
        refine qn_then ?_
        refine cw_seq ?_
        refine cw_region ?_
        refine t_rd rfl (rd_fld tF40_2 rfl) ?_
        refine t_rd rfl (rd_ld1 tO3 rfl (hm726.blk 0 rfl) (off := 2) rfl) ?_
        refine t_rd rfl (rd_move rfl) ?_
        refine t_rd rfl (rd_eql rfl rfl) ?_
        refine rwt_nil ?_
        refine qn_then ?_
        obtain ⟨hb728, q729⟩ | ⟨hb728, q729⟩ := oi q722 <;> clear q722
        · refine cw_t rfl hb728 ?_
          refine cw_region ?_
          refine t_rd rfl (rd_move rfl) ?_
          refine t_rd rfl (rd_move rfl) ?_
          refine t_rd rfl (rd_move rfl) ?_
          have hm730 := hm726.pick [1, 2, 3, 4, 5, 0] (L' := [blk g0 131 [v0_j_Items, (Value.int .i64 a0_j_Weight), (Value.int .i64 a0_p_Steps), v0_p_Codes, v702, v705, (Value.int .i64 i707), (Value.int .i64 a0_pushes)], ownL 22 v702 (zs703 : List Hdr), rowsC 3 zs703 (l701 : List (List Int)) none, ownL 22 v705 (zs706 : List Hdr), rowsC 3 zs706 (l704 : List (List Int)) none, blk g723 40 [(Value.int .i64 x720.Train), (Value.int .i64 x720.Block), (Value.int .i64 x720.Round), (Value.int .i64 x720.Length)]]) (by decide) rfl
          have hm731 := hm730.bundle [blk g0 131 [v0_j_Items, (Value.int .i64 a0_j_Weight), (Value.int .i64 a0_p_Steps), v0_p_Codes, v702, v705, (Value.int .i64 i707), (Value.int .i64 a0_pushes)], ownL 22 v702 (zs703 : List Hdr), rowsC 3 zs703 (l701 : List (List Int)) none, ownL 22 v705 (zs706 : List Hdr), rowsC 3 zs706 (l704 : List (List Int)) none] [blk g723 40 [(Value.int .i64 x720.Train), (Value.int .i64 x720.Block), (Value.int .i64 x720.Round), (Value.int .i64 x720.Length)]]
          obtain ⟨r732, h733, q734⟩ := ob q729; clear q729
          refine t_ef rfl (ef_call tf101 rfl (machine_push_ok h733 (hv0_j_Items.to_callT (k := 0) hm731 rfl) (hv0_p_Codes.to_callT (k := 0) hm731 rfl) (hm731.get (k := 0) rfl))) ?_
          rintro _ w738 ⟨zs735, zs736, e_, hm737⟩
          obtain rfl := e_.symm
          have hm739 := hm731.callM (k := 0) rfl (fun _ h => h) hm737
          have hm740 := hm739.unbundle [blk g0 131 [v0_j_Items, (Value.int .i64 a0_j_Weight), (Value.int .i64 a0_p_Steps), v0_p_Codes, v702, v705, (Value.int .i64 r732.2.2), (Value.int .i64 a0_pushes)], ownL 22 v702 (zs735 : List Hdr), rowsC 3 zs735 (r732.1 : List (List Int)) none, ownL 22 v705 (zs736 : List Hdr), rowsC 3 zs736 (r732.2.1 : List (List Int)) none] [blk g723 40 [(Value.int .i64 x720.Train), (Value.int .i64 x720.Block), (Value.int .i64 x720.Round), (Value.int .i64 x720.Length)]]
          refine rwt_nil ?_
          refine qn_block (qn_then ?_)
          refine cw_region ?_
          obtain ⟨x741, h742, q743⟩ := ob q734; clear q734
          refine t_rd rfl (rd_add64 h742 rfl rfl) ?_
          refine t_rd rfl (rd_move rfl) ?_
          refine rwt_nil ?_
          refine qn_then ?_
          refine ⟨_, (os q743), v702, zs735, v705, zs736, (by repeat (first | exact Sub.nil _ | refine Sub.cons rfl ?_)), (hm740.pick [0, 1, 2, 3, 4] (by decide) rfl)⟩
        · refine cw_f rfl hb728 ?_
          refine cw_skip ?_
          refine qn_block (qn_then ?_)
          refine cw_region ?_
          obtain ⟨x744, h745, q746⟩ := ob q729; clear q729
          refine t_rd rfl (rd_add64 h745 rfl rfl) ?_
          refine t_rd rfl (rd_move rfl) ?_
          refine rwt_nil ?_
          refine qn_then ?_
          refine ⟨_, (os q746), v702, zs703, v705, zs706, (by repeat (first | exact Sub.nil _ | refine Sub.cons rfl ?_)), (hm726.pick [1, 2, 3, 4, 5] (by decide) rfl)⟩
      · refine cw_f rfl hb718 ?_
        refine cw_exit ?_
        refine qx_then (qx_then ?_)
        obtain rfl := hr713 _ (os q719)
        exact ⟨rfl, v702, zs703, v705, zs706, (by repeat (first | exact Sub.nil _ | refine Sub.cons rfl ?_)), (hm717.pick [0, 1, 2, 3, 4] (by decide) rfl)⟩
    · skip
      intro e env747 w748 hX749
      obtain ⟨rfl, v694, zs695, v697, zs698, hs750, hm751⟩ := hX749
      refine qx_same (qn_then ?_)
      refine cw_sub hs750 ?_
      refine cw_seq ?_
      refine cw_region ?_
      refine t_rd rfl (rd_move rfl) ?_
      refine t_rd rfl (rd_nilCheck rfl) ?_
      refine t_rd rfl (rd_fld tF131_4 rfl) ?_
      refine t_rd rfl (rd_ld1 tO3 rfl (hm751.blk 0 rfl) (off := 6) rfl) ?_
      refine t_rd rfl (rd_move rfl) ?_
      refine t_rd rfl (rd_gtr rfl rfl) ?_
      refine rwt_nil ?_
      refine qn_then ?_
      obtain ⟨hb752, q753⟩ | ⟨hb752, q753⟩ := oi q716 <;> clear q716
      · refine cw_t rfl hb752 ?_
        refine cw_region ?_
        refine t_rd rfl (rd_move rfl) ?_
        refine t_rd rfl (rd_nilCheck rfl) ?_
        refine t_rd rfl (rd_fld tF131_5 rfl) ?_
        refine t_rd rfl (rd_ld1 tO3 rfl (hm751.blk 0 rfl) (off := 7) rfl) ?_
        obtain ⟨x754, h755, q756⟩ := ob q753; clear q753
        refine t_rd rfl (rd_add64 h755 rfl rfl) ?_
        refine t_rd rfl (rd_nilCheck rfl) ?_
        refine t_rd rfl (rd_fld tF131_5 rfl) ?_
        refine t_ef0 (ef_st1 (k := 0) (off := 7) hm751 tO3 rfl rfl rfl rfl rfl rfl) ?_
        intro _ w758 hm757
        refine rwt_nil ?_
        obtain rfl := os q756
        refine retn ?_
        exact ret0 rfl ⟨zs695, v694, zs698, v697, rfl, (Mem.bundle [blk g0 131 [v0_j_Items, (Value.int .i64 a0_j_Weight), (Value.int .i64 a0_p_Steps), v0_p_Codes, v694, v697, (Value.int .i64 r714.2.2), (Value.int .i64 x754)], ownL 22 v694 (zs695 : List Hdr), rowsC 3 zs695 (r714.1 : List (List Int)) none, ownL 22 v697 (zs698 : List Hdr), rowsC 3 zs698 (r714.2.1 : List (List Int)) none] [] (hm757.pick (L' := [blk g0 131 [v0_j_Items, (Value.int .i64 a0_j_Weight), (Value.int .i64 a0_p_Steps), v0_p_Codes, v694, v697, (Value.int .i64 r714.2.2), (Value.int .i64 x754)], ownL 22 v694 (zs695 : List Hdr), rowsC 3 zs695 (r714.1 : List (List Int)) none, ownL 22 v697 (zs698 : List Hdr), rowsC 3 zs698 (r714.2.1 : List (List Int)) none]) [0, 1, 2, 3, 4] (by decide) rfl))⟩
      · refine cw_f rfl hb752 ?_
        refine cw_skip ?_
        obtain rfl := os q753
        refine retn ?_
        exact ret0 rfl ⟨zs695, v694, zs698, v697, rfl, (Mem.bundle [blk g0 131 [v0_j_Items, (Value.int .i64 a0_j_Weight), (Value.int .i64 a0_p_Steps), v0_p_Codes, v694, v697, (Value.int .i64 r714.2.2), (Value.int .i64 a0_pushes)], ownL 22 v694 (zs695 : List Hdr), rowsC 3 zs695 (r714.1 : List (List Int)) none, ownL 22 v697 (zs698 : List Hdr), rowsC 3 zs698 (r714.2.1 : List (List Int)) none] [] (hm751.pick (L' := [blk g0 131 [v0_j_Items, (Value.int .i64 a0_j_Weight), (Value.int .i64 a0_p_Steps), v0_p_Codes, v694, v697, (Value.int .i64 r714.2.2), (Value.int .i64 a0_pushes)], ownL 22 v694 (zs695 : List Hdr), rowsC 3 zs695 (r714.1 : List (List Int)) none, ownL 22 v697 (zs698 : List Hdr), rowsC 3 zs698 (r714.2.1 : List (List Int)) none]) [0, 1, 2, 3, 4] (by decide) rfl))⟩

theorem rollin_run_ok {N : Nat} {a0_Items : List T_Item} {a0_Weight : Int} {a1_Steps : Int} {a1_Codes : List Int} {a2 : Int} {res : Int × Int × List (List Int) × List (List Int) × Int × Int} (h : rollin_run N a0_Items a0_Weight a1_Steps a1_Codes a2 = some res) {w : World} {v0_Items : Value} {v1_Codes : Value} (hv0_Items : Sl (Old w No) w v0_Items a0_Items) (hv1_Codes : Sl (Old w No) w v1_Codes a1_Codes) :
    CallsR Tryz.prog 58 [(Value.agg #[v0_Items, (Value.int .i64 a0_Weight)]), (Value.agg #[(Value.int .i64 a1_Steps), v1_Codes]), (Value.int .i64 a2)] w (fun u w' => ∃ gr : Nat, ∃ (zy0 : List Hdr) (y1 : Value) (zy2 : List Hdr) (y3 : Value), u = (Value.pointer (some ⟨gr, 0, none⟩)) ∧ Mem w No [blk gr 131 [v0_Items, (Value.int .i64 res.1), (Value.int .i64 res.2.1), v1_Codes, y1, y3, (Value.int .i64 res.2.2.2.2.1), (Value.int .i64 res.2.2.2.2.2)], ownL 22 y1 (zy0 : List Hdr), rowsC 3 zy0 (res.2.2.1 : List (List Int)) none, ownL 22 y3 (zy2 : List Hdr), rowsC 3 zy2 (res.2.2.2.1 : List (List Int)) none] w') := by
  unfold rollin_run at h
  refine fn_ok Tryz.func58 rfl rfl rfl ?_
  have hm0 := Mem.nil w
  refine cw_seq ?_
  refine cw_region ?_
  refine t_ef rfl (ef_box hm0 rfl rfl) ?_
  rintro _ w112 ⟨g110, rfl, hm111⟩
  refine t_ef rfl (ef_box hm111 rfl rfl) ?_
  rintro _ w115 ⟨g113, rfl, hm114⟩
  refine t_rd rfl (rd_assign rfl) ?_
  refine rwt_nil ?_
  refine qn_then ?_
  refine cw_seq ?_
  refine cw_region ?_
  refine t_rd rfl (rd_ld tA27 rfl (hm114.blk 1 rfl) rfl) ?_
  refine t_rd rfl (rd_ld tA30 rfl (hm114.blk 0 rfl) rfl) ?_
  obtain ⟨r116, h117, q118⟩ := ob h; clear h
  refine t_ef rfl (ef_call tf85 rfl (rollin_start_ok h117 (hv0_Items.to_call hm114) (hv1_Codes.to_call hm114))) ?_
  rintro _ w125 ⟨g119, zs120, v121, zs122, v123, e_, hm124⟩
  obtain rfl := e_.symm
  have hm126 := hm114.call hm124
  refine t_rd rfl (rd_assign rfl) ?_
  refine rwt_nil ?_
  refine qn_then ?_
  refine cw_seq ?_
  refine cw_seq ?_
  refine cw_region ?_
  refine t_rd rfl (rd_assign rfl) ?_
  refine rwt_nil ?_
  refine qn_then ?_
  refine cw_block ?_
  obtain ⟨r193, hit194, q195⟩ := ob q118; clear q118
  refine cw_loop2 (I := fun q envq wq => ∃ (v182 : Value) (zs183 : List Hdr) (v185 : Value) (zs186 : List Hdr), Sub [(2, (Value.int .i64 a2)), (7, (Value.pointer (some ⟨g119, 0, none⟩))), (8, (Value.int .i64 q.1))] envq ∧ Mem w No [blk g119 131 [v0_Items, (Value.int .i64 r116.1), (Value.int .i64 r116.2.1), v1_Codes, v182, v185, (Value.int .i64 q.2.1), (Value.int .i64 q.2.2.1)], ownL 22 v182 (zs183 : List Hdr), rowsC 3 zs183 (q.2.2.2.1 : List (List Int)) none, ownL 22 v185 (zs186 : List Hdr), rowsC 3 zs186 (q.2.2.2.2 : List (List Int)) none] wq) (X := fun eq envq wq => eq = .exit 0 ∧ ∃ (v173 : Value) (zs174 : List Hdr) (v176 : Value) (zs177 : List Hdr), Sub [(7, (Value.pointer (some ⟨g119, 0, none⟩)))] envq ∧ Mem w No [blk g119 131 [v0_Items, (Value.int .i64 r116.1), (Value.int .i64 r116.2.1), v1_Codes, v173, v176, (Value.int .i64 r193.1), (Value.int .i64 r193.2.1)], ownL 22 v173 (zs174 : List Hdr), rowsC 3 zs174 (r193.2.2.1 : List (List Int)) none, ownL 22 v176 (zs177 : List Hdr), rowsC 3 zs177 (r193.2.2.2 : List (List Int)) none] wq) hit194 ⟨v121, zs120, v123, zs122, (by repeat (first | exact Sub.nil _ | refine Sub.cons rfl ?_)), (hm126.pick [0, 1, 2, 3, 4] (by decide) rfl)⟩ ?_ ?_
  · rintro ⟨i178, i179, i180, l181, l184⟩ x188 env189 w190 hf191 hr192 ⟨v182, zs183, v185, zs186, hs_, hm_⟩
    have hs_ : Sub [(2, (Value.int .i64 a2)), (7, (Value.pointer (some ⟨g119, 0, none⟩))), (8, (Value.int .i64 i178))] env189 := hs_
    have hm196 : Mem w No [blk g119 131 [v0_Items, (Value.int .i64 r116.1), (Value.int .i64 r116.2.1), v1_Codes, v182, v185, (Value.int .i64 i179), (Value.int .i64 i180)], ownL 22 v182 (zs183 : List Hdr), rowsC 3 zs183 (l181 : List (List Int)) none, ownL 22 v185 (zs186 : List Hdr), rowsC 3 zs186 (l184 : List (List Int)) none] w190 := hm_
    refine cw_sub hs_ ?_
    clear hs_ hm_ q195
    have h : rollin_run_l1 N a0_Items a1_Codes a2 r116 i178 i179 i180 l181 l184 = some x188 := hf191
    clear hf191
    refine cw_seq ?_
    refine cw_seq ?_
    refine cw_region ?_
    refine t_rd rfl (rd_move rfl) ?_
    refine t_rd rfl (rd_move rfl) ?_
    refine t_rd rfl (rd_leq rfl rfl) ?_
    refine rwt_nil ?_
    refine qn_then ?_
    obtain ⟨hb197, q198⟩ | ⟨hb197, q198⟩ := oi h <;> clear h
    · refine cw_t rfl hb197 ?_
      refine cw_skip ?_
      refine qn_then ?_
      refine cw_seq ?_
      refine cw_block ?_
      refine cw_region ?_
      refine t_rd rfl (rd_move rfl) ?_
      refine t_rd rfl (rd_move rfl) ?_
      have hm199 := hm196.bundle [blk g119 131 [v0_Items, (Value.int .i64 r116.1), (Value.int .i64 r116.2.1), v1_Codes, v182, v185, (Value.int .i64 i179), (Value.int .i64 i180)], ownL 22 v182 (zs183 : List Hdr), rowsC 3 zs183 (l181 : List (List Int)) none, ownL 22 v185 (zs186 : List Hdr), rowsC 3 zs186 (l184 : List (List Int)) none] []
      obtain ⟨r200, h201, q202⟩ := ob q198; clear q198
      refine t_ef rfl (ef_call tf87 rfl (machine_at_ok h201 (hv0_Items.to_callT (k := 0) hm199 rfl) (hv1_Codes.to_callT (k := 0) hm199 rfl) (hm199.get (k := 0) rfl))) ?_
      rintro _ w208 ⟨zs203, v204, zs205, v206, e_, hm207⟩
      obtain rfl := e_.symm
      have hm209 := hm199.callM (k := 0) rfl (fun _ h => h) hm207
      have hm210 := hm209.unbundle [blk g119 131 [v0_Items, (Value.int .i64 r116.1), (Value.int .i64 r116.2.1), v1_Codes, v204, v206, (Value.int .i64 r200.2.2.1), (Value.int .i64 r200.2.2.2)], ownL 22 v204 (zs203 : List Hdr), rowsC 3 zs203 (r200.1 : List (List Int)) none, ownL 22 v206 (zs205 : List Hdr), rowsC 3 zs205 (r200.2.1 : List (List Int)) none] []
      refine rwt_nil ?_
      refine qn_block (qn_then ?_)
      refine cw_region ?_
      refine t_rd rfl (rd_move rfl) ?_
      obtain ⟨x211, h212, q213⟩ := ob q202; clear q202
      refine t_rd rfl (rd_add64 h212 rfl rfl) ?_
      refine t_rd rfl (rd_assign rfl) ?_
      refine rwt_nil ?_
      refine qn_then ?_
      refine ⟨_, (os q213), v204, zs203, v206, zs205, (by repeat (first | exact Sub.nil _ | refine Sub.cons rfl ?_)), (hm210.pick [0, 1, 2, 3, 4] (by decide) rfl)⟩
    · refine cw_f rfl hb197 ?_
      refine cw_exit ?_
      refine qx_then (qx_then ?_)
      obtain rfl := hr192 _ (os q198)
      exact ⟨rfl, v182, zs183, v185, zs186, (by repeat (first | exact Sub.nil _ | refine Sub.cons rfl ?_)), (hm196.pick [0, 1, 2, 3, 4] (by decide) rfl)⟩
  · skip
    intro e env214 w215 hX216
    obtain ⟨rfl, v173, zs174, v176, zs177, hs217, hm218⟩ := hX216
    refine qx_same (qn_then ?_)
    refine cw_sub hs217 ?_
    refine cw_seq ?_
    refine cw_region ?_
    refine t_rd rfl (rd_move rfl) ?_
    refine t_rd rfl (rd_assign rfl) ?_
    refine rwt_nil ?_
    refine qn_then ?_
    refine cw_ret ?_
    obtain rfl := os q195
    exact ret1 rfl rfl ⟨g119, zs174, v173, zs177, v176, rfl, (hm218.pick [0, 1, 2, 3, 4] (by decide) rfl)⟩

theorem rollin_Run_ok {N : Nat} {a0_Items : List T_Item} {a0_Weight : Int} {a1_Steps : Int} {a1_Codes : List Int} {res : List (List Int) × Int × Int} (h : rollin_Run N a0_Items a0_Weight a1_Steps a1_Codes = some res) {w : World} {v0_Items : Value} {v1_Codes : Value} (hv0_Items : Sl (Old w No) w v0_Items a0_Items) (hv1_Codes : Sl (Old w No) w v1_Codes a1_Codes) :
    CallsR Tryz.prog 26 [(Value.agg #[v0_Items, (Value.int .i64 a0_Weight)]), (Value.agg #[(Value.int .i64 a1_Steps), v1_Codes])] w (fun u w' => ∃ (zy0 : List Hdr) (y1 : Value), u = (Value.tuple #[(Value.agg #[y1, (Value.int .i64 res.2.1)]), (Value.int .i64 res.2.2)]) ∧ Mem w No [ownL 22 y1 (zy0 : List Hdr), rowsC 3 zy0 (res.1 : List (List Int)) none] w') := by
  unfold rollin_Run at h
  refine fn_ok Tryz.func26 rfl rfl rfl ?_
  have hm0 := Mem.nil w
  refine cw_seq ?_
  refine cw_region ?_
  refine t_ef rfl (ef_box hm0 rfl rfl) ?_
  rintro _ w3 ⟨g1, rfl, hm2⟩
  refine t_ef rfl (ef_box hm2 rfl rfl) ?_
  rintro _ w6 ⟨g4, rfl, hm5⟩
  refine t_ef rfl (ef_alloc hm5 tZ79 rfl) ?_
  rintro _ w9 ⟨g7, rfl, hm8⟩
  refine t_rd rfl (rd_assign rfl) ?_
  refine rwt_nil ?_
  refine qn_then ?_
  refine cw_seq ?_
  refine cw_seq ?_
  refine cw_region ?_
  refine t_rd rfl (rd_ld tA27 rfl (hm8.blk 2 rfl) rfl) ?_
  refine t_rd rfl (rd_ld tA30 rfl (hm8.blk 1 rfl) rfl) ?_
  obtain ⟨r10, h11, q12⟩ := ob h; clear h
  refine t_ef rfl (ef_call tf31 rfl (rollin_Valid_ok h11 (hv0_Items.to_call hm8) (hv1_Codes.to_call hm8))) ?_
  rintro _ w14 ⟨e_, hm13⟩
  obtain rfl := e_.symm
  have hm15 := hm8.call hm13
  refine t_rd rfl (rd_assign rfl) ?_
  refine rwt_nil ?_
  refine qn_then ?_
  refine cw_seq ?_
  refine cw_region ?_
  refine t_rd rfl (rd_move rfl) ?_
  refine t_rd rfl (rd_neq rfl rfl) ?_
  refine rwt_nil ?_
  refine qn_then ?_
  obtain ⟨hb16, q17⟩ | ⟨hb16, q17⟩ := oi q12 <;> clear q12
  · refine cw_t rfl hb16 ?_
    refine cw_seq ?_
    refine cw_region ?_
    refine t_rd rfl (rd_build (cs := #[(Value.slice none 0 0), (Value.int .i64 0)]) rfl (by kernel_rfl)) ?_
    refine t_rd rfl (rd_move rfl) ?_
    refine t_ef0 (ef_stw (k := 0) hm15 tA79 rfl rfl (oc_cons (sl_one (Sl.nil (α := Hdr) No w14)) (oc_cons rfl oc_nil)) rfl rfl rfl) ?_
    intro _ w19 hm18
    refine t_rd rfl (rd_assign rfl) ?_
    refine rwt_nil ?_
    refine qn_then ?_
    refine cw_ret ?_
    refine qr_then ?_
    obtain rfl := os q17
    have hm20 := hm18.addNil (α := Hdr) 22
    have hm21 := hm20.rowsNil (α := Int) 3
    exact retLn (rs := [.cell 4 79, .tmp 5]) rfl (.rc rfl tA79 (hm21.blk 2 rfl) rfl (.rt rfl .rn)) rfl ⟨[], (Value.slice none 0 0), rfl, (hm21.pick [1, 0] (by decide) rfl)⟩
  · refine cw_f rfl hb16 ?_
    refine cw_skip ?_
    refine qn_then ?_
    refine cw_seq ?_
    refine cw_region ?_
    refine t_rd rfl (rd_ld tA27 rfl (hm15.blk 2 rfl) rfl) ?_
    refine t_rd rfl (rd_ld tA30 rfl (hm15.blk 1 rfl) rfl) ?_
    refine t_rd rfl (rd_fld tF30_0 rfl) ?_
    refine t_rd rfl (rd_ld1 tO3 rfl (hm15.blk 1 rfl) (off := 0) rfl) ?_
    obtain ⟨r22, h23, q24⟩ := ob q17; clear q17
    refine t_ef rfl (ef_call tf58 rfl (rollin_run_ok h23 (hv0_Items.to_call hm15) (hv1_Codes.to_call hm15))) ?_
    rintro _ w31 ⟨g25, zs26, v27, zs28, v29, e_, hm30⟩
    obtain rfl := e_.symm
    have hm32 := hm15.call hm30
    refine t_rd rfl (rd_assign rfl) ?_
    refine rwt_nil ?_
    refine qn_then ?_
    refine cw_seq ?_
    obtain ⟨w36, he38⟩ : ∃ q, q = w31.drew := ⟨_, rfl⟩
    have hm37 := hm32.drew; rw [← he38] at hm37
    refine cw_region_s (fun q => q = w36) (cls [] [9]) mixed ?_
    rintro _ rfl; rw [← he38]
    refine s_rp (i := 0) rfl (by kernel_rfl) rfl (fun _ => (rd_move rfl)) ?_
    refine s_rp (i := 1) rfl (by kernel_rfl) rfl (fun _ => (rd_nilCheck rfl)) ?_
    refine s_rp (i := 2) rfl (by kernel_rfl) rfl (fun _ => (rd_fld tF131_3 rfl)) ?_
    refine s_rd (i := 3) rfl (by kernel_rfl) rfl (fun _ hS => by rw [hS]; exact (rd_ld1 tO41 rfl (hm37.blk 0 rfl) (off := 5) rfl)) rfl ?_
    refine s_rp (i := 4) rfl (by kernel_rfl) rfl (fun _ => (rd_move rfl)) ?_
    refine s_rp (i := 5) rfl (by kernel_rfl) rfl (fun _ => (rd_nilCheck rfl)) ?_
    refine s_rp (i := 6) rfl (by kernel_rfl) rfl (fun _ => (rd_fld tF131_4 rfl)) ?_
    refine s_rd (i := 7) rfl (by kernel_rfl) rfl (fun _ hS => by rw [hS]; exact (rd_ld1 tO3 rfl (hm37.blk 0 rfl) (off := 6) rfl)) rfl ?_
    refine s_rp (i := 8) rfl (by kernel_rfl) rfl (fun _ => (rd_build (cs := #[v29, (Value.int .i64 r22.2.2.2.2.1)]) rfl (by obtain ⟨_, _, e⟩ := (((Nl.mk (hm37.sl_call 3 rfl) (hm37.rows_call 4 rfl)).sl)).val; rw [e]; clear e; kernel_rfl))) ?_
    refine s_ef0 (i := 9) rfl (by kernel_rfl) (ef_stw (k := 5) hm37 tA79 rfl rfl (oc_cons (sl_one ((Nl.mk (hm37.sl_call 3 rfl) (hm37.rows_call 4 rfl)).sl)) (oc_cons rfl oc_nil)) rfl rfl rfl) (by decide) (fun _ _ _ q => absurd q (by decide)) ?_
    intro _ w40 hm39
    refine s_rp (i := 10) rfl (by kernel_rfl) rfl (fun _ => (rd_assign rfl)) ?_
    refine s_nil (by kernel_rfl) ?_
    refine qn_then ?_
    refine cw_ret ?_
    obtain rfl := os q24
    exact retLn (rs := [.cell 4 79, .tmp 5]) rfl (.rc rfl tA79 (hm39.blk 5 rfl) rfl (.rt rfl .rn)) rfl ⟨zs28, v29, rfl, (hm39.pick [3, 4] (by decide) rfl)⟩

theorem rollin_Pushes_ok {N : Nat} {a0_Items : List T_Item} {a0_Weight : Int} {a1_Steps : Int} {a1_Codes : List Int} {res : Int × Int} (h : rollin_Pushes N a0_Items a0_Weight a1_Steps a1_Codes = some res) {w : World} {v0_Items : Value} {v1_Codes : Value} (hv0_Items : Sl (Old w No) w v0_Items a0_Items) (hv1_Codes : Sl (Old w No) w v1_Codes a1_Codes) :
    CallsR Tryz.prog 96 [(Value.agg #[v0_Items, (Value.int .i64 a0_Weight)]), (Value.agg #[(Value.int .i64 a1_Steps), v1_Codes])] w (fun u w' => u = (Value.tuple #[(Value.int .i64 res.1), (Value.int .i64 res.2)]) ∧ Mem w No [] w') := by
  unfold rollin_Pushes at h
  refine fn_ok Tryz.func96 rfl rfl rfl ?_
  have hm0 := Mem.nil w
  refine cw_seq ?_
  refine cw_region ?_
  refine t_ef rfl (ef_box hm0 rfl rfl) ?_
  rintro _ w3 ⟨g1, rfl, hm2⟩
  refine t_ef rfl (ef_box hm2 rfl rfl) ?_
  rintro _ w6 ⟨g4, rfl, hm5⟩
  refine t_rd rfl (rd_assign rfl) ?_
  refine t_rd rfl (rd_assign rfl) ?_
  refine rwt_nil ?_
  refine qn_then ?_
  refine cw_seq ?_
  refine cw_seq ?_
  refine cw_region ?_
  refine t_rd rfl (rd_ld tA27 rfl (hm5.blk 1 rfl) rfl) ?_
  refine t_rd rfl (rd_ld tA30 rfl (hm5.blk 0 rfl) rfl) ?_
  obtain ⟨r7, h8, q9⟩ := ob h; clear h
  refine t_ef rfl (ef_call tf31 rfl (rollin_Valid_ok h8 (hv0_Items.to_call hm5) (hv1_Codes.to_call hm5))) ?_
  rintro _ w11 ⟨e_, hm10⟩
  obtain rfl := e_.symm
  have hm12 := hm5.call hm10
  refine t_rd rfl (rd_assign rfl) ?_
  refine rwt_nil ?_
  refine qn_then ?_
  refine cw_seq ?_
  refine cw_region ?_
  refine t_rd rfl (rd_move rfl) ?_
  refine t_rd rfl (rd_neq rfl rfl) ?_
  refine rwt_nil ?_
  refine qn_then ?_
  obtain ⟨hb13, q14⟩ | ⟨hb13, q14⟩ := oi q9 <;> clear q9
  · refine cw_t rfl hb13 ?_
    refine cw_seq ?_
    refine cw_region ?_
    refine t_rd rfl (rd_move rfl) ?_
    refine t_rd rfl (rd_assign rfl) ?_
    refine t_rd rfl (rd_assign rfl) ?_
    refine rwt_nil ?_
    refine qn_then ?_
    refine cw_ret ?_
    refine qr_then ?_
    obtain rfl := os q14
    exact ret2 rfl rfl rfl ⟨rfl, (hm12.pick [] (by decide) rfl)⟩
  · refine cw_f rfl hb13 ?_
    refine cw_skip ?_
    refine qn_then ?_
    refine cw_seq ?_
    refine cw_region ?_
    refine t_rd rfl (rd_ld tA27 rfl (hm12.blk 1 rfl) rfl) ?_
    refine t_rd rfl (rd_ld tA30 rfl (hm12.blk 0 rfl) rfl) ?_
    refine t_rd rfl (rd_fld tF30_0 rfl) ?_
    refine t_rd rfl (rd_ld1 tO3 rfl (hm12.blk 0 rfl) (off := 0) rfl) ?_
    obtain ⟨r15, h16, q17⟩ := ob q14; clear q14
    refine t_ef rfl (ef_call tf58 rfl (rollin_run_ok h16 (hv0_Items.to_call hm12) (hv1_Codes.to_call hm12))) ?_
    rintro _ w24 ⟨g18, zs19, v20, zs21, v22, e_, hm23⟩
    obtain rfl := e_.symm
    have hm25 := hm12.call hm23
    refine t_rd rfl (rd_nilCheck rfl) ?_
    refine t_rd rfl (rd_fld tF131_5 rfl) ?_
    refine t_rd rfl (rd_ld1 tO3 rfl (hm25.blk 0 rfl) (off := 7) rfl) ?_
    refine t_rd rfl (rd_assign rfl) ?_
    refine t_rd rfl (rd_assign rfl) ?_
    refine rwt_nil ?_
    refine qn_then ?_
    refine cw_ret ?_
    obtain rfl := os q17
    exact ret2 rfl rfl rfl ⟨rfl, (hm25.pick [] (by decide) rfl)⟩

theorem planner_scheme_ok {N : Nat} {a0 : List T_Item} {a1 : Int} {res : T_Scheme × Int × List Int × Bool} (h : planner_scheme N a0 a1 = some res) {w : World} {v0 : Value} (hv0 : Sl (Old w No) w v0 a0) :
    CallsR Tryz.prog 79 [v0, (Value.int .i64 a1)] w (fun u w' => ∃ (y0 : Value), u = (Value.tuple #[(Value.agg (Flat.enc res.1).toArray), (Value.agg #[(Value.int .i64 res.2.1), y0]), (Value.bool res.2.2.2)]) ∧ Mem w No [ownL 3 y0 (res.2.2.1 : List Int)] w') := by
  unfold planner_scheme at h
  refine fn_ok Tryz.func79 rfl rfl rfl ?_
  have hm0 := Mem.nil w
  refine cw_seq ?_
  refine cw_region ?_
  refine t_ef rfl (ef_alloc hm0 tZ124 rfl) ?_
  rintro _ w3 ⟨g1, rfl, hm2⟩
  refine t_ef rfl (ef_alloc hm2 tZ30 rfl) ?_
  rintro _ w6 ⟨g4, rfl, hm5⟩
  refine t_rd rfl (rd_assign rfl) ?_
  refine rwt_nil ?_
  refine qn_then ?_
  refine cw_seq ?_
  refine cw_region ?_
  refine t_rd rfl (rd_move rfl) ?_
  refine t_rd rfl (rd_move rfl) ?_
  refine t_rd rfl (rd_build (cs := #[v0, (Value.int .i64 a1)]) rfl (by obtain ⟨_, _, e⟩ := ((hv0.of_old hm5)).val; rw [e]; clear e; kernel_rfl)) ?_
  refine t_ef rfl (ef_alloc hm5 tZ27 rfl) ?_
  rintro _ w9 ⟨g7, rfl, hm8⟩
  refine t_ef0 (ef_stw (k := 0) hm8 tA27 rfl rfl (oc_cons (sl_one (hv0.of_old hm8)) (oc_cons rfl oc_nil)) rfl rfl rfl) ?_
  intro _ w11 hm10
  refine rwt_nil ?_
  refine qn_then ?_
  refine cw_seq ?_
  refine cw_region ?_
  refine t_rd rfl (rd_ld tA27 rfl (hm10.blk 0 rfl) rfl) ?_
  obtain ⟨r12, h13, q14⟩ := ob h; clear h
  refine t_ef rfl (ef_call tf28 rfl (leastcode_Least_ok h13 (hv0.to_call hm10))) ?_
  rintro _ w17 ⟨v15, e_, hm16⟩
  obtain rfl := e_.symm
  have hm18 := hm10.call hm16
  refine t_rd rfl (rd_move rfl) ?_
  refine t_rd rfl (rd_extract rfl rfl) ?_
  refine t_rd rfl (rd_extract rfl rfl) ?_
  refine t_ef rfl (ef_alloc hm18 tZ30 rfl) ?_
  rintro _ w21 ⟨g19, rfl, hm20⟩
  refine t_ef0 (ef_stw (k := 0) hm20 tA30 rfl rfl (oc_cons rfl (oc_cons (sl_one (hm20.sl 1 rfl)) oc_nil)) rfl rfl rfl) ?_
  intro _ w23 hm22
  refine t_rd rfl (rd_assign rfl) ?_
  refine rwt_nil ?_
  refine qn_then ?_
  refine cw_seq ?_
  refine cw_seq ?_
  refine cw_region ?_
  refine t_rd rfl (rd_move rfl) ?_
  refine t_rd rfl (rd_neq rfl rfl) ?_
  refine rwt_nil ?_
  refine qn_then ?_
  obtain ⟨hb24, q25⟩ | ⟨hb24, q25⟩ := oi q14 <;> clear q14
  · refine cw_t rfl hb24 ?_
    refine cw_seq ?_
    refine cw_region ?_
    refine t_rd rfl (rd_build (cs := #[(Value.int .i64 0), (Value.int .i64 0), (Value.int .i64 0), (Value.int .i64 0)]) rfl (by kernel_rfl)) ?_
    refine t_rd rfl (rd_build (cs := #[(Value.int .i64 0), (Value.slice none 0 0)]) rfl (by kernel_rfl)) ?_
    refine t_ef0 (ef_stw (k := 4) hm22 tA124 rfl rfl (oc_cons rfl (oc_cons rfl (oc_cons rfl (oc_cons rfl oc_nil)))) rfl rfl rfl) ?_
    intro _ w27 hm26
    refine t_ef0 (ef_stw (k := 3) hm26 tA30 rfl rfl (oc_cons rfl (oc_cons (sl_one (Sl.nil (α := Int) No w27)) oc_nil)) rfl rfl rfl) ?_
    intro _ w29 hm28
    refine t_rd rfl (rd_assign rfl) ?_
    refine rwt_nil ?_
    refine qn_then ?_
    refine cw_ret ?_
    refine qr_then ?_
    obtain rfl := os q25
    have hm30 := hm28.addNil (α := Int) 3
    exact retLn (rs := [.cell 4 124, .cell 5 30, .tmp 6]) rfl (.rc rfl tA124 (hm30.blk 5 rfl) rfl (.rc rfl tA30 (hm30.blk 4 rfl) rfl (.rt rfl .rn))) rfl ⟨(Value.slice none 0 0), rfl, (hm30.pick [0] (by decide) rfl)⟩
  · refine cw_f rfl hb24 ?_
    refine cw_skip ?_
    refine qn_then ?_
    refine cw_seq ?_
    refine cw_region ?_
    refine t_rd rfl (rd_ld tA27 rfl (hm22.blk 2 rfl) rfl) ?_
    refine t_rd rfl (rd_ld tA30 rfl (hm22.blk 0 rfl) rfl) ?_
    obtain ⟨r31, h32, q33⟩ := ob q25; clear q25
    refine t_ef rfl (ef_call tf26 rfl (rollin_Run_ok h32 (hv0.to_call hm22) (hm22.sl_call 1 rfl))) ?_
    rintro _ w37 ⟨zs35, v34, e_, hm36⟩
    obtain rfl := e_.symm
    have hm38 := hm22.call hm36
    refine t_rd rfl (rd_move rfl) ?_
    refine t_rd rfl (rd_extract rfl rfl) ?_
    refine t_rd rfl (rd_extract rfl rfl) ?_
    refine t_ef rfl (ef_alloc hm38 tZ79 rfl) ?_
    rintro _ w41 ⟨g39, rfl, hm40⟩
    refine t_ef0 (ef_stw (k := 0) hm40 tA79 rfl rfl (oc_cons (sl_one ((Nl.mk (hm40.sl_call 1 rfl) (hm40.rows_call 2 rfl)).sl)) (oc_cons rfl oc_nil)) rfl rfl rfl) ?_
    intro _ w43 hm42
    refine t_rd rfl (rd_assign rfl) ?_
    refine rwt_nil ?_
    refine qn_then ?_
    refine cw_seq ?_
    refine cw_seq ?_
    refine cw_region ?_
    refine t_rd rfl (rd_move rfl) ?_
    refine t_rd rfl (rd_neq rfl rfl) ?_
    refine rwt_nil ?_
    refine qn_then ?_
    obtain ⟨hb44, q45⟩ | ⟨hb44, q45⟩ := oi q33 <;> clear q33
    · refine cw_t rfl hb44 ?_
      refine cw_seq ?_
      refine cw_region ?_
      refine t_rd rfl (rd_build (cs := #[(Value.int .i64 0), (Value.int .i64 0), (Value.int .i64 0), (Value.int .i64 0)]) rfl (by kernel_rfl)) ?_
      refine t_rd rfl (rd_build (cs := #[(Value.int .i64 0), (Value.slice none 0 0)]) rfl (by kernel_rfl)) ?_
      refine t_ef0 (ef_stw (k := 7) hm42 tA124 rfl rfl (oc_cons rfl (oc_cons rfl (oc_cons rfl (oc_cons rfl oc_nil)))) rfl rfl rfl) ?_
      intro _ w47 hm46
      refine t_ef0 (ef_stw (k := 6) hm46 tA30 rfl rfl (oc_cons rfl (oc_cons (sl_one (Sl.nil (α := Int) No w47)) oc_nil)) rfl rfl rfl) ?_
      intro _ w49 hm48
      refine t_rd rfl (rd_assign rfl) ?_
      refine rwt_nil ?_
      refine qn_then ?_
      refine cw_ret ?_
      refine qr_then ?_
      obtain rfl := os q45
      have hm50 := hm48.addNil (α := Int) 3
      exact retLn (rs := [.cell 4 124, .cell 5 30, .tmp 6]) rfl (.rc rfl tA124 (hm50.blk 8 rfl) rfl (.rc rfl tA30 (hm50.blk 7 rfl) rfl (.rt rfl .rn))) rfl ⟨(Value.slice none 0 0), rfl, (hm50.pick [0] (by decide) rfl)⟩
    · refine cw_f rfl hb44 ?_
      refine cw_skip ?_
      refine qn_then ?_
      refine cw_seq ?_
      refine cw_region ?_
      refine t_rd rfl (rd_ld tA27 rfl (hm42.blk 5 rfl) rfl) ?_
      refine t_rd rfl (rd_ld tA30 rfl (hm42.blk 3 rfl) rfl) ?_
      obtain ⟨r51, h52, q53⟩ := ob q45; clear q45
      refine t_ef rfl (ef_call tf96 rfl (rollin_Pushes_ok h52 (hv0.to_call hm42) (hm42.sl_call 4 rfl))) ?_
      rintro _ w55 ⟨e_, hm54⟩
      obtain rfl := e_.symm
      have hm56 := hm42.call hm54
      refine t_rd rfl (rd_move rfl) ?_
      refine t_rd rfl (rd_extract rfl rfl) ?_
      refine t_rd rfl (rd_extract rfl rfl) ?_
      refine t_rd rfl (rd_assign rfl) ?_
      refine t_rd rfl (rd_assign rfl) ?_
      refine rwt_nil ?_
      refine qn_then ?_
      refine cw_seq ?_
      obtain ⟨w62, he64⟩ : ∃ q, q = w55.drew := ⟨_, rfl⟩
      have hm63 := hm56.drew; rw [← he64] at hm63
      refine cw_region_s (fun q => (blk g19 30 [(Value.int .i64 r12.1), v15]).φ q ∧ (blk g39 79 [v34, (Value.int .i64 r31.2.1)]).φ q) (cls [8] [9]) mixed ?_
      rintro _ rfl; rw [← he64]
      refine s_rp (i := 0) rfl (by kernel_rfl) rfl (fun _ => (rd_move rfl)) ?_
      refine s_rp (i := 1) rfl (by kernel_rfl) rfl (fun _ => (rd_fld tF30_0 rfl)) ?_
      refine s_rd (i := 2) rfl (by kernel_rfl) rfl (fun w61 hS => (rd_ld1 tO3 rfl (cells_blk hS.1) (off := 0) rfl)) ⟨(hm63.get (k := 3) rfl), (hm63.get (k := 0) rfl)⟩ ?_
      refine s_rp (i := 3) rfl (by kernel_rfl) rfl (fun _ => (rd_fld tF79_1 rfl)) ?_
      refine s_rd (i := 4) rfl (by kernel_rfl) rfl (fun w61 hS => (rd_ld1 tO3 rfl (cells_blk hS.2) (off := 1) rfl)) ⟨(hm63.get (k := 3) rfl), (hm63.get (k := 0) rfl)⟩ ?_
      refine s_rp (i := 5) rfl (by kernel_rfl) rfl (fun _ => (rd_move rfl)) ?_
      refine s_rp (i := 6) rfl (by kernel_rfl) rfl (fun _ => (rd_build (cs := #[(Value.int .i64 a1), (Value.int .i64 r12.1), (Value.int .i64 r31.2.1), (Value.int .i64 r51.1)]) rfl (by kernel_rfl))) ?_
      refine s_rd (i := 7) rfl (by kernel_rfl) rfl (fun w61 hS => (rd_ld tA30 rfl (cells_blk hS.1) rfl)) ⟨(hm63.get (k := 3) rfl), (hm63.get (k := 0) rfl)⟩ ?_
      refine s_ef0 (i := 8) rfl (by kernel_rfl) (ef_stw (k := 7) hm63 tA124 rfl rfl (oc_cons rfl (oc_cons rfl (oc_cons rfl (oc_cons rfl oc_nil)))) rfl rfl rfl) (by decide) ?_ ?_
      · intro _ w70 hm69
        intro _
        exact ⟨(hm69.get (k := 3) rfl), (hm69.get (k := 0) rfl)⟩
      intro _ w70 hm69
      refine s_ef0 (i := 9) rfl (by kernel_rfl) (ef_stw (k := 6) hm69 tA30 rfl rfl (oc_cons rfl (oc_cons (sl_one (hm69.sl 4 rfl)) oc_nil)) rfl rfl rfl) (by decide) (fun _ _ _ q => absurd q (by decide)) ?_
      intro _ w72 hm71
      refine s_rp (i := 10) rfl (by kernel_rfl) rfl (fun _ => (rd_assign rfl)) ?_
      refine s_nil (by kernel_rfl) ?_
      refine qn_then ?_
      refine cw_ret ?_
      obtain rfl := os q53
      exact retLn (rs := [.cell 4 124, .cell 5 30, .tmp 6]) rfl (.rc rfl tA124 (hm71.blk 7 rfl) rfl (.rc rfl tA30 (hm71.blk 6 rfl) rfl (.rt rfl .rn))) rfl ⟨v15, rfl, (hm71.pick [4] (by decide) rfl)⟩

theorem g_cmp_Or_int_ok {N : Nat} {a0 : List Int} {res : Int} (h : g_cmp_Or_int N a0 = some res) {w : World} {v0 : Value} (hv0 : Sl (Old w No) w v0 a0) :
    CallsR Tryz.prog 82 [v0] w (fun u w' => u = (Value.int .i64 res) ∧ Mem w No [] w') := by
  unfold g_cmp_Or_int at h
  refine fn_ok Tryz.func82 rfl rfl rfl ?_
  have hm0 := Mem.nil w
  refine cw_seq ?_
  refine cw_region ?_
  refine t_rd rfl (rd_assign rfl) ?_
  refine rwt_nil ?_
  refine qn_then ?_
  refine cw_seq ?_
  refine cw_region ?_
  refine t_rd rfl (rd_assign rfl) ?_
  refine rwt_nil ?_
  refine qn_then ?_
  refine cw_seq ?_
  refine cw_seq ?_
  refine cw_region ?_
  refine t_rd rfl (rd_move rfl) ?_
  refine t_rd rfl (rd_lenS tS22 rfl (hv0.of_old hm0)) ?_
  refine t_rd rfl (rd_move rfl) ?_
  refine rwt_nil ?_
  refine qn_then ?_
  refine cw_block ?_
  obtain ⟨r29, hit30, q31⟩ := ob h; clear h
  refine cw_loop2 (I := fun q envq wq => Sub [(3, (Value.int .i64 0)), (6, v0), (7, (Value.int .i64 (List.length a0 : Int))), (8, (Value.int .i64 q))] envq ∧ Mem w No [] wq) (X := fun eq envq wq => (∃ p32, r29 = (Sum.inl p32) ∧ eq = .ret ∧ retQ Tryz.prog 18 Tryz.f82 (fun u w' => u = (Value.int .i64 p32) ∧ Mem w No [] w') .ret envq wq) ∨ (∃ p33, r29 = (Sum.inr p33) ∧ eq = .exit 0 ∧ Sub [(3, (Value.int .i64 0))] envq ∧ Mem w No [] wq)) hit30 ⟨(by repeat (first | exact Sub.nil _ | refine Sub.cons rfl ?_)), (hm0.pick [] (by decide) rfl)⟩ ?_ ?_
  · rintro i22 x24 env25 w26 hf27 hr28 ⟨hs_, hm_⟩
    have hs_ : Sub [(3, (Value.int .i64 0)), (6, v0), (7, (Value.int .i64 (List.length a0 : Int))), (8, (Value.int .i64 i22))] env25 := hs_
    have hm34 : Mem w No [] w26 := hm_
    refine cw_sub hs_ ?_
    clear hs_ hm_ q31
    have h : g_cmp_Or_int_l1 N a0 i22 = some x24 := hf27
    clear hf27
    refine cw_seq ?_
    refine cw_region ?_
    refine t_rd rfl (rd_lss rfl rfl) ?_
    refine rwt_nil ?_
    refine qn_then ?_
    refine cw_seq ?_
    obtain ⟨hb35, q36⟩ | ⟨hb35, q36⟩ := oi h <;> clear h
    · refine cw_t rfl hb35 ?_
      refine cw_skip ?_
      refine qn_then ?_
      refine cw_seq ?_
      refine cw_block ?_
      refine cw_seq ?_
      refine cw_region ?_
      obtain ⟨x37, h38, q39⟩ := ob q36; clear q36
      refine t_rd rfl (rd_index tS22 rfl rfl (hv0.of_old hm34) h38) ?_
      refine t_rd rfl (rd_ld1 tO3 rfl ((hv0.of_old hm34).cells h38) (off := 0) rfl) ?_
      refine t_rd rfl (rd_assign rfl) ?_
      refine rwt_nil ?_
      refine qn_then ?_
      refine cw_seq ?_
      refine cw_region ?_
      refine t_rd rfl (rd_move rfl) ?_
      refine t_rd rfl (rd_move rfl) ?_
      refine t_rd rfl (rd_neq rfl rfl) ?_
      refine rwt_nil ?_
      refine qn_then ?_
      obtain ⟨hb40, q41⟩ | ⟨hb40, q41⟩ := oi q39 <;> clear q39
      · refine cw_t rfl hb40 ?_
        refine cw_seq ?_
        refine cw_region ?_
        refine t_rd rfl (rd_move rfl) ?_
        refine t_rd rfl (rd_assign rfl) ?_
        refine rwt_nil ?_
        refine qn_then ?_
        refine cw_ret ?_
        refine qr_block (qr_then (qr_then ?_))
        obtain rfl := hr28 _ (os q41)
        refine .inl (⟨_, rfl, ⟨rfl, ?_⟩⟩)
        exact ret1 rfl rfl ⟨rfl, (hm34.pick [] (by decide) rfl)⟩
      · refine cw_f rfl hb40 ?_
        refine cw_skip ?_
        refine qn_block (qn_then ?_)
        refine cw_region ?_
        obtain ⟨x42, h43, q44⟩ := ob q41; clear q41
        refine t_rd rfl (rd_add64 h43 rfl rfl) ?_
        refine t_rd rfl (rd_move rfl) ?_
        refine rwt_nil ?_
        refine qn_then ?_
        refine ⟨_, (os q44), (by repeat (first | exact Sub.nil _ | refine Sub.cons rfl ?_)), (hm34.pick [] (by decide) rfl)⟩
    · refine cw_f rfl hb35 ?_
      refine cw_exit ?_
      refine qx_then (qx_then ?_)
      obtain rfl := hr28 _ (os q36)
      exact .inr (⟨_, rfl, ⟨rfl, (by repeat (first | exact Sub.nil _ | refine Sub.cons rfl ?_)), (hm34.pick [] (by decide) rfl)⟩⟩)
  · skip
    intro e env45 w46 hX47
    rcases hX47 with hX47 | hX47
    · obtain ⟨p49, rfl, hX47⟩ := hX47
      obtain ⟨rfl, hq51⟩ := hX47
      exact qr_block (qr_then ((by have e := os q31; subst e; exact hq51)))
    · obtain ⟨p52, rfl, hX47⟩ := hX47
      obtain ⟨rfl, hs53, hm54⟩ := hX47
      refine qx_same (qn_then ?_)
      refine cw_sub hs53 ?_
      refine cw_seq ?_
      refine cw_region ?_
      refine t_rd rfl (rd_move rfl) ?_
      refine t_rd rfl (rd_assign rfl) ?_
      refine rwt_nil ?_
      refine qn_then ?_
      refine cw_ret ?_
      obtain rfl := os q31
      exact ret1 rfl rfl ⟨rfl, (hm54.pick [] (by decide) rfl)⟩

theorem planner_Schemes_1_ok {N : Nat} {a0 : T_Scheme} {a1 : T_Scheme} {res : Int} (h : planner_Schemes_1 N a0 a1 = some res) {w : World}   :
    CallsR Tryz.prog 81 [(Value.agg (Flat.enc a0).toArray), (Value.agg (Flat.enc a1).toArray)] w (fun u w' => u = (Value.int .i64 res) ∧ Mem w No [] w') := by
  unfold planner_Schemes_1 at h
  refine fn_ok Tryz.func81 rfl rfl rfl ?_
  have hm0 := Mem.nil w
  refine cw_seq ?_
  refine cw_region ?_
  refine t_ef rfl (ef_box hm0 rfl rfl) ?_
  rintro _ w3 ⟨g1, rfl, hm2⟩
  refine t_ef rfl (ef_box hm2 rfl rfl) ?_
  rintro _ w6 ⟨g4, rfl, hm5⟩
  refine t_rd rfl (rd_assign rfl) ?_
  refine rwt_nil ?_
  refine qn_then ?_
  refine cw_seq ?_
  refine cw_region ?_
  refine t_rd rfl (rd_fld tF124_1 rfl) ?_
  refine t_rd rfl (rd_ld1 tO3 rfl (hm5.blk 1 rfl) (off := 1) rfl) ?_
  refine t_rd rfl (rd_fld tF124_1 rfl) ?_
  refine t_rd rfl (rd_ld1 tO3 rfl (hm5.blk 0 rfl) (off := 1) rfl) ?_
  obtain ⟨x7, h8, q9⟩ := ob h; clear h
  refine t_rd rfl (rd_sub64 h8 rfl rfl) ?_
  refine t_rd rfl (rd_fld tF124_2 rfl) ?_
  refine t_rd rfl (rd_ld1 tO3 rfl (hm5.blk 1 rfl) (off := 2) rfl) ?_
  refine t_rd rfl (rd_fld tF124_2 rfl) ?_
  refine t_rd rfl (rd_ld1 tO3 rfl (hm5.blk 0 rfl) (off := 2) rfl) ?_
  obtain ⟨x10, h11, q12⟩ := ob q9; clear q9
  refine t_rd rfl (rd_sub64 h11 rfl rfl) ?_
  refine t_rd rfl (rd_fld tF124_0 rfl) ?_
  refine t_rd rfl (rd_ld1 tO3 rfl (hm5.blk 1 rfl) (off := 0) rfl) ?_
  refine t_rd rfl (rd_fld tF124_0 rfl) ?_
  refine t_rd rfl (rd_ld1 tO3 rfl (hm5.blk 0 rfl) (off := 0) rfl) ?_
  obtain ⟨x13, h14, q15⟩ := ob q12; clear q12
  refine t_rd rfl (rd_sub64 h14 rfl rfl) ?_
  refine t_ef rfl (ef_bslice (l := ([x7, x10, x13] : List Int)) hm5 tS22 rfl (cs := #[(Value.int .i64 x7), (Value.int .i64 x10), (Value.int .i64 x13)]) (by unfold bsl; kernel_rfl) rfl rfl) ?_
  intro v16 w18 hm17
  obtain ⟨r19, h20, q21⟩ := ob q15; clear q15
  refine t_ef rfl (ef_call tf82 rfl (g_cmp_Or_int_ok h20 (hm17.sl_call 0 rfl))) ?_
  rintro _ w23 ⟨e_, hm22⟩
  obtain rfl := e_.symm
  have hm24 := hm17.call hm22
  refine t_rd rfl (rd_assign rfl) ?_
  refine rwt_nil ?_
  refine qn_then ?_
  refine cw_ret ?_
  obtain rfl := os q21
  exact ret1 rfl rfl ⟨rfl, (hm24.pick [] (by decide) rfl)⟩

theorem g_slices_insertionSortCmpFunc_api_Scheme_ok {N : Nat} {a0 : List T_Scheme} {a1 : Int} {a2 : Int} {res : List T_Scheme} (h : g_slices_insertionSortCmpFunc_api_Scheme N a0 a1 a2 = some res) {w : World} {v0 : Value} (hk0 : (ownL 124 v0 (a0 : List T_Scheme)).φ w) :
    CallsR Tryz.prog 106 [v0, (Value.int .i64 a1), (Value.int .i64 a2), (Value.func (.func 81) #[] #[])] w (fun u w' => u = (Value.tuple #[]) ∧ Mem w (ownL 124 v0 (a0 : List T_Scheme)).D [ownL 124 v0 (res : List T_Scheme)] w') := by
  unfold g_slices_insertionSortCmpFunc_api_Scheme at h
  refine fn_ok Tryz.func106 rfl rfl rfl ?_
  have hm0 := Mem.one hk0
  refine cw_seq ?_
  refine cw_region ?_
  refine t_rd rfl (rd_move rfl) ?_
  obtain ⟨x1, h2, q3⟩ := ob h; clear h
  refine t_rd rfl (rd_add64 h2 rfl rfl) ?_
  refine t_rd rfl (rd_assign rfl) ?_
  refine rwt_nil ?_
  refine qn_then ?_
  refine cw_block ?_
  obtain ⟨r653, hit654, q655⟩ := ob q3; clear q3
  refine cw_loop2 (I := fun q envq wq => Sub [(0, v0), (1, (Value.int .i64 a1)), (2, (Value.int .i64 a2)), (3, (Value.func (.func 81) #[] #[])), (8, (Value.int .i64 q.1))] envq ∧ Mem w (ownL 124 v0 (a0 : List T_Scheme)).D [ownL 124 v0 (q.2 : List T_Scheme)] wq) (X := fun eq envq wq => eq = .exit 0 ∧ Sub [] envq ∧ Mem w (ownL 124 v0 (a0 : List T_Scheme)).D [ownL 124 v0 (r653 : List T_Scheme)] wq) hit654 ⟨(by repeat (first | exact Sub.nil _ | refine Sub.cons rfl ?_)), (hm0.pick [0] (by decide) rfl)⟩ ?_ ?_
  · rintro ⟨i645, l646⟩ x648 env649 w650 hf651 hr652 ⟨hs_, hm_⟩
    have hs_ : Sub [(0, v0), (1, (Value.int .i64 a1)), (2, (Value.int .i64 a2)), (3, (Value.func (.func 81) #[] #[])), (8, (Value.int .i64 i645))] env649 := hs_
    have hm656 : Mem w (ownL 124 v0 (a0 : List T_Scheme)).D [ownL 124 v0 (l646 : List T_Scheme)] w650 := hm_
    refine cw_sub hs_ ?_
    clear hs_ hm_ q655
    have h : g_slices_insertionSortCmpFunc_api_Scheme_l3 N a1 a2 i645 l646 = some x648 := hf651
    clear hf651
    refine cw_seq ?_
    refine cw_seq ?_
    refine cw_region ?_
    refine t_rd rfl (rd_move rfl) ?_
    refine t_rd rfl (rd_move rfl) ?_
    refine t_rd rfl (rd_lss rfl rfl) ?_
    refine rwt_nil ?_
    refine qn_then ?_
    obtain ⟨hb657, q658⟩ | ⟨hb657, q658⟩ := oi h <;> clear h
    · refine cw_t rfl hb657 ?_
      refine cw_skip ?_
      refine qn_then ?_
      refine cw_seq ?_
      refine cw_block ?_
      refine cw_seq ?_
      refine cw_region ?_
      refine t_rd rfl (rd_move rfl) ?_
      refine t_rd rfl (rd_assign rfl) ?_
      refine rwt_nil ?_
      refine qn_then ?_
      refine cw_block ?_
      obtain ⟨r866, hit867, q868⟩ := ob q658; clear q658
      refine cw_loop2 (I := fun q envq wq => Sub [(0, v0), (1, (Value.int .i64 a1)), (2, (Value.int .i64 a2)), (3, (Value.func (.func 81) #[] #[])), (8, (Value.int .i64 i645)), (9, (Value.int .i64 q.1))] envq ∧ Mem w (ownL 124 v0 (a0 : List T_Scheme)).D [ownL 124 v0 (q.2 : List T_Scheme)] wq) (X := fun eq envq wq => eq = .exit 2 ∧ Sub [(0, v0), (1, (Value.int .i64 a1)), (2, (Value.int .i64 a2)), (3, (Value.func (.func 81) #[] #[])), (8, (Value.int .i64 i645))] envq ∧ Mem w (ownL 124 v0 (a0 : List T_Scheme)).D [ownL 124 v0 (r866 : List T_Scheme)] wq) hit867 ⟨(by repeat (first | exact Sub.nil _ | refine Sub.cons rfl ?_)), (hm656.pick [0] (by decide) rfl)⟩ ?_ ?_
      · rintro ⟨i858, l859⟩ x861 env862 w863 hf864 hr865 ⟨hs_, hm_⟩
        have hs_ : Sub [(0, v0), (1, (Value.int .i64 a1)), (2, (Value.int .i64 a2)), (3, (Value.func (.func 81) #[] #[])), (8, (Value.int .i64 i645)), (9, (Value.int .i64 i858))] env862 := hs_
        have hm869 : Mem w (ownL 124 v0 (a0 : List T_Scheme)).D [ownL 124 v0 (l859 : List T_Scheme)] w863 := hm_
        refine cw_sub hs_ ?_
        clear hs_ hm_ q868
        have h : g_slices_insertionSortCmpFunc_api_Scheme_l4 N a1 i858 l859 = some x861 := hf864
        clear hf864
        refine cw_seq ?_
        refine cw_seq ?_
        obtain ⟨w899, he901⟩ : ∃ q, q = w863.drew := ⟨_, rfl⟩
        have hm900 := hm869.drew; rw [← he901] at hm900
        refine cw_region_s (fun q => q = w899) (cls [] [14]) mixed ?_
        rintro _ rfl; rw [← he901]
        refine s_rp (i := 0) rfl (by kernel_rfl) rfl (fun _ => (rd_move rfl)) ?_
        refine s_rp (i := 1) rfl (by kernel_rfl) rfl (fun _ => (rd_move rfl)) ?_
        refine s_rp (i := 2) rfl (by kernel_rfl) rfl (fun _ => (rd_gtr rfl rfl)) ?_
        refine s_rp (i := 3) rfl (by kernel_rfl) rfl (fun _ => (rd_move rfl)) ?_
        refine s_rpg (i := 4) rfl (by kernel_rfl) rfl rfl rfl rfl (gv_t _) (fun hg902 _ => (rd_move rfl)) ?_
        refine s_rpg (i := 5) rfl (by kernel_rfl) rfl rfl rfl rfl (gv_t _) (fun hg903 _ => (rd_move rfl)) ?_
        refine s_rpg (i := 6) rfl (by kernel_rfl) rfl rfl rfl rfl (gv_t _) (fun hg904 _ => (rd_move rfl)) ?_
        obtain ⟨x906, h907, q908⟩ := ob h; clear h
        refine s_rpg (i := 7) rfl (by kernel_rfl) rfl rfl rfl rfl (gv_t _) (fun hg905 _ => (rd_index tS120 (gvx rfl hg905) (gvx rfl hg905) (hm900.sl 0 rfl) (gO_t h907 hg905))) ?_
        refine s_rdg (i := 8) rfl (by kernel_rfl) rfl rfl rfl rfl (gv_t _) (fun hg909 => (fun _ hS => by rw [hS]; exact (rd_ld tA124 (gvx rfl hg909) ((hm900.sl 0 rfl).cells (gO_t h907 hg909)) rfl))) rfl ?_
        refine s_rpg (i := 9) rfl (by kernel_rfl) rfl rfl rfl rfl (gv_t _) (fun hg910 _ => (rd_move rfl)) ?_
        refine s_rpg (i := 10) rfl (by kernel_rfl) rfl rfl rfl rfl (gv_t _) (fun hg911 _ => (rd_move rfl)) ?_
        obtain ⟨x913, h914, q915⟩ := ob q908; clear q908
        refine s_rpg (i := 11) rfl (by kernel_rfl) rfl rfl rfl rfl (gv_t _) (fun hg912 _ => (rd_sub64 (gO_t h914 hg912) (gvx rfl hg912) rfl)) ?_
        obtain ⟨x917, h918, q919⟩ := ob q915; clear q915
        refine s_rpg (i := 12) rfl (by kernel_rfl) rfl rfl rfl rfl (gv_t _) (fun hg916 _ => (rd_index tS120 (gvx rfl hg916) (gvx rfl hg916) (hm900.sl 0 rfl) (gO_t h918 hg916))) ?_
        refine s_rdg (i := 13) rfl (by kernel_rfl) rfl rfl rfl rfl (gv_t _) (fun hg920 => (fun _ hS => by rw [hS]; exact (rd_ld tA124 (gvx rfl hg920) ((hm900.sl 0 rfl).cells (gO_t h918 hg920)) rfl))) rfl ?_
        obtain ⟨r922, h923, q924⟩ := ob q919; clear q919
        refine s_efg (i := 14) rfl (by kernel_rfl) rfl rfl rfl rfl (R := (fun v w' => v = gV (decide (a1 < i858)) (Value.int .i64 r922) ∧ Mem w899 No [] w')) (gv_t _) (fun hg921 => (ef_callv tf81 (gvx rfl hg921) (evc (gvx rfl hg921) (evc (gvx rfl hg921) evn)) (planner_Schemes_1_ok (gO_t h923 hg921))).mono (by rintro _ _ ⟨rfl, q⟩; exact ⟨(gV_t hg921).symm, q⟩)) (fun q => ⟨(gV_f q).symm, Mem.nil _⟩) (by decide) (fun _ _ _ q => absurd q (by decide)) ?_
        rintro _ w926 ⟨rfl, hm925⟩
        have hm927 := hm900.call hm925
        refine s_rpg (i := 15) rfl (by kernel_rfl) rfl rfl rfl rfl (gv_t _) (fun hg928 _ => (rd_lss (gvx rfl hg928) rfl)) ?_
        refine s_rp (i := 16) rfl (by kernel_rfl) rfl (fun _ => (rd_and rfl (fun hc929 => (gvx rfl hc929)))) ?_
        refine s_nil (by kernel_rfl) ?_
        refine qn_then ?_
        obtain ⟨hb930, q931⟩ | ⟨hb930, q931⟩ := oi q924 <;> clear q924
        · refine cw_t rfl hb930 ?_
          refine cw_skip ?_
          refine qn_then ?_
          refine cw_seq ?_
          refine cw_block ?_
          obtain ⟨w949, he951⟩ : ∃ q, q = w926.drew := ⟨_, rfl⟩
          have hm950 := hm927.drew; rw [← he951] at hm950
          refine cw_region_s (fun q => q = w949) (cls [] [15, 17]) mixed ?_
          rintro _ rfl; rw [← he951]
          refine s_rp (i := 0) rfl (by kernel_rfl) rfl (fun _ => (rd_move rfl)) ?_
          refine s_rp (i := 1) rfl (by kernel_rfl) rfl (fun _ => (rd_move rfl)) ?_
          refine s_rp (i := 2) rfl (by kernel_rfl) rfl (fun _ => (rd_move rfl)) ?_
          refine s_rp (i := 3) rfl (by kernel_rfl) rfl (fun _ => (rd_move rfl)) ?_
          obtain ⟨x952, h953, q954⟩ := ob q931; clear q931
          refine s_rp (i := 4) rfl (by kernel_rfl) rfl (fun _ => (rd_sub64 h953 rfl rfl)) ?_
          refine s_rp (i := 5) rfl (by kernel_rfl) rfl (fun _ => (rd_move rfl)) ?_
          refine s_rp (i := 6) rfl (by kernel_rfl) rfl (fun _ => (rd_move rfl)) ?_
          refine s_rp (i := 7) rfl (by kernel_rfl) rfl (fun _ => (rd_sub64 h953 rfl rfl)) ?_
          obtain ⟨x955, h956, q957⟩ := ob q954; clear q954
          refine s_rp (i := 8) rfl (by kernel_rfl) rfl (fun _ => (rd_index tS120 rfl rfl (hm950.sl 0 rfl) h956)) ?_
          refine s_rd (i := 9) rfl (by kernel_rfl) rfl (fun _ hS => by rw [hS]; exact (rd_ld tA124 rfl ((hm950.sl 0 rfl).cells h956) rfl)) rfl ?_
          refine s_rp (i := 10) rfl (by kernel_rfl) rfl (fun _ => (rd_move rfl)) ?_
          refine s_rp (i := 11) rfl (by kernel_rfl) rfl (fun _ => (rd_move rfl)) ?_
          obtain ⟨x958, h959, q960⟩ := ob q957; clear q957
          refine s_rp (i := 12) rfl (by kernel_rfl) rfl (fun _ => (rd_index tS120 rfl rfl (hm950.sl 0 rfl) h959)) ?_
          refine s_rd (i := 13) rfl (by kernel_rfl) rfl (fun _ hS => by rw [hS]; exact (rd_ld tA124 rfl ((hm950.sl 0 rfl).cells h959) rfl)) rfl ?_
          refine s_rp (i := 14) rfl (by kernel_rfl) rfl (fun _ => (rd_index tS120 rfl rfl (hm950.sl 0 rfl) h959)) ?_
          refine s_ef0 (i := 15) rfl (by kernel_rfl) (ef_stlw (k := 0) (x' := x955) hm950 tA124 rfl rfl rfl h959 rfl rfl) (by decide) (fun _ _ _ q => absurd q (by decide)) ?_
          intro _ w962 hm961
          obtain ⟨x963, h964, q965⟩ := ob q960; clear q960
          refine s_rp (i := 16) rfl (by kernel_rfl) rfl (fun _ => (rd_index tS120 rfl rfl (hm961.sl 0 rfl) h964)) ?_
          refine s_ef0 (i := 17) rfl (by kernel_rfl) (ef_stlw (k := 0) (x' := x958) hm961 tA124 rfl rfl rfl h964 rfl rfl) (by decide) (fun _ _ _ q => absurd q (by decide)) ?_
          intro _ w967 hm966
          refine s_nil (by kernel_rfl) ?_
          refine qn_block (qn_then ?_)
          refine cw_region ?_
          refine t_rd rfl (rd_move rfl) ?_
          refine t_rd rfl (rd_sub64 h953 rfl rfl) ?_
          refine t_rd rfl (rd_assign rfl) ?_
          refine rwt_nil ?_
          refine qn_then ?_
          refine ⟨_, (os q965), (by repeat (first | exact Sub.nil _ | refine Sub.cons rfl ?_)), (hm966.pick [0] (by decide) rfl)⟩
        · refine cw_f rfl hb930 ?_
          refine cw_exit ?_
          refine qx_then (qx_then ?_)
          obtain rfl := hr865 _ (os q931)
          exact ⟨rfl, (by repeat (first | exact Sub.nil _ | refine Sub.cons rfl ?_)), (hm927.pick [0] (by decide) rfl)⟩
      · skip
        intro e env968 w969 hX970
        obtain ⟨rfl, hs971, hm972⟩ := hX970
        refine qx_same (qn_block (qn_then ?_))
        refine cw_sub hs971 ?_
        refine cw_region ?_
        refine t_rd rfl (rd_move rfl) ?_
        obtain ⟨x973, h974, q975⟩ := ob q868; clear q868
        refine t_rd rfl (rd_add64 h974 rfl rfl) ?_
        refine t_rd rfl (rd_assign rfl) ?_
        refine rwt_nil ?_
        refine qn_then ?_
        refine ⟨_, (os q975), (by repeat (first | exact Sub.nil _ | refine Sub.cons rfl ?_)), (hm972.pick [0] (by decide) rfl)⟩
    · refine cw_f rfl hb657 ?_
      refine cw_exit ?_
      refine qx_then (qx_then ?_)
      obtain rfl := hr652 _ (os q658)
      exact ⟨rfl, (by repeat (first | exact Sub.nil _ | refine Sub.cons rfl ?_)), (hm656.pick [0] (by decide) rfl)⟩
  · skip
    intro e env976 w977 hX978
    obtain ⟨rfl, hs979, hm980⟩ := hX978
    refine qx_same ?_
    obtain rfl := os q655
    refine retn ?_
    refine ret_sub hs979 ?_
    exact ret0 rfl ⟨rfl, (hm980.pick [0] (by decide) rfl)⟩

theorem g_slices_swapRangeCmpFunc_api_Scheme_ok {N : Nat} {a0 : List T_Scheme} {a1 : Int} {a2 : Int} {a3 : Int} {res : List T_Scheme} (h : g_slices_swapRangeCmpFunc_api_Scheme N a0 a1 a2 a3 = some res) {w : World} {v0 : Value} (hk0 : (ownL 124 v0 (a0 : List T_Scheme)).φ w) :
    CallsR Tryz.prog 137 [v0, (Value.int .i64 a1), (Value.int .i64 a2), (Value.int .i64 a3), (Value.func (.func 81) #[] #[])] w (fun u w' => u = (Value.tuple #[]) ∧ Mem w (ownL 124 v0 (a0 : List T_Scheme)).D [ownL 124 v0 (res : List T_Scheme)] w') := by
  unfold g_slices_swapRangeCmpFunc_api_Scheme at h
  refine fn_ok Tryz.func137 rfl rfl rfl ?_
  have hm0 := Mem.one hk0
  refine cw_seq ?_
  refine cw_region ?_
  refine t_rd rfl (rd_assign rfl) ?_
  refine rwt_nil ?_
  refine qn_then ?_
  refine cw_block ?_
  obtain ⟨r106, hit107, q108⟩ := ob h; clear h
  refine cw_loop2 (I := fun q envq wq => Sub [(0, v0), (1, (Value.int .i64 a1)), (2, (Value.int .i64 a2)), (3, (Value.int .i64 a3)), (10, (Value.int .i64 q.1))] envq ∧ Mem w (ownL 124 v0 (a0 : List T_Scheme)).D [ownL 124 v0 (q.2 : List T_Scheme)] wq) (X := fun eq envq wq => eq = .exit 0 ∧ Sub [] envq ∧ Mem w (ownL 124 v0 (a0 : List T_Scheme)).D [ownL 124 v0 (r106 : List T_Scheme)] wq) hit107 ⟨(by repeat (first | exact Sub.nil _ | refine Sub.cons rfl ?_)), (hm0.pick [0] (by decide) rfl)⟩ ?_ ?_
  · rintro ⟨i98, l99⟩ x101 env102 w103 hf104 hr105 ⟨hs_, hm_⟩
    have hs_ : Sub [(0, v0), (1, (Value.int .i64 a1)), (2, (Value.int .i64 a2)), (3, (Value.int .i64 a3)), (10, (Value.int .i64 i98))] env102 := hs_
    have hm109 : Mem w (ownL 124 v0 (a0 : List T_Scheme)).D [ownL 124 v0 (l99 : List T_Scheme)] w103 := hm_
    refine cw_sub hs_ ?_
    clear hs_ hm_ q108
    have h : g_slices_swapRangeCmpFunc_api_Scheme_l1 N a1 a2 a3 i98 l99 = some x101 := hf104
    clear hf104
    refine cw_seq ?_
    refine cw_seq ?_
    refine cw_region ?_
    refine t_rd rfl (rd_move rfl) ?_
    refine t_rd rfl (rd_move rfl) ?_
    refine t_rd rfl (rd_lss rfl rfl) ?_
    refine rwt_nil ?_
    refine qn_then ?_
    obtain ⟨hb110, q111⟩ | ⟨hb110, q111⟩ := oi h <;> clear h
    · refine cw_t rfl hb110 ?_
      refine cw_skip ?_
      refine qn_then ?_
      refine cw_seq ?_
      refine cw_block ?_
      obtain ⟨w132, he134⟩ : ∃ q, q = w103.drew := ⟨_, rfl⟩
      have hm133 := hm109.drew; rw [← he134] at hm133
      refine cw_region_s (fun q => q = w132) (cls [] [21, 23]) mixed ?_
      rintro _ rfl; rw [← he134]
      refine s_rp (i := 0) rfl (by kernel_rfl) rfl (fun _ => (rd_move rfl)) ?_
      refine s_rp (i := 1) rfl (by kernel_rfl) rfl (fun _ => (rd_move rfl)) ?_
      refine s_rp (i := 2) rfl (by kernel_rfl) rfl (fun _ => (rd_move rfl)) ?_
      obtain ⟨x135, h136, q137⟩ := ob q111; clear q111
      refine s_rp (i := 3) rfl (by kernel_rfl) rfl (fun _ => (rd_add64 h136 rfl rfl)) ?_
      refine s_rp (i := 4) rfl (by kernel_rfl) rfl (fun _ => (rd_move rfl)) ?_
      refine s_rp (i := 5) rfl (by kernel_rfl) rfl (fun _ => (rd_move rfl)) ?_
      refine s_rp (i := 6) rfl (by kernel_rfl) rfl (fun _ => (rd_move rfl)) ?_
      obtain ⟨x138, h139, q140⟩ := ob q137; clear q137
      refine s_rp (i := 7) rfl (by kernel_rfl) rfl (fun _ => (rd_add64 h139 rfl rfl)) ?_
      refine s_rp (i := 8) rfl (by kernel_rfl) rfl (fun _ => (rd_move rfl)) ?_
      refine s_rp (i := 9) rfl (by kernel_rfl) rfl (fun _ => (rd_move rfl)) ?_
      refine s_rp (i := 10) rfl (by kernel_rfl) rfl (fun _ => (rd_move rfl)) ?_
      refine s_rp (i := 11) rfl (by kernel_rfl) rfl (fun _ => (rd_add64 h139 rfl rfl)) ?_
      obtain ⟨x141, h142, q143⟩ := ob q140; clear q140
      refine s_rp (i := 12) rfl (by kernel_rfl) rfl (fun _ => (rd_index tS120 rfl rfl (hm133.sl 0 rfl) h142)) ?_
      refine s_rd (i := 13) rfl (by kernel_rfl) rfl (fun _ hS => by rw [hS]; exact (rd_ld tA124 rfl ((hm133.sl 0 rfl).cells h142) rfl)) rfl ?_
      refine s_rp (i := 14) rfl (by kernel_rfl) rfl (fun _ => (rd_move rfl)) ?_
      refine s_rp (i := 15) rfl (by kernel_rfl) rfl (fun _ => (rd_move rfl)) ?_
      refine s_rp (i := 16) rfl (by kernel_rfl) rfl (fun _ => (rd_move rfl)) ?_
      refine s_rp (i := 17) rfl (by kernel_rfl) rfl (fun _ => (rd_add64 h136 rfl rfl)) ?_
      obtain ⟨x144, h145, q146⟩ := ob q143; clear q143
      refine s_rp (i := 18) rfl (by kernel_rfl) rfl (fun _ => (rd_index tS120 rfl rfl (hm133.sl 0 rfl) h145)) ?_
      refine s_rd (i := 19) rfl (by kernel_rfl) rfl (fun _ hS => by rw [hS]; exact (rd_ld tA124 rfl ((hm133.sl 0 rfl).cells h145) rfl)) rfl ?_
      refine s_rp (i := 20) rfl (by kernel_rfl) rfl (fun _ => (rd_index tS120 rfl rfl (hm133.sl 0 rfl) h145)) ?_
      refine s_ef0 (i := 21) rfl (by kernel_rfl) (ef_stlw (k := 0) (x' := x141) hm133 tA124 rfl rfl rfl h145 rfl rfl) (by decide) (fun _ _ _ q => absurd q (by decide)) ?_
      intro _ w148 hm147
      obtain ⟨x149, h150, q151⟩ := ob q146; clear q146
      refine s_rp (i := 22) rfl (by kernel_rfl) rfl (fun _ => (rd_index tS120 rfl rfl (hm147.sl 0 rfl) h150)) ?_
      refine s_ef0 (i := 23) rfl (by kernel_rfl) (ef_stlw (k := 0) (x' := x144) hm147 tA124 rfl rfl rfl h150 rfl rfl) (by decide) (fun _ _ _ q => absurd q (by decide)) ?_
      intro _ w153 hm152
      refine s_nil (by kernel_rfl) ?_
      refine qn_block (qn_then ?_)
      refine cw_region ?_
      refine t_rd rfl (rd_move rfl) ?_
      obtain ⟨x154, h155, q156⟩ := ob q151; clear q151
      refine t_rd rfl (rd_add64 h155 rfl rfl) ?_
      refine t_rd rfl (rd_assign rfl) ?_
      refine rwt_nil ?_
      refine qn_then ?_
      refine ⟨_, (os q156), (by repeat (first | exact Sub.nil _ | refine Sub.cons rfl ?_)), (hm152.pick [0] (by decide) rfl)⟩
    · refine cw_f rfl hb110 ?_
      refine cw_exit ?_
      refine qx_then (qx_then ?_)
      obtain rfl := hr105 _ (os q111)
      exact ⟨rfl, (by repeat (first | exact Sub.nil _ | refine Sub.cons rfl ?_)), (hm109.pick [0] (by decide) rfl)⟩
  · skip
    intro e env157 w158 hX159
    obtain ⟨rfl, hs160, hm161⟩ := hX159
    refine qx_same ?_
    obtain rfl := os q108
    refine retn ?_
    refine ret_sub hs160 ?_
    exact ret0 rfl ⟨rfl, (hm161.pick [0] (by decide) rfl)⟩

theorem g_slices_rotateCmpFunc_api_Scheme_ok {N : Nat} {a0 : List T_Scheme} {a1 : Int} {a2 : Int} {a3 : Int} {res : List T_Scheme} (h : g_slices_rotateCmpFunc_api_Scheme N a0 a1 a2 a3 = some res) {w : World} {v0 : Value} (hk0 : (ownL 124 v0 (a0 : List T_Scheme)).φ w) :
    CallsR Tryz.prog 121 [v0, (Value.int .i64 a1), (Value.int .i64 a2), (Value.int .i64 a3), (Value.func (.func 81) #[] #[])] w (fun u w' => u = (Value.tuple #[]) ∧ Mem w (ownL 124 v0 (a0 : List T_Scheme)).D [ownL 124 v0 (res : List T_Scheme)] w') := by
  unfold g_slices_rotateCmpFunc_api_Scheme at h
  refine fn_ok Tryz.func121 rfl rfl rfl ?_
  have hm0 := Mem.one hk0
  refine cw_seq ?_
  refine cw_region ?_
  refine t_rd rfl (rd_move rfl) ?_
  refine t_rd rfl (rd_move rfl) ?_
  obtain ⟨x1, h2, q3⟩ := ob h; clear h
  refine t_rd rfl (rd_sub64 h2 rfl rfl) ?_
  refine t_rd rfl (rd_assign rfl) ?_
  refine rwt_nil ?_
  refine qn_then ?_
  refine cw_seq ?_
  refine cw_region ?_
  refine t_rd rfl (rd_move rfl) ?_
  refine t_rd rfl (rd_move rfl) ?_
  obtain ⟨x4, h5, q6⟩ := ob q3; clear q3
  refine t_rd rfl (rd_sub64 h5 rfl rfl) ?_
  refine t_rd rfl (rd_assign rfl) ?_
  refine rwt_nil ?_
  refine qn_then ?_
  refine cw_seq ?_
  refine cw_block ?_
  obtain ⟨r89, hit90, q91⟩ := ob q6; clear q6
  refine cw_loop2 (I := fun q envq wq => Sub [(0, v0), (2, (Value.int .i64 a2)), (4, (Value.func (.func 81) #[] #[])), (10, (Value.int .i64 q.1)), (11, (Value.int .i64 q.2.1))] envq ∧ Mem w (ownL 124 v0 (a0 : List T_Scheme)).D [ownL 124 v0 (q.2.2 : List T_Scheme)] wq) (X := fun eq envq wq => eq = .exit 0 ∧ Sub [(0, v0), (2, (Value.int .i64 a2)), (4, (Value.func (.func 81) #[] #[])), (10, (Value.int .i64 r89.1))] envq ∧ Mem w (ownL 124 v0 (a0 : List T_Scheme)).D [ownL 124 v0 (r89.2 : List T_Scheme)] wq) hit90 ⟨(by repeat (first | exact Sub.nil _ | refine Sub.cons rfl ?_)), (hm0.pick [0] (by decide) rfl)⟩ ?_ ?_
  · rintro ⟨i80, i81, l82⟩ x84 env85 w86 hf87 hr88 ⟨hs_, hm_⟩
    have hs_ : Sub [(0, v0), (2, (Value.int .i64 a2)), (4, (Value.func (.func 81) #[] #[])), (10, (Value.int .i64 i80)), (11, (Value.int .i64 i81))] env85 := hs_
    have hm92 : Mem w (ownL 124 v0 (a0 : List T_Scheme)).D [ownL 124 v0 (l82 : List T_Scheme)] w86 := hm_
    refine cw_sub hs_ ?_
    clear hs_ hm_ q91
    have h : g_slices_rotateCmpFunc_api_Scheme_l1 N a2 i80 i81 l82 = some x84 := hf87
    clear hf87
    refine cw_seq ?_
    refine cw_seq ?_
    refine cw_region ?_
    refine t_rd rfl (rd_move rfl) ?_
    refine t_rd rfl (rd_move rfl) ?_
    refine t_rd rfl (rd_neq rfl rfl) ?_
    refine rwt_nil ?_
    refine qn_then ?_
    obtain ⟨hb93, q94⟩ | ⟨hb93, q94⟩ := oi h <;> clear h
    · refine cw_t rfl hb93 ?_
      refine cw_skip ?_
      refine qn_then ?_
      refine cw_block ?_
      refine cw_seq ?_
      refine cw_region ?_
      refine t_rd rfl (rd_move rfl) ?_
      refine t_rd rfl (rd_move rfl) ?_
      refine t_rd rfl (rd_gtr rfl rfl) ?_
      refine rwt_nil ?_
      refine qn_then ?_
      obtain ⟨hb95, q96⟩ | ⟨hb95, q96⟩ := oi q94 <;> clear q94
      · refine cw_t rfl hb95 ?_
        refine cw_seq ?_
        refine cw_region ?_
        refine t_rd rfl (rd_move rfl) ?_
        refine t_rd rfl (rd_move rfl) ?_
        refine t_rd rfl (rd_move rfl) ?_
        obtain ⟨x97, h98, q99⟩ := ob q96; clear q96
        refine t_rd rfl (rd_sub64 h98 rfl rfl) ?_
        refine t_rd rfl (rd_move rfl) ?_
        refine t_rd rfl (rd_move rfl) ?_
        refine t_rd rfl (rd_move rfl) ?_
        obtain ⟨r100, h101, q102⟩ := ob q99; clear q99
        refine t_ef rfl (ef_call tf137 rfl (g_slices_swapRangeCmpFunc_api_Scheme_ok h101 (hm92.get (k := 0) rfl))) ?_
        rintro _ w104 ⟨e_, hm103⟩
        obtain rfl := e_.symm
        have hm105 := hm92.callT (k := 0) rfl (fun _ h => h) hm103 (fun _ => Iff.rfl)
        refine rwt_nil ?_
        refine qn_then ?_
        refine cw_region ?_
        refine t_rd rfl (rd_move rfl) ?_
        refine t_rd rfl (rd_move rfl) ?_
        obtain ⟨x106, h107, q108⟩ := ob q102; clear q102
        refine t_rd rfl (rd_sub64 h107 rfl rfl) ?_
        refine t_rd rfl (rd_assign rfl) ?_
        refine rwt_nil ?_
        refine qn_block (qn_then ?_)
        refine ⟨_, (os q108), (by repeat (first | exact Sub.nil _ | refine Sub.cons rfl ?_)), (hm105.pick [0] (by decide) rfl)⟩
      · refine cw_f rfl hb95 ?_
        refine cw_seq ?_
        refine cw_region ?_
        refine t_rd rfl (rd_move rfl) ?_
        refine t_rd rfl (rd_move rfl) ?_
        refine t_rd rfl (rd_move rfl) ?_
        obtain ⟨x109, h110, q111⟩ := ob q96; clear q96
        refine t_rd rfl (rd_sub64 h110 rfl rfl) ?_
        refine t_rd rfl (rd_move rfl) ?_
        refine t_rd rfl (rd_move rfl) ?_
        obtain ⟨x112, h113, q114⟩ := ob q111; clear q111
        refine t_rd rfl (rd_add64 h113 rfl rfl) ?_
        refine t_rd rfl (rd_move rfl) ?_
        obtain ⟨x115, h116, q117⟩ := ob q114; clear q114
        refine t_rd rfl (rd_sub64 h116 rfl rfl) ?_
        refine t_rd rfl (rd_move rfl) ?_
        refine t_rd rfl (rd_move rfl) ?_
        obtain ⟨r118, h119, q120⟩ := ob q117; clear q117
        refine t_ef rfl (ef_call tf137 rfl (g_slices_swapRangeCmpFunc_api_Scheme_ok h119 (hm92.get (k := 0) rfl))) ?_
        rintro _ w122 ⟨e_, hm121⟩
        obtain rfl := e_.symm
        have hm123 := hm92.callT (k := 0) rfl (fun _ h => h) hm121 (fun _ => Iff.rfl)
        refine rwt_nil ?_
        refine qn_then ?_
        refine cw_region ?_
        refine t_rd rfl (rd_move rfl) ?_
        refine t_rd rfl (rd_move rfl) ?_
        obtain ⟨x124, h125, q126⟩ := ob q120; clear q120
        refine t_rd rfl (rd_sub64 h125 rfl rfl) ?_
        refine t_rd rfl (rd_assign rfl) ?_
        refine rwt_nil ?_
        refine qn_block (qn_then ?_)
        refine ⟨_, (os q126), (by repeat (first | exact Sub.nil _ | refine Sub.cons rfl ?_)), (hm123.pick [0] (by decide) rfl)⟩
    · refine cw_f rfl hb93 ?_
      refine cw_exit ?_
      refine qx_then (qx_then ?_)
      obtain rfl := hr88 _ (os q94)
      exact ⟨rfl, (by repeat (first | exact Sub.nil _ | refine Sub.cons rfl ?_)), (hm92.pick [0] (by decide) rfl)⟩
  · skip
    intro e env127 w128 hX129
    obtain ⟨rfl, hs130, hm131⟩ := hX129
    refine qx_same (qn_then ?_)
    refine cw_sub hs130 ?_
    refine cw_region ?_
    refine t_rd rfl (rd_move rfl) ?_
    refine t_rd rfl (rd_move rfl) ?_
    refine t_rd rfl (rd_move rfl) ?_
    obtain ⟨x132, h133, q134⟩ := ob q91; clear q91
    refine t_rd rfl (rd_sub64 h133 rfl rfl) ?_
    refine t_rd rfl (rd_move rfl) ?_
    refine t_rd rfl (rd_move rfl) ?_
    refine t_rd rfl (rd_move rfl) ?_
    obtain ⟨r135, h136, q137⟩ := ob q134; clear q134
    refine t_ef rfl (ef_call tf137 rfl (g_slices_swapRangeCmpFunc_api_Scheme_ok h136 (hm131.get (k := 0) rfl))) ?_
    rintro _ w139 ⟨e_, hm138⟩
    obtain rfl := e_.symm
    have hm140 := hm131.callT (k := 0) rfl (fun _ h => h) hm138 (fun _ => Iff.rfl)
    refine rwt_nil ?_
    obtain rfl := os q137
    refine retn ?_
    exact ret0 rfl ⟨rfl, (hm140.pick [0] (by decide) rfl)⟩

theorem g_slices_symMergeCmpFunc_api_Scheme_r_ok {N : Nat} (M : Nat) : ∀ {a0 : List T_Scheme} {a1 : Int} {a2 : Int} {a3 : Int} {res : List T_Scheme} (h : g_slices_symMergeCmpFunc_api_Scheme_r N M a0 a1 a2 a3 = some res) {w : World} {v0 : Value} (hk0 : (ownL 124 v0 (a0 : List T_Scheme)).φ w),
    CallsR Tryz.prog 107 [v0, (Value.int .i64 a1), (Value.int .i64 a2), (Value.int .i64 a3), (Value.func (.func 81) #[] #[])] w (fun u w' => u = (Value.tuple #[]) ∧ Mem w (ownL 124 v0 (a0 : List T_Scheme)).D [ownL 124 v0 (res : List T_Scheme)] w') := by
  induction M with
  | zero =>
    intro a0 a1 a2 a3 res h
    rw [g_slices_symMergeCmpFunc_api_Scheme_r] at h
    cases h
  | succ M ih =>
  intro a0 a1 a2 a3 res h w v0 hk0
  rw [g_slices_symMergeCmpFunc_api_Scheme_r] at h
  refine fn_ok Tryz.func107 rfl rfl rfl ?_
  have hm0 := Mem.one hk0
  refine cw_seq ?_
  refine cw_seq ?_
  refine cw_region ?_
  refine t_rd rfl (rd_move rfl) ?_
  refine t_rd rfl (rd_move rfl) ?_
  obtain ⟨x1, h2, q3⟩ := ob h; clear h
  refine t_rd rfl (rd_sub64 h2 rfl rfl) ?_
  refine t_rd rfl (rd_eql rfl rfl) ?_
  refine rwt_nil ?_
  refine qn_then ?_
  obtain ⟨hb4, q5⟩ | ⟨hb4, q5⟩ := oi q3 <;> clear q3
  · refine cw_t rfl hb4 ?_
    refine cw_seq ?_
    refine cw_region ?_
    refine t_rd rfl (rd_move rfl) ?_
    refine t_rd rfl (rd_assign rfl) ?_
    refine rwt_nil ?_
    refine qn_then ?_
    refine cw_seq ?_
    refine cw_region ?_
    refine t_rd rfl (rd_move rfl) ?_
    refine t_rd rfl (rd_assign rfl) ?_
    refine rwt_nil ?_
    refine qn_then ?_
    refine cw_seq ?_
    refine cw_block ?_
    obtain ⟨r105, hit106, q107⟩ := ob q5; clear q5
    refine cw_loop2 (I := fun q envq wq => Sub [(0, v0), (1, (Value.int .i64 a1)), (4, (Value.func (.func 81) #[] #[])), (10, (Value.int .i64 q.1)), (11, (Value.int .i64 q.2))] envq ∧ Mem w (ownL 124 v0 (a0 : List T_Scheme)).D [ownL 124 v0 (a0 : List T_Scheme)] wq) (X := fun eq envq wq => eq = .exit 0 ∧ Sub [(0, v0), (1, (Value.int .i64 a1)), (10, (Value.int .i64 r105))] envq ∧ Mem w (ownL 124 v0 (a0 : List T_Scheme)).D [ownL 124 v0 (a0 : List T_Scheme)] wq) hit106 ⟨(by repeat (first | exact Sub.nil _ | refine Sub.cons rfl ?_)), (hm0.pick [0] (by decide) rfl)⟩ ?_ ?_
    · rintro ⟨i97, i98⟩ x100 env101 w102 hf103 hr104 ⟨hs_, hm_⟩
      have hs_ : Sub [(0, v0), (1, (Value.int .i64 a1)), (4, (Value.func (.func 81) #[] #[])), (10, (Value.int .i64 i97)), (11, (Value.int .i64 i98))] env101 := hs_
      have hm108 : Mem w (ownL 124 v0 (a0 : List T_Scheme)).D [ownL 124 v0 (a0 : List T_Scheme)] w102 := hm_
      refine cw_sub hs_ ?_
      clear hs_ hm_ q107
      have h : g_slices_symMergeCmpFunc_api_Scheme_l1 N a0 a1 i97 i98 = some x100 := hf103
      clear hf103
      refine cw_seq ?_
      refine cw_seq ?_
      refine cw_region ?_
      refine t_rd rfl (rd_move rfl) ?_
      refine t_rd rfl (rd_move rfl) ?_
      refine t_rd rfl (rd_lss rfl rfl) ?_
      refine rwt_nil ?_
      refine qn_then ?_
      obtain ⟨hb109, q110⟩ | ⟨hb109, q110⟩ := oi h <;> clear h
      · refine cw_t rfl hb109 ?_
        refine cw_skip ?_
        refine qn_then ?_
        refine cw_block ?_
        refine cw_seq ?_
        refine cw_region ?_
        refine t_rd rfl (rd_move rfl) ?_
        refine t_rd rfl (rd_move rfl) ?_
        obtain ⟨x111, h112, q113⟩ := ob q110; clear q110
        refine t_rd rfl (rd_add64 h112 rfl rfl) ?_
        refine t_rd rfl (rd_cvu64 tH3 tI107 rfl) ?_
        obtain ⟨x114, h115, q116⟩ := ob q113; clear q113
        refine t_rd rfl (rd_shr_u64 h115 rfl rfl) ?_
        obtain ⟨x117, h118, q119⟩ := ob q116; clear q116
        refine t_rd rfl (rd_cv64 tH107 tI3 h118 rfl) ?_
        refine t_rd rfl (rd_assign rfl) ?_
        refine rwt_nil ?_
        refine qn_then ?_
        refine cw_seq ?_
        obtain ⟨w133, he135⟩ : ∃ q, q = w102.drew := ⟨_, rfl⟩
        have hm134 := hm108.drew; rw [← he135] at hm134
        refine cw_region_s (fun q => q = w133) (cls [] [9]) mixed ?_
        rintro _ rfl; rw [← he135]
        refine s_rp (i := 0) rfl (by kernel_rfl) rfl (fun _ => (rd_move rfl)) ?_
        refine s_rp (i := 1) rfl (by kernel_rfl) rfl (fun _ => (rd_move rfl)) ?_
        refine s_rp (i := 2) rfl (by kernel_rfl) rfl (fun _ => (rd_move rfl)) ?_
        obtain ⟨x136, h137, q138⟩ := ob q119; clear q119
        refine s_rp (i := 3) rfl (by kernel_rfl) rfl (fun _ => (rd_index tS120 rfl rfl (hm134.sl 0 rfl) h137)) ?_
        refine s_rd (i := 4) rfl (by kernel_rfl) rfl (fun _ hS => by rw [hS]; exact (rd_ld tA124 rfl ((hm134.sl 0 rfl).cells h137) rfl)) rfl ?_
        refine s_rp (i := 5) rfl (by kernel_rfl) rfl (fun _ => (rd_move rfl)) ?_
        refine s_rp (i := 6) rfl (by kernel_rfl) rfl (fun _ => (rd_move rfl)) ?_
        obtain ⟨x139, h140, q141⟩ := ob q138; clear q138
        refine s_rp (i := 7) rfl (by kernel_rfl) rfl (fun _ => (rd_index tS120 rfl rfl (hm134.sl 0 rfl) h140)) ?_
        refine s_rd (i := 8) rfl (by kernel_rfl) rfl (fun _ hS => by rw [hS]; exact (rd_ld tA124 rfl ((hm134.sl 0 rfl).cells h140) rfl)) rfl ?_
        obtain ⟨r142, h143, q144⟩ := ob q141; clear q141
        refine s_ef (i := 9) rfl (by kernel_rfl) rfl (ef_callv tf81 rfl rfl (planner_Schemes_1_ok h143)) (by decide) (fun _ _ _ q => absurd q (by decide)) ?_
        rintro _ w146 ⟨e_, hm145⟩
        obtain rfl := e_.symm
        have hm147 := hm134.call hm145
        refine s_rp (i := 10) rfl (by kernel_rfl) rfl (fun _ => (rd_lss rfl rfl)) ?_
        refine s_nil (by kernel_rfl) ?_
        refine qn_then ?_
        obtain ⟨hb148, q149⟩ | ⟨hb148, q149⟩ := oi q144 <;> clear q144
        · refine cw_t rfl hb148 ?_
          refine cw_region ?_
          refine t_rd rfl (rd_move rfl) ?_
          obtain ⟨x150, h151, q152⟩ := ob q149; clear q149
          refine t_rd rfl (rd_add64 h151 rfl rfl) ?_
          refine t_rd rfl (rd_assign rfl) ?_
          refine rwt_nil ?_
          refine qn_block (qn_then ?_)
          refine ⟨_, (os q152), (by repeat (first | exact Sub.nil _ | refine Sub.cons rfl ?_)), (hm147.pick [0] (by decide) rfl)⟩
        · refine cw_f rfl hb148 ?_
          refine cw_region ?_
          refine t_rd rfl (rd_move rfl) ?_
          refine t_rd rfl (rd_assign rfl) ?_
          refine rwt_nil ?_
          refine qn_block (qn_then ?_)
          refine ⟨_, (os q149), (by repeat (first | exact Sub.nil _ | refine Sub.cons rfl ?_)), (hm147.pick [0] (by decide) rfl)⟩
      · refine cw_f rfl hb109 ?_
        refine cw_exit ?_
        refine qx_then (qx_then ?_)
        obtain rfl := hr104 _ (os q110)
        exact ⟨rfl, (by repeat (first | exact Sub.nil _ | refine Sub.cons rfl ?_)), (hm108.pick [0] (by decide) rfl)⟩
    · skip
      intro e env153 w154 hX155
      obtain ⟨rfl, hs156, hm157⟩ := hX155
      refine qx_same (qn_then ?_)
      refine cw_sub hs156 ?_
      refine cw_seq ?_
      refine cw_seq ?_
      refine cw_region ?_
      refine t_rd rfl (rd_move rfl) ?_
      refine t_rd rfl (rd_assign rfl) ?_
      refine rwt_nil ?_
      refine qn_then ?_
      refine cw_block ?_
      obtain ⟨r251, hit252, q253⟩ := ob q107; clear q107
      refine cw_loop2 (I := fun q envq wq => Sub [(0, v0), (10, (Value.int .i64 r105)), (13, (Value.int .i64 q.1))] envq ∧ Mem w (ownL 124 v0 (a0 : List T_Scheme)).D [ownL 124 v0 (q.2 : List T_Scheme)] wq) (X := fun eq envq wq => eq = .exit 2 ∧ Sub [] envq ∧ Mem w (ownL 124 v0 (a0 : List T_Scheme)).D [ownL 124 v0 (r251 : List T_Scheme)] wq) hit252 ⟨(by repeat (first | exact Sub.nil _ | refine Sub.cons rfl ?_)), (hm157.pick [0] (by decide) rfl)⟩ ?_ ?_
      · rintro ⟨i243, l244⟩ x246 env247 w248 hf249 hr250 ⟨hs_, hm_⟩
        have hs_ : Sub [(0, v0), (10, (Value.int .i64 r105)), (13, (Value.int .i64 i243))] env247 := hs_
        have hm254 : Mem w (ownL 124 v0 (a0 : List T_Scheme)).D [ownL 124 v0 (l244 : List T_Scheme)] w248 := hm_
        refine cw_sub hs_ ?_
        clear hs_ hm_ q253
        have h : g_slices_symMergeCmpFunc_api_Scheme_l2 N r105 i243 l244 = some x246 := hf249
        clear hf249
        refine cw_seq ?_
        refine cw_seq ?_
        refine cw_region ?_
        refine t_rd rfl (rd_move rfl) ?_
        refine t_rd rfl (rd_move rfl) ?_
        obtain ⟨x255, h256, q257⟩ := ob h; clear h
        refine t_rd rfl (rd_sub64 h256 rfl rfl) ?_
        refine t_rd rfl (rd_lss rfl rfl) ?_
        refine rwt_nil ?_
        refine qn_then ?_
        obtain ⟨hb258, q259⟩ | ⟨hb258, q259⟩ := oi q257 <;> clear q257
        · refine cw_t rfl hb258 ?_
          refine cw_skip ?_
          refine qn_then ?_
          refine cw_seq ?_
          refine cw_block ?_
          obtain ⟨w277, he279⟩ : ∃ q, q = w248.drew := ⟨_, rfl⟩
          have hm278 := hm254.drew; rw [← he279] at hm278
          refine cw_region_s (fun q => q = w277) (cls [] [15, 17]) mixed ?_
          rintro _ rfl; rw [← he279]
          refine s_rp (i := 0) rfl (by kernel_rfl) rfl (fun _ => (rd_move rfl)) ?_
          refine s_rp (i := 1) rfl (by kernel_rfl) rfl (fun _ => (rd_move rfl)) ?_
          refine s_rp (i := 2) rfl (by kernel_rfl) rfl (fun _ => (rd_move rfl)) ?_
          refine s_rp (i := 3) rfl (by kernel_rfl) rfl (fun _ => (rd_move rfl)) ?_
          obtain ⟨x280, h281, q282⟩ := ob q259; clear q259
          refine s_rp (i := 4) rfl (by kernel_rfl) rfl (fun _ => (rd_add64 h281 rfl rfl)) ?_
          refine s_rp (i := 5) rfl (by kernel_rfl) rfl (fun _ => (rd_move rfl)) ?_
          refine s_rp (i := 6) rfl (by kernel_rfl) rfl (fun _ => (rd_move rfl)) ?_
          refine s_rp (i := 7) rfl (by kernel_rfl) rfl (fun _ => (rd_add64 h281 rfl rfl)) ?_
          obtain ⟨x283, h284, q285⟩ := ob q282; clear q282
          refine s_rp (i := 8) rfl (by kernel_rfl) rfl (fun _ => (rd_index tS120 rfl rfl (hm278.sl 0 rfl) h284)) ?_
          refine s_rd (i := 9) rfl (by kernel_rfl) rfl (fun _ hS => by rw [hS]; exact (rd_ld tA124 rfl ((hm278.sl 0 rfl).cells h284) rfl)) rfl ?_
          refine s_rp (i := 10) rfl (by kernel_rfl) rfl (fun _ => (rd_move rfl)) ?_
          refine s_rp (i := 11) rfl (by kernel_rfl) rfl (fun _ => (rd_move rfl)) ?_
          obtain ⟨x286, h287, q288⟩ := ob q285; clear q285
          refine s_rp (i := 12) rfl (by kernel_rfl) rfl (fun _ => (rd_index tS120 rfl rfl (hm278.sl 0 rfl) h287)) ?_
          refine s_rd (i := 13) rfl (by kernel_rfl) rfl (fun _ hS => by rw [hS]; exact (rd_ld tA124 rfl ((hm278.sl 0 rfl).cells h287) rfl)) rfl ?_
          refine s_rp (i := 14) rfl (by kernel_rfl) rfl (fun _ => (rd_index tS120 rfl rfl (hm278.sl 0 rfl) h287)) ?_
          refine s_ef0 (i := 15) rfl (by kernel_rfl) (ef_stlw (k := 0) (x' := x283) hm278 tA124 rfl rfl rfl h287 rfl rfl) (by decide) (fun _ _ _ q => absurd q (by decide)) ?_
          intro _ w290 hm289
          obtain ⟨x291, h292, q293⟩ := ob q288; clear q288
          refine s_rp (i := 16) rfl (by kernel_rfl) rfl (fun _ => (rd_index tS120 rfl rfl (hm289.sl 0 rfl) h292)) ?_
          refine s_ef0 (i := 17) rfl (by kernel_rfl) (ef_stlw (k := 0) (x' := x286) hm289 tA124 rfl rfl rfl h292 rfl rfl) (by decide) (fun _ _ _ q => absurd q (by decide)) ?_
          intro _ w295 hm294
          refine s_nil (by kernel_rfl) ?_
          refine qn_block (qn_then ?_)
          refine cw_region ?_
          refine t_rd rfl (rd_move rfl) ?_
          refine t_rd rfl (rd_add64 h281 rfl rfl) ?_
          refine t_rd rfl (rd_assign rfl) ?_
          refine rwt_nil ?_
          refine qn_then ?_
          refine ⟨_, (os q293), (by repeat (first | exact Sub.nil _ | refine Sub.cons rfl ?_)), (hm294.pick [0] (by decide) rfl)⟩
        · refine cw_f rfl hb258 ?_
          refine cw_exit ?_
          refine qx_then (qx_then ?_)
          obtain rfl := hr250 _ (os q259)
          exact ⟨rfl, (by repeat (first | exact Sub.nil _ | refine Sub.cons rfl ?_)), (hm254.pick [0] (by decide) rfl)⟩
      · skip
        intro e env296 w297 hX298
        obtain ⟨rfl, hs299, hm300⟩ := hX298
        refine qx_same (qn_then ?_)
        refine cw_sub hs299 ?_
        refine cw_ret ?_
        refine qr_then ?_
        obtain rfl := os q253
        exact ret0 rfl ⟨rfl, (hm300.pick [0] (by decide) rfl)⟩
  · refine cw_f rfl hb4 ?_
    refine cw_skip ?_
    refine qn_then ?_
    refine cw_seq ?_
    refine cw_seq ?_
    refine cw_region ?_
    refine t_rd rfl (rd_move rfl) ?_
    refine t_rd rfl (rd_move rfl) ?_
    obtain ⟨x301, h302, q303⟩ := ob q5; clear q5
    refine t_rd rfl (rd_sub64 h302 rfl rfl) ?_
    refine t_rd rfl (rd_eql rfl rfl) ?_
    refine rwt_nil ?_
    refine qn_then ?_
    obtain ⟨hb304, q305⟩ | ⟨hb304, q305⟩ := oi q303 <;> clear q303
    · refine cw_t rfl hb304 ?_
      refine cw_seq ?_
      refine cw_region ?_
      refine t_rd rfl (rd_move rfl) ?_
      refine t_rd rfl (rd_assign rfl) ?_
      refine rwt_nil ?_
      refine qn_then ?_
      refine cw_seq ?_
      refine cw_region ?_
      refine t_rd rfl (rd_move rfl) ?_
      refine t_rd rfl (rd_assign rfl) ?_
      refine rwt_nil ?_
      refine qn_then ?_
      refine cw_seq ?_
      refine cw_block ?_
      obtain ⟨r405, hit406, q407⟩ := ob q305; clear q305
      refine cw_loop2 (I := fun q envq wq => Sub [(0, v0), (2, (Value.int .i64 a2)), (4, (Value.func (.func 81) #[] #[])), (14, (Value.int .i64 q.1)), (15, (Value.int .i64 q.2))] envq ∧ Mem w (ownL 124 v0 (a0 : List T_Scheme)).D [ownL 124 v0 (a0 : List T_Scheme)] wq) (X := fun eq envq wq => eq = .exit 4 ∧ Sub [(0, v0), (2, (Value.int .i64 a2)), (14, (Value.int .i64 r405))] envq ∧ Mem w (ownL 124 v0 (a0 : List T_Scheme)).D [ownL 124 v0 (a0 : List T_Scheme)] wq) hit406 ⟨(by repeat (first | exact Sub.nil _ | refine Sub.cons rfl ?_)), (hm0.pick [0] (by decide) rfl)⟩ ?_ ?_
      · rintro ⟨i397, i398⟩ x400 env401 w402 hf403 hr404 ⟨hs_, hm_⟩
        have hs_ : Sub [(0, v0), (2, (Value.int .i64 a2)), (4, (Value.func (.func 81) #[] #[])), (14, (Value.int .i64 i397)), (15, (Value.int .i64 i398))] env401 := hs_
        have hm408 : Mem w (ownL 124 v0 (a0 : List T_Scheme)).D [ownL 124 v0 (a0 : List T_Scheme)] w402 := hm_
        refine cw_sub hs_ ?_
        clear hs_ hm_ q407
        have h : g_slices_symMergeCmpFunc_api_Scheme_l3 N a0 a2 i397 i398 = some x400 := hf403
        clear hf403
        refine cw_seq ?_
        refine cw_seq ?_
        refine cw_region ?_
        refine t_rd rfl (rd_move rfl) ?_
        refine t_rd rfl (rd_move rfl) ?_
        refine t_rd rfl (rd_lss rfl rfl) ?_
        refine rwt_nil ?_
        refine qn_then ?_
        obtain ⟨hb409, q410⟩ | ⟨hb409, q410⟩ := oi h <;> clear h
        · refine cw_t rfl hb409 ?_
          refine cw_skip ?_
          refine qn_then ?_
          refine cw_block ?_
          refine cw_seq ?_
          refine cw_region ?_
          refine t_rd rfl (rd_move rfl) ?_
          refine t_rd rfl (rd_move rfl) ?_
          obtain ⟨x411, h412, q413⟩ := ob q410; clear q410
          refine t_rd rfl (rd_add64 h412 rfl rfl) ?_
          refine t_rd rfl (rd_cvu64 tH3 tI107 rfl) ?_
          obtain ⟨x414, h415, q416⟩ := ob q413; clear q413
          refine t_rd rfl (rd_shr_u64 h415 rfl rfl) ?_
          obtain ⟨x417, h418, q419⟩ := ob q416; clear q416
          refine t_rd rfl (rd_cv64 tH107 tI3 h418 rfl) ?_
          refine t_rd rfl (rd_assign rfl) ?_
          refine rwt_nil ?_
          refine qn_then ?_
          refine cw_seq ?_
          obtain ⟨w433, he435⟩ : ∃ q, q = w402.drew := ⟨_, rfl⟩
          have hm434 := hm408.drew; rw [← he435] at hm434
          refine cw_region_s (fun q => q = w433) (cls [] [9]) mixed ?_
          rintro _ rfl; rw [← he435]
          refine s_rp (i := 0) rfl (by kernel_rfl) rfl (fun _ => (rd_move rfl)) ?_
          refine s_rp (i := 1) rfl (by kernel_rfl) rfl (fun _ => (rd_move rfl)) ?_
          refine s_rp (i := 2) rfl (by kernel_rfl) rfl (fun _ => (rd_move rfl)) ?_
          obtain ⟨x436, h437, q438⟩ := ob q419; clear q419
          refine s_rp (i := 3) rfl (by kernel_rfl) rfl (fun _ => (rd_index tS120 rfl rfl (hm434.sl 0 rfl) h437)) ?_
          refine s_rd (i := 4) rfl (by kernel_rfl) rfl (fun _ hS => by rw [hS]; exact (rd_ld tA124 rfl ((hm434.sl 0 rfl).cells h437) rfl)) rfl ?_
          refine s_rp (i := 5) rfl (by kernel_rfl) rfl (fun _ => (rd_move rfl)) ?_
          refine s_rp (i := 6) rfl (by kernel_rfl) rfl (fun _ => (rd_move rfl)) ?_
          obtain ⟨x439, h440, q441⟩ := ob q438; clear q438
          refine s_rp (i := 7) rfl (by kernel_rfl) rfl (fun _ => (rd_index tS120 rfl rfl (hm434.sl 0 rfl) h440)) ?_
          refine s_rd (i := 8) rfl (by kernel_rfl) rfl (fun _ hS => by rw [hS]; exact (rd_ld tA124 rfl ((hm434.sl 0 rfl).cells h440) rfl)) rfl ?_
          obtain ⟨r442, h443, q444⟩ := ob q441; clear q441
          refine s_ef (i := 9) rfl (by kernel_rfl) rfl (ef_callv tf81 rfl rfl (planner_Schemes_1_ok h443)) (by decide) (fun _ _ _ q => absurd q (by decide)) ?_
          rintro _ w446 ⟨e_, hm445⟩
          obtain rfl := e_.symm
          have hm447 := hm434.call hm445
          refine s_rp (i := 10) rfl (by kernel_rfl) rfl (fun _ => (rd_lss rfl rfl)) ?_
          refine s_rp (i := 11) rfl (by kernel_rfl) rfl (fun _ => (rd_not rfl)) ?_
          refine s_nil (by kernel_rfl) ?_
          refine qn_then ?_
          obtain ⟨hb448, q449⟩ | ⟨hb448, q449⟩ := oi q444 <;> clear q444
          · refine cw_t rfl hb448 ?_
            refine cw_region ?_
            refine t_rd rfl (rd_move rfl) ?_
            obtain ⟨x450, h451, q452⟩ := ob q449; clear q449
            refine t_rd rfl (rd_add64 h451 rfl rfl) ?_
            refine t_rd rfl (rd_assign rfl) ?_
            refine rwt_nil ?_
            refine qn_block (qn_then ?_)
            refine ⟨_, (os q452), (by repeat (first | exact Sub.nil _ | refine Sub.cons rfl ?_)), (hm447.pick [0] (by decide) rfl)⟩
          · refine cw_f rfl hb448 ?_
            refine cw_region ?_
            refine t_rd rfl (rd_move rfl) ?_
            refine t_rd rfl (rd_assign rfl) ?_
            refine rwt_nil ?_
            refine qn_block (qn_then ?_)
            refine ⟨_, (os q449), (by repeat (first | exact Sub.nil _ | refine Sub.cons rfl ?_)), (hm447.pick [0] (by decide) rfl)⟩
        · refine cw_f rfl hb409 ?_
          refine cw_exit ?_
          refine qx_then (qx_then ?_)
          obtain rfl := hr404 _ (os q410)
          exact ⟨rfl, (by repeat (first | exact Sub.nil _ | refine Sub.cons rfl ?_)), (hm408.pick [0] (by decide) rfl)⟩
      · skip
        intro e env453 w454 hX455
        obtain ⟨rfl, hs456, hm457⟩ := hX455
        refine qx_same (qn_then ?_)
        refine cw_sub hs456 ?_
        refine cw_seq ?_
        refine cw_seq ?_
        refine cw_region ?_
        refine t_rd rfl (rd_move rfl) ?_
        refine t_rd rfl (rd_assign rfl) ?_
        refine rwt_nil ?_
        refine qn_then ?_
        refine cw_block ?_
        obtain ⟨r545, hit546, q547⟩ := ob q407; clear q407
        refine cw_loop2 (I := fun q envq wq => Sub [(0, v0), (14, (Value.int .i64 r405)), (17, (Value.int .i64 q.1))] envq ∧ Mem w (ownL 124 v0 (a0 : List T_Scheme)).D [ownL 124 v0 (q.2 : List T_Scheme)] wq) (X := fun eq envq wq => eq = .exit 6 ∧ Sub [] envq ∧ Mem w (ownL 124 v0 (a0 : List T_Scheme)).D [ownL 124 v0 (r545 : List T_Scheme)] wq) hit546 ⟨(by repeat (first | exact Sub.nil _ | refine Sub.cons rfl ?_)), (hm457.pick [0] (by decide) rfl)⟩ ?_ ?_
        · rintro ⟨i537, l538⟩ x540 env541 w542 hf543 hr544 ⟨hs_, hm_⟩
          have hs_ : Sub [(0, v0), (14, (Value.int .i64 r405)), (17, (Value.int .i64 i537))] env541 := hs_
          have hm548 : Mem w (ownL 124 v0 (a0 : List T_Scheme)).D [ownL 124 v0 (l538 : List T_Scheme)] w542 := hm_
          refine cw_sub hs_ ?_
          clear hs_ hm_ q547
          have h : g_slices_symMergeCmpFunc_api_Scheme_l4 N r405 i537 l538 = some x540 := hf543
          clear hf543
          refine cw_seq ?_
          refine cw_seq ?_
          refine cw_region ?_
          refine t_rd rfl (rd_move rfl) ?_
          refine t_rd rfl (rd_move rfl) ?_
          refine t_rd rfl (rd_gtr rfl rfl) ?_
          refine rwt_nil ?_
          refine qn_then ?_
          obtain ⟨hb549, q550⟩ | ⟨hb549, q550⟩ := oi h <;> clear h
          · refine cw_t rfl hb549 ?_
            refine cw_skip ?_
            refine qn_then ?_
            refine cw_seq ?_
            refine cw_block ?_
            obtain ⟨w568, he570⟩ : ∃ q, q = w542.drew := ⟨_, rfl⟩
            have hm569 := hm548.drew; rw [← he570] at hm569
            refine cw_region_s (fun q => q = w568) (cls [] [15, 17]) mixed ?_
            rintro _ rfl; rw [← he570]
            refine s_rp (i := 0) rfl (by kernel_rfl) rfl (fun _ => (rd_move rfl)) ?_
            refine s_rp (i := 1) rfl (by kernel_rfl) rfl (fun _ => (rd_move rfl)) ?_
            refine s_rp (i := 2) rfl (by kernel_rfl) rfl (fun _ => (rd_move rfl)) ?_
            refine s_rp (i := 3) rfl (by kernel_rfl) rfl (fun _ => (rd_move rfl)) ?_
            obtain ⟨x571, h572, q573⟩ := ob q550; clear q550
            refine s_rp (i := 4) rfl (by kernel_rfl) rfl (fun _ => (rd_sub64 h572 rfl rfl)) ?_
            refine s_rp (i := 5) rfl (by kernel_rfl) rfl (fun _ => (rd_move rfl)) ?_
            refine s_rp (i := 6) rfl (by kernel_rfl) rfl (fun _ => (rd_move rfl)) ?_
            refine s_rp (i := 7) rfl (by kernel_rfl) rfl (fun _ => (rd_sub64 h572 rfl rfl)) ?_
            obtain ⟨x574, h575, q576⟩ := ob q573; clear q573
            refine s_rp (i := 8) rfl (by kernel_rfl) rfl (fun _ => (rd_index tS120 rfl rfl (hm569.sl 0 rfl) h575)) ?_
            refine s_rd (i := 9) rfl (by kernel_rfl) rfl (fun _ hS => by rw [hS]; exact (rd_ld tA124 rfl ((hm569.sl 0 rfl).cells h575) rfl)) rfl ?_
            refine s_rp (i := 10) rfl (by kernel_rfl) rfl (fun _ => (rd_move rfl)) ?_
            refine s_rp (i := 11) rfl (by kernel_rfl) rfl (fun _ => (rd_move rfl)) ?_
            obtain ⟨x577, h578, q579⟩ := ob q576; clear q576
            refine s_rp (i := 12) rfl (by kernel_rfl) rfl (fun _ => (rd_index tS120 rfl rfl (hm569.sl 0 rfl) h578)) ?_
            refine s_rd (i := 13) rfl (by kernel_rfl) rfl (fun _ hS => by rw [hS]; exact (rd_ld tA124 rfl ((hm569.sl 0 rfl).cells h578) rfl)) rfl ?_
            refine s_rp (i := 14) rfl (by kernel_rfl) rfl (fun _ => (rd_index tS120 rfl rfl (hm569.sl 0 rfl) h578)) ?_
            refine s_ef0 (i := 15) rfl (by kernel_rfl) (ef_stlw (k := 0) (x' := x574) hm569 tA124 rfl rfl rfl h578 rfl rfl) (by decide) (fun _ _ _ q => absurd q (by decide)) ?_
            intro _ w581 hm580
            obtain ⟨x582, h583, q584⟩ := ob q579; clear q579
            refine s_rp (i := 16) rfl (by kernel_rfl) rfl (fun _ => (rd_index tS120 rfl rfl (hm580.sl 0 rfl) h583)) ?_
            refine s_ef0 (i := 17) rfl (by kernel_rfl) (ef_stlw (k := 0) (x' := x577) hm580 tA124 rfl rfl rfl h583 rfl rfl) (by decide) (fun _ _ _ q => absurd q (by decide)) ?_
            intro _ w586 hm585
            refine s_nil (by kernel_rfl) ?_
            refine qn_block (qn_then ?_)
            refine cw_region ?_
            refine t_rd rfl (rd_move rfl) ?_
            refine t_rd rfl (rd_sub64 h572 rfl rfl) ?_
            refine t_rd rfl (rd_assign rfl) ?_
            refine rwt_nil ?_
            refine qn_then ?_
            refine ⟨_, (os q584), (by repeat (first | exact Sub.nil _ | refine Sub.cons rfl ?_)), (hm585.pick [0] (by decide) rfl)⟩
          · refine cw_f rfl hb549 ?_
            refine cw_exit ?_
            refine qx_then (qx_then ?_)
            obtain rfl := hr544 _ (os q550)
            exact ⟨rfl, (by repeat (first | exact Sub.nil _ | refine Sub.cons rfl ?_)), (hm548.pick [0] (by decide) rfl)⟩
        · skip
          intro e env587 w588 hX589
          obtain ⟨rfl, hs590, hm591⟩ := hX589
          refine qx_same (qn_then ?_)
          refine cw_sub hs590 ?_
          refine cw_ret ?_
          refine qr_then ?_
          obtain rfl := os q547
          exact ret0 rfl ⟨rfl, (hm591.pick [0] (by decide) rfl)⟩
    · refine cw_f rfl hb304 ?_
      refine cw_skip ?_
      refine qn_then ?_
      refine cw_seq ?_
      refine cw_region ?_
      refine t_rd rfl (rd_move rfl) ?_
      refine t_rd rfl (rd_move rfl) ?_
      obtain ⟨x592, h593, q594⟩ := ob q305; clear q305
      refine t_rd rfl (rd_add64 h593 rfl rfl) ?_
      refine t_rd rfl (rd_cvu64 tH3 tI107 rfl) ?_
      obtain ⟨x595, h596, q597⟩ := ob q594; clear q594
      refine t_rd rfl (rd_shr_u64 h596 rfl rfl) ?_
      obtain ⟨x598, h599, q600⟩ := ob q597; clear q597
      refine t_rd rfl (rd_cv64 tH107 tI3 h599 rfl) ?_
      refine t_rd rfl (rd_assign rfl) ?_
      refine rwt_nil ?_
      refine qn_then ?_
      refine cw_seq ?_
      refine cw_region ?_
      refine t_rd rfl (rd_move rfl) ?_
      refine t_rd rfl (rd_move rfl) ?_
      obtain ⟨x601, h602, q603⟩ := ob q600; clear q600
      refine t_rd rfl (rd_add64 h602 rfl rfl) ?_
      refine t_rd rfl (rd_assign rfl) ?_
      refine rwt_nil ?_
      refine qn_then ?_
      refine cw_seq ?_
      refine cw_region ?_
      refine t_rd rfl (rd_assign rfl) ?_
      refine t_rd rfl (rd_assign rfl) ?_
      refine rwt_nil ?_
      refine qn_then ?_
      refine cw_seq ?_
      refine cw_seq ?_
      refine cw_region ?_
      refine t_rd rfl (rd_move rfl) ?_
      refine t_rd rfl (rd_move rfl) ?_
      refine t_rd rfl (rd_gtr rfl rfl) ?_
      refine rwt_nil ?_
      refine qn_then ?_
      obtain ⟨j611, hit612, q613⟩ := ob q603; clear q603
      refine cw_join (X := fun eq envq wq => eq = .normal ∧ Sub [(0, v0), (1, (Value.int .i64 a1)), (2, (Value.int .i64 a2)), (3, (Value.int .i64 a3)), (4, (Value.func (.func 81) #[] #[])), (18, (Value.int .i64 x598)), (19, (Value.int .i64 x601)), (20, (Value.int .i64 j611.1)), (21, (Value.int .i64 j611.2))] envq ∧ Mem w (ownL 124 v0 (a0 : List T_Scheme)).D [ownL 124 v0 (a0 : List T_Scheme)] wq) ?_ ?_
      · clear q613
        obtain ⟨hb614, q615⟩ | ⟨hb614, q615⟩ := oi hit612 <;> clear hit612
        · refine cw_t rfl hb614 ?_
          refine cw_seq ?_
          refine cw_region ?_
          refine t_rd rfl (rd_move rfl) ?_
          refine t_rd rfl (rd_move rfl) ?_
          obtain ⟨x616, h617, q618⟩ := ob q615; clear q615
          refine t_rd rfl (rd_sub64 h617 rfl rfl) ?_
          refine t_rd rfl (rd_assign rfl) ?_
          refine rwt_nil ?_
          refine qn_then ?_
          refine cw_region ?_
          refine t_rd rfl (rd_move rfl) ?_
          refine t_rd rfl (rd_assign rfl) ?_
          refine rwt_nil ?_
          obtain rfl := os q618
          exact ⟨rfl, (by repeat (first | exact Sub.nil _ | refine Sub.cons rfl ?_)), (hm0.pick [0] (by decide) rfl)⟩
        · refine cw_f rfl hb614 ?_
          refine cw_seq ?_
          refine cw_region ?_
          refine t_rd rfl (rd_move rfl) ?_
          refine t_rd rfl (rd_assign rfl) ?_
          refine rwt_nil ?_
          refine qn_then ?_
          refine cw_region ?_
          refine t_rd rfl (rd_move rfl) ?_
          refine t_rd rfl (rd_assign rfl) ?_
          refine rwt_nil ?_
          obtain rfl := os q615
          exact ⟨rfl, (by repeat (first | exact Sub.nil _ | refine Sub.cons rfl ?_)), (hm0.pick [0] (by decide) rfl)⟩
      · clear hit612
        intro e env619 w620 hX621
        obtain ⟨rfl, hs622, hm623⟩ := hX621
        refine qn_then ?_
        refine cw_sub hs622 ?_
        refine cw_seq ?_
        refine cw_region ?_
        refine t_rd rfl (rd_move rfl) ?_
        obtain ⟨x624, h625, q626⟩ := ob q613; clear q613
        refine t_rd rfl (rd_sub64 h625 rfl rfl) ?_
        refine t_rd rfl (rd_assign rfl) ?_
        refine rwt_nil ?_
        refine qn_then ?_
        refine cw_seq ?_
        refine cw_block ?_
        obtain ⟨r738, hit739, q740⟩ := ob q626; clear q626
        refine cw_loop2 (I := fun q envq wq => Sub [(0, v0), (1, (Value.int .i64 a1)), (2, (Value.int .i64 a2)), (3, (Value.int .i64 a3)), (4, (Value.func (.func 81) #[] #[])), (18, (Value.int .i64 x598)), (19, (Value.int .i64 x601)), (20, (Value.int .i64 q.1)), (21, (Value.int .i64 q.2)), (22, (Value.int .i64 x624))] envq ∧ Mem w (ownL 124 v0 (a0 : List T_Scheme)).D [ownL 124 v0 (a0 : List T_Scheme)] wq) (X := fun eq envq wq => eq = .exit 8 ∧ Sub [(0, v0), (1, (Value.int .i64 a1)), (2, (Value.int .i64 a2)), (3, (Value.int .i64 a3)), (4, (Value.func (.func 81) #[] #[])), (18, (Value.int .i64 x598)), (19, (Value.int .i64 x601)), (20, (Value.int .i64 r738))] envq ∧ Mem w (ownL 124 v0 (a0 : List T_Scheme)).D [ownL 124 v0 (a0 : List T_Scheme)] wq) hit739 ⟨(by repeat (first | exact Sub.nil _ | refine Sub.cons rfl ?_)), (hm623.pick [0] (by decide) rfl)⟩ ?_ ?_
        · rintro ⟨i730, i731⟩ x733 env734 w735 hf736 hr737 ⟨hs_, hm_⟩
          have hs_ : Sub [(0, v0), (1, (Value.int .i64 a1)), (2, (Value.int .i64 a2)), (3, (Value.int .i64 a3)), (4, (Value.func (.func 81) #[] #[])), (18, (Value.int .i64 x598)), (19, (Value.int .i64 x601)), (20, (Value.int .i64 i730)), (21, (Value.int .i64 i731)), (22, (Value.int .i64 x624))] env734 := hs_
          have hm741 : Mem w (ownL 124 v0 (a0 : List T_Scheme)).D [ownL 124 v0 (a0 : List T_Scheme)] w735 := hm_
          refine cw_sub hs_ ?_
          clear hs_ hm_ q740
          have h : g_slices_symMergeCmpFunc_api_Scheme_l5 N a0 x624 i730 i731 = some x733 := hf736
          clear hf736
          refine cw_seq ?_
          refine cw_seq ?_
          refine cw_region ?_
          refine t_rd rfl (rd_move rfl) ?_
          refine t_rd rfl (rd_move rfl) ?_
          refine t_rd rfl (rd_lss rfl rfl) ?_
          refine rwt_nil ?_
          refine qn_then ?_
          obtain ⟨hb742, q743⟩ | ⟨hb742, q743⟩ := oi h <;> clear h
          · refine cw_t rfl hb742 ?_
            refine cw_skip ?_
            refine qn_then ?_
            refine cw_block ?_
            refine cw_seq ?_
            refine cw_region ?_
            refine t_rd rfl (rd_move rfl) ?_
            refine t_rd rfl (rd_move rfl) ?_
            obtain ⟨x744, h745, q746⟩ := ob q743; clear q743
            refine t_rd rfl (rd_add64 h745 rfl rfl) ?_
            refine t_rd rfl (rd_cvu64 tH3 tI107 rfl) ?_
            obtain ⟨x747, h748, q749⟩ := ob q746; clear q746
            refine t_rd rfl (rd_shr_u64 h748 rfl rfl) ?_
            obtain ⟨x750, h751, q752⟩ := ob q749; clear q749
            refine t_rd rfl (rd_cv64 tH107 tI3 h751 rfl) ?_
            refine t_rd rfl (rd_assign rfl) ?_
            refine rwt_nil ?_
            refine qn_then ?_
            refine cw_seq ?_
            obtain ⟨w769, he771⟩ : ∃ q, q = w735.drew := ⟨_, rfl⟩
            have hm770 := hm741.drew; rw [← he771] at hm770
            refine cw_region_s (fun q => q = w769) (cls [] [11]) mixed ?_
            rintro _ rfl; rw [← he771]
            refine s_rp (i := 0) rfl (by kernel_rfl) rfl (fun _ => (rd_move rfl)) ?_
            refine s_rp (i := 1) rfl (by kernel_rfl) rfl (fun _ => (rd_move rfl)) ?_
            refine s_rp (i := 2) rfl (by kernel_rfl) rfl (fun _ => (rd_move rfl)) ?_
            refine s_rp (i := 3) rfl (by kernel_rfl) rfl (fun _ => (rd_move rfl)) ?_
            obtain ⟨x772, h773, q774⟩ := ob q752; clear q752
            refine s_rp (i := 4) rfl (by kernel_rfl) rfl (fun _ => (rd_sub64 h773 rfl rfl)) ?_
            obtain ⟨x775, h776, q777⟩ := ob q774; clear q774
            refine s_rp (i := 5) rfl (by kernel_rfl) rfl (fun _ => (rd_index tS120 rfl rfl (hm770.sl 0 rfl) h776)) ?_
            refine s_rd (i := 6) rfl (by kernel_rfl) rfl (fun _ hS => by rw [hS]; exact (rd_ld tA124 rfl ((hm770.sl 0 rfl).cells h776) rfl)) rfl ?_
            refine s_rp (i := 7) rfl (by kernel_rfl) rfl (fun _ => (rd_move rfl)) ?_
            refine s_rp (i := 8) rfl (by kernel_rfl) rfl (fun _ => (rd_move rfl)) ?_
            obtain ⟨x778, h779, q780⟩ := ob q777; clear q777
            refine s_rp (i := 9) rfl (by kernel_rfl) rfl (fun _ => (rd_index tS120 rfl rfl (hm770.sl 0 rfl) h779)) ?_
            refine s_rd (i := 10) rfl (by kernel_rfl) rfl (fun _ hS => by rw [hS]; exact (rd_ld tA124 rfl ((hm770.sl 0 rfl).cells h779) rfl)) rfl ?_
            obtain ⟨r781, h782, q783⟩ := ob q780; clear q780
            refine s_ef (i := 11) rfl (by kernel_rfl) rfl (ef_callv tf81 rfl rfl (planner_Schemes_1_ok h782)) (by decide) (fun _ _ _ q => absurd q (by decide)) ?_
            rintro _ w785 ⟨e_, hm784⟩
            obtain rfl := e_.symm
            have hm786 := hm770.call hm784
            refine s_rp (i := 12) rfl (by kernel_rfl) rfl (fun _ => (rd_lss rfl rfl)) ?_
            refine s_rp (i := 13) rfl (by kernel_rfl) rfl (fun _ => (rd_not rfl)) ?_
            refine s_nil (by kernel_rfl) ?_
            refine qn_then ?_
            obtain ⟨hb787, q788⟩ | ⟨hb787, q788⟩ := oi q783 <;> clear q783
            · refine cw_t rfl hb787 ?_
              refine cw_region ?_
              refine t_rd rfl (rd_move rfl) ?_
              obtain ⟨x789, h790, q791⟩ := ob q788; clear q788
              refine t_rd rfl (rd_add64 h790 rfl rfl) ?_
              refine t_rd rfl (rd_assign rfl) ?_
              refine rwt_nil ?_
              refine qn_block (qn_then ?_)
              refine ⟨_, (os q791), (by repeat (first | exact Sub.nil _ | refine Sub.cons rfl ?_)), (hm786.pick [0] (by decide) rfl)⟩
            · refine cw_f rfl hb787 ?_
              refine cw_region ?_
              refine t_rd rfl (rd_move rfl) ?_
              refine t_rd rfl (rd_assign rfl) ?_
              refine rwt_nil ?_
              refine qn_block (qn_then ?_)
              refine ⟨_, (os q788), (by repeat (first | exact Sub.nil _ | refine Sub.cons rfl ?_)), (hm786.pick [0] (by decide) rfl)⟩
          · refine cw_f rfl hb742 ?_
            refine cw_exit ?_
            refine qx_then (qx_then ?_)
            obtain rfl := hr737 _ (os q743)
            exact ⟨rfl, (by repeat (first | exact Sub.nil _ | refine Sub.cons rfl ?_)), (hm741.pick [0] (by decide) rfl)⟩
        · skip
          intro e env792 w793 hX794
          obtain ⟨rfl, hs795, hm796⟩ := hX794
          refine qx_same (qn_then ?_)
          refine cw_sub hs795 ?_
          refine cw_seq ?_
          refine cw_region ?_
          refine t_rd rfl (rd_move rfl) ?_
          refine t_rd rfl (rd_move rfl) ?_
          obtain ⟨x797, h798, q799⟩ := ob q740; clear q740
          refine t_rd rfl (rd_sub64 h798 rfl rfl) ?_
          refine t_rd rfl (rd_assign rfl) ?_
          refine rwt_nil ?_
          refine qn_then ?_
          refine cw_seq ?_
          refine cw_seq ?_
          refine cw_region ?_
          refine t_rd rfl (rd_move rfl) ?_
          refine t_rd rfl (rd_move rfl) ?_
          refine t_rd rfl (rd_lss rfl rfl) ?_
          refine t_rd rfl (rd_move rfl) ?_
          refine t_rdg rfl rfl rfl rfl (gv_t _) (fun hg800 => (rd_move rfl)) ?_
          refine t_rdg rfl rfl rfl rfl (gv_t _) (fun hg801 => (rd_move rfl)) ?_
          refine t_rdg rfl rfl rfl rfl (gv_t _) (fun hg802 => (rd_lss (gvx rfl hg802) (gvx rfl hg802))) ?_
          refine t_rd rfl (rd_and rfl (fun hc803 => (gvx rfl hc803))) ?_
          refine rwt_nil ?_
          refine qn_then ?_
          obtain ⟨j813, hit814, q815⟩ := ob q799; clear q799
          refine cw_join (X := fun eq envq wq => eq = .normal ∧ Sub [(0, v0), (1, (Value.int .i64 a1)), (3, (Value.int .i64 a3)), (4, (Value.func (.func 81) #[] #[])), (18, (Value.int .i64 x598)), (20, (Value.int .i64 r738)), (24, (Value.int .i64 x797))] envq ∧ Mem w (ownL 124 v0 (a0 : List T_Scheme)).D [ownL 124 v0 (j813 : List T_Scheme)] wq) ?_ ?_
          · clear q815
            obtain ⟨hb816, q817⟩ | ⟨hb816, q817⟩ := oi hit814 <;> clear hit814
            · refine cw_t rfl hb816 ?_
              refine cw_region ?_
              refine t_rd rfl (rd_move rfl) ?_
              refine t_rd rfl (rd_move rfl) ?_
              refine t_rd rfl (rd_move rfl) ?_
              refine t_rd rfl (rd_move rfl) ?_
              refine t_rd rfl (rd_move rfl) ?_
              obtain ⟨r818, h819, q820⟩ := ob q817; clear q817
              refine t_ef rfl (ef_call tf121 rfl (g_slices_rotateCmpFunc_api_Scheme_ok h819 (hm796.get (k := 0) rfl))) ?_
              rintro _ w822 ⟨e_, hm821⟩
              obtain rfl := e_.symm
              have hm823 := hm796.callT (k := 0) rfl (fun _ h => h) hm821 (fun _ => Iff.rfl)
              refine rwt_nil ?_
              obtain rfl := os q820
              exact ⟨rfl, (by repeat (first | exact Sub.nil _ | refine Sub.cons rfl ?_)), (hm823.pick [0] (by decide) rfl)⟩
            · refine cw_f rfl hb816 ?_
              refine cw_skip ?_
              obtain rfl := os q817
              exact ⟨rfl, (by repeat (first | exact Sub.nil _ | refine Sub.cons rfl ?_)), (hm796.pick [0] (by decide) rfl)⟩
          · clear hit814
            intro e env824 w825 hX826
            obtain ⟨rfl, hs827, hm828⟩ := hX826
            refine qn_then ?_
            refine cw_sub hs827 ?_
            refine cw_seq ?_
            refine cw_seq ?_
            refine cw_region ?_
            refine t_rd rfl (rd_move rfl) ?_
            refine t_rd rfl (rd_move rfl) ?_
            refine t_rd rfl (rd_lss rfl rfl) ?_
            refine t_rd rfl (rd_move rfl) ?_
            refine t_rdg rfl rfl rfl rfl (gv_t _) (fun hg829 => (rd_move rfl)) ?_
            refine t_rdg rfl rfl rfl rfl (gv_t _) (fun hg830 => (rd_move rfl)) ?_
            refine t_rdg rfl rfl rfl rfl (gv_t _) (fun hg831 => (rd_lss (gvx rfl hg831) (gvx rfl hg831))) ?_
            refine t_rd rfl (rd_and rfl (fun hc832 => (gvx rfl hc832))) ?_
            refine rwt_nil ?_
            refine qn_then ?_
            obtain ⟨j842, hit843, q844⟩ := ob q815; clear q815
            refine cw_join (X := fun eq envq wq => eq = .normal ∧ Sub [(0, v0), (3, (Value.int .i64 a3)), (4, (Value.func (.func 81) #[] #[])), (18, (Value.int .i64 x598)), (24, (Value.int .i64 x797))] envq ∧ Mem w (ownL 124 v0 (a0 : List T_Scheme)).D [ownL 124 v0 (j842 : List T_Scheme)] wq) ?_ ?_
            · clear q844
              obtain ⟨hb845, q846⟩ | ⟨hb845, q846⟩ := oi hit843 <;> clear hit843
              · refine cw_t rfl hb845 ?_
                refine cw_region ?_
                refine t_rd rfl (rd_move rfl) ?_
                refine t_rd rfl (rd_move rfl) ?_
                refine t_rd rfl (rd_move rfl) ?_
                refine t_rd rfl (rd_move rfl) ?_
                refine t_rd rfl (rd_move rfl) ?_
                obtain ⟨r847, h848, q849⟩ := ob q846; clear q846
                refine t_ef rfl (ef_call tf107 rfl (ih h848 (hm828.get (k := 0) rfl))) ?_
                rintro _ w851 ⟨e_, hm850⟩
                obtain rfl := e_.symm
                have hm852 := hm828.callT (k := 0) rfl (fun _ h => h) hm850 (fun _ => Iff.rfl)
                refine rwt_nil ?_
                obtain rfl := os q849
                exact ⟨rfl, (by repeat (first | exact Sub.nil _ | refine Sub.cons rfl ?_)), (hm852.pick [0] (by decide) rfl)⟩
              · refine cw_f rfl hb845 ?_
                refine cw_skip ?_
                obtain rfl := os q846
                exact ⟨rfl, (by repeat (first | exact Sub.nil _ | refine Sub.cons rfl ?_)), (hm828.pick [0] (by decide) rfl)⟩
            · clear hit843
              intro e env853 w854 hX855
              obtain ⟨rfl, hs856, hm857⟩ := hX855
              refine qn_then ?_
              refine cw_sub hs856 ?_
              refine cw_seq ?_
              refine cw_region ?_
              refine t_rd rfl (rd_move rfl) ?_
              refine t_rd rfl (rd_move rfl) ?_
              refine t_rd rfl (rd_lss rfl rfl) ?_
              refine t_rd rfl (rd_move rfl) ?_
              refine t_rdg rfl rfl rfl rfl (gv_t _) (fun hg858 => (rd_move rfl)) ?_
              refine t_rdg rfl rfl rfl rfl (gv_t _) (fun hg859 => (rd_move rfl)) ?_
              refine t_rdg rfl rfl rfl rfl (gv_t _) (fun hg860 => (rd_lss (gvx rfl hg860) (gvx rfl hg860))) ?_
              refine t_rd rfl (rd_and rfl (fun hc861 => (gvx rfl hc861))) ?_
              refine rwt_nil ?_
              refine qn_then ?_
              obtain ⟨hb862, q863⟩ | ⟨hb862, q863⟩ := oi q844 <;> clear q844
              · refine cw_t rfl hb862 ?_
                refine cw_region ?_
                refine t_rd rfl (rd_move rfl) ?_
                refine t_rd rfl (rd_move rfl) ?_
                refine t_rd rfl (rd_move rfl) ?_
                refine t_rd rfl (rd_move rfl) ?_
                refine t_rd rfl (rd_move rfl) ?_
                obtain ⟨r864, h865, q866⟩ := ob q863; clear q863
                refine t_ef rfl (ef_call tf107 rfl (ih h865 (hm857.get (k := 0) rfl))) ?_
                rintro _ w868 ⟨e_, hm867⟩
                obtain rfl := e_.symm
                have hm869 := hm857.callT (k := 0) rfl (fun _ h => h) hm867 (fun _ => Iff.rfl)
                refine rwt_nil ?_
                obtain rfl := os q866
                refine retn ?_
                exact ret0 rfl ⟨rfl, (hm869.pick [0] (by decide) rfl)⟩
              · refine cw_f rfl hb862 ?_
                refine cw_skip ?_
                obtain rfl := os q863
                refine retn ?_
                exact ret0 rfl ⟨rfl, (hm857.pick [0] (by decide) rfl)⟩

theorem g_slices_symMergeCmpFunc_api_Scheme_ok {N : Nat} {a0 : List T_Scheme} {a1 : Int} {a2 : Int} {a3 : Int} {res : List T_Scheme} (h : g_slices_symMergeCmpFunc_api_Scheme N a0 a1 a2 a3 = some res) {w : World} {v0 : Value} (hk0 : (ownL 124 v0 (a0 : List T_Scheme)).φ w) :
    CallsR Tryz.prog 107 [v0, (Value.int .i64 a1), (Value.int .i64 a2), (Value.int .i64 a3), (Value.func (.func 81) #[] #[])] w (fun u w' => u = (Value.tuple #[]) ∧ Mem w (ownL 124 v0 (a0 : List T_Scheme)).D [ownL 124 v0 (res : List T_Scheme)] w') := g_slices_symMergeCmpFunc_api_Scheme_r_ok N h hk0

theorem g_slices_stableCmpFunc_api_Scheme_ok {N : Nat} {a0 : List T_Scheme} {a1 : Int} {res : List T_Scheme} (h : g_slices_stableCmpFunc_api_Scheme N a0 a1 = some res) {w : World} {v0 : Value} (hk0 : (ownL 124 v0 (a0 : List T_Scheme)).φ w) :
    CallsR Tryz.prog 97 [v0, (Value.int .i64 a1), (Value.func (.func 81) #[] #[])] w (fun u w' => u = (Value.tuple #[]) ∧ Mem w (ownL 124 v0 (a0 : List T_Scheme)).D [ownL 124 v0 (res : List T_Scheme)] w') := by
  unfold g_slices_stableCmpFunc_api_Scheme at h
  refine fn_ok Tryz.func97 rfl rfl rfl ?_
  have hm0 := Mem.one hk0
  refine cw_seq ?_
  refine cw_region ?_
  refine t_rd rfl (rd_assign rfl) ?_
  refine rwt_nil ?_
  refine qn_then ?_
  refine cw_seq ?_
  refine cw_region ?_
  refine t_rd rfl (rd_move rfl) ?_
  refine t_rd rfl (rd_assign rfl) ?_
  refine t_rd rfl (rd_assign rfl) ?_
  refine rwt_nil ?_
  refine qn_then ?_
  refine cw_seq ?_
  refine cw_block ?_
  obtain ⟨r37, hit38, q39⟩ := ob h; clear h
  refine cw_loop2 (I := fun q envq wq => Sub [(0, v0), (1, (Value.int .i64 a1)), (2, (Value.func (.func 81) #[] #[])), (6, (Value.int .i64 20)), (7, (Value.int .i64 q.1)), (8, (Value.int .i64 q.2.1))] envq ∧ Mem w (ownL 124 v0 (a0 : List T_Scheme)).D [ownL 124 v0 (q.2.2 : List T_Scheme)] wq) (X := fun eq envq wq => eq = .exit 0 ∧ Sub [(0, v0), (1, (Value.int .i64 a1)), (2, (Value.func (.func 81) #[] #[])), (6, (Value.int .i64 20)), (7, (Value.int .i64 r37.1))] envq ∧ Mem w (ownL 124 v0 (a0 : List T_Scheme)).D [ownL 124 v0 (r37.2 : List T_Scheme)] wq) hit38 ⟨(by repeat (first | exact Sub.nil _ | refine Sub.cons rfl ?_)), (hm0.pick [0] (by decide) rfl)⟩ ?_ ?_
  · rintro ⟨i28, i29, l30⟩ x32 env33 w34 hf35 hr36 ⟨hs_, hm_⟩
    have hs_ : Sub [(0, v0), (1, (Value.int .i64 a1)), (2, (Value.func (.func 81) #[] #[])), (6, (Value.int .i64 20)), (7, (Value.int .i64 i28)), (8, (Value.int .i64 i29))] env33 := hs_
    have hm40 : Mem w (ownL 124 v0 (a0 : List T_Scheme)).D [ownL 124 v0 (l30 : List T_Scheme)] w34 := hm_
    refine cw_sub hs_ ?_
    clear hs_ hm_ q39
    have h : g_slices_stableCmpFunc_api_Scheme_l1 N a1 i28 i29 l30 = some x32 := hf35
    clear hf35
    refine cw_seq ?_
    refine cw_seq ?_
    refine cw_region ?_
    refine t_rd rfl (rd_move rfl) ?_
    refine t_rd rfl (rd_move rfl) ?_
    refine t_rd rfl (rd_leq rfl rfl) ?_
    refine rwt_nil ?_
    refine qn_then ?_
    obtain ⟨hb41, q42⟩ | ⟨hb41, q42⟩ := oi h <;> clear h
    · refine cw_t rfl hb41 ?_
      refine cw_skip ?_
      refine qn_then ?_
      refine cw_block ?_
      refine cw_seq ?_
      refine cw_region ?_
      refine t_rd rfl (rd_move rfl) ?_
      refine t_rd rfl (rd_move rfl) ?_
      refine t_rd rfl (rd_move rfl) ?_
      refine t_rd rfl (rd_move rfl) ?_
      obtain ⟨r43, h44, q45⟩ := ob q42; clear q42
      refine t_ef rfl (ef_call tf106 rfl (g_slices_insertionSortCmpFunc_api_Scheme_ok h44 (hm40.get (k := 0) rfl))) ?_
      rintro _ w47 ⟨e_, hm46⟩
      obtain rfl := e_.symm
      have hm48 := hm40.callT (k := 0) rfl (fun _ h => h) hm46 (fun _ => Iff.rfl)
      refine rwt_nil ?_
      refine qn_then ?_
      refine cw_seq ?_
      refine cw_region ?_
      refine t_rd rfl (rd_move rfl) ?_
      refine t_rd rfl (rd_assign rfl) ?_
      refine rwt_nil ?_
      refine qn_then ?_
      refine cw_region ?_
      refine t_rd rfl (rd_move rfl) ?_
      refine t_rd rfl (rd_move rfl) ?_
      obtain ⟨x49, h50, q51⟩ := ob q45; clear q45
      refine t_rd rfl (rd_add64 h50 rfl rfl) ?_
      refine t_rd rfl (rd_assign rfl) ?_
      refine rwt_nil ?_
      refine qn_block (qn_then ?_)
      refine ⟨_, (os q51), (by repeat (first | exact Sub.nil _ | refine Sub.cons rfl ?_)), (hm48.pick [0] (by decide) rfl)⟩
    · refine cw_f rfl hb41 ?_
      refine cw_exit ?_
      refine qx_then (qx_then ?_)
      obtain rfl := hr36 _ (os q42)
      exact ⟨rfl, (by repeat (first | exact Sub.nil _ | refine Sub.cons rfl ?_)), (hm40.pick [0] (by decide) rfl)⟩
  · skip
    intro e env52 w53 hX54
    obtain ⟨rfl, hs55, hm56⟩ := hX54
    refine qx_same (qn_then ?_)
    refine cw_sub hs55 ?_
    refine cw_seq ?_
    refine cw_region ?_
    refine t_rd rfl (rd_move rfl) ?_
    refine t_rd rfl (rd_move rfl) ?_
    refine t_rd rfl (rd_move rfl) ?_
    refine t_rd rfl (rd_move rfl) ?_
    obtain ⟨r57, h58, q59⟩ := ob q39; clear q39
    refine t_ef rfl (ef_call tf106 rfl (g_slices_insertionSortCmpFunc_api_Scheme_ok h58 (hm56.get (k := 0) rfl))) ?_
    rintro _ w61 ⟨e_, hm60⟩
    obtain rfl := e_.symm
    have hm62 := hm56.callT (k := 0) rfl (fun _ h => h) hm60 (fun _ => Iff.rfl)
    refine rwt_nil ?_
    refine qn_then ?_
    refine cw_block ?_
    obtain ⟨r248, hit249, q250⟩ := ob q59; clear q59
    refine cw_loop2 (I := fun q envq wq => Sub [(0, v0), (1, (Value.int .i64 a1)), (2, (Value.func (.func 81) #[] #[])), (6, (Value.int .i64 q.1))] envq ∧ Mem w (ownL 124 v0 (a0 : List T_Scheme)).D [ownL 124 v0 (q.2 : List T_Scheme)] wq) (X := fun eq envq wq => eq = .exit 2 ∧ Sub [] envq ∧ Mem w (ownL 124 v0 (a0 : List T_Scheme)).D [ownL 124 v0 (r248 : List T_Scheme)] wq) hit249 ⟨(by repeat (first | exact Sub.nil _ | refine Sub.cons rfl ?_)), (hm62.pick [0] (by decide) rfl)⟩ ?_ ?_
    · rintro ⟨i240, l241⟩ x243 env244 w245 hf246 hr247 ⟨hs_, hm_⟩
      have hs_ : Sub [(0, v0), (1, (Value.int .i64 a1)), (2, (Value.func (.func 81) #[] #[])), (6, (Value.int .i64 i240))] env244 := hs_
      have hm251 : Mem w (ownL 124 v0 (a0 : List T_Scheme)).D [ownL 124 v0 (l241 : List T_Scheme)] w245 := hm_
      refine cw_sub hs_ ?_
      clear hs_ hm_ q250
      have h : g_slices_stableCmpFunc_api_Scheme_l4 N a1 i240 l241 = some x243 := hf246
      clear hf246
      refine cw_seq ?_
      refine cw_seq ?_
      refine cw_region ?_
      refine t_rd rfl (rd_move rfl) ?_
      refine t_rd rfl (rd_move rfl) ?_
      refine t_rd rfl (rd_lss rfl rfl) ?_
      refine rwt_nil ?_
      refine qn_then ?_
      obtain ⟨hb252, q253⟩ | ⟨hb252, q253⟩ := oi h <;> clear h
      · refine cw_t rfl hb252 ?_
        refine cw_skip ?_
        refine qn_then ?_
        refine cw_block ?_
        refine cw_seq ?_
        refine cw_region ?_
        refine t_rd rfl (rd_move rfl) ?_
        obtain ⟨x254, h255, q256⟩ := ob q253; clear q253
        refine t_rd rfl (rd_mul64 h255 rfl rfl) ?_
        refine t_rd rfl (rd_assign rfl) ?_
        refine t_rd rfl (rd_assign rfl) ?_
        refine rwt_nil ?_
        refine qn_then ?_
        refine cw_seq ?_
        refine cw_block ?_
        obtain ⟨r299, hit300, q301⟩ := ob q256; clear q256
        refine cw_loop2 (I := fun q envq wq => Sub [(0, v0), (1, (Value.int .i64 a1)), (2, (Value.func (.func 81) #[] #[])), (6, (Value.int .i64 i240)), (7, (Value.int .i64 q.1)), (8, (Value.int .i64 q.2.1))] envq ∧ Mem w (ownL 124 v0 (a0 : List T_Scheme)).D [ownL 124 v0 (q.2.2 : List T_Scheme)] wq) (X := fun eq envq wq => eq = .exit 4 ∧ Sub [(0, v0), (1, (Value.int .i64 a1)), (2, (Value.func (.func 81) #[] #[])), (6, (Value.int .i64 i240)), (7, (Value.int .i64 r299.1))] envq ∧ Mem w (ownL 124 v0 (a0 : List T_Scheme)).D [ownL 124 v0 (r299.2 : List T_Scheme)] wq) hit300 ⟨(by repeat (first | exact Sub.nil _ | refine Sub.cons rfl ?_)), (hm251.pick [0] (by decide) rfl)⟩ ?_ ?_
        · rintro ⟨i290, i291, l292⟩ x294 env295 w296 hf297 hr298 ⟨hs_, hm_⟩
          have hs_ : Sub [(0, v0), (1, (Value.int .i64 a1)), (2, (Value.func (.func 81) #[] #[])), (6, (Value.int .i64 i240)), (7, (Value.int .i64 i290)), (8, (Value.int .i64 i291))] env295 := hs_
          have hm302 : Mem w (ownL 124 v0 (a0 : List T_Scheme)).D [ownL 124 v0 (l292 : List T_Scheme)] w296 := hm_
          refine cw_sub hs_ ?_
          clear hs_ hm_ q301
          have h : g_slices_stableCmpFunc_api_Scheme_l5 N a1 i240 x254 i290 i291 l292 = some x294 := hf297
          clear hf297
          refine cw_seq ?_
          refine cw_seq ?_
          refine cw_region ?_
          refine t_rd rfl (rd_move rfl) ?_
          refine t_rd rfl (rd_move rfl) ?_
          refine t_rd rfl (rd_leq rfl rfl) ?_
          refine rwt_nil ?_
          refine qn_then ?_
          obtain ⟨hb303, q304⟩ | ⟨hb303, q304⟩ := oi h <;> clear h
          · refine cw_t rfl hb303 ?_
            refine cw_skip ?_
            refine qn_then ?_
            refine cw_block ?_
            refine cw_seq ?_
            refine cw_region ?_
            refine t_rd rfl (rd_move rfl) ?_
            refine t_rd rfl (rd_move rfl) ?_
            refine t_rd rfl (rd_move rfl) ?_
            refine t_rd rfl (rd_move rfl) ?_
            obtain ⟨x305, h306, q307⟩ := ob q304; clear q304
            refine t_rd rfl (rd_add64 h306 rfl rfl) ?_
            refine t_rd rfl (rd_move rfl) ?_
            refine t_rd rfl (rd_move rfl) ?_
            obtain ⟨r308, h309, q310⟩ := ob q307; clear q307
            refine t_ef rfl (ef_call tf107 rfl (g_slices_symMergeCmpFunc_api_Scheme_ok h309 (hm302.get (k := 0) rfl))) ?_
            rintro _ w312 ⟨e_, hm311⟩
            obtain rfl := e_.symm
            have hm313 := hm302.callT (k := 0) rfl (fun _ h => h) hm311 (fun _ => Iff.rfl)
            refine rwt_nil ?_
            refine qn_then ?_
            refine cw_seq ?_
            refine cw_region ?_
            refine t_rd rfl (rd_move rfl) ?_
            refine t_rd rfl (rd_assign rfl) ?_
            refine rwt_nil ?_
            refine qn_then ?_
            refine cw_region ?_
            refine t_rd rfl (rd_move rfl) ?_
            refine t_rd rfl (rd_move rfl) ?_
            refine t_rd rfl (rd_mul64 h255 rfl rfl) ?_
            obtain ⟨x314, h315, q316⟩ := ob q310; clear q310
            refine t_rd rfl (rd_add64 h315 rfl rfl) ?_
            refine t_rd rfl (rd_assign rfl) ?_
            refine rwt_nil ?_
            refine qn_block (qn_then ?_)
            refine ⟨_, (os q316), (by repeat (first | exact Sub.nil _ | refine Sub.cons rfl ?_)), (hm313.pick [0] (by decide) rfl)⟩
          · refine cw_f rfl hb303 ?_
            refine cw_exit ?_
            refine qx_then (qx_then ?_)
            obtain rfl := hr298 _ (os q304)
            exact ⟨rfl, (by repeat (first | exact Sub.nil _ | refine Sub.cons rfl ?_)), (hm302.pick [0] (by decide) rfl)⟩
        · skip
          intro e env317 w318 hX319
          obtain ⟨rfl, hs320, hm321⟩ := hX319
          refine qx_same (qn_then ?_)
          refine cw_sub hs320 ?_
          refine cw_seq ?_
          refine cw_seq ?_
          refine cw_region ?_
          refine t_rd rfl (rd_move rfl) ?_
          refine t_rd rfl (rd_move rfl) ?_
          obtain ⟨x322, h323, q324⟩ := ob q301; clear q301
          refine t_rd rfl (rd_add64 h323 rfl rfl) ?_
          refine t_rd rfl (rd_assign rfl) ?_
          refine rwt_nil ?_
          refine qn_then ?_
          refine cw_seq ?_
          refine cw_region ?_
          refine t_rd rfl (rd_move rfl) ?_
          refine t_rd rfl (rd_move rfl) ?_
          refine t_rd rfl (rd_lss rfl rfl) ?_
          refine rwt_nil ?_
          refine qn_then ?_
          obtain ⟨hb325, q326⟩ | ⟨hb325, q326⟩ := oi q324 <;> clear q324
          · refine cw_t rfl hb325 ?_
            refine cw_region ?_
            refine t_rd rfl (rd_move rfl) ?_
            refine t_rd rfl (rd_move rfl) ?_
            refine t_rd rfl (rd_move rfl) ?_
            refine t_rd rfl (rd_move rfl) ?_
            refine t_rd rfl (rd_move rfl) ?_
            obtain ⟨r327, h328, q329⟩ := ob q326; clear q326
            refine t_ef rfl (ef_call tf107 rfl (g_slices_symMergeCmpFunc_api_Scheme_ok h328 (hm321.get (k := 0) rfl))) ?_
            rintro _ w331 ⟨e_, hm330⟩
            obtain rfl := e_.symm
            have hm332 := hm321.callT (k := 0) rfl (fun _ h => h) hm330 (fun _ => Iff.rfl)
            refine rwt_nil ?_
            refine qn_then ?_
            refine cw_region ?_
            refine t_rd rfl (rd_move rfl) ?_
            obtain ⟨x333, h334, q335⟩ := ob q329; clear q329
            refine t_rd rfl (rd_mul64 h334 rfl rfl) ?_
            refine t_rd rfl (rd_assign rfl) ?_
            refine rwt_nil ?_
            refine qn_block (qn_then ?_)
            refine ⟨_, (os q335), (by repeat (first | exact Sub.nil _ | refine Sub.cons rfl ?_)), (hm332.pick [0] (by decide) rfl)⟩
          · refine cw_f rfl hb325 ?_
            refine cw_skip ?_
            refine qn_then ?_
            refine cw_region ?_
            refine t_rd rfl (rd_move rfl) ?_
            obtain ⟨x336, h337, q338⟩ := ob q326; clear q326
            refine t_rd rfl (rd_mul64 h337 rfl rfl) ?_
            refine t_rd rfl (rd_assign rfl) ?_
            refine rwt_nil ?_
            refine qn_block (qn_then ?_)
            refine ⟨_, (os q338), (by repeat (first | exact Sub.nil _ | refine Sub.cons rfl ?_)), (hm321.pick [0] (by decide) rfl)⟩
      · refine cw_f rfl hb252 ?_
        refine cw_exit ?_
        refine qx_then (qx_then ?_)
        obtain rfl := hr247 _ (os q253)
        exact ⟨rfl, (by repeat (first | exact Sub.nil _ | refine Sub.cons rfl ?_)), (hm251.pick [0] (by decide) rfl)⟩
    · skip
      intro e env339 w340 hX341
      obtain ⟨rfl, hs342, hm343⟩ := hX341
      refine qx_same ?_
      obtain rfl := os q250
      refine retn ?_
      refine ret_sub hs342 ?_
      exact ret0 rfl ⟨rfl, (hm343.pick [0] (by decide) rfl)⟩

theorem g_slices_SortStableFunc_api_Scheme_api_Scheme_ok {N : Nat} {a0 : List T_Scheme} {res : List T_Scheme} (h : g_slices_SortStableFunc_api_Scheme_api_Scheme N a0 = some res) {w : World} {v0 : Value} (hk0 : (ownL 124 v0 (a0 : List T_Scheme)).φ w) :
    CallsR Tryz.prog 80 [v0, (Value.func (.func 81) #[] #[])] w (fun u w' => u = (Value.tuple #[]) ∧ Mem w (ownL 124 v0 (a0 : List T_Scheme)).D [ownL 124 v0 (res : List T_Scheme)] w') := by
  unfold g_slices_SortStableFunc_api_Scheme_api_Scheme at h
  refine fn_ok Tryz.func80 rfl rfl rfl ?_
  have hm0 := Mem.one hk0
  refine cw_region ?_
  refine t_rd rfl (rd_move rfl) ?_
  refine t_rd rfl (rd_move rfl) ?_
  refine t_rd rfl (rd_lenS tS120 rfl (hm0.sl 0 rfl)) ?_
  refine t_rd rfl (rd_move rfl) ?_
  obtain ⟨r1, h2, q3⟩ := ob h; clear h
  refine t_ef rfl (ef_call tf97 rfl (g_slices_stableCmpFunc_api_Scheme_ok h2 (hm0.get (k := 0) rfl))) ?_
  rintro _ w5 ⟨e_, hm4⟩
  obtain rfl := e_.symm
  have hm6 := hm0.callT (k := 0) rfl (fun _ h => h) hm4 (fun _ => Iff.rfl)
  refine rwt_nil ?_
  obtain rfl := os q3
  refine retn ?_
  exact ret0 rfl ⟨rfl, (hm6.pick [0] (by decide) rfl)⟩

theorem planner_Schemes_ok {N : Nat} {a0 : List T_Item} {res : List T_Scheme × Int} (h : planner_Schemes N a0 = some res) {w : World} {v0 : Value} (hv0 : Sl (Old w No) w v0 a0) :
    CallsR Tryz.prog 54 [v0] w (fun u w' => ∃ (y0 : Value), u = (Value.tuple #[y0, (Value.int .i64 res.2)]) ∧ Mem w No [ownL 124 y0 (res.1 : List T_Scheme)] w') := by
  unfold planner_Schemes at h
  refine fn_ok Tryz.func54 rfl rfl rfl ?_
  have hm0 := Mem.nil w
  refine cw_seq ?_
  refine cw_region ?_
  refine t_rd rfl (rd_assign rfl) ?_
  refine t_rd rfl (rd_assign rfl) ?_
  refine rwt_nil ?_
  refine qn_then ?_
  refine cw_seq ?_
  refine cw_seq ?_
  refine cw_region ?_
  refine t_rd rfl (rd_move rfl) ?_
  refine t_rd rfl (rd_build (cs := #[v0, (Value.int .i64 0)]) rfl (by obtain ⟨_, _, e⟩ := ((hv0.of_old hm0)).val; rw [e]; clear e; kernel_rfl)) ?_
  obtain ⟨r1, h2, q3⟩ := ob h; clear h
  refine t_ef rfl (ef_call tf59 rfl (job_Valid_ok h2 (hv0.to_call hm0))) ?_
  rintro _ w5 ⟨e_, hm4⟩
  obtain rfl := e_.symm
  have hm6 := hm0.call hm4
  refine t_rd rfl (rd_assign rfl) ?_
  refine rwt_nil ?_
  refine qn_then ?_
  refine cw_seq ?_
  refine cw_region ?_
  refine t_rd rfl (rd_move rfl) ?_
  refine t_rd rfl (rd_neq rfl rfl) ?_
  refine rwt_nil ?_
  refine qn_then ?_
  obtain ⟨hb7, q8⟩ | ⟨hb7, q8⟩ := oi q3 <;> clear q3
  · refine cw_t rfl hb7 ?_
    refine cw_seq ?_
    refine cw_region ?_
    refine t_rd rfl (rd_move rfl) ?_
    refine t_rd rfl (rd_assign rfl) ?_
    refine t_rd rfl (rd_assign rfl) ?_
    refine rwt_nil ?_
    refine qn_then ?_
    refine cw_ret ?_
    refine qr_then ?_
    obtain rfl := os q8
    have hm9 := hm6.addNil (α := T_Scheme) 124
    exact ret2 rfl rfl rfl ⟨(Value.slice none 0 0), rfl, (hm9.pick [0] (by decide) rfl)⟩
  · refine cw_f rfl hb7 ?_
    refine cw_skip ?_
    refine qn_then ?_
    refine cw_seq ?_
    refine cw_region ?_
    refine t_rd rfl (rd_assign rfl) ?_
    refine rwt_nil ?_
    refine qn_then ?_
    refine cw_seq ?_
    refine cw_seq ?_
    refine cw_region ?_
    refine t_rd rfl (rd_build (cs := #[(Value.int .i64 0), (Value.int .i64 1), (Value.int .i64 2), (Value.int .i64 12)]) rfl (by kernel_rfl)) ?_
    refine t_rd rfl (rd_move rfl) ?_
    refine rwt_nil ?_
    refine qn_then ?_
    refine cw_block ?_
    have hm50 := hm6.addNil (α := T_Scheme) 124
    obtain ⟨r144, hit145, q146⟩ := ob q8; clear q8
    refine cw_loop2 (I := fun q envq wq => ∃ (v137 : Value), Sub [(0, v0), (5, v137), (17, (Value.agg #[(Value.int .i64 0), (Value.int .i64 1), (Value.int .i64 2), (Value.int .i64 12)])), (18, (Value.int .i64 q.1))] envq ∧ Mem w No [ownL 124 v137 (q.2 : List T_Scheme)] wq) (X := fun eq envq wq => eq = .exit 0 ∧ ∃ (v134 : Value), Sub [(5, v134)] envq ∧ Mem w No [ownL 124 v134 (r144 : List T_Scheme)] wq) hit145 ⟨(Value.slice none 0 0), (by repeat (first | exact Sub.nil _ | refine Sub.cons rfl ?_)), (hm50.pick [0] (by decide) rfl)⟩ ?_ ?_
    · rintro ⟨i135, l136⟩ x139 env140 w141 hf142 hr143 ⟨v137, hs_, hm_⟩
      have hs_ : Sub [(0, v0), (5, v137), (17, (Value.agg #[(Value.int .i64 0), (Value.int .i64 1), (Value.int .i64 2), (Value.int .i64 12)])), (18, (Value.int .i64 i135))] env140 := hs_
      have hm147 : Mem w No [ownL 124 v137 (l136 : List T_Scheme)] w141 := hm_
      refine cw_sub hs_ ?_
      clear hs_ hm_ q146
      have h : planner_Schemes_l1 N a0 i135 l136 = some x139 := hf142
      clear hf142
      refine cw_seq ?_
      refine cw_region ?_
      refine t_rd rfl (rd_lss rfl rfl) ?_
      refine rwt_nil ?_
      refine qn_then ?_
      refine cw_seq ?_
      obtain ⟨hb148, q149⟩ | ⟨hb148, q149⟩ := oi h <;> clear h
      · refine cw_t rfl hb148 ?_
        refine cw_skip ?_
        refine qn_then ?_
        refine cw_seq ?_
        refine cw_block ?_
        refine cw_seq ?_
        refine cw_region ?_
        obtain ⟨x150, h151, q152⟩ := ob q149; clear q149
        refine t_rd rfl (rd_idxa (l := [0, 1, 2, 12]) tAr149 tO3 rfl rfl rfl h151) ?_
        refine t_rd rfl (rd_assign rfl) ?_
        refine rwt_nil ?_
        refine qn_then ?_
        refine cw_seq ?_
        refine cw_region ?_
        refine t_rd rfl (rd_move rfl) ?_
        refine t_rd rfl (rd_move rfl) ?_
        obtain ⟨r153, h154, q155⟩ := ob q152; clear q152
        refine t_ef rfl (ef_call tf79 rfl (planner_scheme_ok h154 (hv0.to_call hm147))) ?_
        rintro _ w158 ⟨v156, e_, hm157⟩
        obtain rfl := e_.symm
        have hm159 := hm147.call hm157
        refine t_rd rfl (rd_move rfl) ?_
        refine t_rd rfl (rd_extract rfl rfl) ?_
        refine t_rd rfl (rd_extract rfl rfl) ?_
        refine t_rd rfl (rd_extract rfl rfl) ?_
        refine t_ef rfl (ef_alloc hm159 tZ124 rfl) ?_
        rintro _ w162 ⟨g160, rfl, hm161⟩
        refine t_ef rfl (ef_alloc hm161 tZ30 rfl) ?_
        rintro _ w165 ⟨g163, rfl, hm164⟩
        refine t_ef0 (ef_stw (k := 1) hm164 tA124 rfl rfl (oc_cons rfl (oc_cons rfl (oc_cons rfl (oc_cons rfl oc_nil)))) rfl rfl rfl) ?_
        intro _ w167 hm166
        refine t_ef0 (ef_stw (k := 0) hm166 tA30 rfl rfl (oc_cons rfl (oc_cons (sl_one (hm166.sl 2 rfl)) oc_nil)) rfl rfl rfl) ?_
        intro _ w169 hm168
        refine t_rd rfl (rd_assign rfl) ?_
        refine rwt_nil ?_
        refine qn_then ?_
        refine cw_seq ?_
        refine cw_region ?_
        refine t_rd rfl (rd_move rfl) ?_
        refine rwt_nil ?_
        refine qn_then ?_
        obtain ⟨hb170, q171⟩ | ⟨hb170, q171⟩ := oi q155 <;> clear q155
        · refine cw_t rfl hb170 ?_
          refine cw_region ?_
          refine t_rd rfl (rd_move rfl) ?_
          refine t_rd rfl (rd_ld tA124 rfl (hm168.blk 1 rfl) rfl) ?_
          refine t_ef rfl (ef_bslice (l := ([r153.1] : List T_Scheme)) hm168 tS120 rfl (cs := #[(Value.int .i64 r153.1.Weight), (Value.int .i64 r153.1.Steps), (Value.int .i64 r153.1.Moves), (Value.int .i64 r153.1.Pushes)]) (by unfold bsl; kernel_rfl) rfl rfl) ?_
          intro v172 w174 hm173
          obtain ⟨l175, h176, q177⟩ := ob q171; clear q171
          refine t_ef rfl (ef_append (k := 4) hm173 tS120 tE124 rfl rfl rfl rfl (hm173.sl 0 rfl) h176) ?_
          intro v178 w180 hm179
          refine t_rd rfl (rd_assign rfl) ?_
          refine rwt_nil ?_
          refine qn_block (qn_then ?_)
          refine cw_region ?_
          obtain ⟨x181, h182, q183⟩ := ob q177; clear q177
          refine t_rd rfl (rd_add64 h182 rfl rfl) ?_
          refine t_rd rfl (rd_move rfl) ?_
          refine rwt_nil ?_
          refine qn_then ?_
          refine ⟨_, (os q183), v178, (by repeat (first | exact Sub.nil _ | refine Sub.cons rfl ?_)), (hm179.pick [4] (by decide) rfl)⟩
        · refine cw_f rfl hb170 ?_
          refine cw_skip ?_
          refine qn_block (qn_then ?_)
          refine cw_region ?_
          obtain ⟨x184, h185, q186⟩ := ob q171; clear q171
          refine t_rd rfl (rd_add64 h185 rfl rfl) ?_
          refine t_rd rfl (rd_move rfl) ?_
          refine rwt_nil ?_
          refine qn_then ?_
          refine ⟨_, (os q186), v137, (by repeat (first | exact Sub.nil _ | refine Sub.cons rfl ?_)), (hm168.pick [3] (by decide) rfl)⟩
      · refine cw_f rfl hb148 ?_
        refine cw_exit ?_
        refine qx_then (qx_then ?_)
        obtain rfl := hr143 _ (os q149)
        exact ⟨rfl, v137, (by repeat (first | exact Sub.nil _ | refine Sub.cons rfl ?_)), (hm147.pick [0] (by decide) rfl)⟩
    · skip
      intro e env187 w188 hX189
      obtain ⟨rfl, v134, hs190, hm191⟩ := hX189
      refine qx_same (qn_then ?_)
      refine cw_sub hs190 ?_
      refine cw_seq ?_
      refine cw_seq ?_
      refine cw_region ?_
      refine t_rd rfl (rd_move rfl) ?_
      refine t_rd rfl (rd_lenS tS120 rfl (hm191.sl 0 rfl)) ?_
      refine t_rd rfl (rd_eql rfl rfl) ?_
      refine rwt_nil ?_
      refine qn_then ?_
      obtain ⟨hb192, q193⟩ | ⟨hb192, q193⟩ := oi q146 <;> clear q146
      · refine cw_t rfl hb192 ?_
        refine cw_seq ?_
        refine cw_region ?_
        refine t_rd rfl (rd_assign rfl) ?_
        refine t_rd rfl (rd_assign rfl) ?_
        refine rwt_nil ?_
        refine qn_then ?_
        refine cw_ret ?_
        refine qr_then ?_
        obtain rfl := os q193
        have hm194 := hm191.addNil (α := T_Scheme) 124
        exact ret2 rfl rfl rfl ⟨(Value.slice none 0 0), rfl, (hm194.pick [0] (by decide) rfl)⟩
      · refine cw_f rfl hb192 ?_
        refine cw_skip ?_
        refine qn_then ?_
        refine cw_seq ?_
        refine cw_region ?_
        refine t_rd rfl (rd_move rfl) ?_
        obtain ⟨r195, h196, q197⟩ := ob q193; clear q193
        refine t_ef rfl (ef_call tf80 rfl (g_slices_SortStableFunc_api_Scheme_api_Scheme_ok h196 (hm191.get (k := 0) rfl))) ?_
        rintro _ w199 ⟨e_, hm198⟩
        obtain rfl := e_.symm
        have hm200 := hm191.callT (k := 0) rfl (fun _ h => h) hm198 (fun _ => Iff.rfl)
        refine rwt_nil ?_
        refine qn_then ?_
        refine cw_seq ?_
        refine cw_region ?_
        refine t_rd rfl (rd_move rfl) ?_
        refine t_rd rfl (rd_assign rfl) ?_
        refine t_rd rfl (rd_assign rfl) ?_
        refine rwt_nil ?_
        refine qn_then ?_
        refine cw_ret ?_
        obtain rfl := os q197
        exact ret2 rfl rfl rfl ⟨v134, rfl, (hm200.pick [0] (by decide) rfl)⟩

theorem g_slices_Clone_api_Item_api_Item_ok {N : Nat} {a0 : List T_Item} {res : List T_Item} (h : g_slices_Clone_api_Item_api_Item N a0 = some res) {w : World} {v0 : Value} (hv0 : Sl (Old w No) w v0 a0) :
    CallsR Tryz.prog 83 [v0] w (fun u w' => ∃ (y0 : Value), u = y0 ∧ Mem w No [ownL 40 y0 (res : List T_Item)] w') := by
  unfold g_slices_Clone_api_Item_api_Item at h
  refine fn_ok Tryz.func83 rfl rfl rfl ?_
  have hm0 := Mem.nil w
  refine cw_seq ?_
  refine cw_region ?_
  refine t_rd rfl (rd_assign rfl) ?_
  refine rwt_nil ?_
  refine qn_then ?_
  refine cw_seq ?_
  refine cw_seq ?_
  refine cw_region ?_
  refine t_rd rfl (rd_move rfl) ?_
  obtain ⟨tb, hr, hb⟩ := rd_nilS tS25 (hv0.of_old hm0)
  refine t_rd rfl (hr rfl) ?_
  refine rwt_nil ?_
  refine qn_then ?_
  cases tb with
  | true =>
    refine cw_t rfl rfl ?_
    refine cw_seq ?_
    refine cw_region ?_
    refine t_rd rfl (rd_assign rfl) ?_
    refine rwt_nil ?_
    refine qn_then ?_
    refine cw_ret ?_
    refine qr_then ?_
    have e := hb rfl
    rw [e] at h
    obtain rfl := app_nn h
    exact ret1 rfl rfl ⟨_, rfl, hm0.addNil (α := T_Item) 40⟩
  | false =>
    refine cw_f rfl rfl ?_
    refine cw_skip ?_
    refine qn_then ?_
    refine cw_seq ?_
    refine cw_region ?_
    refine t_ef rfl (ef_bslice0 (α := T_Item) hm0 tS25) ?_
    intro v1 w1 hm1
    refine t_rd rfl (rd_move rfl) ?_
    refine t_ef rfl (ef_append (k := 0) hm1 tS25 tE40 rfl rfl rfl rfl (hv0.of_old hm1) h) ?_
    intro v2 w2 hm2
    refine t_rd rfl (rd_assign rfl) ?_
    refine rwt_nil ?_
    refine qn_then ?_
    refine cw_ret ?_
    exact ret1 rfl rfl ⟨v2, rfl, hm2.pick [0] (by decide) rfl⟩

theorem g_slices_Max_int_int_ok {N : Nat} {a0 : List Int} {res : Int} (h : g_slices_Max_int_int N a0 = some res) {w : World} {v0 : Value} (hv0 : Sl (Old w No) w v0 a0) :
    CallsR Tryz.prog 63 [v0] w (fun u w' => u = (Value.int .i64 res) ∧ Mem w No [] w') := by
  unfold g_slices_Max_int_int at h
  refine fn_ok Tryz.func63 rfl rfl rfl ?_
  have hm0 := Mem.nil w
  refine cw_seq ?_
  refine cw_region ?_
  refine t_rd rfl (rd_assign rfl) ?_
  refine rwt_nil ?_
  refine qn_then ?_
  refine cw_seq ?_
  refine cw_seq ?_
  refine cw_region ?_
  refine t_rd rfl (rd_move rfl) ?_
  refine t_rd rfl (rd_lenS tS22 rfl (hv0.of_old hm0)) ?_
  refine t_rd rfl (rd_lss rfl rfl) ?_
  refine rwt_nil ?_
  refine qn_then ?_
  obtain ⟨j3, hit4, q5⟩ := ob h; clear h
  refine cw_join (X := fun eq envq wq => eq = .normal ∧ Sub [(0, v0)] envq ∧ Mem w No [] wq) ?_ ?_
  · clear q5
    obtain ⟨hb6, q7⟩ | ⟨hb6, q7⟩ := oi hit4 <;> clear hit4
    · refine cw_t rfl hb6 ?_
      cases q7
    · refine cw_f rfl hb6 ?_
      refine cw_skip ?_
      obtain rfl := os q7
      exact ⟨rfl, (by repeat (first | exact Sub.nil _ | refine Sub.cons rfl ?_)), (hm0.pick [] (by decide) rfl)⟩
  · clear hit4
    intro e env8 w9 hX10
    obtain ⟨rfl, hs11, hm12⟩ := hX10
    refine qn_then ?_
    refine cw_sub hs11 ?_
    refine cw_seq ?_
    refine cw_region ?_
    refine t_rd rfl (rd_move rfl) ?_
    obtain ⟨x13, h14, q15⟩ := ob q5; clear q5
    refine t_rd rfl (rd_index tS22 rfl rfl (hv0.of_old hm12) h14) ?_
    refine t_rd rfl (rd_ld1 tO3 rfl ((hv0.of_old hm12).cells h14) (off := 0) rfl) ?_
    refine t_rd rfl (rd_assign rfl) ?_
    refine rwt_nil ?_
    refine qn_then ?_
    refine cw_seq ?_
    refine cw_seq ?_
    refine cw_region ?_
    refine t_rd rfl (rd_assign rfl) ?_
    refine rwt_nil ?_
    refine qn_then ?_
    refine cw_block ?_
    obtain ⟨r43, hit44, q45⟩ := ob q15; clear q15
    refine cw_loop2 (I := fun q envq wq => Sub [(0, v0), (3, (Value.int .i64 q.1)), (4, (Value.int .i64 q.2))] envq ∧ Mem w No [] wq) (X := fun eq envq wq => eq = .exit 0 ∧ Sub [(3, (Value.int .i64 r43))] envq ∧ Mem w No [] wq) hit44 ⟨(by repeat (first | exact Sub.nil _ | refine Sub.cons rfl ?_)), (hm12.pick [] (by decide) rfl)⟩ ?_ ?_
    · rintro ⟨i35, i36⟩ x38 env39 w40 hf41 hr42 ⟨hs_, hm_⟩
      have hs_ : Sub [(0, v0), (3, (Value.int .i64 i35)), (4, (Value.int .i64 i36))] env39 := hs_
      have hm46 : Mem w No [] w40 := hm_
      refine cw_sub hs_ ?_
      clear hs_ hm_ q45
      have h : g_slices_Max_int_int_l1 N a0 i35 i36 = some x38 := hf41
      clear hf41
      refine cw_seq ?_
      refine cw_seq ?_
      refine cw_region ?_
      refine t_rd rfl (rd_move rfl) ?_
      refine t_rd rfl (rd_move rfl) ?_
      refine t_rd rfl (rd_lenS tS22 rfl (hv0.of_old hm46)) ?_
      refine t_rd rfl (rd_lss rfl rfl) ?_
      refine rwt_nil ?_
      refine qn_then ?_
      obtain ⟨hb47, q48⟩ | ⟨hb47, q48⟩ := oi h <;> clear h
      · refine cw_t rfl hb47 ?_
        refine cw_skip ?_
        refine qn_then ?_
        refine cw_seq ?_
        refine cw_block ?_
        refine cw_region ?_
        refine t_rd rfl (rd_move rfl) ?_
        refine t_rd rfl (rd_move rfl) ?_
        refine t_rd rfl (rd_move rfl) ?_
        obtain ⟨x49, h50, q51⟩ := ob q48; clear q48
        refine t_rd rfl (rd_index tS22 rfl rfl (hv0.of_old hm46) h50) ?_
        refine t_rd rfl (rd_ld1 tO3 rfl ((hv0.of_old hm46).cells h50) (off := 0) rfl) ?_
        refine t_rd rfl (rd_max rfl rfl) ?_
        refine t_rd rfl (rd_assign rfl) ?_
        refine rwt_nil ?_
        refine qn_block (qn_then ?_)
        refine cw_region ?_
        refine t_rd rfl (rd_move rfl) ?_
        obtain ⟨x52, h53, q54⟩ := ob q51; clear q51
        refine t_rd rfl (rd_add64 h53 rfl rfl) ?_
        refine t_rd rfl (rd_assign rfl) ?_
        refine rwt_nil ?_
        refine qn_then ?_
        refine ⟨_, (os q54), (by repeat (first | exact Sub.nil _ | refine Sub.cons rfl ?_)), (hm46.pick [] (by decide) rfl)⟩
      · refine cw_f rfl hb47 ?_
        refine cw_exit ?_
        refine qx_then (qx_then ?_)
        obtain rfl := hr42 _ (os q48)
        exact ⟨rfl, (by repeat (first | exact Sub.nil _ | refine Sub.cons rfl ?_)), (hm46.pick [] (by decide) rfl)⟩
    · skip
      intro e env55 w56 hX57
      obtain ⟨rfl, hs58, hm59⟩ := hX57
      refine qx_same (qn_then ?_)
      refine cw_sub hs58 ?_
      refine cw_seq ?_
      refine cw_region ?_
      refine t_rd rfl (rd_move rfl) ?_
      refine t_rd rfl (rd_assign rfl) ?_
      refine rwt_nil ?_
      refine qn_then ?_
      refine cw_ret ?_
      obtain rfl := os q45
      exact ret1 rfl rfl ⟨rfl, (hm59.pick [] (by decide) rfl)⟩

theorem g_slices_Index_int_int_ok {N : Nat} {a0 : List Int} {a1 : Int} {res : Int} (h : g_slices_Index_int_int N a0 a1 = some res) {w : World} {v0 : Value} (hv0 : Sl (Old w No) w v0 a0) :
    CallsR Tryz.prog 62 [v0, (Value.int .i64 a1)] w (fun u w' => u = (Value.int .i64 res) ∧ Mem w No [] w') := by
  unfold g_slices_Index_int_int at h
  refine fn_ok Tryz.func62 rfl rfl rfl ?_
  have hm0 := Mem.nil w
  refine cw_seq ?_
  refine cw_region ?_
  refine t_rd rfl (rd_assign rfl) ?_
  refine rwt_nil ?_
  refine qn_then ?_
  refine cw_seq ?_
  refine cw_seq ?_
  refine cw_region ?_
  refine t_rd rfl (rd_move rfl) ?_
  refine t_rd rfl (rd_lenS tS22 rfl (hv0.of_old hm0)) ?_
  refine t_rd rfl (rd_move rfl) ?_
  refine rwt_nil ?_
  refine qn_then ?_
  refine cw_block ?_
  obtain ⟨r29, hit30, q31⟩ := ob h; clear h
  refine cw_loop2 (I := fun q envq wq => Sub [(0, v0), (1, (Value.int .i64 a1)), (7, (Value.int .i64 (List.length a0 : Int))), (8, (Value.int .i64 q))] envq ∧ Mem w No [] wq) (X := fun eq envq wq => (∃ p32, r29 = (Sum.inl p32) ∧ eq = .ret ∧ retQ Tryz.prog 19 Tryz.f62 (fun u w' => u = (Value.int .i64 p32) ∧ Mem w No [] w') .ret envq wq) ∨ (∃ p33, r29 = (Sum.inr p33) ∧ eq = .exit 0 ∧ Sub [] envq ∧ Mem w No [] wq)) hit30 ⟨(by repeat (first | exact Sub.nil _ | refine Sub.cons rfl ?_)), (hm0.pick [] (by decide) rfl)⟩ ?_ ?_
  · rintro i22 x24 env25 w26 hf27 hr28 ⟨hs_, hm_⟩
    have hs_ : Sub [(0, v0), (1, (Value.int .i64 a1)), (7, (Value.int .i64 (List.length a0 : Int))), (8, (Value.int .i64 i22))] env25 := hs_
    have hm34 : Mem w No [] w26 := hm_
    refine cw_sub hs_ ?_
    clear hs_ hm_ q31
    have h : g_slices_Index_int_int_l1 N a0 a1 i22 = some x24 := hf27
    clear hf27
    refine cw_seq ?_
    refine cw_region ?_
    refine t_rd rfl (rd_lss rfl rfl) ?_
    refine rwt_nil ?_
    refine qn_then ?_
    refine cw_seq ?_
    obtain ⟨hb35, q36⟩ | ⟨hb35, q36⟩ := oi h <;> clear h
    · refine cw_t rfl hb35 ?_
      refine cw_skip ?_
      refine qn_then ?_
      refine cw_seq ?_
      refine cw_block ?_
      refine cw_seq ?_
      refine cw_region ?_
      refine t_rd rfl (rd_move rfl) ?_
      refine t_rd rfl (rd_assign rfl) ?_
      refine rwt_nil ?_
      refine qn_then ?_
      refine cw_seq ?_
      refine cw_region ?_
      refine t_rd rfl (rd_move rfl) ?_
      refine t_rd rfl (rd_move rfl) ?_
      refine t_rd rfl (rd_move rfl) ?_
      obtain ⟨x37, h38, q39⟩ := ob q36; clear q36
      refine t_rd rfl (rd_index tS22 rfl rfl (hv0.of_old hm34) h38) ?_
      refine t_rd rfl (rd_ld1 tO3 rfl ((hv0.of_old hm34).cells h38) (off := 0) rfl) ?_
      refine t_rd rfl (rd_eql rfl rfl) ?_
      refine rwt_nil ?_
      refine qn_then ?_
      obtain ⟨hb40, q41⟩ | ⟨hb40, q41⟩ := oi q39 <;> clear q39
      · refine cw_t rfl hb40 ?_
        refine cw_seq ?_
        refine cw_region ?_
        refine t_rd rfl (rd_move rfl) ?_
        refine t_rd rfl (rd_assign rfl) ?_
        refine rwt_nil ?_
        refine qn_then ?_
        refine cw_ret ?_
        refine qr_block (qr_then (qr_then ?_))
        obtain rfl := hr28 _ (os q41)
        refine .inl (⟨_, rfl, ⟨rfl, ?_⟩⟩)
        exact ret1 rfl rfl ⟨rfl, (hm34.pick [] (by decide) rfl)⟩
      · refine cw_f rfl hb40 ?_
        refine cw_skip ?_
        refine qn_block (qn_then ?_)
        refine cw_region ?_
        obtain ⟨x42, h43, q44⟩ := ob q41; clear q41
        refine t_rd rfl (rd_add64 h43 rfl rfl) ?_
        refine t_rd rfl (rd_move rfl) ?_
        refine rwt_nil ?_
        refine qn_then ?_
        refine ⟨_, (os q44), (by repeat (first | exact Sub.nil _ | refine Sub.cons rfl ?_)), (hm34.pick [] (by decide) rfl)⟩
    · refine cw_f rfl hb35 ?_
      refine cw_exit ?_
      refine qx_then (qx_then ?_)
      obtain rfl := hr28 _ (os q36)
      exact .inr (⟨_, rfl, ⟨rfl, (by repeat (first | exact Sub.nil _ | refine Sub.cons rfl ?_)), (hm34.pick [] (by decide) rfl)⟩⟩)
  · skip
    intro e env45 w46 hX47
    rcases hX47 with hX47 | hX47
    · obtain ⟨p49, rfl, hX47⟩ := hX47
      obtain ⟨rfl, hq51⟩ := hX47
      exact qr_block (qr_then ((by have e := os q31; subst e; exact hq51)))
    · obtain ⟨p52, rfl, hX47⟩ := hX47
      obtain ⟨rfl, hs53, hm54⟩ := hX47
      refine qx_same (qn_then ?_)
      refine cw_sub hs53 ?_
      refine cw_seq ?_
      refine cw_region ?_
      refine t_rd rfl (rd_assign rfl) ?_
      refine rwt_nil ?_
      refine qn_then ?_
      refine cw_ret ?_
      obtain rfl := os q31
      exact ret1 rfl rfl ⟨rfl, (hm54.pick [] (by decide) rfl)⟩

theorem g_slices_Reverse_int_int_ok {N : Nat} {a0 : List Int} {res : List Int} (h : g_slices_Reverse_int_int N a0 = some res) {w : World} {v0 : Value} (hk0 : (ownL 3 v0 (a0 : List Int)).φ w) :
    CallsR Tryz.prog 64 [v0] w (fun u w' => u = (Value.tuple #[]) ∧ Mem w (ownL 3 v0 (a0 : List Int)).D [ownL 3 v0 (res : List Int)] w') := by
  unfold g_slices_Reverse_int_int at h
  refine fn_ok Tryz.func64 rfl rfl rfl ?_
  have hm0 := Mem.one hk0
  refine cw_seq ?_
  refine cw_region ?_
  refine t_rd rfl (rd_move rfl) ?_
  refine t_rd rfl (rd_lenS tS22 rfl (hm0.sl 0 rfl)) ?_
  obtain ⟨x1, h2, q3⟩ := ob h; clear h
  refine t_rd rfl (rd_sub64 h2 rfl rfl) ?_
  refine t_rd rfl (rd_assign rfl) ?_
  refine t_rd rfl (rd_assign rfl) ?_
  refine rwt_nil ?_
  refine qn_then ?_
  refine cw_block ?_
  obtain ⟨r93, hit94, q95⟩ := ob q3; clear q3
  refine cw_loop2 (I := fun q envq wq => Sub [(0, v0), (2, (Value.int .i64 q.1)), (3, (Value.int .i64 q.2.1))] envq ∧ Mem w (ownL 3 v0 (a0 : List Int)).D [ownL 3 v0 (q.2.2 : List Int)] wq) (X := fun eq envq wq => eq = .exit 0 ∧ Sub [] envq ∧ Mem w (ownL 3 v0 (a0 : List Int)).D [ownL 3 v0 (r93 : List Int)] wq) hit94 ⟨(by repeat (first | exact Sub.nil _ | refine Sub.cons rfl ?_)), (hm0.pick [0] (by decide) rfl)⟩ ?_ ?_
  · rintro ⟨i84, i85, l86⟩ x88 env89 w90 hf91 hr92 ⟨hs_, hm_⟩
    have hs_ : Sub [(0, v0), (2, (Value.int .i64 i84)), (3, (Value.int .i64 i85))] env89 := hs_
    have hm96 : Mem w (ownL 3 v0 (a0 : List Int)).D [ownL 3 v0 (l86 : List Int)] w90 := hm_
    refine cw_sub hs_ ?_
    clear hs_ hm_ q95
    have h : g_slices_Reverse_int_int_l1 N i84 i85 l86 = some x88 := hf91
    clear hf91
    refine cw_seq ?_
    refine cw_seq ?_
    refine cw_region ?_
    refine t_rd rfl (rd_move rfl) ?_
    refine t_rd rfl (rd_move rfl) ?_
    refine t_rd rfl (rd_lss rfl rfl) ?_
    refine rwt_nil ?_
    refine qn_then ?_
    obtain ⟨hb97, q98⟩ | ⟨hb97, q98⟩ := oi h <;> clear h
    · refine cw_t rfl hb97 ?_
      refine cw_skip ?_
      refine qn_then ?_
      refine cw_seq ?_
      refine cw_block ?_
      obtain ⟨w113, he115⟩ : ∃ q, q = w90.drew := ⟨_, rfl⟩
      have hm114 := hm96.drew; rw [← he115] at hm114
      refine cw_region_s (fun q => q = w113) (cls [] [13, 15]) mixed ?_
      rintro _ rfl; rw [← he115]
      refine s_rp (i := 0) rfl (by kernel_rfl) rfl (fun _ => (rd_move rfl)) ?_
      refine s_rp (i := 1) rfl (by kernel_rfl) rfl (fun _ => (rd_move rfl)) ?_
      refine s_rp (i := 2) rfl (by kernel_rfl) rfl (fun _ => (rd_move rfl)) ?_
      refine s_rp (i := 3) rfl (by kernel_rfl) rfl (fun _ => (rd_move rfl)) ?_
      refine s_rp (i := 4) rfl (by kernel_rfl) rfl (fun _ => (rd_move rfl)) ?_
      refine s_rp (i := 5) rfl (by kernel_rfl) rfl (fun _ => (rd_move rfl)) ?_
      obtain ⟨x116, h117, q118⟩ := ob q98; clear q98
      refine s_rp (i := 6) rfl (by kernel_rfl) rfl (fun _ => (rd_index tS22 rfl rfl (hm114.sl 0 rfl) h117)) ?_
      refine s_rd (i := 7) rfl (by kernel_rfl) rfl (fun _ hS => by rw [hS]; exact (rd_ld1 tO3 rfl ((hm114.sl 0 rfl).cells h117) (off := 0) rfl)) rfl ?_
      refine s_rp (i := 8) rfl (by kernel_rfl) rfl (fun _ => (rd_move rfl)) ?_
      refine s_rp (i := 9) rfl (by kernel_rfl) rfl (fun _ => (rd_move rfl)) ?_
      obtain ⟨x119, h120, q121⟩ := ob q118; clear q118
      refine s_rp (i := 10) rfl (by kernel_rfl) rfl (fun _ => (rd_index tS22 rfl rfl (hm114.sl 0 rfl) h120)) ?_
      refine s_rd (i := 11) rfl (by kernel_rfl) rfl (fun _ hS => by rw [hS]; exact (rd_ld1 tO3 rfl ((hm114.sl 0 rfl).cells h120) (off := 0) rfl)) rfl ?_
      refine s_rp (i := 12) rfl (by kernel_rfl) rfl (fun _ => (rd_index tS22 rfl rfl (hm114.sl 0 rfl) h120)) ?_
      refine s_ef0 (i := 13) rfl (by kernel_rfl) (ef_stl (k := 0) (off := 0) (x' := x116) hm114 tO3 rfl rfl rfl rfl h120 rfl rfl) (by decide) (fun _ _ _ q => absurd q (by decide)) ?_
      intro _ w123 hm122
      obtain ⟨x124, h125, q126⟩ := ob q121; clear q121
      refine s_rp (i := 14) rfl (by kernel_rfl) rfl (fun _ => (rd_index tS22 rfl rfl (hm122.sl 0 rfl) h125)) ?_
      refine s_ef0 (i := 15) rfl (by kernel_rfl) (ef_stl (k := 0) (off := 0) (x' := x119) hm122 tO3 rfl rfl rfl rfl h125 rfl rfl) (by decide) (fun _ _ _ q => absurd q (by decide)) ?_
      intro _ w128 hm127
      refine s_nil (by kernel_rfl) ?_
      refine qn_block (qn_then ?_)
      refine cw_region ?_
      refine t_rd rfl (rd_move rfl) ?_
      obtain ⟨x129, h130, q131⟩ := ob q126; clear q126
      refine t_rd rfl (rd_add64 h130 rfl rfl) ?_
      refine t_rd rfl (rd_move rfl) ?_
      obtain ⟨x132, h133, q134⟩ := ob q131; clear q131
      refine t_rd rfl (rd_sub64 h133 rfl rfl) ?_
      refine t_rd rfl (rd_assign rfl) ?_
      refine t_rd rfl (rd_assign rfl) ?_
      refine rwt_nil ?_
      refine qn_then ?_
      refine ⟨_, (os q134), (by repeat (first | exact Sub.nil _ | refine Sub.cons rfl ?_)), (hm127.pick [0] (by decide) rfl)⟩
    · refine cw_f rfl hb97 ?_
      refine cw_exit ?_
      refine qx_then (qx_then ?_)
      obtain rfl := hr92 _ (os q98)
      exact ⟨rfl, (by repeat (first | exact Sub.nil _ | refine Sub.cons rfl ?_)), (hm96.pick [0] (by decide) rfl)⟩
  · skip
    intro e env135 w136 hX137
    obtain ⟨rfl, hs138, hm139⟩ := hX137
    refine qx_same ?_
    obtain rfl := os q95
    refine retn ?_
    refine ret_sub hs138 ?_
    exact ret0 rfl ⟨rfl, (hm139.pick [0] (by decide) rfl)⟩

end Go.Proofs.YtlpkbkbjohhleaaGreat
