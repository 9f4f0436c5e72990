/- Each call computes what its mirror does; written by a program of mine (gowalk.py). -/
import Derived.Test.YthoabchofjcigaaWka
namespace Go.Proofs.Ythoabchofjcigaa
open Go.Gv Go.RowKit
set_option linter.unusedVariables false
set_option maxRecDepth 100000

theorem crew_Cover_ok {N : Nat} {a0 : List T_Task} {a1 : List T_Crew} {res : List Int × List Int × Int} (h : crew_Cover N a0 a1 = some res) {w : World} {v0 : Value} {v1 : Value} (hv0 : Sl (Old w No) w v0 a0) (hv1 : Sl (Old w No) w v1 a1) :
    CallsR Try.prog 16 [v0, v1] w (fun u w' => ∃ (y0 : Value) (y1 : Value), u = (Value.tuple #[y0, y1, (Value.int .i64 res.2.2)]) ∧ Mem w No [ownL 3 y0 (res.1 : List Int), ownL 3 y1 (res.2.1 : List Int)] w') := by
  unfold crew_Cover at h
  refine fn_ok Try.func16 rfl rfl rfl ?_
  have hm0 := Mem.nil w
  refine cw_seq ?_
  refine cw_region ?_
  refine t_ef rfl (ef_box hm0 rfl rfl) ?_
  rintro _ w3 ⟨g1, rfl, hm2⟩
  have cb4 : v0.cells.toList = [v0] := by obtain ⟨_, _, e⟩ := ((hv0.of_old hm0)).val; rw [e]; rfl
  simp only [cb4] at hm2
  refine t_ef rfl (ef_box hm2 rfl rfl) ?_
  rintro _ w7 ⟨g5, rfl, hm6⟩
  have cb8 : v1.cells.toList = [v1] := by obtain ⟨_, _, e⟩ := ((hv1.of_old hm2)).val; rw [e]; rfl
  simp only [cb8] at hm6
  refine t_rd rfl (rd_assign rfl) ?_
  refine t_rd rfl (rd_assign rfl) ?_
  refine t_rd rfl (rd_assign rfl) ?_
  refine rwt_nil ?_
  refine qn_then ?_
  refine cw_seq ?_
  refine cw_seq ?_
  refine cw_region ?_
  refine t_rd rfl (rd_ld1 tO25 rfl (hm6.blk 1 rfl) (off := 0) rfl) ?_
  refine t_rd rfl (rd_ld1 tO26 rfl (hm6.blk 0 rfl) (off := 0) rfl) ?_
  obtain ⟨r9, h10, q11⟩ := ob h; clear h
  refine t_ef rfl (ef_call tf23 rfl (crew_check_ok h10 (hv0.to_call hm6) (hv1.to_call hm6))) ?_
  rintro _ w13 ⟨e_, hm12⟩
  obtain rfl := e_.symm
  have hm14 := hm6.call hm12
  refine t_rd rfl (rd_assign rfl) ?_
  refine rwt_nil ?_
  refine qn_then ?_
  refine cw_seq ?_
  refine cw_region ?_
  refine t_rd rfl (rd_move rfl) ?_
  refine t_rd rfl (rd_neq rfl rfl) ?_
  refine rwt_nil ?_
  refine qn_then ?_
  obtain ⟨hb15, q16⟩ | ⟨hb15, q16⟩ := oi q11 <;> clear q11
  · refine cw_t rfl hb15 ?_
    refine cw_seq ?_
    refine cw_region ?_
    refine t_rd rfl (rd_move rfl) ?_
    refine t_rd rfl (rd_assign rfl) ?_
    refine t_rd rfl (rd_assign rfl) ?_
    refine t_rd rfl (rd_assign rfl) ?_
    refine rwt_nil ?_
    refine qn_then ?_
    refine cw_ret ?_
    refine qr_then ?_
    obtain rfl := os q16
    have hm17 := hm14.addNil (α := Int) 3
    have hm18 := hm17.addNil (α := Int) 3
    exact ret3 rfl rfl rfl rfl ⟨(Value.slice none 0 0), (Value.slice none 0 0), rfl, (hm18.pick [1, 0] (by decide) rfl)⟩
  · refine cw_f rfl hb15 ?_
    refine cw_skip ?_
    refine qn_then ?_
    refine cw_seq ?_
    refine cw_region ?_
    refine t_rd rfl (rd_ld1 tO25 rfl (hm14.blk 1 rfl) (off := 0) rfl) ?_
    refine t_rd rfl (rd_ld1 tO26 rfl (hm14.blk 0 rfl) (off := 0) rfl) ?_
    obtain ⟨r19, h20, q21⟩ := ob q16; clear q16
    refine t_ef rfl (ef_call tf24 rfl (crew_match_ok h20 (hv0.to_call hm14) (hv1.to_call hm14))) ?_
    rintro _ w25 ⟨v22, v23, e_, hm24⟩
    obtain rfl := e_.symm
    have hm26 := hm14.call hm24
    refine t_rd rfl (rd_move rfl) ?_
    refine t_rd rfl (rd_extract rfl rfl) ?_
    refine t_rd rfl (rd_extract rfl rfl) ?_
    refine t_ef rfl (ef_alloc hm26 tZ22 rfl) ?_
    rintro _ w29 ⟨g27, rfl, hm28⟩
    refine t_rd rfl (rd_assign rfl) ?_
    refine t_ef0 (ef_st1 (k := 0) (off := 0) hm28 tO22 rfl rfl rfl (sl_one (hm28.sl 2 rfl)) rfl rfl) ?_
    intro _ w31 hm30
    refine rwt_nil ?_
    refine qn_then ?_
    refine cw_seq ?_
    obtain ⟨j462, hit463, q464⟩ := ob q21; clear q21
    refine cw_join (X := fun eq envq wq => eq = .normal ∧ ∃ (v459 : Value) (g454 : Nat) (v461 : Value) (g456 : Nat), Sub [(2, (Value.pointer (some ⟨g1, 0, none⟩))), (3, (Value.pointer (some ⟨g5, 0, none⟩))), (4, (Value.slice none 0 0)), (5, (Value.slice none 0 0)), (7, v22), (8, (Value.pointer (some ⟨g27, 0, none⟩))), (9, (Value.pointer (some ⟨g454, 0, none⟩))), (10, (Value.pointer (some ⟨g456, 0, none⟩)))] envq ∧ Mem w No [ownL 4 v459 (j462.1 : List Bool), blk g454 33 [v459], ownL 4 v461 (j462.2 : List Bool), blk g456 33 [v461], blk g27 22 [v23], ownL 3 v22 (r19.1 : List Int), ownL 3 v23 (r19.2 : List Int), blk g5 26 [v1], blk g1 25 [v0]] wq) ?_ ?_
    · clear q464
      obtain ⟨w466, he468⟩ : ∃ q, q = w31.drew := ⟨_, rfl⟩
      have hm467 := hm30.drew; rw [← he468] at hm467
      refine cw_region_s (fun q => (blk g1 25 [v0]).φ q ∧ (blk g5 26 [v1]).φ q) (cls [2, 5, 6, 7, 8] [9]) mixed ?_
      rintro _ rfl; rw [← he468]
      refine s_rd (i := 0) rfl (by kernel_rfl) rfl (fun w465 hS => (rd_ld1 tO25 rfl (cells_blk hS.1) (off := 0) rfl)) ⟨(hm467.get (k := 4) rfl), (hm467.get (k := 3) rfl)⟩ ?_
      refine s_rp (i := 1) rfl (by kernel_rfl) rfl (fun _ => (rd_lenS tS25 rfl (hv0.of_old hm467))) ?_
      refine s_rd (i := 3) rfl (by kernel_rfl) rfl (fun w465 hS => (rd_ld1 tO26 rfl (cells_blk hS.2) (off := 0) rfl)) ⟨(hm467.get (k := 4) rfl), (hm467.get (k := 3) rfl)⟩ ?_
      refine s_rp (i := 4) rfl (by kernel_rfl) rfl (fun _ => (rd_lenS tS26 rfl (hv1.of_old hm467))) ?_
      refine s_br4 (i := 2) (j := 5) (m := 6) (q := 7) (by kernel_rfl) ?_ ?_ ?_ ?_
      · skip
        obtain ⟨l491, h492, q493⟩ := ob hit463; clear hit463
        refine e_ef (i := 2) rfl rfl (ef_make hm467 tS33 tE4 rfl rfl rfl h492) (by decide) ?_ ?_
        · intro v494 w496 hm495
          intro _
          exact ⟨(hm495.get (k := 5) rfl), (hm495.get (k := 4) rfl)⟩
        intro v494 w496 hm495
        refine s_br3 (i := 5) (j := 6) (m := 7) (by kernel_rfl) ?_ ?_ ?_
        · skip
          obtain ⟨l497, h498, q499⟩ := ob q493; clear q493
          refine e_ef (i := 5) rfl rfl (ef_make hm495 tS33 tE4 rfl rfl rfl h498) (by decide) ?_ ?_
          · intro v500 w502 hm501
            intro _
            exact ⟨(hm501.get (k := 6) rfl), (hm501.get (k := 5) rfl)⟩
          intro v500 w502 hm501
          refine s_br2 (i := 6) (j := 7) (by kernel_rfl) ?_ ?_
          · skip
            refine e_ef (i := 6) rfl rfl (ef_alloc hm501 tZ33 rfl) (by decide) ?_ ?_
            · rintro _ w505 ⟨g503, rfl, hm504⟩
              intro _
              exact ⟨(hm504.get (k := 7) rfl), (hm504.get (k := 6) rfl)⟩
            rintro _ w505 ⟨g503, rfl, hm504⟩
            refine s_ef (i := 7) rfl (by kernel_rfl) rfl (ef_alloc hm504 tZ33 rfl) (by decide) ?_ ?_
            · rintro _ w508 ⟨g506, rfl, hm507⟩
              intro _
              exact ⟨(hm507.get (k := 8) rfl), (hm507.get (k := 7) rfl)⟩
            rintro _ w508 ⟨g506, rfl, hm507⟩
            refine s_ef0 (i := 8) rfl (by kernel_rfl) (ef_st1 (k := 1) (off := 0) hm507 tO33 rfl rfl rfl (sl_one (hm507.sl 3 rfl)) rfl rfl) (by decide) ?_ ?_
            · intro _ w510 hm509
              intro _
              exact ⟨(hm509.get (k := 8) rfl), (hm509.get (k := 7) rfl)⟩
            intro _ w510 hm509
            refine s_ef0 (i := 9) rfl (by kernel_rfl) (ef_st1 (k := 0) (off := 0) hm509 tO33 rfl rfl rfl (sl_one (hm509.sl 2 rfl)) rfl rfl) (by decide) (fun _ _ _ q => absurd q (by decide)) ?_
            intro _ w512 hm511
            refine s_nil (by kernel_rfl) ?_
            obtain rfl := os q499
            exact ⟨rfl, v494, g503, v500, g506, (by repeat (first | exact Sub.nil _ | refine Sub.cons rfl ?_)), (hm511.pick [3, 1, 2, 0, 4, 5, 6, 7, 8] (by decide) rfl)⟩
          · skip
            refine e_ef (i := 7) rfl rfl (ef_alloc hm501 tZ33 rfl) (by decide) ?_ ?_
            · rintro _ w515 ⟨g513, rfl, hm514⟩
              intro _
              exact ⟨(hm514.get (k := 7) rfl), (hm514.get (k := 6) rfl)⟩
            rintro _ w515 ⟨g513, rfl, hm514⟩
            refine s_ef (i := 6) rfl (by kernel_rfl) rfl (ef_alloc hm514 tZ33 rfl) (by decide) ?_ ?_
            · rintro _ w518 ⟨g516, rfl, hm517⟩
              intro _
              exact ⟨(hm517.get (k := 8) rfl), (hm517.get (k := 7) rfl)⟩
            rintro _ w518 ⟨g516, rfl, hm517⟩
            refine s_ef0 (i := 8) rfl (by kernel_rfl) (ef_st1 (k := 0) (off := 0) hm517 tO33 rfl rfl rfl (sl_one (hm517.sl 3 rfl)) rfl rfl) (by decide) ?_ ?_
            · intro _ w520 hm519
              intro _
              exact ⟨(hm519.get (k := 8) rfl), (hm519.get (k := 7) rfl)⟩
            intro _ w520 hm519
            refine s_ef0 (i := 9) rfl (by kernel_rfl) (ef_st1 (k := 1) (off := 0) hm519 tO33 rfl rfl rfl (sl_one (hm519.sl 2 rfl)) rfl rfl) (by decide) (fun _ _ _ q => absurd q (by decide)) ?_
            intro _ w522 hm521
            refine s_nil (by kernel_rfl) ?_
            obtain rfl := os q499
            exact ⟨rfl, v494, g516, v500, g513, (by repeat (first | exact Sub.nil _ | refine Sub.cons rfl ?_)), (hm521.pick [3, 0, 2, 1, 4, 5, 6, 7, 8] (by decide) rfl)⟩
        · skip
          refine e_ef (i := 6) rfl rfl (ef_alloc hm495 tZ33 rfl) (by decide) ?_ ?_
          · rintro _ w525 ⟨g523, rfl, hm524⟩
            intro _
            exact ⟨(hm524.get (k := 6) rfl), (hm524.get (k := 5) rfl)⟩
          rintro _ w525 ⟨g523, rfl, hm524⟩
          refine s_br2 (i := 5) (j := 7) (by kernel_rfl) ?_ ?_
          · skip
            obtain ⟨l497, h526, q527⟩ := ob q493; clear q493
            refine e_ef (i := 5) rfl rfl (ef_make hm524 tS33 tE4 rfl rfl rfl h526) (by decide) ?_ ?_
            · intro v528 w530 hm529
              intro _
              exact ⟨(hm529.get (k := 7) rfl), (hm529.get (k := 6) rfl)⟩
            intro v528 w530 hm529
            refine s_ef (i := 7) rfl (by kernel_rfl) rfl (ef_alloc hm529 tZ33 rfl) (by decide) ?_ ?_
            · rintro _ w533 ⟨g531, rfl, hm532⟩
              intro _
              exact ⟨(hm532.get (k := 8) rfl), (hm532.get (k := 7) rfl)⟩
            rintro _ w533 ⟨g531, rfl, hm532⟩
            refine s_ef0 (i := 8) rfl (by kernel_rfl) (ef_st1 (k := 2) (off := 0) hm532 tO33 rfl rfl rfl (sl_one (hm532.sl 3 rfl)) rfl rfl) (by decide) ?_ ?_
            · intro _ w535 hm534
              intro _
              exact ⟨(hm534.get (k := 8) rfl), (hm534.get (k := 7) rfl)⟩
            intro _ w535 hm534
            refine s_ef0 (i := 9) rfl (by kernel_rfl) (ef_st1 (k := 0) (off := 0) hm534 tO33 rfl rfl rfl (sl_one (hm534.sl 1 rfl)) rfl rfl) (by decide) (fun _ _ _ q => absurd q (by decide)) ?_
            intro _ w537 hm536
            refine s_nil (by kernel_rfl) ?_
            obtain rfl := os q527
            exact ⟨rfl, v494, g523, v528, g531, (by repeat (first | exact Sub.nil _ | refine Sub.cons rfl ?_)), (hm536.pick [3, 2, 1, 0, 4, 5, 6, 7, 8] (by decide) rfl)⟩
          · skip
            refine e_ef (i := 7) rfl rfl (ef_alloc hm524 tZ33 rfl) (by decide) ?_ ?_
            · rintro _ w540 ⟨g538, rfl, hm539⟩
              intro _
              exact ⟨(hm539.get (k := 7) rfl), (hm539.get (k := 6) rfl)⟩
            rintro _ w540 ⟨g538, rfl, hm539⟩
            refine s_br2 (i := 5) (j := 8) (by kernel_rfl) ?_ ?_
            · skip
              obtain ⟨l497, h541, q542⟩ := ob q493; clear q493
              refine e_ef (i := 5) rfl rfl (ef_make hm539 tS33 tE4 rfl rfl rfl h541) (by decide) ?_ ?_
              · intro v543 w545 hm544
                intro _
                exact ⟨(hm544.get (k := 8) rfl), (hm544.get (k := 7) rfl)⟩
              intro v543 w545 hm544
              refine s_ef0 (i := 8) rfl (by kernel_rfl) (ef_st1 (k := 2) (off := 0) hm544 tO33 rfl rfl rfl (sl_one (hm544.sl 3 rfl)) rfl rfl) (by decide) ?_ ?_
              · intro _ w547 hm546
                intro _
                exact ⟨(hm546.get (k := 8) rfl), (hm546.get (k := 7) rfl)⟩
              intro _ w547 hm546
              refine s_ef0 (i := 9) rfl (by kernel_rfl) (ef_st1 (k := 1) (off := 0) hm546 tO33 rfl rfl rfl (sl_one (hm546.sl 0 rfl)) rfl rfl) (by decide) (fun _ _ _ q => absurd q (by decide)) ?_
              intro _ w549 hm548
              refine s_nil (by kernel_rfl) ?_
              obtain rfl := os q542
              exact ⟨rfl, v494, g523, v543, g538, (by repeat (first | exact Sub.nil _ | refine Sub.cons rfl ?_)), (hm548.pick [3, 2, 0, 1, 4, 5, 6, 7, 8] (by decide) rfl)⟩
            · skip
              refine e_ef0 (i := 8) rfl (ef_st1 (k := 1) (off := 0) hm539 tO33 rfl rfl rfl (sl_one (hm539.sl 2 rfl)) rfl rfl) (by decide) ?_ ?_
              · intro _ w551 hm550
                intro _
                exact ⟨(hm550.get (k := 7) rfl), (hm550.get (k := 6) rfl)⟩
              intro _ w551 hm550
              obtain ⟨l497, h552, q553⟩ := ob q493; clear q493
              refine s_ef (i := 5) rfl (by kernel_rfl) rfl (ef_make hm550 tS33 tE4 rfl rfl rfl h552) (by decide) ?_ ?_
              · intro v554 w556 hm555
                intro _
                exact ⟨(hm555.get (k := 8) rfl), (hm555.get (k := 7) rfl)⟩
              intro v554 w556 hm555
              refine s_ef0 (i := 9) rfl (by kernel_rfl) (ef_st1 (k := 1) (off := 0) hm555 tO33 rfl rfl rfl (sl_one (hm555.sl 0 rfl)) rfl rfl) (by decide) (fun _ _ _ q => absurd q (by decide)) ?_
              intro _ w558 hm557
              refine s_nil (by kernel_rfl) ?_
              obtain rfl := os q553
              exact ⟨rfl, v494, g523, v554, g538, (by repeat (first | exact Sub.nil _ | refine Sub.cons rfl ?_)), (hm557.pick [3, 2, 0, 1, 4, 5, 6, 7, 8] (by decide) rfl)⟩
        · skip
          refine e_ef (i := 7) rfl rfl (ef_alloc hm495 tZ33 rfl) (by decide) ?_ ?_
          · rintro _ w561 ⟨g559, rfl, hm560⟩
            intro _
            exact ⟨(hm560.get (k := 6) rfl), (hm560.get (k := 5) rfl)⟩
          rintro _ w561 ⟨g559, rfl, hm560⟩
          refine s_br2 (i := 5) (j := 6) (by kernel_rfl) ?_ ?_
          · skip
            obtain ⟨l497, h562, q563⟩ := ob q493; clear q493
            refine e_ef (i := 5) rfl rfl (ef_make hm560 tS33 tE4 rfl rfl rfl h562) (by decide) ?_ ?_
            · intro v564 w566 hm565
              intro _
              exact ⟨(hm565.get (k := 7) rfl), (hm565.get (k := 6) rfl)⟩
            intro v564 w566 hm565
            refine s_ef (i := 6) rfl (by kernel_rfl) rfl (ef_alloc hm565 tZ33 rfl) (by decide) ?_ ?_
            · rintro _ w569 ⟨g567, rfl, hm568⟩
              intro _
              exact ⟨(hm568.get (k := 8) rfl), (hm568.get (k := 7) rfl)⟩
            rintro _ w569 ⟨g567, rfl, hm568⟩
            refine s_ef0 (i := 8) rfl (by kernel_rfl) (ef_st1 (k := 0) (off := 0) hm568 tO33 rfl rfl rfl (sl_one (hm568.sl 3 rfl)) rfl rfl) (by decide) ?_ ?_
            · intro _ w571 hm570
              intro _
              exact ⟨(hm570.get (k := 8) rfl), (hm570.get (k := 7) rfl)⟩
            intro _ w571 hm570
            refine s_ef0 (i := 9) rfl (by kernel_rfl) (ef_st1 (k := 2) (off := 0) hm570 tO33 rfl rfl rfl (sl_one (hm570.sl 1 rfl)) rfl rfl) (by decide) (fun _ _ _ q => absurd q (by decide)) ?_
            intro _ w573 hm572
            refine s_nil (by kernel_rfl) ?_
            obtain rfl := os q563
            exact ⟨rfl, v494, g567, v564, g559, (by repeat (first | exact Sub.nil _ | refine Sub.cons rfl ?_)), (hm572.pick [3, 0, 1, 2, 4, 5, 6, 7, 8] (by decide) rfl)⟩
          · skip
            refine e_ef (i := 6) rfl rfl (ef_alloc hm560 tZ33 rfl) (by decide) ?_ ?_
            · rintro _ w576 ⟨g574, rfl, hm575⟩
              intro _
              exact ⟨(hm575.get (k := 7) rfl), (hm575.get (k := 6) rfl)⟩
            rintro _ w576 ⟨g574, rfl, hm575⟩
            refine s_br2 (i := 5) (j := 8) (by kernel_rfl) ?_ ?_
            · skip
              obtain ⟨l497, h577, q578⟩ := ob q493; clear q493
              refine e_ef (i := 5) rfl rfl (ef_make hm575 tS33 tE4 rfl rfl rfl h577) (by decide) ?_ ?_
              · intro v579 w581 hm580
                intro _
                exact ⟨(hm580.get (k := 8) rfl), (hm580.get (k := 7) rfl)⟩
              intro v579 w581 hm580
              refine s_ef0 (i := 8) rfl (by kernel_rfl) (ef_st1 (k := 1) (off := 0) hm580 tO33 rfl rfl rfl (sl_one (hm580.sl 3 rfl)) rfl rfl) (by decide) ?_ ?_
              · intro _ w583 hm582
                intro _
                exact ⟨(hm582.get (k := 8) rfl), (hm582.get (k := 7) rfl)⟩
              intro _ w583 hm582
              refine s_ef0 (i := 9) rfl (by kernel_rfl) (ef_st1 (k := 2) (off := 0) hm582 tO33 rfl rfl rfl (sl_one (hm582.sl 0 rfl)) rfl rfl) (by decide) (fun _ _ _ q => absurd q (by decide)) ?_
              intro _ w585 hm584
              refine s_nil (by kernel_rfl) ?_
              obtain rfl := os q578
              exact ⟨rfl, v494, g574, v579, g559, (by repeat (first | exact Sub.nil _ | refine Sub.cons rfl ?_)), (hm584.pick [3, 1, 0, 2, 4, 5, 6, 7, 8] (by decide) rfl)⟩
            · skip
              refine e_ef0 (i := 8) rfl (ef_st1 (k := 0) (off := 0) hm575 tO33 rfl rfl rfl (sl_one (hm575.sl 2 rfl)) rfl rfl) (by decide) ?_ ?_
              · intro _ w587 hm586
                intro _
                exact ⟨(hm586.get (k := 7) rfl), (hm586.get (k := 6) rfl)⟩
              intro _ w587 hm586
              obtain ⟨l497, h588, q589⟩ := ob q493; clear q493
              refine s_ef (i := 5) rfl (by kernel_rfl) rfl (ef_make hm586 tS33 tE4 rfl rfl rfl h588) (by decide) ?_ ?_
              · intro v590 w592 hm591
                intro _
                exact ⟨(hm591.get (k := 8) rfl), (hm591.get (k := 7) rfl)⟩
              intro v590 w592 hm591
              refine s_ef0 (i := 9) rfl (by kernel_rfl) (ef_st1 (k := 2) (off := 0) hm591 tO33 rfl rfl rfl (sl_one (hm591.sl 0 rfl)) rfl rfl) (by decide) (fun _ _ _ q => absurd q (by decide)) ?_
              intro _ w594 hm593
              refine s_nil (by kernel_rfl) ?_
              obtain rfl := os q589
              exact ⟨rfl, v494, g574, v590, g559, (by repeat (first | exact Sub.nil _ | refine Sub.cons rfl ?_)), (hm593.pick [3, 1, 0, 2, 4, 5, 6, 7, 8] (by decide) rfl)⟩
      · skip
        obtain ⟨l491, h595, q596⟩ := ob hit463; clear hit463
        obtain ⟨l497, h597, q598⟩ := ob q596; clear q596
        refine e_ef (i := 5) rfl rfl (ef_make hm467 tS33 tE4 rfl rfl rfl h597) (by decide) ?_ ?_
        · intro v599 w601 hm600
          intro _
          exact ⟨(hm600.get (k := 5) rfl), (hm600.get (k := 4) rfl)⟩
        intro v599 w601 hm600
        refine s_br3 (i := 2) (j := 6) (m := 7) (by kernel_rfl) ?_ ?_ ?_
        · skip
          refine e_ef (i := 2) rfl rfl (ef_make hm600 tS33 tE4 rfl rfl rfl h595) (by decide) ?_ ?_
          · intro v602 w604 hm603
            intro _
            exact ⟨(hm603.get (k := 6) rfl), (hm603.get (k := 5) rfl)⟩
          intro v602 w604 hm603
          refine s_br2 (i := 6) (j := 7) (by kernel_rfl) ?_ ?_
          · skip
            refine e_ef (i := 6) rfl rfl (ef_alloc hm603 tZ33 rfl) (by decide) ?_ ?_
            · rintro _ w607 ⟨g605, rfl, hm606⟩
              intro _
              exact ⟨(hm606.get (k := 7) rfl), (hm606.get (k := 6) rfl)⟩
            rintro _ w607 ⟨g605, rfl, hm606⟩
            refine s_ef (i := 7) rfl (by kernel_rfl) rfl (ef_alloc hm606 tZ33 rfl) (by decide) ?_ ?_
            · rintro _ w610 ⟨g608, rfl, hm609⟩
              intro _
              exact ⟨(hm609.get (k := 8) rfl), (hm609.get (k := 7) rfl)⟩
            rintro _ w610 ⟨g608, rfl, hm609⟩
            refine s_ef0 (i := 8) rfl (by kernel_rfl) (ef_st1 (k := 1) (off := 0) hm609 tO33 rfl rfl rfl (sl_one (hm609.sl 2 rfl)) rfl rfl) (by decide) ?_ ?_
            · intro _ w612 hm611
              intro _
              exact ⟨(hm611.get (k := 8) rfl), (hm611.get (k := 7) rfl)⟩
            intro _ w612 hm611
            refine s_ef0 (i := 9) rfl (by kernel_rfl) (ef_st1 (k := 0) (off := 0) hm611 tO33 rfl rfl rfl (sl_one (hm611.sl 3 rfl)) rfl rfl) (by decide) (fun _ _ _ q => absurd q (by decide)) ?_
            intro _ w614 hm613
            refine s_nil (by kernel_rfl) ?_
            obtain rfl := os q598
            exact ⟨rfl, v602, g605, v599, g608, (by repeat (first | exact Sub.nil _ | refine Sub.cons rfl ?_)), (hm613.pick [2, 1, 3, 0, 4, 5, 6, 7, 8] (by decide) rfl)⟩
          · skip
            refine e_ef (i := 7) rfl rfl (ef_alloc hm603 tZ33 rfl) (by decide) ?_ ?_
            · rintro _ w617 ⟨g615, rfl, hm616⟩
              intro _
              exact ⟨(hm616.get (k := 7) rfl), (hm616.get (k := 6) rfl)⟩
            rintro _ w617 ⟨g615, rfl, hm616⟩
            refine s_ef (i := 6) rfl (by kernel_rfl) rfl (ef_alloc hm616 tZ33 rfl) (by decide) ?_ ?_
            · rintro _ w620 ⟨g618, rfl, hm619⟩
              intro _
              exact ⟨(hm619.get (k := 8) rfl), (hm619.get (k := 7) rfl)⟩
            rintro _ w620 ⟨g618, rfl, hm619⟩
            refine s_ef0 (i := 8) rfl (by kernel_rfl) (ef_st1 (k := 0) (off := 0) hm619 tO33 rfl rfl rfl (sl_one (hm619.sl 2 rfl)) rfl rfl) (by decide) ?_ ?_
            · intro _ w622 hm621
              intro _
              exact ⟨(hm621.get (k := 8) rfl), (hm621.get (k := 7) rfl)⟩
            intro _ w622 hm621
            refine s_ef0 (i := 9) rfl (by kernel_rfl) (ef_st1 (k := 1) (off := 0) hm621 tO33 rfl rfl rfl (sl_one (hm621.sl 3 rfl)) rfl rfl) (by decide) (fun _ _ _ q => absurd q (by decide)) ?_
            intro _ w624 hm623
            refine s_nil (by kernel_rfl) ?_
            obtain rfl := os q598
            exact ⟨rfl, v602, g618, v599, g615, (by repeat (first | exact Sub.nil _ | refine Sub.cons rfl ?_)), (hm623.pick [2, 0, 3, 1, 4, 5, 6, 7, 8] (by decide) rfl)⟩
        · skip
          refine e_ef (i := 6) rfl rfl (ef_alloc hm600 tZ33 rfl) (by decide) ?_ ?_
          · rintro _ w627 ⟨g625, rfl, hm626⟩
            intro _
            exact ⟨(hm626.get (k := 6) rfl), (hm626.get (k := 5) rfl)⟩
          rintro _ w627 ⟨g625, rfl, hm626⟩
          refine s_br2 (i := 2) (j := 7) (by kernel_rfl) ?_ ?_
          · skip
            refine e_ef (i := 2) rfl rfl (ef_make hm626 tS33 tE4 rfl rfl rfl h595) (by decide) ?_ ?_
            · intro v628 w630 hm629
              intro _
              exact ⟨(hm629.get (k := 7) rfl), (hm629.get (k := 6) rfl)⟩
            intro v628 w630 hm629
            refine s_ef (i := 7) rfl (by kernel_rfl) rfl (ef_alloc hm629 tZ33 rfl) (by decide) ?_ ?_
            · rintro _ w633 ⟨g631, rfl, hm632⟩
              intro _
              exact ⟨(hm632.get (k := 8) rfl), (hm632.get (k := 7) rfl)⟩
            rintro _ w633 ⟨g631, rfl, hm632⟩
            refine s_ef0 (i := 8) rfl (by kernel_rfl) (ef_st1 (k := 2) (off := 0) hm632 tO33 rfl rfl rfl (sl_one (hm632.sl 1 rfl)) rfl rfl) (by decide) ?_ ?_
            · intro _ w635 hm634
              intro _
              exact ⟨(hm634.get (k := 8) rfl), (hm634.get (k := 7) rfl)⟩
            intro _ w635 hm634
            refine s_ef0 (i := 9) rfl (by kernel_rfl) (ef_st1 (k := 0) (off := 0) hm634 tO33 rfl rfl rfl (sl_one (hm634.sl 3 rfl)) rfl rfl) (by decide) (fun _ _ _ q => absurd q (by decide)) ?_
            intro _ w637 hm636
            refine s_nil (by kernel_rfl) ?_
            obtain rfl := os q598
            exact ⟨rfl, v628, g625, v599, g631, (by repeat (first | exact Sub.nil _ | refine Sub.cons rfl ?_)), (hm636.pick [1, 2, 3, 0, 4, 5, 6, 7, 8] (by decide) rfl)⟩
          · skip
            refine e_ef (i := 7) rfl rfl (ef_alloc hm626 tZ33 rfl) (by decide) ?_ ?_
            · rintro _ w640 ⟨g638, rfl, hm639⟩
              intro _
              exact ⟨(hm639.get (k := 7) rfl), (hm639.get (k := 6) rfl)⟩
            rintro _ w640 ⟨g638, rfl, hm639⟩
            refine s_ef (i := 2) rfl (by kernel_rfl) rfl (ef_make hm639 tS33 tE4 rfl rfl rfl h595) (by decide) ?_ ?_
            · intro v641 w643 hm642
              intro _
              exact ⟨(hm642.get (k := 8) rfl), (hm642.get (k := 7) rfl)⟩
            intro v641 w643 hm642
            refine s_ef0 (i := 8) rfl (by kernel_rfl) (ef_st1 (k := 2) (off := 0) hm642 tO33 rfl rfl rfl (sl_one (hm642.sl 0 rfl)) rfl rfl) (by decide) ?_ ?_
            · intro _ w645 hm644
              intro _
              exact ⟨(hm644.get (k := 8) rfl), (hm644.get (k := 7) rfl)⟩
            intro _ w645 hm644
            refine s_ef0 (i := 9) rfl (by kernel_rfl) (ef_st1 (k := 1) (off := 0) hm644 tO33 rfl rfl rfl (sl_one (hm644.sl 3 rfl)) rfl rfl) (by decide) (fun _ _ _ q => absurd q (by decide)) ?_
            intro _ w647 hm646
            refine s_nil (by kernel_rfl) ?_
            obtain rfl := os q598
            exact ⟨rfl, v641, g625, v599, g638, (by repeat (first | exact Sub.nil _ | refine Sub.cons rfl ?_)), (hm646.pick [0, 2, 3, 1, 4, 5, 6, 7, 8] (by decide) rfl)⟩
        · skip
          refine e_ef (i := 7) rfl rfl (ef_alloc hm600 tZ33 rfl) (by decide) ?_ ?_
          · rintro _ w650 ⟨g648, rfl, hm649⟩
            intro _
            exact ⟨(hm649.get (k := 6) rfl), (hm649.get (k := 5) rfl)⟩
          rintro _ w650 ⟨g648, rfl, hm649⟩
          refine s_br2 (i := 2) (j := 6) (by kernel_rfl) ?_ ?_
          · skip
            refine e_ef (i := 2) rfl rfl (ef_make hm649 tS33 tE4 rfl rfl rfl h595) (by decide) ?_ ?_
            · intro v651 w653 hm652
              intro _
              exact ⟨(hm652.get (k := 7) rfl), (hm652.get (k := 6) rfl)⟩
            intro v651 w653 hm652
            refine s_ef (i := 6) rfl (by kernel_rfl) rfl (ef_alloc hm652 tZ33 rfl) (by decide) ?_ ?_
            · rintro _ w656 ⟨g654, rfl, hm655⟩
              intro _
              exact ⟨(hm655.get (k := 8) rfl), (hm655.get (k := 7) rfl)⟩
            rintro _ w656 ⟨g654, rfl, hm655⟩
            refine s_ef0 (i := 8) rfl (by kernel_rfl) (ef_st1 (k := 0) (off := 0) hm655 tO33 rfl rfl rfl (sl_one (hm655.sl 1 rfl)) rfl rfl) (by decide) ?_ ?_
            · intro _ w658 hm657
              intro _
              exact ⟨(hm657.get (k := 8) rfl), (hm657.get (k := 7) rfl)⟩
            intro _ w658 hm657
            refine s_ef0 (i := 9) rfl (by kernel_rfl) (ef_st1 (k := 2) (off := 0) hm657 tO33 rfl rfl rfl (sl_one (hm657.sl 3 rfl)) rfl rfl) (by decide) (fun _ _ _ q => absurd q (by decide)) ?_
            intro _ w660 hm659
            refine s_nil (by kernel_rfl) ?_
            obtain rfl := os q598
            exact ⟨rfl, v651, g654, v599, g648, (by repeat (first | exact Sub.nil _ | refine Sub.cons rfl ?_)), (hm659.pick [1, 0, 3, 2, 4, 5, 6, 7, 8] (by decide) rfl)⟩
          · skip
            refine e_ef (i := 6) rfl rfl (ef_alloc hm649 tZ33 rfl) (by decide) ?_ ?_
            · rintro _ w663 ⟨g661, rfl, hm662⟩
              intro _
              exact ⟨(hm662.get (k := 7) rfl), (hm662.get (k := 6) rfl)⟩
            rintro _ w663 ⟨g661, rfl, hm662⟩
            refine s_ef (i := 2) rfl (by kernel_rfl) rfl (ef_make hm662 tS33 tE4 rfl rfl rfl h595) (by decide) ?_ ?_
            · intro v664 w666 hm665
              intro _
              exact ⟨(hm665.get (k := 8) rfl), (hm665.get (k := 7) rfl)⟩
            intro v664 w666 hm665
            refine s_ef0 (i := 8) rfl (by kernel_rfl) (ef_st1 (k := 1) (off := 0) hm665 tO33 rfl rfl rfl (sl_one (hm665.sl 0 rfl)) rfl rfl) (by decide) ?_ ?_
            · intro _ w668 hm667
              intro _
              exact ⟨(hm667.get (k := 8) rfl), (hm667.get (k := 7) rfl)⟩
            intro _ w668 hm667
            refine s_ef0 (i := 9) rfl (by kernel_rfl) (ef_st1 (k := 2) (off := 0) hm667 tO33 rfl rfl rfl (sl_one (hm667.sl 3 rfl)) rfl rfl) (by decide) (fun _ _ _ q => absurd q (by decide)) ?_
            intro _ w670 hm669
            refine s_nil (by kernel_rfl) ?_
            obtain rfl := os q598
            exact ⟨rfl, v664, g661, v599, g648, (by repeat (first | exact Sub.nil _ | refine Sub.cons rfl ?_)), (hm669.pick [0, 1, 3, 2, 4, 5, 6, 7, 8] (by decide) rfl)⟩
      · skip
        refine e_ef (i := 6) rfl rfl (ef_alloc hm467 tZ33 rfl) (by decide) ?_ ?_
        · rintro _ w673 ⟨g671, rfl, hm672⟩
          intro _
          exact ⟨(hm672.get (k := 5) rfl), (hm672.get (k := 4) rfl)⟩
        rintro _ w673 ⟨g671, rfl, hm672⟩
        refine s_br3 (i := 2) (j := 5) (m := 7) (by kernel_rfl) ?_ ?_ ?_
        · skip
          obtain ⟨l491, h674, q675⟩ := ob hit463; clear hit463
          refine e_ef (i := 2) rfl rfl (ef_make hm672 tS33 tE4 rfl rfl rfl h674) (by decide) ?_ ?_
          · intro v676 w678 hm677
            intro _
            exact ⟨(hm677.get (k := 6) rfl), (hm677.get (k := 5) rfl)⟩
          intro v676 w678 hm677
          refine s_br2 (i := 5) (j := 7) (by kernel_rfl) ?_ ?_
          · skip
            obtain ⟨l497, h679, q680⟩ := ob q675; clear q675
            refine e_ef (i := 5) rfl rfl (ef_make hm677 tS33 tE4 rfl rfl rfl h679) (by decide) ?_ ?_
            · intro v681 w683 hm682
              intro _
              exact ⟨(hm682.get (k := 7) rfl), (hm682.get (k := 6) rfl)⟩
            intro v681 w683 hm682
            refine s_ef (i := 7) rfl (by kernel_rfl) rfl (ef_alloc hm682 tZ33 rfl) (by decide) ?_ ?_
            · rintro _ w686 ⟨g684, rfl, hm685⟩
              intro _
              exact ⟨(hm685.get (k := 8) rfl), (hm685.get (k := 7) rfl)⟩
            rintro _ w686 ⟨g684, rfl, hm685⟩
            refine s_ef0 (i := 8) rfl (by kernel_rfl) (ef_st1 (k := 3) (off := 0) hm685 tO33 rfl rfl rfl (sl_one (hm685.sl 2 rfl)) rfl rfl) (by decide) ?_ ?_
            · intro _ w688 hm687
              intro _
              exact ⟨(hm687.get (k := 8) rfl), (hm687.get (k := 7) rfl)⟩
            intro _ w688 hm687
            refine s_ef0 (i := 9) rfl (by kernel_rfl) (ef_st1 (k := 0) (off := 0) hm687 tO33 rfl rfl rfl (sl_one (hm687.sl 1 rfl)) rfl rfl) (by decide) (fun _ _ _ q => absurd q (by decide)) ?_
            intro _ w690 hm689
            refine s_nil (by kernel_rfl) ?_
            obtain rfl := os q680
            exact ⟨rfl, v676, g671, v681, g684, (by repeat (first | exact Sub.nil _ | refine Sub.cons rfl ?_)), (hm689.pick [2, 3, 1, 0, 4, 5, 6, 7, 8] (by decide) rfl)⟩
          · skip
            refine e_ef (i := 7) rfl rfl (ef_alloc hm677 tZ33 rfl) (by decide) ?_ ?_
            · rintro _ w693 ⟨g691, rfl, hm692⟩
              intro _
              exact ⟨(hm692.get (k := 7) rfl), (hm692.get (k := 6) rfl)⟩
            rintro _ w693 ⟨g691, rfl, hm692⟩
            refine s_br2 (i := 5) (j := 8) (by kernel_rfl) ?_ ?_
            · skip
              obtain ⟨l497, h694, q695⟩ := ob q675; clear q675
              refine e_ef (i := 5) rfl rfl (ef_make hm692 tS33 tE4 rfl rfl rfl h694) (by decide) ?_ ?_
              · intro v696 w698 hm697
                intro _
                exact ⟨(hm697.get (k := 8) rfl), (hm697.get (k := 7) rfl)⟩
              intro v696 w698 hm697
              refine s_ef0 (i := 8) rfl (by kernel_rfl) (ef_st1 (k := 3) (off := 0) hm697 tO33 rfl rfl rfl (sl_one (hm697.sl 2 rfl)) rfl rfl) (by decide) ?_ ?_
              · intro _ w700 hm699
                intro _
                exact ⟨(hm699.get (k := 8) rfl), (hm699.get (k := 7) rfl)⟩
              intro _ w700 hm699
              refine s_ef0 (i := 9) rfl (by kernel_rfl) (ef_st1 (k := 1) (off := 0) hm699 tO33 rfl rfl rfl (sl_one (hm699.sl 0 rfl)) rfl rfl) (by decide) (fun _ _ _ q => absurd q (by decide)) ?_
              intro _ w702 hm701
              refine s_nil (by kernel_rfl) ?_
              obtain rfl := os q695
              exact ⟨rfl, v676, g671, v696, g691, (by repeat (first | exact Sub.nil _ | refine Sub.cons rfl ?_)), (hm701.pick [2, 3, 0, 1, 4, 5, 6, 7, 8] (by decide) rfl)⟩
            · skip
              refine e_ef0 (i := 8) rfl (ef_st1 (k := 2) (off := 0) hm692 tO33 rfl rfl rfl (sl_one (hm692.sl 1 rfl)) rfl rfl) (by decide) ?_ ?_
              · intro _ w704 hm703
                intro _
                exact ⟨(hm703.get (k := 7) rfl), (hm703.get (k := 6) rfl)⟩
              intro _ w704 hm703
              obtain ⟨l497, h705, q706⟩ := ob q675; clear q675
              refine s_ef (i := 5) rfl (by kernel_rfl) rfl (ef_make hm703 tS33 tE4 rfl rfl rfl h705) (by decide) ?_ ?_
              · intro v707 w709 hm708
                intro _
                exact ⟨(hm708.get (k := 8) rfl), (hm708.get (k := 7) rfl)⟩
              intro v707 w709 hm708
              refine s_ef0 (i := 9) rfl (by kernel_rfl) (ef_st1 (k := 1) (off := 0) hm708 tO33 rfl rfl rfl (sl_one (hm708.sl 0 rfl)) rfl rfl) (by decide) (fun _ _ _ q => absurd q (by decide)) ?_
              intro _ w711 hm710
              refine s_nil (by kernel_rfl) ?_
              obtain rfl := os q706
              exact ⟨rfl, v676, g671, v707, g691, (by repeat (first | exact Sub.nil _ | refine Sub.cons rfl ?_)), (hm710.pick [2, 3, 0, 1, 4, 5, 6, 7, 8] (by decide) rfl)⟩
        · skip
          obtain ⟨l491, h712, q713⟩ := ob hit463; clear hit463
          obtain ⟨l497, h714, q715⟩ := ob q713; clear q713
          refine e_ef (i := 5) rfl rfl (ef_make hm672 tS33 tE4 rfl rfl rfl h714) (by decide) ?_ ?_
          · intro v716 w718 hm717
            intro _
            exact ⟨(hm717.get (k := 6) rfl), (hm717.get (k := 5) rfl)⟩
          intro v716 w718 hm717
          refine s_br2 (i := 2) (j := 7) (by kernel_rfl) ?_ ?_
          · skip
            refine e_ef (i := 2) rfl rfl (ef_make hm717 tS33 tE4 rfl rfl rfl h712) (by decide) ?_ ?_
            · intro v719 w721 hm720
              intro _
              exact ⟨(hm720.get (k := 7) rfl), (hm720.get (k := 6) rfl)⟩
            intro v719 w721 hm720
            refine s_ef (i := 7) rfl (by kernel_rfl) rfl (ef_alloc hm720 tZ33 rfl) (by decide) ?_ ?_
            · rintro _ w724 ⟨g722, rfl, hm723⟩
              intro _
              exact ⟨(hm723.get (k := 8) rfl), (hm723.get (k := 7) rfl)⟩
            rintro _ w724 ⟨g722, rfl, hm723⟩
            refine s_ef0 (i := 8) rfl (by kernel_rfl) (ef_st1 (k := 3) (off := 0) hm723 tO33 rfl rfl rfl (sl_one (hm723.sl 1 rfl)) rfl rfl) (by decide) ?_ ?_
            · intro _ w726 hm725
              intro _
              exact ⟨(hm725.get (k := 8) rfl), (hm725.get (k := 7) rfl)⟩
            intro _ w726 hm725
            refine s_ef0 (i := 9) rfl (by kernel_rfl) (ef_st1 (k := 0) (off := 0) hm725 tO33 rfl rfl rfl (sl_one (hm725.sl 2 rfl)) rfl rfl) (by decide) (fun _ _ _ q => absurd q (by decide)) ?_
            intro _ w728 hm727
            refine s_nil (by kernel_rfl) ?_
            obtain rfl := os q715
            exact ⟨rfl, v719, g671, v716, g722, (by repeat (first | exact Sub.nil _ | refine Sub.cons rfl ?_)), (hm727.pick [1, 3, 2, 0, 4, 5, 6, 7, 8] (by decide) rfl)⟩
          · skip
            refine e_ef (i := 7) rfl rfl (ef_alloc hm717 tZ33 rfl) (by decide) ?_ ?_
            · rintro _ w731 ⟨g729, rfl, hm730⟩
              intro _
              exact ⟨(hm730.get (k := 7) rfl), (hm730.get (k := 6) rfl)⟩
            rintro _ w731 ⟨g729, rfl, hm730⟩
            refine s_ef (i := 2) rfl (by kernel_rfl) rfl (ef_make hm730 tS33 tE4 rfl rfl rfl h712) (by decide) ?_ ?_
            · intro v732 w734 hm733
              intro _
              exact ⟨(hm733.get (k := 8) rfl), (hm733.get (k := 7) rfl)⟩
            intro v732 w734 hm733
            refine s_ef0 (i := 8) rfl (by kernel_rfl) (ef_st1 (k := 3) (off := 0) hm733 tO33 rfl rfl rfl (sl_one (hm733.sl 0 rfl)) rfl rfl) (by decide) ?_ ?_
            · intro _ w736 hm735
              intro _
              exact ⟨(hm735.get (k := 8) rfl), (hm735.get (k := 7) rfl)⟩
            intro _ w736 hm735
            refine s_ef0 (i := 9) rfl (by kernel_rfl) (ef_st1 (k := 1) (off := 0) hm735 tO33 rfl rfl rfl (sl_one (hm735.sl 2 rfl)) rfl rfl) (by decide) (fun _ _ _ q => absurd q (by decide)) ?_
            intro _ w738 hm737
            refine s_nil (by kernel_rfl) ?_
            obtain rfl := os q715
            exact ⟨rfl, v732, g671, v716, g729, (by repeat (first | exact Sub.nil _ | refine Sub.cons rfl ?_)), (hm737.pick [0, 3, 2, 1, 4, 5, 6, 7, 8] (by decide) rfl)⟩
        · skip
          refine e_ef (i := 7) rfl rfl (ef_alloc hm672 tZ33 rfl) (by decide) ?_ ?_
          · rintro _ w741 ⟨g739, rfl, hm740⟩
            intro _
            exact ⟨(hm740.get (k := 6) rfl), (hm740.get (k := 5) rfl)⟩
          rintro _ w741 ⟨g739, rfl, hm740⟩
          refine s_br2 (i := 2) (j := 5) (by kernel_rfl) ?_ ?_
          · skip
            obtain ⟨l491, h742, q743⟩ := ob hit463; clear hit463
            refine e_ef (i := 2) rfl rfl (ef_make hm740 tS33 tE4 rfl rfl rfl h742) (by decide) ?_ ?_
            · intro v744 w746 hm745
              intro _
              exact ⟨(hm745.get (k := 7) rfl), (hm745.get (k := 6) rfl)⟩
            intro v744 w746 hm745
            refine s_br2 (i := 5) (j := 8) (by kernel_rfl) ?_ ?_
            · skip
              obtain ⟨l497, h747, q748⟩ := ob q743; clear q743
              refine e_ef (i := 5) rfl rfl (ef_make hm745 tS33 tE4 rfl rfl rfl h747) (by decide) ?_ ?_
              · intro v749 w751 hm750
                intro _
                exact ⟨(hm750.get (k := 8) rfl), (hm750.get (k := 7) rfl)⟩
              intro v749 w751 hm750
              refine s_ef0 (i := 8) rfl (by kernel_rfl) (ef_st1 (k := 3) (off := 0) hm750 tO33 rfl rfl rfl (sl_one (hm750.sl 1 rfl)) rfl rfl) (by decide) ?_ ?_
              · intro _ w753 hm752
                intro _
                exact ⟨(hm752.get (k := 8) rfl), (hm752.get (k := 7) rfl)⟩
              intro _ w753 hm752
              refine s_ef0 (i := 9) rfl (by kernel_rfl) (ef_st1 (k := 2) (off := 0) hm752 tO33 rfl rfl rfl (sl_one (hm752.sl 0 rfl)) rfl rfl) (by decide) (fun _ _ _ q => absurd q (by decide)) ?_
              intro _ w755 hm754
              refine s_nil (by kernel_rfl) ?_
              obtain rfl := os q748
              exact ⟨rfl, v744, g671, v749, g739, (by repeat (first | exact Sub.nil _ | refine Sub.cons rfl ?_)), (hm754.pick [1, 3, 0, 2, 4, 5, 6, 7, 8] (by decide) rfl)⟩
            · skip
              refine e_ef0 (i := 8) rfl (ef_st1 (k := 2) (off := 0) hm745 tO33 rfl rfl rfl (sl_one (hm745.sl 0 rfl)) rfl rfl) (by decide) ?_ ?_
              · intro _ w757 hm756
                intro _
                exact ⟨(hm756.get (k := 7) rfl), (hm756.get (k := 6) rfl)⟩
              intro _ w757 hm756
              obtain ⟨l497, h758, q759⟩ := ob q743; clear q743
              refine s_ef (i := 5) rfl (by kernel_rfl) rfl (ef_make hm756 tS33 tE4 rfl rfl rfl h758) (by decide) ?_ ?_
              · intro v760 w762 hm761
                intro _
                exact ⟨(hm761.get (k := 8) rfl), (hm761.get (k := 7) rfl)⟩
              intro v760 w762 hm761
              refine s_ef0 (i := 9) rfl (by kernel_rfl) (ef_st1 (k := 2) (off := 0) hm761 tO33 rfl rfl rfl (sl_one (hm761.sl 0 rfl)) rfl rfl) (by decide) (fun _ _ _ q => absurd q (by decide)) ?_
              intro _ w764 hm763
              refine s_nil (by kernel_rfl) ?_
              obtain rfl := os q759
              exact ⟨rfl, v744, g671, v760, g739, (by repeat (first | exact Sub.nil _ | refine Sub.cons rfl ?_)), (hm763.pick [1, 3, 0, 2, 4, 5, 6, 7, 8] (by decide) rfl)⟩
          · skip
            obtain ⟨l491, h765, q766⟩ := ob hit463; clear hit463
            obtain ⟨l497, h767, q768⟩ := ob q766; clear q766
            refine e_ef (i := 5) rfl rfl (ef_make hm740 tS33 tE4 rfl rfl rfl h767) (by decide) ?_ ?_
            · intro v769 w771 hm770
              intro _
              exact ⟨(hm770.get (k := 7) rfl), (hm770.get (k := 6) rfl)⟩
            intro v769 w771 hm770
            refine s_ef (i := 2) rfl (by kernel_rfl) rfl (ef_make hm770 tS33 tE4 rfl rfl rfl h765) (by decide) ?_ ?_
            · intro v772 w774 hm773
              intro _
              exact ⟨(hm773.get (k := 8) rfl), (hm773.get (k := 7) rfl)⟩
            intro v772 w774 hm773
            refine s_ef0 (i := 8) rfl (by kernel_rfl) (ef_st1 (k := 3) (off := 0) hm773 tO33 rfl rfl rfl (sl_one (hm773.sl 0 rfl)) rfl rfl) (by decide) ?_ ?_
            · intro _ w776 hm775
              intro _
              exact ⟨(hm775.get (k := 8) rfl), (hm775.get (k := 7) rfl)⟩
            intro _ w776 hm775
            refine s_ef0 (i := 9) rfl (by kernel_rfl) (ef_st1 (k := 2) (off := 0) hm775 tO33 rfl rfl rfl (sl_one (hm775.sl 1 rfl)) rfl rfl) (by decide) (fun _ _ _ q => absurd q (by decide)) ?_
            intro _ w778 hm777
            refine s_nil (by kernel_rfl) ?_
            obtain rfl := os q768
            exact ⟨rfl, v772, g671, v769, g739, (by repeat (first | exact Sub.nil _ | refine Sub.cons rfl ?_)), (hm777.pick [0, 3, 1, 2, 4, 5, 6, 7, 8] (by decide) rfl)⟩
      · skip
        refine e_ef (i := 7) rfl rfl (ef_alloc hm467 tZ33 rfl) (by decide) ?_ ?_
        · rintro _ w781 ⟨g779, rfl, hm780⟩
          intro _
          exact ⟨(hm780.get (k := 5) rfl), (hm780.get (k := 4) rfl)⟩
        rintro _ w781 ⟨g779, rfl, hm780⟩
        refine s_br3 (i := 2) (j := 5) (m := 6) (by kernel_rfl) ?_ ?_ ?_
        · skip
          obtain ⟨l491, h782, q783⟩ := ob hit463; clear hit463
          refine e_ef (i := 2) rfl rfl (ef_make hm780 tS33 tE4 rfl rfl rfl h782) (by decide) ?_ ?_
          · intro v784 w786 hm785
            intro _
            exact ⟨(hm785.get (k := 6) rfl), (hm785.get (k := 5) rfl)⟩
          intro v784 w786 hm785
          refine s_br2 (i := 5) (j := 6) (by kernel_rfl) ?_ ?_
          · skip
            obtain ⟨l497, h787, q788⟩ := ob q783; clear q783
            refine e_ef (i := 5) rfl rfl (ef_make hm785 tS33 tE4 rfl rfl rfl h787) (by decide) ?_ ?_
            · intro v789 w791 hm790
              intro _
              exact ⟨(hm790.get (k := 7) rfl), (hm790.get (k := 6) rfl)⟩
            intro v789 w791 hm790
            refine s_ef (i := 6) rfl (by kernel_rfl) rfl (ef_alloc hm790 tZ33 rfl) (by decide) ?_ ?_
            · rintro _ w794 ⟨g792, rfl, hm793⟩
              intro _
              exact ⟨(hm793.get (k := 8) rfl), (hm793.get (k := 7) rfl)⟩
            rintro _ w794 ⟨g792, rfl, hm793⟩
            refine s_ef0 (i := 8) rfl (by kernel_rfl) (ef_st1 (k := 0) (off := 0) hm793 tO33 rfl rfl rfl (sl_one (hm793.sl 2 rfl)) rfl rfl) (by decide) ?_ ?_
            · intro _ w796 hm795
              intro _
              exact ⟨(hm795.get (k := 8) rfl), (hm795.get (k := 7) rfl)⟩
            intro _ w796 hm795
            refine s_ef0 (i := 9) rfl (by kernel_rfl) (ef_st1 (k := 3) (off := 0) hm795 tO33 rfl rfl rfl (sl_one (hm795.sl 1 rfl)) rfl rfl) (by decide) (fun _ _ _ q => absurd q (by decide)) ?_
            intro _ w798 hm797
            refine s_nil (by kernel_rfl) ?_
            obtain rfl := os q788
            exact ⟨rfl, v784, g792, v789, g779, (by repeat (first | exact Sub.nil _ | refine Sub.cons rfl ?_)), (hm797.pick [2, 0, 1, 3, 4, 5, 6, 7, 8] (by decide) rfl)⟩
          · skip
            refine e_ef (i := 6) rfl rfl (ef_alloc hm785 tZ33 rfl) (by decide) ?_ ?_
            · rintro _ w801 ⟨g799, rfl, hm800⟩
              intro _
              exact ⟨(hm800.get (k := 7) rfl), (hm800.get (k := 6) rfl)⟩
            rintro _ w801 ⟨g799, rfl, hm800⟩
            refine s_br2 (i := 5) (j := 8) (by kernel_rfl) ?_ ?_
            · skip
              obtain ⟨l497, h802, q803⟩ := ob q783; clear q783
              refine e_ef (i := 5) rfl rfl (ef_make hm800 tS33 tE4 rfl rfl rfl h802) (by decide) ?_ ?_
              · intro v804 w806 hm805
                intro _
                exact ⟨(hm805.get (k := 8) rfl), (hm805.get (k := 7) rfl)⟩
              intro v804 w806 hm805
              refine s_ef0 (i := 8) rfl (by kernel_rfl) (ef_st1 (k := 1) (off := 0) hm805 tO33 rfl rfl rfl (sl_one (hm805.sl 2 rfl)) rfl rfl) (by decide) ?_ ?_
              · intro _ w808 hm807
                intro _
                exact ⟨(hm807.get (k := 8) rfl), (hm807.get (k := 7) rfl)⟩
              intro _ w808 hm807
              refine s_ef0 (i := 9) rfl (by kernel_rfl) (ef_st1 (k := 3) (off := 0) hm807 tO33 rfl rfl rfl (sl_one (hm807.sl 0 rfl)) rfl rfl) (by decide) (fun _ _ _ q => absurd q (by decide)) ?_
              intro _ w810 hm809
              refine s_nil (by kernel_rfl) ?_
              obtain rfl := os q803
              exact ⟨rfl, v784, g799, v804, g779, (by repeat (first | exact Sub.nil _ | refine Sub.cons rfl ?_)), (hm809.pick [2, 1, 0, 3, 4, 5, 6, 7, 8] (by decide) rfl)⟩
            · skip
              refine e_ef0 (i := 8) rfl (ef_st1 (k := 0) (off := 0) hm800 tO33 rfl rfl rfl (sl_one (hm800.sl 1 rfl)) rfl rfl) (by decide) ?_ ?_
              · intro _ w812 hm811
                intro _
                exact ⟨(hm811.get (k := 7) rfl), (hm811.get (k := 6) rfl)⟩
              intro _ w812 hm811
              obtain ⟨l497, h813, q814⟩ := ob q783; clear q783
              refine s_ef (i := 5) rfl (by kernel_rfl) rfl (ef_make hm811 tS33 tE4 rfl rfl rfl h813) (by decide) ?_ ?_
              · intro v815 w817 hm816
                intro _
                exact ⟨(hm816.get (k := 8) rfl), (hm816.get (k := 7) rfl)⟩
              intro v815 w817 hm816
              refine s_ef0 (i := 9) rfl (by kernel_rfl) (ef_st1 (k := 3) (off := 0) hm816 tO33 rfl rfl rfl (sl_one (hm816.sl 0 rfl)) rfl rfl) (by decide) (fun _ _ _ q => absurd q (by decide)) ?_
              intro _ w819 hm818
              refine s_nil (by kernel_rfl) ?_
              obtain rfl := os q814
              exact ⟨rfl, v784, g799, v815, g779, (by repeat (first | exact Sub.nil _ | refine Sub.cons rfl ?_)), (hm818.pick [2, 1, 0, 3, 4, 5, 6, 7, 8] (by decide) rfl)⟩
        · skip
          obtain ⟨l491, h820, q821⟩ := ob hit463; clear hit463
          obtain ⟨l497, h822, q823⟩ := ob q821; clear q821
          refine e_ef (i := 5) rfl rfl (ef_make hm780 tS33 tE4 rfl rfl rfl h822) (by decide) ?_ ?_
          · intro v824 w826 hm825
            intro _
            exact ⟨(hm825.get (k := 6) rfl), (hm825.get (k := 5) rfl)⟩
          intro v824 w826 hm825
          refine s_br2 (i := 2) (j := 6) (by kernel_rfl) ?_ ?_
          · skip
            refine e_ef (i := 2) rfl rfl (ef_make hm825 tS33 tE4 rfl rfl rfl h820) (by decide) ?_ ?_
            · intro v827 w829 hm828
              intro _
              exact ⟨(hm828.get (k := 7) rfl), (hm828.get (k := 6) rfl)⟩
            intro v827 w829 hm828
            refine s_ef (i := 6) rfl (by kernel_rfl) rfl (ef_alloc hm828 tZ33 rfl) (by decide) ?_ ?_
            · rintro _ w832 ⟨g830, rfl, hm831⟩
              intro _
              exact ⟨(hm831.get (k := 8) rfl), (hm831.get (k := 7) rfl)⟩
            rintro _ w832 ⟨g830, rfl, hm831⟩
            refine s_ef0 (i := 8) rfl (by kernel_rfl) (ef_st1 (k := 0) (off := 0) hm831 tO33 rfl rfl rfl (sl_one (hm831.sl 1 rfl)) rfl rfl) (by decide) ?_ ?_
            · intro _ w834 hm833
              intro _
              exact ⟨(hm833.get (k := 8) rfl), (hm833.get (k := 7) rfl)⟩
            intro _ w834 hm833
            refine s_ef0 (i := 9) rfl (by kernel_rfl) (ef_st1 (k := 3) (off := 0) hm833 tO33 rfl rfl rfl (sl_one (hm833.sl 2 rfl)) rfl rfl) (by decide) (fun _ _ _ q => absurd q (by decide)) ?_
            intro _ w836 hm835
            refine s_nil (by kernel_rfl) ?_
            obtain rfl := os q823
            exact ⟨rfl, v827, g830, v824, g779, (by repeat (first | exact Sub.nil _ | refine Sub.cons rfl ?_)), (hm835.pick [1, 0, 2, 3, 4, 5, 6, 7, 8] (by decide) rfl)⟩
          · skip
            refine e_ef (i := 6) rfl rfl (ef_alloc hm825 tZ33 rfl) (by decide) ?_ ?_
            · rintro _ w839 ⟨g837, rfl, hm838⟩
              intro _
              exact ⟨(hm838.get (k := 7) rfl), (hm838.get (k := 6) rfl)⟩
            rintro _ w839 ⟨g837, rfl, hm838⟩
            refine s_ef (i := 2) rfl (by kernel_rfl) rfl (ef_make hm838 tS33 tE4 rfl rfl rfl h820) (by decide) ?_ ?_
            · intro v840 w842 hm841
              intro _
              exact ⟨(hm841.get (k := 8) rfl), (hm841.get (k := 7) rfl)⟩
            intro v840 w842 hm841
            refine s_ef0 (i := 8) rfl (by kernel_rfl) (ef_st1 (k := 1) (off := 0) hm841 tO33 rfl rfl rfl (sl_one (hm841.sl 0 rfl)) rfl rfl) (by decide) ?_ ?_
            · intro _ w844 hm843
              intro _
              exact ⟨(hm843.get (k := 8) rfl), (hm843.get (k := 7) rfl)⟩
            intro _ w844 hm843
            refine s_ef0 (i := 9) rfl (by kernel_rfl) (ef_st1 (k := 3) (off := 0) hm843 tO33 rfl rfl rfl (sl_one (hm843.sl 2 rfl)) rfl rfl) (by decide) (fun _ _ _ q => absurd q (by decide)) ?_
            intro _ w846 hm845
            refine s_nil (by kernel_rfl) ?_
            obtain rfl := os q823
            exact ⟨rfl, v840, g837, v824, g779, (by repeat (first | exact Sub.nil _ | refine Sub.cons rfl ?_)), (hm845.pick [0, 1, 2, 3, 4, 5, 6, 7, 8] (by decide) rfl)⟩
        · skip
          refine e_ef (i := 6) rfl rfl (ef_alloc hm780 tZ33 rfl) (by decide) ?_ ?_
          · rintro _ w849 ⟨g847, rfl, hm848⟩
            intro _
            exact ⟨(hm848.get (k := 6) rfl), (hm848.get (k := 5) rfl)⟩
          rintro _ w849 ⟨g847, rfl, hm848⟩
          refine s_br2 (i := 2) (j := 5) (by kernel_rfl) ?_ ?_
          · skip
            obtain ⟨l491, h850, q851⟩ := ob hit463; clear hit463
            refine e_ef (i := 2) rfl rfl (ef_make hm848 tS33 tE4 rfl rfl rfl h850) (by decide) ?_ ?_
            · intro v852 w854 hm853
              intro _
              exact ⟨(hm853.get (k := 7) rfl), (hm853.get (k := 6) rfl)⟩
            intro v852 w854 hm853
            refine s_br2 (i := 5) (j := 8) (by kernel_rfl) ?_ ?_
            · skip
              obtain ⟨l497, h855, q856⟩ := ob q851; clear q851
              refine e_ef (i := 5) rfl rfl (ef_make hm853 tS33 tE4 rfl rfl rfl h855) (by decide) ?_ ?_
              · intro v857 w859 hm858
                intro _
                exact ⟨(hm858.get (k := 8) rfl), (hm858.get (k := 7) rfl)⟩
              intro v857 w859 hm858
              refine s_ef0 (i := 8) rfl (by kernel_rfl) (ef_st1 (k := 2) (off := 0) hm858 tO33 rfl rfl rfl (sl_one (hm858.sl 1 rfl)) rfl rfl) (by decide) ?_ ?_
              · intro _ w861 hm860
                intro _
                exact ⟨(hm860.get (k := 8) rfl), (hm860.get (k := 7) rfl)⟩
              intro _ w861 hm860
              refine s_ef0 (i := 9) rfl (by kernel_rfl) (ef_st1 (k := 3) (off := 0) hm860 tO33 rfl rfl rfl (sl_one (hm860.sl 0 rfl)) rfl rfl) (by decide) (fun _ _ _ q => absurd q (by decide)) ?_
              intro _ w863 hm862
              refine s_nil (by kernel_rfl) ?_
              obtain rfl := os q856
              exact ⟨rfl, v852, g847, v857, g779, (by repeat (first | exact Sub.nil _ | refine Sub.cons rfl ?_)), (hm862.pick [1, 2, 0, 3, 4, 5, 6, 7, 8] (by decide) rfl)⟩
            · skip
              refine e_ef0 (i := 8) rfl (ef_st1 (k := 1) (off := 0) hm853 tO33 rfl rfl rfl (sl_one (hm853.sl 0 rfl)) rfl rfl) (by decide) ?_ ?_
              · intro _ w865 hm864
                intro _
                exact ⟨(hm864.get (k := 7) rfl), (hm864.get (k := 6) rfl)⟩
              intro _ w865 hm864
              obtain ⟨l497, h866, q867⟩ := ob q851; clear q851
              refine s_ef (i := 5) rfl (by kernel_rfl) rfl (ef_make hm864 tS33 tE4 rfl rfl rfl h866) (by decide) ?_ ?_
              · intro v868 w870 hm869
                intro _
                exact ⟨(hm869.get (k := 8) rfl), (hm869.get (k := 7) rfl)⟩
              intro v868 w870 hm869
              refine s_ef0 (i := 9) rfl (by kernel_rfl) (ef_st1 (k := 3) (off := 0) hm869 tO33 rfl rfl rfl (sl_one (hm869.sl 0 rfl)) rfl rfl) (by decide) (fun _ _ _ q => absurd q (by decide)) ?_
              intro _ w872 hm871
              refine s_nil (by kernel_rfl) ?_
              obtain rfl := os q867
              exact ⟨rfl, v852, g847, v868, g779, (by repeat (first | exact Sub.nil _ | refine Sub.cons rfl ?_)), (hm871.pick [1, 2, 0, 3, 4, 5, 6, 7, 8] (by decide) rfl)⟩
          · skip
            obtain ⟨l491, h873, q874⟩ := ob hit463; clear hit463
            obtain ⟨l497, h875, q876⟩ := ob q874; clear q874
            refine e_ef (i := 5) rfl rfl (ef_make hm848 tS33 tE4 rfl rfl rfl h875) (by decide) ?_ ?_
            · intro v877 w879 hm878
              intro _
              exact ⟨(hm878.get (k := 7) rfl), (hm878.get (k := 6) rfl)⟩
            intro v877 w879 hm878
            refine s_ef (i := 2) rfl (by kernel_rfl) rfl (ef_make hm878 tS33 tE4 rfl rfl rfl h873) (by decide) ?_ ?_
            · intro v880 w882 hm881
              intro _
              exact ⟨(hm881.get (k := 8) rfl), (hm881.get (k := 7) rfl)⟩
            intro v880 w882 hm881
            refine s_ef0 (i := 8) rfl (by kernel_rfl) (ef_st1 (k := 2) (off := 0) hm881 tO33 rfl rfl rfl (sl_one (hm881.sl 0 rfl)) rfl rfl) (by decide) ?_ ?_
            · intro _ w884 hm883
              intro _
              exact ⟨(hm883.get (k := 8) rfl), (hm883.get (k := 7) rfl)⟩
            intro _ w884 hm883
            refine s_ef0 (i := 9) rfl (by kernel_rfl) (ef_st1 (k := 3) (off := 0) hm883 tO33 rfl rfl rfl (sl_one (hm883.sl 1 rfl)) rfl rfl) (by decide) (fun _ _ _ q => absurd q (by decide)) ?_
            intro _ w886 hm885
            refine s_nil (by kernel_rfl) ?_
            obtain rfl := os q876
            exact ⟨rfl, v880, g847, v877, g779, (by repeat (first | exact Sub.nil _ | refine Sub.cons rfl ?_)), (hm885.pick [0, 2, 1, 3, 4, 5, 6, 7, 8] (by decide) rfl)⟩
    · clear hit463
      intro e env887 w888 hX889
      obtain ⟨rfl, v459, g454, v461, g456, hs890, hm891⟩ := hX889
      refine qn_then ?_
      refine cw_sub hs890 ?_
      refine cw_seq ?_
      refine cw_region ?_
      refine t_ef rfl (ef_alloc hm891 tZ62 rfl) ?_
      rintro _ w894 ⟨g892, rfl, hm893⟩
      refine rwt_nil ?_
      refine qn_then ?_
      refine cw_seq ?_
      refine cw_region ?_
      refine t_rd rfl (rd_makeFunc rfl) ?_
      refine t_ef0 (ef_st1 (k := 0) (off := 0) hm893 tO62 rfl rfl rfl rfl rfl rfl) ?_
      intro _ w896 hm895
      refine rwt_nil ?_
      refine qn_then ?_
      refine cw_seq ?_
      refine cw_seq ?_
      refine cw_region ?_
      refine t_rd rfl (rd_move rfl) ?_
      refine t_rd rfl (rd_lenS tS22 rfl (hm895.sl 6 rfl)) ?_
      refine t_rd rfl (rd_move rfl) ?_
      refine rwt_nil ?_
      refine qn_then ?_
      refine cw_block ?_
      obtain ⟨r973, hit974, q975⟩ := ob q464; clear q464
      refine cw_loop2 (I := fun q envq wq => Sub [(2, (Value.pointer (some ⟨g1, 0, none⟩))), (3, (Value.pointer (some ⟨g5, 0, none⟩))), (4, (Value.slice none 0 0)), (5, (Value.slice none 0 0)), (9, (Value.pointer (some ⟨g454, 0, none⟩))), (10, (Value.pointer (some ⟨g456, 0, none⟩))), (11, (Value.pointer (some ⟨g892, 0, none⟩))), (35, v22), (36, (Value.int .i64 (List.length r19.1 : Int))), (37, (Value.int .i64 q.1))] envq ∧ Mem w No [blk g892 62 [(Value.func (.func 26) #[] #[(Value.pointer (some ⟨g454, 0, none⟩)), (Value.pointer (some ⟨g5, 0, none⟩)), (Value.pointer (some ⟨g456, 0, none⟩)), (Value.pointer (some ⟨g1, 0, none⟩)), (Value.pointer (some ⟨g27, 0, none⟩)), (Value.pointer (some ⟨g892, 0, none⟩))])], ownL 4 v459 (q.2.1 : List Bool), blk g454 33 [v459], ownL 4 v461 (q.2.2 : List Bool), blk g456 33 [v461], blk g27 22 [v23], ownL 3 v22 (r19.1 : List Int), ownL 3 v23 (r19.2 : List Int), blk g5 26 [v1], blk g1 25 [v0]] wq) (X := fun eq envq wq => eq = .exit 0 ∧ Sub [(2, (Value.pointer (some ⟨g1, 0, none⟩))), (3, (Value.pointer (some ⟨g5, 0, none⟩))), (4, (Value.slice none 0 0)), (5, (Value.slice none 0 0)), (9, (Value.pointer (some ⟨g454, 0, none⟩))), (10, (Value.pointer (some ⟨g456, 0, none⟩)))] envq ∧ Mem w No [ownL 4 v459 (r973.1 : List Bool), blk g454 33 [v459], ownL 4 v461 (r973.2 : List Bool), blk g456 33 [v461], blk g5 26 [v1], blk g1 25 [v0]] wq) hit974 ⟨(by repeat (first | exact Sub.nil _ | refine Sub.cons rfl ?_)), (hm895.pick [0, 1, 2, 3, 4, 5, 6, 7, 8, 9] (by decide) rfl)⟩ ?_ ?_
      · rintro ⟨i964, l965, l966⟩ x968 env969 w970 hf971 hr972 ⟨hs_, hm_⟩
        have hs_ : Sub [(2, (Value.pointer (some ⟨g1, 0, none⟩))), (3, (Value.pointer (some ⟨g5, 0, none⟩))), (4, (Value.slice none 0 0)), (5, (Value.slice none 0 0)), (9, (Value.pointer (some ⟨g454, 0, none⟩))), (10, (Value.pointer (some ⟨g456, 0, none⟩))), (11, (Value.pointer (some ⟨g892, 0, none⟩))), (35, v22), (36, (Value.int .i64 (List.length r19.1 : Int))), (37, (Value.int .i64 i964))] env969 := hs_
        have hm976 : Mem w No [blk g892 62 [(Value.func (.func 26) #[] #[(Value.pointer (some ⟨g454, 0, none⟩)), (Value.pointer (some ⟨g5, 0, none⟩)), (Value.pointer (some ⟨g456, 0, none⟩)), (Value.pointer (some ⟨g1, 0, none⟩)), (Value.pointer (some ⟨g27, 0, none⟩)), (Value.pointer (some ⟨g892, 0, none⟩))])], ownL 4 v459 (l965 : List Bool), blk g454 33 [v459], ownL 4 v461 (l966 : List Bool), blk g456 33 [v461], blk g27 22 [v23], ownL 3 v22 (r19.1 : List Int), ownL 3 v23 (r19.2 : List Int), blk g5 26 [v1], blk g1 25 [v0]] w970 := hm_
        refine cw_sub hs_ ?_
        clear hs_ hm_ q975
        have h : crew_Cover_l1 N a0 a1 r19 i964 l965 l966 = some x968 := hf971
        clear hf971
        refine cw_seq ?_
        refine cw_region ?_
        refine t_rd rfl (rd_lss rfl rfl) ?_
        refine rwt_nil ?_
        refine qn_then ?_
        refine cw_seq ?_
        obtain ⟨hb977, q978⟩ | ⟨hb977, q978⟩ := oi h <;> clear h
        · refine cw_t rfl hb977 ?_
          refine cw_skip ?_
          refine qn_then ?_
          refine cw_seq ?_
          refine cw_block ?_
          refine cw_seq ?_
          refine cw_region ?_
          refine t_rd rfl (rd_move rfl) ?_
          obtain ⟨x979, h980, q981⟩ := ob q978; clear q978
          refine t_rd rfl (rd_index tS22 rfl rfl (hm976.sl 6 rfl) h980) ?_
          refine t_rd rfl (rd_ld1 tO3 rfl ((hm976.sl 6 rfl).cells h980) (off := 0) rfl) ?_
          refine t_rd rfl (rd_assign rfl) ?_
          refine t_rd rfl (rd_assign rfl) ?_
          refine rwt_nil ?_
          refine qn_then ?_
          refine cw_seq ?_
          refine cw_region ?_
          refine t_rd rfl (rd_move rfl) ?_
          refine t_rd rfl (rd_lss rfl rfl) ?_
          refine t_rd rfl (rd_move rfl) ?_
          refine t_rdg rfl rfl rfl rfl (gv_t _) (fun hg982 => (rd_ld1 tO33 rfl (hm976.blk 2 rfl) (off := 0) rfl)) ?_
          refine t_rdg rfl rfl rfl rfl (gv_t _) (fun hg983 => (rd_move rfl)) ?_
          obtain ⟨x985, h986, q987⟩ := ob q981; clear q981
          refine t_rdg rfl rfl rfl rfl (gv_t _) (fun hg984 => (rd_index tS33 (gvx rfl hg984) (gvx rfl hg984) (hm976.sl 1 rfl) (gO_t h986 hg984))) ?_
          refine t_rdg rfl rfl rfl rfl (gv_t _) (fun hg988 => (rd_ld1 tO4 (gvx rfl hg988) ((hm976.sl 1 rfl).cells (gO_t h986 hg988)) (off := 0) rfl)) ?_
          refine t_rdg rfl rfl rfl rfl (gv_t _) (fun hg989 => (rd_not (gvx rfl hg989))) ?_
          refine t_rd rfl (rd_and rfl (fun hc990 => (gvx rfl hc990))) ?_
          refine rwt_nil ?_
          refine qn_then ?_
          obtain ⟨hb991, q992⟩ | ⟨hb991, q992⟩ := oi q987 <;> clear q987
          · refine cw_t rfl hb991 ?_
            refine cw_region ?_
            refine t_rd rfl (rd_ld1 tO62 rfl (hm976.blk 0 rfl) (off := 0) rfl) ?_
            refine t_rd rfl (rd_move rfl) ?_
            have hm993 := hm976.pick [1, 3, 0, 2, 4, 5, 6, 7, 8, 9] (L' := [ownL 4 v459 (l965 : List Bool), ownL 4 v461 (l966 : List Bool), blk g892 62 [(Value.func (.func 26) #[] #[(Value.pointer (some ⟨g454, 0, none⟩)), (Value.pointer (some ⟨g5, 0, none⟩)), (Value.pointer (some ⟨g456, 0, none⟩)), (Value.pointer (some ⟨g1, 0, none⟩)), (Value.pointer (some ⟨g27, 0, none⟩)), (Value.pointer (some ⟨g892, 0, none⟩))])], blk g454 33 [v459], blk g456 33 [v461], blk g27 22 [v23], ownL 3 v22 (r19.1 : List Int), ownL 3 v23 (r19.2 : List Int), blk g5 26 [v1], blk g1 25 [v0]]) (by decide) rfl
            have hm994 := hm993.bundle [ownL 4 v459 (l965 : List Bool), ownL 4 v461 (l966 : List Bool)] [blk g892 62 [(Value.func (.func 26) #[] #[(Value.pointer (some ⟨g454, 0, none⟩)), (Value.pointer (some ⟨g5, 0, none⟩)), (Value.pointer (some ⟨g456, 0, none⟩)), (Value.pointer (some ⟨g1, 0, none⟩)), (Value.pointer (some ⟨g27, 0, none⟩)), (Value.pointer (some ⟨g892, 0, none⟩))])], blk g454 33 [v459], blk g456 33 [v461], blk g27 22 [v23], ownL 3 v22 (r19.1 : List Int), ownL 3 v23 (r19.2 : List Int), blk g5 26 [v1], blk g1 25 [v0]]
            obtain ⟨r995, h996, q997⟩ := ob q992; clear q992
            refine t_ef rfl (ef_callv tf26 rfl rfl (crew_Cover_1_ok h996 (hm994.boxAt_callT 2 0 rfl rfl (by decide)) (hv1.to_callT (k := 0) hm994 rfl) (hm994.boxAt_callT 7 0 rfl rfl (by decide)) (hm994.boxAt_callT 3 0 rfl rfl (by decide)) (hv0.to_callT (k := 0) hm994 rfl) (hm994.boxAt_callT 8 0 rfl rfl (by decide)) (hm994.sl_callT 6 0 rfl rfl (by decide)) (hm994.boxAt_callT 4 0 rfl rfl (by decide)) (hm994.boxAt_callT 1 0 rfl rfl (by decide)) (hm994.get (k := 0) rfl))) ?_
            rintro _ w999 ⟨e_, hm998⟩
            obtain rfl := e_.symm
            have hm1000 := hm994.callT (k := 0) rfl (fun _ h => h) hm998 (fun _ => Iff.rfl)
            have hm1001 := hm1000.unbundle [ownL 4 v459 (r995.1 : List Bool), ownL 4 v461 (r995.2 : List Bool)] [blk g892 62 [(Value.func (.func 26) #[] #[(Value.pointer (some ⟨g454, 0, none⟩)), (Value.pointer (some ⟨g5, 0, none⟩)), (Value.pointer (some ⟨g456, 0, none⟩)), (Value.pointer (some ⟨g1, 0, none⟩)), (Value.pointer (some ⟨g27, 0, none⟩)), (Value.pointer (some ⟨g892, 0, none⟩))])], blk g454 33 [v459], blk g456 33 [v461], blk g27 22 [v23], ownL 3 v22 (r19.1 : List Int), ownL 3 v23 (r19.2 : List Int), blk g5 26 [v1], blk g1 25 [v0]]
            refine rwt_nil ?_
            refine qn_block (qn_then ?_)
            refine cw_region ?_
            obtain ⟨x1002, h1003, q1004⟩ := ob q997; clear q997
            refine t_rd rfl (rd_add64 h1003 rfl rfl) ?_
            refine t_rd rfl (rd_move rfl) ?_
            refine rwt_nil ?_
            refine qn_then ?_
            refine ⟨_, (os q1004), (by repeat (first | exact Sub.nil _ | refine Sub.cons rfl ?_)), (hm1001.pick [2, 0, 3, 1, 4, 5, 6, 7, 8, 9] (by decide) rfl)⟩
          · refine cw_f rfl hb991 ?_
            refine cw_skip ?_
            refine qn_block (qn_then ?_)
            refine cw_region ?_
            obtain ⟨x1005, h1006, q1007⟩ := ob q992; clear q992
            refine t_rd rfl (rd_add64 h1006 rfl rfl) ?_
            refine t_rd rfl (rd_move rfl) ?_
            refine rwt_nil ?_
            refine qn_then ?_
            refine ⟨_, (os q1007), (by repeat (first | exact Sub.nil _ | refine Sub.cons rfl ?_)), (hm976.pick [0, 1, 2, 3, 4, 5, 6, 7, 8, 9] (by decide) rfl)⟩
        · refine cw_f rfl hb977 ?_
          refine cw_exit ?_
          refine qx_then (qx_then ?_)
          obtain rfl := hr972 _ (os q978)
          exact ⟨rfl, (by repeat (first | exact Sub.nil _ | refine Sub.cons rfl ?_)), (hm976.pick [1, 2, 3, 4, 8, 9] (by decide) rfl)⟩
      · skip
        intro e env1008 w1009 hX1010
        obtain ⟨rfl, hs1011, hm1012⟩ := hX1010
        refine qx_same (qn_then ?_)
        refine cw_sub hs1011 ?_
        refine cw_seq ?_
        refine cw_seq ?_
        refine cw_region ?_
        refine t_rd rfl (rd_ld1 tO25 rfl (hm1012.blk 5 rfl) (off := 0) rfl) ?_
        refine t_rd rfl (rd_lenS tS25 rfl (hv0.of_old hm1012)) ?_
        refine t_rd rfl (rd_move rfl) ?_
        refine rwt_nil ?_
        refine qn_then ?_
        refine cw_block ?_
        have hm1036 := hm1012.addNil (α := Int) 3
        obtain ⟨r1096, hit1097, q1098⟩ := ob q975; clear q975
        refine cw_loop2 (I := fun q envq wq => ∃ (v1089 : Value), Sub [(3, (Value.pointer (some ⟨g5, 0, none⟩))), (4, v1089), (5, (Value.slice none 0 0)), (9, (Value.pointer (some ⟨g454, 0, none⟩))), (10, (Value.pointer (some ⟨g456, 0, none⟩))), (56, (Value.int .i64 (List.length a0 : Int))), (57, (Value.int .i64 q.1))] envq ∧ Mem w No [ownL 3 v1089 (q.2 : List Int), ownL 4 v459 (r973.1 : List Bool), blk g454 33 [v459], ownL 4 v461 (r973.2 : List Bool), blk g456 33 [v461], blk g5 26 [v1]] wq) (X := fun eq envq wq => eq = .exit 2 ∧ ∃ (v1086 : Value), Sub [(3, (Value.pointer (some ⟨g5, 0, none⟩))), (4, v1086), (5, (Value.slice none 0 0)), (10, (Value.pointer (some ⟨g456, 0, none⟩)))] envq ∧ Mem w No [ownL 3 v1086 (r1096 : List Int), ownL 4 v461 (r973.2 : List Bool), blk g456 33 [v461], blk g5 26 [v1]] wq) hit1097 ⟨(Value.slice none 0 0), (by repeat (first | exact Sub.nil _ | refine Sub.cons rfl ?_)), (hm1036.pick [0, 1, 2, 3, 4, 5] (by decide) rfl)⟩ ?_ ?_
        · rintro ⟨i1087, l1088⟩ x1091 env1092 w1093 hf1094 hr1095 ⟨v1089, hs_, hm_⟩
          have hs_ : Sub [(3, (Value.pointer (some ⟨g5, 0, none⟩))), (4, v1089), (5, (Value.slice none 0 0)), (9, (Value.pointer (some ⟨g454, 0, none⟩))), (10, (Value.pointer (some ⟨g456, 0, none⟩))), (56, (Value.int .i64 (List.length a0 : Int))), (57, (Value.int .i64 i1087))] env1092 := hs_
          have hm1099 : Mem w No [ownL 3 v1089 (l1088 : List Int), ownL 4 v459 (r973.1 : List Bool), blk g454 33 [v459], ownL 4 v461 (r973.2 : List Bool), blk g456 33 [v461], blk g5 26 [v1]] w1093 := hm_
          refine cw_sub hs_ ?_
          clear hs_ hm_ q1098
          have h : crew_Cover_l2 N a0 r973 i1087 l1088 = some x1091 := hf1094
          clear hf1094
          refine cw_seq ?_
          refine cw_region ?_
          refine t_rd rfl (rd_lss rfl rfl) ?_
          refine rwt_nil ?_
          refine qn_then ?_
          refine cw_seq ?_
          obtain ⟨hb1100, q1101⟩ | ⟨hb1100, q1101⟩ := oi h <;> clear h
          · refine cw_t rfl hb1100 ?_
            refine cw_skip ?_
            refine qn_then ?_
            refine cw_seq ?_
            refine cw_block ?_
            refine cw_seq ?_
            refine cw_region ?_
            refine t_rd rfl (rd_move rfl) ?_
            refine t_rd rfl (rd_assign rfl) ?_
            refine rwt_nil ?_
            refine qn_then ?_
            refine cw_seq ?_
            refine cw_region ?_
            refine t_rd rfl (rd_ld1 tO33 rfl (hm1099.blk 2 rfl) (off := 0) rfl) ?_
            refine t_rd rfl (rd_move rfl) ?_
            obtain ⟨x1102, h1103, q1104⟩ := ob q1101; clear q1101
            refine t_rd rfl (rd_index tS33 rfl rfl (hm1099.sl 1 rfl) h1103) ?_
            refine t_rd rfl (rd_ld1 tO4 rfl ((hm1099.sl 1 rfl).cells h1103) (off := 0) rfl) ?_
            refine t_rd rfl (rd_not rfl) ?_
            refine rwt_nil ?_
            refine qn_then ?_
            obtain ⟨hb1105, q1106⟩ | ⟨hb1105, q1106⟩ := oi q1104 <;> clear q1104
            · refine cw_t rfl hb1105 ?_
              refine cw_region ?_
              refine t_rd rfl (rd_move rfl) ?_
              refine t_rd rfl (rd_move rfl) ?_
              refine t_ef rfl (ef_bslice (l := ([i1087] : List Int)) hm1099 tS22 rfl (cs := #[(Value.int .i64 i1087)]) (by unfold bsl; kernel_rfl) rfl rfl) ?_
              intro v1107 w1109 hm1108
              obtain ⟨l1110, h1111, q1112⟩ := ob q1106; clear q1106
              refine t_ef rfl (ef_append (k := 1) hm1108 tS22 tE3 rfl rfl rfl rfl (hm1108.sl 0 rfl) h1111) ?_
              intro v1113 w1115 hm1114
              refine t_rd rfl (rd_assign rfl) ?_
              refine rwt_nil ?_
              refine qn_block (qn_then ?_)
              refine cw_region ?_
              obtain ⟨x1116, h1117, q1118⟩ := ob q1112; clear q1112
              refine t_rd rfl (rd_add64 h1117 rfl rfl) ?_
              refine t_rd rfl (rd_move rfl) ?_
              refine rwt_nil ?_
              refine qn_then ?_
              refine ⟨_, (os q1118), v1113, (by repeat (first | exact Sub.nil _ | refine Sub.cons rfl ?_)), (hm1114.pick [1, 2, 3, 4, 5, 6] (by decide) rfl)⟩
            · refine cw_f rfl hb1105 ?_
              refine cw_skip ?_
              refine qn_block (qn_then ?_)
              refine cw_region ?_
              obtain ⟨x1119, h1120, q1121⟩ := ob q1106; clear q1106
              refine t_rd rfl (rd_add64 h1120 rfl rfl) ?_
              refine t_rd rfl (rd_move rfl) ?_
              refine rwt_nil ?_
              refine qn_then ?_
              refine ⟨_, (os q1121), v1089, (by repeat (first | exact Sub.nil _ | refine Sub.cons rfl ?_)), (hm1099.pick [0, 1, 2, 3, 4, 5] (by decide) rfl)⟩
          · refine cw_f rfl hb1100 ?_
            refine cw_exit ?_
            refine qx_then (qx_then ?_)
            obtain rfl := hr1095 _ (os q1101)
            exact ⟨rfl, v1089, (by repeat (first | exact Sub.nil _ | refine Sub.cons rfl ?_)), (hm1099.pick [0, 3, 4, 5] (by decide) rfl)⟩
        · skip
          intro e env1122 w1123 hX1124
          obtain ⟨rfl, v1086, hs1125, hm1126⟩ := hX1124
          refine qx_same (qn_then ?_)
          refine cw_sub hs1125 ?_
          refine cw_seq ?_
          refine cw_seq ?_
          refine cw_region ?_
          refine t_rd rfl (rd_ld1 tO26 rfl (hm1126.blk 3 rfl) (off := 0) rfl) ?_
          refine t_rd rfl (rd_lenS tS26 rfl (hv1.of_old hm1126)) ?_
          refine t_rd rfl (rd_move rfl) ?_
          refine rwt_nil ?_
          refine qn_then ?_
          refine cw_block ?_
          have hm1150 := hm1126.addNil (α := Int) 3
          obtain ⟨r1210, hit1211, q1212⟩ := ob q1098; clear q1098
          refine cw_loop2 (I := fun q envq wq => ∃ (v1203 : Value), Sub [(4, v1086), (5, v1203), (10, (Value.pointer (some ⟨g456, 0, none⟩))), (71, (Value.int .i64 (List.length a1 : Int))), (72, (Value.int .i64 q.1))] envq ∧ Mem w No [ownL 3 v1203 (q.2 : List Int), ownL 3 v1086 (r1096 : List Int), ownL 4 v461 (r973.2 : List Bool), blk g456 33 [v461]] wq) (X := fun eq envq wq => eq = .exit 4 ∧ ∃ (v1200 : Value), Sub [(4, v1086), (5, v1200)] envq ∧ Mem w No [ownL 3 v1200 (r1210 : List Int), ownL 3 v1086 (r1096 : List Int)] wq) hit1211 ⟨(Value.slice none 0 0), (by repeat (first | exact Sub.nil _ | refine Sub.cons rfl ?_)), (hm1150.pick [0, 1, 2, 3] (by decide) rfl)⟩ ?_ ?_
          · rintro ⟨i1201, l1202⟩ x1205 env1206 w1207 hf1208 hr1209 ⟨v1203, hs_, hm_⟩
            have hs_ : Sub [(4, v1086), (5, v1203), (10, (Value.pointer (some ⟨g456, 0, none⟩))), (71, (Value.int .i64 (List.length a1 : Int))), (72, (Value.int .i64 i1201))] env1206 := hs_
            have hm1213 : Mem w No [ownL 3 v1203 (l1202 : List Int), ownL 3 v1086 (r1096 : List Int), ownL 4 v461 (r973.2 : List Bool), blk g456 33 [v461]] w1207 := hm_
            refine cw_sub hs_ ?_
            clear hs_ hm_ q1212
            have h : crew_Cover_l3 N a1 r973 i1201 l1202 = some x1205 := hf1208
            clear hf1208
            refine cw_seq ?_
            refine cw_region ?_
            refine t_rd rfl (rd_lss rfl rfl) ?_
            refine rwt_nil ?_
            refine qn_then ?_
            refine cw_seq ?_
            obtain ⟨hb1214, q1215⟩ | ⟨hb1214, q1215⟩ := oi h <;> clear h
            · refine cw_t rfl hb1214 ?_
              refine cw_skip ?_
              refine qn_then ?_
              refine cw_seq ?_
              refine cw_block ?_
              refine cw_seq ?_
              refine cw_region ?_
              refine t_rd rfl (rd_move rfl) ?_
              refine t_rd rfl (rd_assign rfl) ?_
              refine rwt_nil ?_
              refine qn_then ?_
              refine cw_seq ?_
              refine cw_region ?_
              refine t_rd rfl (rd_ld1 tO33 rfl (hm1213.blk 3 rfl) (off := 0) rfl) ?_
              refine t_rd rfl (rd_move rfl) ?_
              obtain ⟨x1216, h1217, q1218⟩ := ob q1215; clear q1215
              refine t_rd rfl (rd_index tS33 rfl rfl (hm1213.sl 2 rfl) h1217) ?_
              refine t_rd rfl (rd_ld1 tO4 rfl ((hm1213.sl 2 rfl).cells h1217) (off := 0) rfl) ?_
              refine rwt_nil ?_
              refine qn_then ?_
              obtain ⟨hb1219, q1220⟩ | ⟨hb1219, q1220⟩ := oi q1218 <;> clear q1218
              · refine cw_t rfl hb1219 ?_
                refine cw_region ?_
                refine t_rd rfl (rd_move rfl) ?_
                refine t_rd rfl (rd_move rfl) ?_
                refine t_ef rfl (ef_bslice (l := ([i1201] : List Int)) hm1213 tS22 rfl (cs := #[(Value.int .i64 i1201)]) (by unfold bsl; kernel_rfl) rfl rfl) ?_
                intro v1221 w1223 hm1222
                obtain ⟨l1224, h1225, q1226⟩ := ob q1220; clear q1220
                refine t_ef rfl (ef_append (k := 1) hm1222 tS22 tE3 rfl rfl rfl rfl (hm1222.sl 0 rfl) h1225) ?_
                intro v1227 w1229 hm1228
                refine t_rd rfl (rd_assign rfl) ?_
                refine rwt_nil ?_
                refine qn_block (qn_then ?_)
                refine cw_region ?_
                obtain ⟨x1230, h1231, q1232⟩ := ob q1226; clear q1226
                refine t_rd rfl (rd_add64 h1231 rfl rfl) ?_
                refine t_rd rfl (rd_move rfl) ?_
                refine rwt_nil ?_
                refine qn_then ?_
                refine ⟨_, (os q1232), v1227, (by repeat (first | exact Sub.nil _ | refine Sub.cons rfl ?_)), (hm1228.pick [1, 2, 3, 4] (by decide) rfl)⟩
              · refine cw_f rfl hb1219 ?_
                refine cw_skip ?_
                refine qn_block (qn_then ?_)
                refine cw_region ?_
                obtain ⟨x1233, h1234, q1235⟩ := ob q1220; clear q1220
                refine t_rd rfl (rd_add64 h1234 rfl rfl) ?_
                refine t_rd rfl (rd_move rfl) ?_
                refine rwt_nil ?_
                refine qn_then ?_
                refine ⟨_, (os q1235), v1203, (by repeat (first | exact Sub.nil _ | refine Sub.cons rfl ?_)), (hm1213.pick [0, 1, 2, 3] (by decide) rfl)⟩
            · refine cw_f rfl hb1214 ?_
              refine cw_exit ?_
              refine qx_then (qx_then ?_)
              obtain rfl := hr1209 _ (os q1215)
              exact ⟨rfl, v1203, (by repeat (first | exact Sub.nil _ | refine Sub.cons rfl ?_)), (hm1213.pick [0, 1] (by decide) rfl)⟩
          · skip
            intro e env1236 w1237 hX1238
            obtain ⟨rfl, v1200, hs1239, hm1240⟩ := hX1238
            refine qx_same (qn_then ?_)
            refine cw_sub hs1239 ?_
            refine cw_seq ?_
            refine cw_region ?_
            refine t_rd rfl (rd_move rfl) ?_
            refine t_rd rfl (rd_move rfl) ?_
            refine t_rd rfl (rd_assign rfl) ?_
            refine t_rd rfl (rd_assign rfl) ?_
            refine t_rd rfl (rd_assign rfl) ?_
            refine rwt_nil ?_
            refine qn_then ?_
            refine cw_ret ?_
            obtain rfl := os q1212
            exact ret3 rfl rfl rfl rfl ⟨v1086, v1200, rfl, (hm1240.pick [1, 0] (by decide) rfl)⟩

theorem humpgen_Ints_ok {N : Nat} {a0 : List Int} {a1 : List Int} {res : Bool} (h : humpgen_Ints N a0 a1 = some res) {w : World} {v0 : Value} {v1 : Value} (hv0 : Sl (Old w No) w v0 a0) (hv1 : Sl (Old w No) w v1 a1) :
    CallsR Try.prog 25 [v0, v1] w (fun u w' => u = (Value.bool res) ∧ Mem w No [] w') := by
  unfold humpgen_Ints at h
  refine fn_ok Try.func25 rfl rfl rfl ?_
  have hm0 := Mem.nil w
  refine cw_seq ?_
  refine cw_region ?_
  refine t_rd rfl (rd_assign rfl) ?_
  refine rwt_nil ?_
  refine qn_then ?_
  refine cw_seq ?_
  refine cw_seq ?_
  refine cw_region ?_
  refine t_rd rfl (rd_move rfl) ?_
  refine t_rd rfl (rd_lenS tS22 rfl (hv0.of_old hm0)) ?_
  refine t_rd rfl (rd_move rfl) ?_
  refine t_rd rfl (rd_lenS tS22 rfl (hv1.of_old hm0)) ?_
  refine t_rd rfl (rd_neq rfl rfl) ?_
  refine rwt_nil ?_
  refine qn_then ?_
  obtain ⟨hb1, q2⟩ | ⟨hb1, q2⟩ := oi h <;> clear h
  · refine cw_t rfl hb1 ?_
    refine cw_seq ?_
    refine cw_region ?_
    refine t_rd rfl (rd_assign rfl) ?_
    refine rwt_nil ?_
    refine qn_then ?_
    refine cw_ret ?_
    refine qr_then ?_
    obtain rfl := os q2
    exact ret1 rfl rfl ⟨rfl, (hm0.pick [] (by decide) rfl)⟩
  · refine cw_f rfl hb1 ?_
    refine cw_skip ?_
    refine qn_then ?_
    refine cw_seq ?_
    refine cw_seq ?_
    refine cw_region ?_
    refine t_rd rfl (rd_assign rfl) ?_
    refine rwt_nil ?_
    refine qn_then ?_
    refine cw_block ?_
    obtain ⟨r45, hit46, q47⟩ := ob q2; clear q2
    refine cw_loop2 (I := fun q envq wq => Sub [(0, v0), (1, v1), (5, (Value.int .i64 q))] envq ∧ Mem w No [] wq) (X := fun eq envq wq => (∃ p48, r45 = (Sum.inl p48) ∧ eq = .ret ∧ retQ Try.prog 26 Try.f25 (fun u w' => u = (Value.bool p48) ∧ Mem w No [] w') .ret envq wq) ∨ (∃ p49, r45 = (Sum.inr p49) ∧ eq = .exit 0 ∧ Sub [] envq ∧ Mem w No [] wq)) hit46 ⟨(by repeat (first | exact Sub.nil _ | refine Sub.cons rfl ?_)), (hm0.pick [] (by decide) rfl)⟩ ?_ ?_
    · rintro i38 x40 env41 w42 hf43 hr44 ⟨hs_, hm_⟩
      have hs_ : Sub [(0, v0), (1, v1), (5, (Value.int .i64 i38))] env41 := hs_
      have hm50 : Mem w No [] w42 := hm_
      refine cw_sub hs_ ?_
      clear hs_ hm_ q47
      have h : humpgen_Ints_l1 N a0 a1 i38 = some x40 := hf43
      clear hf43
      refine cw_seq ?_
      refine cw_seq ?_
      refine cw_region ?_
      refine t_rd rfl (rd_move rfl) ?_
      refine t_rd rfl (rd_move rfl) ?_
      refine t_rd rfl (rd_lenS tS22 rfl (hv0.of_old hm50)) ?_
      refine t_rd rfl (rd_lss rfl rfl) ?_
      refine rwt_nil ?_
      refine qn_then ?_
      obtain ⟨hb51, q52⟩ | ⟨hb51, q52⟩ := oi h <;> clear h
      · refine cw_t rfl hb51 ?_
        refine cw_skip ?_
        refine qn_then ?_
        refine cw_seq ?_
        refine cw_block ?_
        refine cw_seq ?_
        obtain ⟨w54, he56⟩ : ∃ q, q = w42.drew := ⟨_, rfl⟩
        have hm55 := hm50.drew; rw [← he56] at hm55
        refine cw_region_s (fun q => q = w54) (cls [] []) mixed ?_
        rintro _ rfl; rw [← he56]
        refine s_rp (i := 0) rfl (by kernel_rfl) rfl (fun _ => (rd_move rfl)) ?_
        refine s_rp (i := 1) rfl (by kernel_rfl) rfl (fun _ => (rd_move rfl)) ?_
        obtain ⟨x57, h58, q59⟩ := ob q52; clear q52
        refine s_rp (i := 2) rfl (by kernel_rfl) rfl (fun _ => (rd_index tS22 rfl rfl (hv0.of_old hm55) h58)) ?_
        refine s_rd (i := 3) rfl (by kernel_rfl) rfl (fun _ hS => by rw [hS]; exact (rd_ld1 tO3 rfl ((hv0.of_old hm55).cells h58) (off := 0) rfl)) rfl ?_
        refine s_rp (i := 4) rfl (by kernel_rfl) rfl (fun _ => (rd_move rfl)) ?_
        refine s_rp (i := 5) rfl (by kernel_rfl) rfl (fun _ => (rd_move rfl)) ?_
        obtain ⟨x60, h61, q62⟩ := ob q59; clear q59
        refine s_rp (i := 6) rfl (by kernel_rfl) rfl (fun _ => (rd_index tS22 rfl rfl (hv1.of_old hm55) h61)) ?_
        refine s_rd (i := 7) rfl (by kernel_rfl) rfl (fun _ hS => by rw [hS]; exact (rd_ld1 tO3 rfl ((hv1.of_old hm55).cells h61) (off := 0) rfl)) rfl ?_
        refine s_rp (i := 8) rfl (by kernel_rfl) rfl (fun _ => (rd_neq rfl rfl)) ?_
        refine s_nil (by kernel_rfl) ?_
        refine qn_then ?_
        obtain ⟨hb63, q64⟩ | ⟨hb63, q64⟩ := oi q62 <;> clear q62
        · refine cw_t rfl hb63 ?_
          refine cw_seq ?_
          refine cw_region ?_
          refine t_rd rfl (rd_assign rfl) ?_
          refine rwt_nil ?_
          refine qn_then ?_
          refine cw_ret ?_
          refine qr_block (qr_then (qr_then ?_))
          obtain rfl := hr44 _ (os q64)
          refine .inl (⟨_, rfl, ⟨rfl, ?_⟩⟩)
          exact ret1 rfl rfl ⟨rfl, (hm55.pick [] (by decide) rfl)⟩
        · refine cw_f rfl hb63 ?_
          refine cw_skip ?_
          refine qn_block (qn_then ?_)
          refine cw_region ?_
          refine t_rd rfl (rd_move rfl) ?_
          obtain ⟨x65, h66, q67⟩ := ob q64; clear q64
          refine t_rd rfl (rd_add64 h66 rfl rfl) ?_
          refine t_rd rfl (rd_assign rfl) ?_
          refine rwt_nil ?_
          refine qn_then ?_
          refine ⟨_, (os q67), (by repeat (first | exact Sub.nil _ | refine Sub.cons rfl ?_)), (hm55.pick [] (by decide) rfl)⟩
      · refine cw_f rfl hb51 ?_
        refine cw_exit ?_
        refine qx_then (qx_then ?_)
        obtain rfl := hr44 _ (os q52)
        exact .inr (⟨_, rfl, ⟨rfl, (by repeat (first | exact Sub.nil _ | refine Sub.cons rfl ?_)), (hm50.pick [] (by decide) rfl)⟩⟩)
    · skip
      intro e env68 w69 hX70
      rcases hX70 with hX70 | hX70
      · obtain ⟨p72, rfl, hX70⟩ := hX70
        obtain ⟨rfl, hq74⟩ := hX70
        exact qr_block (qr_then ((by have e := os q47; subst e; exact hq74)))
      · obtain ⟨p75, rfl, hX70⟩ := hX70
        obtain ⟨rfl, hs76, hm77⟩ := hX70
        refine qx_same (qn_then ?_)
        refine cw_sub hs76 ?_
        refine cw_seq ?_
        refine cw_region ?_
        refine t_rd rfl (rd_assign rfl) ?_
        refine rwt_nil ?_
        refine qn_then ?_
        refine cw_ret ?_
        obtain rfl := os q47
        exact ret1 rfl rfl ⟨rfl, (hm77.pick [] (by decide) rfl)⟩

theorem law40_sane_ok {N : Nat} {res : Bool} (h : law40_sane N = some res) {w : World}   :
    CallsR Try.prog 13 [] w (fun u w' => u = (Value.bool res) ∧ Mem w No [] w') := by
  unfold law40_sane at h
  refine fn_ok Try.func13 rfl rfl rfl ?_
  have hm0 := Mem.nil w
  refine cw_seq ?_
  refine cw_region ?_
  refine t_rd rfl (rd_assign rfl) ?_
  refine rwt_nil ?_
  refine qn_then ?_
  refine cw_seq ?_
  refine cw_region ?_
  refine t_rd rfl (rd_build (cs := #[(Value.int .i64 0), (Value.int .i64 10)]) rfl (by kernel_rfl)) ?_
  refine t_rd rfl (rd_build (cs := #[(Value.int .i64 2), (Value.int .i64 8)]) rfl (by kernel_rfl)) ?_
  refine t_ef rfl (ef_bslice (l := ([(T_Task.mk 0 10), (T_Task.mk 2 8)] : List T_Task)) hm0 tS25 rfl (cs := #[(Value.int .i64 0), (Value.int .i64 10), (Value.int .i64 2), (Value.int .i64 8)]) (by unfold bsl; kernel_rfl) rfl rfl) ?_
  intro v1 w3 hm2
  refine t_rd rfl (rd_assign rfl) ?_
  refine rwt_nil ?_
  refine qn_then ?_
  refine cw_seq ?_
  refine cw_region ?_
  refine t_rd rfl (rd_build (cs := #[(Value.int .i64 0), (Value.int .i64 10), (Value.int .i64 10)]) rfl (by kernel_rfl)) ?_
  refine t_rd rfl (rd_build (cs := #[(Value.int .i64 1), (Value.int .i64 9), (Value.int .i64 6)]) rfl (by kernel_rfl)) ?_
  refine t_ef rfl (ef_bslice (l := ([(T_Crew.mk 0 10 10), (T_Crew.mk 1 9 6)] : List T_Crew)) hm2 tS26 rfl (cs := #[(Value.int .i64 0), (Value.int .i64 10), (Value.int .i64 10), (Value.int .i64 1), (Value.int .i64 9), (Value.int .i64 6)]) (by unfold bsl; kernel_rfl) rfl rfl) ?_
  intro v4 w6 hm5
  refine t_rd rfl (rd_assign rfl) ?_
  refine rwt_nil ?_
  refine qn_then ?_
  refine cw_seq ?_
  refine cw_region ?_
  refine t_rd rfl (rd_move rfl) ?_
  refine t_rd rfl (rd_move rfl) ?_
  obtain ⟨r7, h8, q9⟩ := ob h; clear h
  refine t_ef rfl (ef_call tf9 rfl (crew_Assign_ok h8 (hm5.sl_call 1 rfl) (hm5.sl_call 0 rfl))) ?_
  rintro _ w12 ⟨v10, e_, hm11⟩
  obtain rfl := e_.symm
  have hm13 := hm5.call hm11
  refine t_rd rfl (rd_move rfl) ?_
  refine t_rd rfl (rd_extract rfl rfl) ?_
  refine t_rd rfl (rd_extract rfl rfl) ?_
  refine t_rd rfl (rd_assign rfl) ?_
  refine t_rd rfl (rd_assign rfl) ?_
  refine rwt_nil ?_
  refine qn_then ?_
  refine cw_seq ?_
  refine cw_region ?_
  refine t_rd rfl (rd_move rfl) ?_
  obtain ⟨x14, h15, q16⟩ := ob q9; clear q9
  refine t_rd rfl (rd_index tS26 rfl rfl (hm13.sl 1 rfl) h15) ?_
  refine t_rd rfl (rd_fld tF39_2 rfl) ?_
  refine t_ef0 (ef_stl (k := 1) (off := 2) (x' := (T_Crew.mk x14.From x14.To 5)) hm13 tO3 rfl rfl rfl rfl h15 rfl rfl) ?_
  intro _ w18 hm17
  refine rwt_nil ?_
  refine qn_then ?_
  refine cw_seq ?_
  refine cw_region ?_
  refine t_rd rfl (rd_move rfl) ?_
  refine t_rd rfl (rd_move rfl) ?_
  obtain ⟨r19, h20, q21⟩ := ob q16; clear q16
  refine t_ef rfl (ef_call tf9 rfl (crew_Assign_ok h20 (hm17.sl_call 2 rfl) (hm17.sl_call 1 rfl))) ?_
  rintro _ w24 ⟨v22, e_, hm23⟩
  obtain rfl := e_.symm
  have hm25 := hm17.call hm23
  refine t_rd rfl (rd_move rfl) ?_
  refine t_rd rfl (rd_extract rfl rfl) ?_
  refine t_rd rfl (rd_extract rfl rfl) ?_
  refine t_rd rfl (rd_assign rfl) ?_
  refine t_rd rfl (rd_assign rfl) ?_
  refine rwt_nil ?_
  refine qn_then ?_
  refine cw_seq ?_
  refine cw_region ?_
  refine t_rd rfl (rd_move rfl) ?_
  refine t_rd rfl (rd_move rfl) ?_
  obtain ⟨r26, h27, q28⟩ := ob q21; clear q21
  refine t_ef rfl (ef_call tf16 rfl (crew_Cover_ok h27 (hm25.sl_call 3 rfl) (hm25.sl_call 2 rfl))) ?_
  rintro _ w32 ⟨v29, v30, e_, hm31⟩
  obtain rfl := e_.symm
  have hm33 := hm25.call hm31
  refine t_rd rfl (rd_move rfl) ?_
  refine t_rd rfl (rd_extract rfl rfl) ?_
  refine t_rd rfl (rd_extract rfl rfl) ?_
  refine t_rd rfl (rd_extract rfl rfl) ?_
  refine t_rd rfl (rd_assign rfl) ?_
  refine t_rd rfl (rd_assign rfl) ?_
  refine t_rd rfl (rd_assign rfl) ?_
  refine rwt_nil ?_
  refine qn_then ?_
  refine cw_seq ?_
  refine cw_region ?_
  refine t_rd rfl (rd_move rfl) ?_
  refine t_rd rfl (rd_eql rfl rfl) ?_
  refine t_rd rfl (rd_move rfl) ?_
  refine t_rdg rfl rfl rfl rfl (gv_t _) (fun hg34 => (rd_move rfl)) ?_
  refine t_rdg rfl rfl rfl rfl (gv_t _) (fun hg35 => (rd_lenS tS29 (gvx rfl hg35) (hm33.sl 3 rfl))) ?_
  refine t_rdg rfl rfl rfl rfl (gv_t _) (fun hg36 => (rd_eql (gvx rfl hg36) rfl)) ?_
  refine t_rd rfl (rd_and rfl (fun hc37 => (gvx rfl hc37))) ?_
  refine t_rd rfl (rd_move rfl) ?_
  refine t_rdg rfl rfl rfl rfl (gv_t _) (fun hg38 => (rd_move rfl)) ?_
  obtain ⟨x40, h41, q42⟩ := ob q28; clear q28
  refine t_rdg rfl rfl rfl rfl (gv_t _) (fun hg39 => (rd_index tS29 (gvx rfl hg39) rfl (hm33.sl 3 rfl) (gO_t h41 hg39))) ?_
  refine t_rdg rfl rfl rfl rfl (gv_t _) (fun hg43 => (rd_ld tA41 (gvx rfl hg43) ((hm33.sl 3 rfl).cells (gO_t h41 hg43)) rfl)) ?_
  refine t_rdg rfl rfl rfl rfl (gv_t _) (fun hg44 => (rd_build (cs := #[(Value.int .i64 0), (Value.int .i64 0)]) rfl (by kernel_rfl))) ?_
  refine t_rdg rfl rfl rfl rfl (gv_t _) (fun hg45 => (rd_eqs eqs41 (a := x40) (b := (T_Pair.mk 0 0)) (gvx rfl hg45) (gvx rfl hg45))) ?_
  refine t_rd rfl (rd_and rfl (fun hc46 => (gvx rfl hc46))) ?_
  refine t_rd rfl (rd_move rfl) ?_
  refine t_rdg rfl rfl rfl rfl (gv_t _) (fun hg47 => (rd_move rfl)) ?_
  obtain ⟨x49, h50, q51⟩ := ob q42; clear q42
  refine t_rdg rfl rfl rfl rfl (gv_t _) (fun hg48 => (rd_index tS29 (gvx rfl hg48) rfl (hm33.sl 3 rfl) (gO_t h50 hg48))) ?_
  refine t_rdg rfl rfl rfl rfl (gv_t _) (fun hg52 => (rd_ld tA41 (gvx rfl hg52) ((hm33.sl 3 rfl).cells (gO_t h50 hg52)) rfl)) ?_
  refine t_rdg rfl rfl rfl rfl (gv_t _) (fun hg53 => (rd_build (cs := #[(Value.int .i64 1), (Value.int .i64 1)]) rfl (by kernel_rfl))) ?_
  refine t_rdg rfl rfl rfl rfl (gv_t _) (fun hg54 => (rd_eqs eqs41 (a := x49) (b := (T_Pair.mk 1 1)) (gvx rfl hg54) (gvx rfl hg54))) ?_
  refine t_rd rfl (rd_and rfl (fun hc55 => (gvx rfl hc55))) ?_
  refine t_rd rfl (rd_move rfl) ?_
  refine t_rdg rfl rfl rfl rfl (gv_t _) (fun hg56 => (rd_move rfl)) ?_
  refine t_rdg rfl rfl rfl rfl (gv_t _) (fun hg57 => (rd_eql (gvx rfl hg57) rfl)) ?_
  refine t_rd rfl (rd_and rfl (fun hc58 => (gvx rfl hc58))) ?_
  refine t_rd rfl (rd_move rfl) ?_
  refine t_rdg rfl rfl rfl rfl (gv_t _) (fun hg59 => (rd_move rfl)) ?_
  refine t_rdg rfl rfl rfl rfl (gv_t _) (fun hg60 => (rd_lenS tS29 (gvx rfl hg60) (hm33.sl 2 rfl))) ?_
  refine t_rdg rfl rfl rfl rfl (gv_t _) (fun hg61 => (rd_eql (gvx rfl hg61) rfl)) ?_
  refine t_rd rfl (rd_and rfl (fun hc62 => (gvx rfl hc62))) ?_
  refine t_rd rfl (rd_move rfl) ?_
  refine t_rdg rfl rfl rfl rfl (gv_t _) (fun hg63 => (rd_move rfl)) ?_
  refine t_rdg rfl rfl rfl rfl (gv_t _) (fun hg64 => (rd_eql (gvx rfl hg64) rfl)) ?_
  refine t_rd rfl (rd_and rfl (fun hc65 => (gvx rfl hc65))) ?_
  refine t_rd rfl (rd_move rfl) ?_
  refine t_rdg rfl rfl rfl rfl (gv_t _) (fun hg66 => (rd_move rfl)) ?_
  refine t_rdg rfl rfl rfl rfl (gv_t _) (fun hg67 => (rd_lenS tS22 (gvx rfl hg67) (hm33.sl 0 rfl))) ?_
  refine t_rdg rfl rfl rfl rfl (gv_t _) (fun hg68 => (rd_eql (gvx rfl hg68) rfl)) ?_
  refine t_rd rfl (rd_and rfl (fun hc69 => (gvx rfl hc69))) ?_
  refine t_rd rfl (rd_move rfl) ?_
  refine t_rdg rfl rfl rfl rfl (gv_t _) (fun hg70 => (rd_move rfl)) ?_
  obtain ⟨hb72, q73⟩ | ⟨hb72, q73⟩ := oi q51 <;> clear q51
  · skip
    refine t_efg rfl rfl rfl rfl (gv_t _) (fun _ => (ef_bslice (l := ([0] : List Int)) hm33 tS22 rfl (cs := #[(Value.int .i64 0)]) (by unfold bsl; kernel_rfl) rfl rfl)) (fun q => bcontra q hb72) ?_
    intro v75 w77 hm76
    obtain ⟨r79, h80, q81⟩ := ob q73; clear q73
    refine t_efg rfl rfl rfl rfl (gv_t _) (fun _ => (ef_call tf25 (evc (gvx rfl hb72) (evc rfl evn)) (humpgen_Ints_ok h80 (hm76.sl_call 2 rfl) (hm76.sl_call 0 rfl)))) (fun q => bcontra q hb72) ?_
    rintro _ w83 ⟨e_, hm82⟩
    obtain rfl := e_.symm
    have hm84 := hm76.call hm82
    refine t_rd rfl (rd_and rfl (fun hc85 => rfl)) ?_
    refine t_rd rfl (rd_assign rfl) ?_
    refine rwt_nil ?_
    refine qn_then ?_
    refine cw_ret ?_
    obtain rfl := os q81
    exact ret1 rfl rfl ⟨rfl, (hm84.pick [] (by decide) rfl)⟩
  · skip
    refine t_efg rfl rfl rfl rfl (R := fun v w' => v = undef ∧ w' = w32) (gv_t _) (fun hg86 => bcontra hb72 hg86) (fun _ => ⟨rfl, rfl⟩) ?_
    rintro v_ w_ ⟨e1_, e2_⟩; rw [e1_, e2_]; clear e1_ e2_ v_ w_
    refine t_efg rfl rfl rfl rfl (R := fun v w' => v = undef ∧ w' = w32) (gv_t _) (fun hg87 => bcontra hb72 hg87) (fun _ => ⟨rfl, rfl⟩) ?_
    rintro v_ w_ ⟨e1_, e2_⟩; rw [e1_, e2_]; clear e1_ e2_ v_ w_
    refine t_rd rfl (rd_and (b := false) rfl (fun hc88 => bcontra hb72 hc88)) ?_
    refine t_rd rfl (rd_assign rfl) ?_
    refine rwt_nil ?_
    refine qn_then ?_
    refine cw_ret ?_
    obtain rfl := os q73
    exact ret1 rfl rfl ⟨rfl, (hm33.pick [] (by decide) rfl)⟩

theorem law40_CrewMost_ok {N : Nat} {a0 : List Int} {res : Bool} (h : law40_CrewMost N a0 = some res) {w : World} {v0 : Value} (hv0 : Sl (Old w No) w v0 a0) :
    CallsR Try.prog 3 [v0] w (fun u w' => u = (Value.bool res) ∧ Mem w No [] w') := by
  unfold law40_CrewMost at h
  refine fn_ok Try.func3 rfl rfl rfl ?_
  have hm0 := Mem.nil w
  refine cw_seq ?_
  refine cw_region ?_
  refine t_rd rfl (rd_assign rfl) ?_
  refine rwt_nil ?_
  refine qn_then ?_
  refine cw_seq ?_
  refine cw_region ?_
  refine t_rd rfl (rd_move rfl) ?_
  obtain ⟨r1, h2, q3⟩ := ob h; clear h
  refine t_ef rfl (ef_call tf7 rfl (humpgen_New_ok h2 (hv0.to_call hm0))) ?_
  rintro _ w6 ⟨g4, e_, hm5⟩
  obtain rfl := e_.symm
  have hm7 := hm0.call hm5
  refine t_rd rfl (rd_assign rfl) ?_
  refine rwt_nil ?_
  refine qn_then ?_
  refine cw_seq ?_
  refine cw_region ?_
  refine t_rd rfl (rd_move rfl) ?_
  obtain ⟨r8, h9, q10⟩ := ob q3; clear q3
  refine t_ef rfl (ef_call tf8 rfl (law40_made_ok h9 (hv0.to_callT (k := 0) hm7 rfl) (hm7.get (k := 0) rfl))) ?_
  rintro _ w14 ⟨v11, v12, e_, hm13⟩
  obtain rfl := e_.symm
  have hm15 := hm7.callT (k := 0) rfl (fun _ h => h) hm13 (fun _ => Iff.rfl)
  refine t_rd rfl (rd_move rfl) ?_
  refine t_rd rfl (rd_extract rfl rfl) ?_
  refine t_rd rfl (rd_extract rfl rfl) ?_
  refine t_rd rfl (rd_assign rfl) ?_
  refine t_rd rfl (rd_assign rfl) ?_
  refine rwt_nil ?_
  refine qn_then ?_
  refine cw_seq ?_
  refine cw_region ?_
  refine t_rd rfl (rd_move rfl) ?_
  refine t_rd rfl (rd_move rfl) ?_
  obtain ⟨r16, h17, q18⟩ := ob q10; clear q10
  refine t_ef rfl (ef_call tf9 rfl (crew_Assign_ok h17 (hm15.sl_call 0 rfl) (hm15.sl_call 1 rfl))) ?_
  rintro _ w21 ⟨v19, e_, hm20⟩
  obtain rfl := e_.symm
  have hm22 := hm15.call hm20
  refine t_rd rfl (rd_move rfl) ?_
  refine t_rd rfl (rd_extract rfl rfl) ?_
  refine t_rd rfl (rd_extract rfl rfl) ?_
  refine t_rd rfl (rd_assign rfl) ?_
  refine t_rd rfl (rd_assign rfl) ?_
  refine rwt_nil ?_
  refine qn_then ?_
  refine cw_seq ?_
  refine cw_seq ?_
  refine cw_region ?_
  refine t_rd rfl (rd_move rfl) ?_
  refine t_rd rfl (rd_neq rfl rfl) ?_
  refine rwt_nil ?_
  refine qn_then ?_
  obtain ⟨hb23, q24⟩ | ⟨hb23, q24⟩ := oi q18 <;> clear q18
  · refine cw_t rfl hb23 ?_
    refine cw_seq ?_
    refine cw_region ?_
    refine t_rd rfl (rd_assign rfl) ?_
    refine rwt_nil ?_
    refine qn_then ?_
    refine cw_ret ?_
    refine qr_then ?_
    obtain rfl := os q24
    exact ret1 rfl rfl ⟨rfl, (hm22.pick [] (by decide) rfl)⟩
  · refine cw_f rfl hb23 ?_
    refine cw_skip ?_
    refine qn_then ?_
    refine cw_seq ?_
    refine cw_seq ?_
    refine cw_region ?_
    refine t_rd rfl (rd_assign rfl) ?_
    refine rwt_nil ?_
    refine qn_then ?_
    refine cw_block ?_
    obtain ⟨r1817, hit1818, q1819⟩ := ob q24; clear q24
    refine cw_loop2 (I := fun q envq wq => Sub [(3, (Value.pointer (some ⟨g4, 0, none⟩))), (4, v11), (5, v12), (6, v19), (8, (Value.int .i64 q.1))] envq ∧ Mem w No [ownL 41 v19 (r16.1 : List T_Pair), ownL 37 v11 (r8.2.1 : List T_Task), ownL 39 v12 (r8.2.2 : List T_Crew), blk g4 58 [v0, (Value.int .i64 q.2)]] wq) (X := fun eq envq wq => (∃ p1820, r1817 = (Sum.inl p1820) ∧ eq = .ret ∧ retQ Try.prog 93 Try.f3 (fun u w' => u = (Value.bool p1820) ∧ Mem w No [] w') .ret envq wq) ∨ (∃ p1821, r1817 = (Sum.inr p1821) ∧ eq = .exit 0 ∧ Sub [] envq ∧ Mem w No [] wq)) hit1818 ⟨(by repeat (first | exact Sub.nil _ | refine Sub.cons rfl ?_)), (hm22.pick [0, 1, 2, 3] (by decide) rfl)⟩ ?_ ?_
    · rintro ⟨i1809, i1810⟩ x1812 env1813 w1814 hf1815 hr1816 ⟨hs_, hm_⟩
      have hs_ : Sub [(3, (Value.pointer (some ⟨g4, 0, none⟩))), (4, v11), (5, v12), (6, v19), (8, (Value.int .i64 i1809))] env1813 := hs_
      have hm1822 : Mem w No [ownL 41 v19 (r16.1 : List T_Pair), ownL 37 v11 (r8.2.1 : List T_Task), ownL 39 v12 (r8.2.2 : List T_Crew), blk g4 58 [v0, (Value.int .i64 i1810)]] w1814 := hm_
      refine cw_sub hs_ ?_
      clear hs_ hm_ q1819
      have h : law40_CrewMost_l11 N a0 r8 r16 i1809 i1810 = some x1812 := hf1815
      clear hf1815
      refine cw_seq ?_
      refine cw_seq ?_
      refine cw_region ?_
      refine t_rd rfl (rd_move rfl) ?_
      refine t_rd rfl (rd_lss rfl rfl) ?_
      refine rwt_nil ?_
      refine qn_then ?_
      obtain ⟨hb1823, q1824⟩ | ⟨hb1823, q1824⟩ := oi h <;> clear h
      · refine cw_t rfl hb1823 ?_
        refine cw_skip ?_
        refine qn_then ?_
        refine cw_seq ?_
        refine cw_block ?_
        refine cw_seq ?_
        refine cw_region ?_
        refine t_rd rfl (rd_assign rfl) ?_
        refine rwt_nil ?_
        refine qn_then ?_
        refine cw_seq ?_
        refine cw_region ?_
        refine t_rd rfl (rd_move rfl) ?_
        refine t_rd rfl (rd_lenS tS26 rfl (hm1822.sl 2 rfl)) ?_
        obtain ⟨l1825, h1826, q1827⟩ := ob q1824; clear q1824
        refine t_ef rfl (ef_make hm1822 tS33 tE4 rfl rfl rfl h1826) ?_
        intro v1828 w1830 hm1829
        refine t_rd rfl (rd_assign rfl) ?_
        refine rwt_nil ?_
        refine qn_then ?_
        refine cw_seq ?_
        refine cw_seq ?_
        refine cw_region ?_
        refine t_rd rfl (rd_assign rfl) ?_
        refine rwt_nil ?_
        refine qn_then ?_
        refine cw_block ?_
        have hm2041 := hm1829.addNil (α := T_Pair) 41
        obtain ⟨r2480, hit2481, q2482⟩ := ob q1827; clear q1827
        refine cw_loop2 (I := fun q envq wq => ∃ (v2473 : Value), Sub [(3, (Value.pointer (some ⟨g4, 0, none⟩))), (4, v11), (5, v12), (6, v19), (8, (Value.int .i64 i1809)), (9, v2473), (10, v1828), (11, (Value.int .i64 q.1))] envq ∧ Mem w No [ownL 41 v2473 (q.2.2.2 : List T_Pair), ownL 4 v1828 (q.2.2.1 : List Bool), ownL 41 v19 (r16.1 : List T_Pair), ownL 37 v11 (r8.2.1 : List T_Task), ownL 39 v12 (r8.2.2 : List T_Crew), blk g4 58 [v0, (Value.int .i64 q.2.1)]] wq) (X := fun eq envq wq => eq = .exit 2 ∧ ∃ (v2468 : Value), Sub [(3, (Value.pointer (some ⟨g4, 0, none⟩))), (4, v11), (5, v12), (6, v19), (8, (Value.int .i64 i1809)), (9, v2468)] envq ∧ Mem w No [ownL 41 v2468 (r2480.2 : List T_Pair), ownL 41 v19 (r16.1 : List T_Pair), ownL 37 v11 (r8.2.1 : List T_Task), ownL 39 v12 (r8.2.2 : List T_Crew), blk g4 58 [v0, (Value.int .i64 r2480.1)]] wq) hit2481 ⟨(Value.slice none 0 0), (by repeat (first | exact Sub.nil _ | refine Sub.cons rfl ?_)), (hm2041.pick [0, 1, 2, 3, 4, 5] (by decide) rfl)⟩ ?_ ?_
        · rintro ⟨i2469, i2470, l2471, l2472⟩ x2475 env2476 w2477 hf2478 hr2479 ⟨v2473, hs_, hm_⟩
          have hs_ : Sub [(3, (Value.pointer (some ⟨g4, 0, none⟩))), (4, v11), (5, v12), (6, v19), (8, (Value.int .i64 i1809)), (9, v2473), (10, v1828), (11, (Value.int .i64 i2469))] env2476 := hs_
          have hm2483 : Mem w No [ownL 41 v2473 (l2472 : List T_Pair), ownL 4 v1828 (l2471 : List Bool), ownL 41 v19 (r16.1 : List T_Pair), ownL 37 v11 (r8.2.1 : List T_Task), ownL 39 v12 (r8.2.2 : List T_Crew), blk g4 58 [v0, (Value.int .i64 i2470)]] w2477 := hm_
          refine cw_sub hs_ ?_
          clear hs_ hm_ q2482
          have h : law40_CrewMost_l15 N a0 r8 i2469 i2470 l2471 l2472 = some x2475 := hf2478
          clear hf2478
          refine cw_seq ?_
          refine cw_seq ?_
          refine cw_region ?_
          refine t_rd rfl (rd_move rfl) ?_
          refine t_rd rfl (rd_move rfl) ?_
          refine t_rd rfl (rd_lenS tS25 rfl (hm2483.sl 3 rfl)) ?_
          refine t_rd rfl (rd_lss rfl rfl) ?_
          refine rwt_nil ?_
          refine qn_then ?_
          obtain ⟨hb2484, q2485⟩ | ⟨hb2484, q2485⟩ := oi h <;> clear h
          · refine cw_t rfl hb2484 ?_
            refine cw_skip ?_
            refine qn_then ?_
            refine cw_seq ?_
            refine cw_block ?_
            refine cw_seq ?_
            refine cw_region ?_
            refine t_rd rfl (rd_assign rfl) ?_
            refine rwt_nil ?_
            refine qn_then ?_
            refine cw_block ?_
            obtain ⟨r2620, hit2621, q2622⟩ := ob q2485; clear q2485
            refine cw_loop2 (I := fun q envq wq => Sub [(3, (Value.pointer (some ⟨g4, 0, none⟩))), (4, v11), (5, v12), (6, v19), (8, (Value.int .i64 i1809)), (9, v2473), (10, v1828), (11, (Value.int .i64 i2469)), (12, (Value.int .i64 q.1))] envq ∧ Mem w No [ownL 41 v2473 (l2472 : List T_Pair), ownL 4 v1828 (l2471 : List Bool), ownL 41 v19 (r16.1 : List T_Pair), ownL 37 v11 (r8.2.1 : List T_Task), ownL 39 v12 (r8.2.2 : List T_Crew), blk g4 58 [v0, (Value.int .i64 q.2)]] wq) (X := fun eq envq wq => eq = .exit 4 ∧ ∃ (v2611 : Value), Sub [(3, (Value.pointer (some ⟨g4, 0, none⟩))), (4, v11), (5, v12), (6, v19), (8, (Value.int .i64 i1809)), (9, v2611), (10, v1828), (11, (Value.int .i64 i2469))] envq ∧ Mem w No [ownL 41 v2611 (r2620.2.2 : List T_Pair), ownL 4 v1828 (r2620.2.1 : List Bool), ownL 41 v19 (r16.1 : List T_Pair), ownL 37 v11 (r8.2.1 : List T_Task), ownL 39 v12 (r8.2.2 : List T_Crew), blk g4 58 [v0, (Value.int .i64 r2620.1)]] wq) hit2621 ⟨(by repeat (first | exact Sub.nil _ | refine Sub.cons rfl ?_)), (hm2483.pick [0, 1, 2, 3, 4, 5] (by decide) rfl)⟩ ?_ ?_
            · rintro ⟨i2612, i2613⟩ x2615 env2616 w2617 hf2618 hr2619 ⟨hs_, hm_⟩
              have hs_ : Sub [(3, (Value.pointer (some ⟨g4, 0, none⟩))), (4, v11), (5, v12), (6, v19), (8, (Value.int .i64 i1809)), (9, v2473), (10, v1828), (11, (Value.int .i64 i2469)), (12, (Value.int .i64 i2612))] env2616 := hs_
              have hm2623 : Mem w No [ownL 41 v2473 (l2472 : List T_Pair), ownL 4 v1828 (l2471 : List Bool), ownL 41 v19 (r16.1 : List T_Pair), ownL 37 v11 (r8.2.1 : List T_Task), ownL 39 v12 (r8.2.2 : List T_Crew), blk g4 58 [v0, (Value.int .i64 i2613)]] w2617 := hm_
              refine cw_sub hs_ ?_
              clear hs_ hm_ q2622
              have h : law40_CrewMost_l16 N a0 r8 i2469 l2471 l2472 i2612 i2613 = some x2615 := hf2618
              clear hf2618
              refine cw_seq ?_
              refine cw_seq ?_
              refine cw_region ?_
              refine t_rd rfl (rd_move rfl) ?_
              refine t_rd rfl (rd_lss rfl rfl) ?_
              refine t_rd rfl (rd_move rfl) ?_
              refine t_rdg rfl rfl rfl rfl (gv_t _) (fun hg2624 => (rd_move rfl)) ?_
              refine t_rdg rfl rfl rfl rfl (gv_t _) (fun hg2625 => (rd_lenS tS26 (gvx rfl hg2625) (hm2623.sl 4 rfl))) ?_
              refine t_rdg rfl rfl rfl rfl (gv_t _) (fun hg2626 => (rd_gtr (gvx rfl hg2626) rfl)) ?_
              refine t_rd rfl (rd_and rfl (fun hc2627 => (gvx rfl hc2627))) ?_
              refine rwt_nil ?_
              refine qn_then ?_
              obtain ⟨hb2628, q2629⟩ | ⟨hb2628, q2629⟩ := oi h <;> clear h
              · refine cw_t rfl hb2628 ?_
                refine cw_skip ?_
                refine qn_then ?_
                refine cw_seq ?_
                refine cw_block ?_
                refine cw_seq ?_
                refine cw_region ?_
                refine t_rd rfl (rd_move rfl) ?_
                refine t_rd rfl (rd_move rfl) ?_
                refine t_rd rfl (rd_lenS tS26 rfl (hm2623.sl 4 rfl)) ?_
                obtain ⟨r2630, h2631, q2632⟩ := ob q2629; clear q2629
                refine t_ef rfl (ef_call tf10 rfl (Maker_Next_ok h2631 (hv0.to_callT (k := 5) hm2623 rfl) (hm2623.get (k := 5) rfl))) ?_
                rintro _ w2634 ⟨e_, hm2633⟩
                obtain rfl := e_.symm
                have hm2635 := hm2623.callT (k := 5) rfl (fun _ h => h) hm2633 (fun _ => Iff.rfl)
                refine t_rd rfl (rd_assign rfl) ?_
                refine rwt_nil ?_
                refine qn_then ?_
                refine cw_seq ?_
                obtain ⟨w2637, he2639⟩ : ∃ q, q = w2634.drew := ⟨_, rfl⟩
                have hm2638 := hm2635.drew; rw [← he2639] at hm2638
                refine cw_region_s (fun q => q = w2637) (cls [] [14]) mixed ?_
                rintro _ rfl; rw [← he2639]
                refine s_rp (i := 0) rfl (by kernel_rfl) rfl (fun _ => (rd_move rfl)) ?_
                refine s_rp (i := 1) rfl (by kernel_rfl) rfl (fun _ => (rd_move rfl)) ?_
                obtain ⟨x2640, h2641, q2642⟩ := ob q2632; clear q2632
                refine s_rp (i := 2) rfl (by kernel_rfl) rfl (fun _ => (rd_index tS33 rfl rfl (hm2638.sl 1 rfl) h2641)) ?_
                refine s_rd (i := 3) rfl (by kernel_rfl) rfl (fun _ hS => by rw [hS]; exact (rd_ld1 tO4 rfl ((hm2638.sl 1 rfl).cells h2641) (off := 0) rfl)) rfl ?_
                refine s_rp (i := 4) rfl (by kernel_rfl) rfl (fun _ => (rd_not rfl)) ?_
                refine s_rp (i := 5) rfl (by kernel_rfl) rfl (fun _ => (rd_move rfl)) ?_
                refine s_rpg (i := 6) rfl (by kernel_rfl) rfl rfl rfl rfl (gv_t _) (fun hg2643 _ => (rd_move rfl)) ?_
                refine s_rpg (i := 7) rfl (by kernel_rfl) rfl rfl rfl rfl (gv_t _) (fun hg2644 _ => (rd_move rfl)) ?_
                obtain ⟨x2646, h2647, q2648⟩ := ob q2642; clear q2642
                refine s_rpg (i := 8) rfl (by kernel_rfl) rfl rfl rfl rfl (gv_t _) (fun hg2645 _ => (rd_index tS25 (gvx rfl hg2645) (gvx rfl hg2645) (hm2638.sl 3 rfl) (gO_t h2647 hg2645))) ?_
                refine s_rdg (i := 9) rfl (by kernel_rfl) rfl rfl rfl rfl (gv_t _) (fun hg2649 => (fun _ hS => by rw [hS]; exact (rd_ld tA37 (gvx rfl hg2649) ((hm2638.sl 3 rfl).cells (gO_t h2647 hg2649)) rfl))) rfl ?_
                refine s_rpg (i := 10) rfl (by kernel_rfl) rfl rfl rfl rfl (gv_t _) (fun hg2650 _ => (rd_move rfl)) ?_
                refine s_rpg (i := 11) rfl (by kernel_rfl) rfl rfl rfl rfl (gv_t _) (fun hg2651 _ => (rd_move rfl)) ?_
                obtain ⟨x2653, h2654, q2655⟩ := ob q2648; clear q2648
                refine s_rpg (i := 12) rfl (by kernel_rfl) rfl rfl rfl rfl (gv_t _) (fun hg2652 _ => (rd_index tS26 (gvx rfl hg2652) (gvx rfl hg2652) (hm2638.sl 4 rfl) (gO_t h2654 hg2652))) ?_
                refine s_rdg (i := 13) rfl (by kernel_rfl) rfl rfl rfl rfl (gv_t _) (fun hg2656 => (fun _ hS => by rw [hS]; exact (rd_ld tA39 (gvx rfl hg2656) ((hm2638.sl 4 rfl).cells (gO_t h2654 hg2656)) rfl))) rfl ?_
                obtain ⟨r2658, h2659, q2660⟩ := ob q2655; clear q2655
                refine s_efg (i := 14) rfl (by kernel_rfl) rfl rfl rfl rfl (R := (fun v w' => v = gV (!x2640) (Value.bool r2658) ∧ Mem w2637 No [] w')) (gv_t _) (fun hg2657 => (ef_call tf11 (evc (gvx rfl hg2657) (evc (gvx rfl hg2657) evn)) (r40_Fits_ok (gO_t h2659 hg2657))).mono (by rintro _ _ ⟨rfl, q⟩; exact ⟨(gV_t hg2657).symm, q⟩)) (fun q => ⟨(gV_f q).symm, Mem.nil _⟩) (by decide) (fun _ _ _ q => absurd q (by decide)) ?_
                rintro _ w2662 ⟨rfl, hm2661⟩
                have hm2663 := hm2638.call hm2661
                refine s_rp (i := 15) rfl (by kernel_rfl) rfl (fun _ => (rd_and rfl (fun hc2664 => (gvx rfl hc2664)))) ?_
                refine s_nil (by kernel_rfl) ?_
                refine qn_then ?_
                obtain ⟨hb2665, q2666⟩ | ⟨hb2665, q2666⟩ := oi q2660 <;> clear q2660
                · refine cw_t rfl hb2665 ?_
                  refine cw_seq ?_
                  refine cw_region ?_
                  refine t_rd rfl (rd_move rfl) ?_
                  refine t_rd rfl (rd_move rfl) ?_
                  refine t_rd rfl (rd_move rfl) ?_
                  refine t_rd rfl (rd_move rfl) ?_
                  refine t_rd rfl (rd_move rfl) ?_
                  refine t_rd rfl (rd_build (cs := #[(Value.int .i64 i2469), (Value.int .i64 r2630.2)]) rfl (by kernel_rfl)) ?_
                  refine t_ef rfl (ef_bslice (l := ([(T_Pair.mk i2469 r2630.2)] : List T_Pair)) hm2663 tS29 rfl (cs := #[(Value.int .i64 i2469), (Value.int .i64 r2630.2)]) (by unfold bsl; kernel_rfl) rfl rfl) ?_
                  intro v2667 w2669 hm2668
                  obtain ⟨l2670, h2671, q2672⟩ := ob q2666; clear q2666
                  refine t_ef rfl (ef_append (k := 1) hm2668 tS29 tE41 rfl rfl rfl rfl (hm2668.sl 0 rfl) h2671) ?_
                  intro v2673 w2675 hm2674
                  refine t_rd rfl (rd_assign rfl) ?_
                  obtain ⟨x2676, h2677, q2678⟩ := ob q2672; clear q2672
                  refine t_rd rfl (rd_index tS33 rfl rfl (hm2674.sl 2 rfl) h2677) ?_
                  refine t_ef0 (ef_stl (k := 2) (off := 0) (x' := true) hm2674 tO4 rfl rfl rfl rfl h2677 rfl rfl) ?_
                  intro _ w2680 hm2679
                  refine rwt_nil ?_
                  refine qn_then ?_
                  refine cw_exit ?_
                  refine qx_other rfl (qx_then (qx_then ?_))
                  obtain rfl := hr2619 _ (os q2678)
                  exact ⟨rfl, v2673, (by repeat (first | exact Sub.nil _ | refine Sub.cons rfl ?_)), (hm2679.pick [1, 2, 3, 4, 5, 6] (by decide) rfl)⟩
                · refine cw_f rfl hb2665 ?_
                  refine cw_skip ?_
                  refine qn_block (qn_then ?_)
                  refine cw_region ?_
                  refine t_rd rfl (rd_move rfl) ?_
                  obtain ⟨x2681, h2682, q2683⟩ := ob q2666; clear q2666
                  refine t_rd rfl (rd_add64 h2682 rfl rfl) ?_
                  refine t_rd rfl (rd_assign rfl) ?_
                  refine rwt_nil ?_
                  refine qn_then ?_
                  refine ⟨_, (os q2683), (by repeat (first | exact Sub.nil _ | refine Sub.cons rfl ?_)), (hm2663.pick [0, 1, 2, 3, 4, 5] (by decide) rfl)⟩
              · refine cw_f rfl hb2628 ?_
                refine cw_exit ?_
                refine qx_then (qx_then ?_)
                obtain rfl := hr2619 _ (os q2629)
                exact ⟨rfl, v2473, (by repeat (first | exact Sub.nil _ | refine Sub.cons rfl ?_)), (hm2623.pick [0, 1, 2, 3, 4, 5] (by decide) rfl)⟩
            · skip
              intro e env2684 w2685 hX2686
              obtain ⟨rfl, v2611, hs2687, hm2688⟩ := hX2686
              refine qx_same (qn_block (qn_then ?_))
              refine cw_sub hs2687 ?_
              refine cw_region ?_
              refine t_rd rfl (rd_move rfl) ?_
              obtain ⟨x2689, h2690, q2691⟩ := ob q2622; clear q2622
              refine t_rd rfl (rd_add64 h2690 rfl rfl) ?_
              refine t_rd rfl (rd_assign rfl) ?_
              refine rwt_nil ?_
              refine qn_then ?_
              refine ⟨_, (os q2691), v2611, (by repeat (first | exact Sub.nil _ | refine Sub.cons rfl ?_)), (hm2688.pick [0, 1, 2, 3, 4, 5] (by decide) rfl)⟩
          · refine cw_f rfl hb2484 ?_
            refine cw_exit ?_
            refine qx_then (qx_then ?_)
            obtain rfl := hr2479 _ (os q2485)
            exact ⟨rfl, v2473, (by repeat (first | exact Sub.nil _ | refine Sub.cons rfl ?_)), (hm2483.pick [0, 2, 3, 4, 5] (by decide) rfl)⟩
        · skip
          intro e env2692 w2693 hX2694
          obtain ⟨rfl, v2468, hs2695, hm2696⟩ := hX2694
          refine qx_same (qn_then ?_)
          refine cw_sub hs2695 ?_
          refine cw_seq ?_
          refine cw_region ?_
          refine t_rd rfl (rd_move rfl) ?_
          refine t_rd rfl (rd_move rfl) ?_
          refine t_rd rfl (rd_move rfl) ?_
          obtain ⟨r2697, h2698, q2699⟩ := ob q2482; clear q2482
          refine t_ef rfl (ef_call tf12 rfl (r40_Matching_ok h2698 (hm2696.sl_call 2 rfl) (hm2696.sl_call 3 rfl) (hm2696.sl_call 0 rfl))) ?_
          rintro _ w2701 ⟨e_, hm2700⟩
          obtain rfl := e_.symm
          have hm2702 := hm2696.call hm2700
          refine t_rd rfl (rd_not rfl) ?_
          refine t_rd rfl (rd_move rfl) ?_
          refine t_rdg rfl rfl rfl rfl (gv_f _) (fun hg2703 => (rd_move rfl)) ?_
          refine t_rdg rfl rfl rfl rfl (gv_f _) (fun hg2704 => (rd_lenS tS29 (gvx rfl hg2704) (hm2702.sl 0 rfl))) ?_
          refine t_rdg rfl rfl rfl rfl (gv_f _) (fun hg2705 => (rd_move rfl)) ?_
          refine t_rdg rfl rfl rfl rfl (gv_f _) (fun hg2706 => (rd_lenS tS29 (gvx rfl hg2706) (hm2702.sl 1 rfl))) ?_
          refine t_rdg rfl rfl rfl rfl (gv_f _) (fun hg2707 => (rd_gtr (gvx rfl hg2707) (gvx rfl hg2707))) ?_
          refine t_rd rfl (rd_or rfl (fun hc2708 => (gvx rfl (bnotIt hc2708)))) ?_
          refine rwt_nil ?_
          refine qn_then ?_
          obtain ⟨hb2709, q2710⟩ | ⟨hb2709, q2710⟩ := oi q2699 <;> clear q2699
          · refine cw_t rfl hb2709 ?_
            refine cw_seq ?_
            refine cw_region ?_
            refine t_rd rfl (rd_assign rfl) ?_
            refine rwt_nil ?_
            refine qn_then ?_
            refine cw_ret ?_
            refine qr_block (qr_then (qr_then ?_))
            obtain rfl := hr1816 _ (os q2710)
            refine .inl (⟨_, rfl, ⟨rfl, ?_⟩⟩)
            exact ret1 rfl rfl ⟨rfl, (hm2702.pick [] (by decide) rfl)⟩
          · refine cw_f rfl hb2709 ?_
            refine cw_skip ?_
            refine qn_block (qn_then ?_)
            refine cw_region ?_
            refine t_rd rfl (rd_move rfl) ?_
            obtain ⟨x2711, h2712, q2713⟩ := ob q2710; clear q2710
            refine t_rd rfl (rd_add64 h2712 rfl rfl) ?_
            refine t_rd rfl (rd_assign rfl) ?_
            refine rwt_nil ?_
            refine qn_then ?_
            refine ⟨_, (os q2713), (by repeat (first | exact Sub.nil _ | refine Sub.cons rfl ?_)), (hm2702.pick [1, 2, 3, 4] (by decide) rfl)⟩
      · refine cw_f rfl hb1823 ?_
        refine cw_exit ?_
        refine qx_then (qx_then ?_)
        obtain rfl := hr1816 _ (os q1824)
        exact .inr (⟨_, rfl, ⟨rfl, (by repeat (first | exact Sub.nil _ | refine Sub.cons rfl ?_)), (hm1822.pick [] (by decide) rfl)⟩⟩)
    · skip
      intro e env2714 w2715 hX2716
      rcases hX2716 with hX2716 | hX2716
      · obtain ⟨p2718, rfl, hX2716⟩ := hX2716
        obtain ⟨rfl, hq2720⟩ := hX2716
        exact qr_block (qr_then ((by have e := os q1819; subst e; exact hq2720)))
      · obtain ⟨p2721, rfl, hX2716⟩ := hX2716
        obtain ⟨rfl, hs2722, hm2723⟩ := hX2716
        refine qx_same (qn_then ?_)
        refine cw_sub hs2722 ?_
        refine cw_seq ?_
        refine cw_region ?_
        obtain ⟨r2724, h2725, q2726⟩ := ob q1819; clear q1819
        refine t_ef rfl (ef_call tf13 rfl (law40_sane_ok h2725)) ?_
        rintro _ w2728 ⟨e_, hm2727⟩
        obtain rfl := e_.symm
        have hm2729 := hm2723.call hm2727
        refine t_rd rfl (rd_assign rfl) ?_
        refine rwt_nil ?_
        refine qn_then ?_
        refine cw_ret ?_
        obtain rfl := os q2726
        exact ret1 rfl rfl ⟨rfl, (hm2729.pick [] (by decide) rfl)⟩

theorem yardgen_Place_ok {N : Nat} {a0 : Int} {a1 : Int} {res : Int} (h : yardgen_Place N a0 a1 = some res) {w : World}   :
    CallsR Try.prog 15 [(Value.int .i64 a0), (Value.int .i64 a1)] w (fun u w' => u = (Value.int .i64 res) ∧ Mem w No [] w') := by
  unfold yardgen_Place at h
  refine fn_ok Try.func15 rfl rfl rfl ?_
  have hm0 := Mem.nil w
  refine cw_seq ?_
  refine cw_region ?_
  refine t_rd rfl (rd_assign rfl) ?_
  refine rwt_nil ?_
  refine qn_then ?_
  refine cw_seq ?_
  refine cw_seq ?_
  refine cw_region ?_
  refine t_rd rfl (rd_move rfl) ?_
  refine t_rd rfl (rd_lss rfl rfl) ?_
  refine rwt_nil ?_
  refine qn_then ?_
  obtain ⟨hb1, q2⟩ | ⟨hb1, q2⟩ := oi h <;> clear h
  · refine cw_t rfl hb1 ?_
    refine cw_seq ?_
    refine cw_region ?_
    refine t_rd rfl (rd_assign rfl) ?_
    refine rwt_nil ?_
    refine qn_then ?_
    refine cw_ret ?_
    refine qr_then ?_
    obtain rfl := os q2
    exact ret1 rfl rfl ⟨rfl, (hm0.pick [] (by decide) rfl)⟩
  · refine cw_f rfl hb1 ?_
    refine cw_skip ?_
    refine qn_then ?_
    refine cw_seq ?_
    refine cw_region ?_
    refine t_rd rfl (rd_move rfl) ?_
    refine t_rd rfl (rd_move rfl) ?_
    obtain ⟨x3, h4, q5⟩ := ob q2; clear q2
    refine t_rd rfl (rd_rem64 h4 rfl rfl) ?_
    refine t_rd rfl (rd_assign rfl) ?_
    refine rwt_nil ?_
    refine qn_then ?_
    refine cw_seq ?_
    refine cw_seq ?_
    refine cw_region ?_
    refine t_rd rfl (rd_move rfl) ?_
    refine t_rd rfl (rd_lss rfl rfl) ?_
    refine rwt_nil ?_
    refine qn_then ?_
    obtain ⟨hb6, q7⟩ | ⟨hb6, q7⟩ := oi q5 <;> clear q5
    · refine cw_t rfl hb6 ?_
      refine cw_region ?_
      refine t_rd rfl (rd_move rfl) ?_
      refine t_rd rfl (rd_move rfl) ?_
      obtain ⟨x8, h9, q10⟩ := ob q7; clear q7
      refine t_rd rfl (rd_add64 h9 rfl rfl) ?_
      refine t_rd rfl (rd_assign rfl) ?_
      refine rwt_nil ?_
      refine qn_then ?_
      refine cw_seq ?_
      refine cw_region ?_
      refine t_rd rfl (rd_move rfl) ?_
      refine t_rd rfl (rd_assign rfl) ?_
      refine rwt_nil ?_
      refine qn_then ?_
      refine cw_ret ?_
      obtain rfl := os q10
      exact ret1 rfl rfl ⟨rfl, (hm0.pick [] (by decide) rfl)⟩
    · refine cw_f rfl hb6 ?_
      refine cw_skip ?_
      refine qn_then ?_
      refine cw_seq ?_
      refine cw_region ?_
      refine t_rd rfl (rd_move rfl) ?_
      refine t_rd rfl (rd_assign rfl) ?_
      refine rwt_nil ?_
      refine qn_then ?_
      refine cw_ret ?_
      obtain rfl := os q7
      exact ret1 rfl rfl ⟨rfl, (hm0.pick [] (by decide) rfl)⟩

theorem law40_CrewGrows_ok {N : Nat} {a0 : List Int} {a1 : Int} {res : Bool} (h : law40_CrewGrows N a0 a1 = some res) {w : World} {v0 : Value} (hv0 : Sl (Old w No) w v0 a0) :
    CallsR Try.prog 4 [v0, (Value.int .i64 a1)] w (fun u w' => u = (Value.bool res) ∧ Mem w No [] w') := by
  unfold law40_CrewGrows at h
  refine fn_ok Try.func4 rfl rfl rfl ?_
  have hm0 := Mem.nil w
  refine cw_seq ?_
  refine cw_region ?_
  refine t_rd rfl (rd_assign rfl) ?_
  refine rwt_nil ?_
  refine qn_then ?_
  refine cw_seq ?_
  refine cw_region ?_
  refine t_rd rfl (rd_move rfl) ?_
  obtain ⟨r1, h2, q3⟩ := ob h; clear h
  refine t_ef rfl (ef_call tf7 rfl (humpgen_New_ok h2 (hv0.to_call hm0))) ?_
  rintro _ w6 ⟨g4, e_, hm5⟩
  obtain rfl := e_.symm
  have hm7 := hm0.call hm5
  refine t_rd rfl (rd_assign rfl) ?_
  refine rwt_nil ?_
  refine qn_then ?_
  refine cw_seq ?_
  refine cw_region ?_
  refine t_rd rfl (rd_move rfl) ?_
  obtain ⟨r8, h9, q10⟩ := ob q3; clear q3
  refine t_ef rfl (ef_call tf8 rfl (law40_made_ok h9 (hv0.to_callT (k := 0) hm7 rfl) (hm7.get (k := 0) rfl))) ?_
  rintro _ w14 ⟨v11, v12, e_, hm13⟩
  obtain rfl := e_.symm
  have hm15 := hm7.callT (k := 0) rfl (fun _ h => h) hm13 (fun _ => Iff.rfl)
  refine t_rd rfl (rd_move rfl) ?_
  refine t_rd rfl (rd_extract rfl rfl) ?_
  refine t_rd rfl (rd_extract rfl rfl) ?_
  refine t_rd rfl (rd_assign rfl) ?_
  refine t_rd rfl (rd_assign rfl) ?_
  refine rwt_nil ?_
  refine qn_then ?_
  refine cw_seq ?_
  refine cw_region ?_
  refine t_rd rfl (rd_move rfl) ?_
  refine t_rd rfl (rd_move rfl) ?_
  obtain ⟨r16, h17, q18⟩ := ob q10; clear q10
  refine t_ef rfl (ef_call tf9 rfl (crew_Assign_ok h17 (hm15.sl_call 0 rfl) (hm15.sl_call 1 rfl))) ?_
  rintro _ w21 ⟨v19, e_, hm20⟩
  obtain rfl := e_.symm
  have hm22 := hm15.call hm20
  refine t_rd rfl (rd_move rfl) ?_
  refine t_rd rfl (rd_extract rfl rfl) ?_
  refine t_rd rfl (rd_extract rfl rfl) ?_
  refine t_rd rfl (rd_assign rfl) ?_
  refine t_rd rfl (rd_assign rfl) ?_
  refine rwt_nil ?_
  refine qn_then ?_
  refine cw_seq ?_
  refine cw_region ?_
  refine t_ef rfl (ef_bslice0 (α := T_Crew) hm22 tS26) ?_
  intro v23 w25 hm24
  refine t_rd rfl (rd_move rfl) ?_
  obtain ⟨l26, h27, q28⟩ := ob q18; clear q18
  refine t_ef rfl (ef_append (k := 0) hm24 tS26 tE39 rfl rfl rfl rfl (hm24.sl 3 rfl) h27) ?_
  intro v29 w31 hm30
  refine t_rd rfl (rd_move rfl) ?_
  obtain ⟨r32, h33, q34⟩ := ob q28; clear q28
  refine t_ef rfl (ef_call tf10 rfl (Maker_Next_ok h33 (hv0.to_callT (k := 4) hm30 rfl) (hm30.get (k := 4) rfl))) ?_
  rintro _ w36 ⟨e_, hm35⟩
  obtain rfl := e_.symm
  have hm37 := hm30.callT (k := 4) rfl (fun _ h => h) hm35 (fun _ => Iff.rfl)
  refine t_rd rfl (rd_move rfl) ?_
  obtain ⟨r38, h39, q40⟩ := ob q34; clear q34
  refine t_ef rfl (ef_call tf10 rfl (Maker_Next_ok h39 (hv0.to_callT (k := 4) hm37 rfl) (hm37.get (k := 4) rfl))) ?_
  rintro _ w42 ⟨e_, hm41⟩
  obtain rfl := e_.symm
  have hm43 := hm37.callT (k := 4) rfl (fun _ h => h) hm41 (fun _ => Iff.rfl)
  obtain ⟨x44, h45, q46⟩ := ob q40; clear q40
  refine t_rd rfl (rd_add64 h45 rfl rfl) ?_
  refine t_rd rfl (rd_move rfl) ?_
  refine t_ef rfl (ef_bslice (l := ([5, 90] : List Int)) hm43 tS22 rfl (cs := #[(Value.int .i64 5), (Value.int .i64 90)]) (by unfold bsl; kernel_rfl) rfl rfl) ?_
  intro v47 w49 hm48
  obtain ⟨r50, h51, q52⟩ := ob q46; clear q46
  refine t_ef rfl (ef_call tf14 rfl (Maker_Pick_ok h51 (hv0.to_callT (k := 5) hm48 rfl) (hm48.get (k := 5) rfl) (hm48.sl_callT 0 5 rfl rfl (by decide)))) ?_
  rintro _ w54 ⟨e_, hm53⟩
  obtain rfl := e_.symm
  have hm55 := hm48.callT (k := 5) rfl (fun _ h => h) hm53 (fun _ => Iff.rfl)
  refine t_rd rfl (rd_build (cs := #[(Value.int .i64 r32.2), (Value.int .i64 x44), (Value.int .i64 r50.2)]) rfl (by kernel_rfl)) ?_
  refine t_ef rfl (ef_bslice (l := ([(T_Crew.mk r32.2 x44 r50.2)] : List T_Crew)) hm55 tS26 rfl (cs := #[(Value.int .i64 r32.2), (Value.int .i64 x44), (Value.int .i64 r50.2)]) (by unfold bsl; kernel_rfl) rfl rfl) ?_
  intro v56 w58 hm57
  obtain ⟨l59, h60, q61⟩ := ob q52; clear q52
  refine t_ef rfl (ef_append (k := 2) hm57 tS26 tE39 rfl rfl rfl rfl (hm57.sl 0 rfl) h60) ?_
  intro v62 w64 hm63
  refine t_rd rfl (rd_assign rfl) ?_
  refine rwt_nil ?_
  refine qn_then ?_
  refine cw_seq ?_
  refine cw_region ?_
  refine t_rd rfl (rd_move rfl) ?_
  refine t_rd rfl (rd_move rfl) ?_
  obtain ⟨r65, h66, q67⟩ := ob q61; clear q61
  refine t_ef rfl (ef_call tf9 rfl (crew_Assign_ok h66 (hm63.sl_call 4 rfl) (hm63.sl_call 2 rfl))) ?_
  rintro _ w70 ⟨v68, e_, hm69⟩
  obtain rfl := e_.symm
  have hm71 := hm63.call hm69
  refine t_rd rfl (rd_move rfl) ?_
  refine t_rd rfl (rd_extract rfl rfl) ?_
  refine t_rd rfl (rd_extract rfl rfl) ?_
  refine t_rd rfl (rd_assign rfl) ?_
  refine t_rd rfl (rd_assign rfl) ?_
  refine rwt_nil ?_
  refine qn_then ?_
  refine cw_seq ?_
  refine cw_region ?_
  refine t_ef rfl (ef_bslice0 (α := T_Crew) hm71 tS26) ?_
  intro v72 w74 hm73
  refine t_rd rfl (rd_move rfl) ?_
  obtain ⟨l75, h76, q77⟩ := ob q67; clear q67
  refine t_ef rfl (ef_append (k := 0) hm73 tS26 tE39 rfl rfl rfl rfl (hm73.sl 7 rfl) h76) ?_
  intro v78 w80 hm79
  refine t_rd rfl (rd_assign rfl) ?_
  refine rwt_nil ?_
  refine qn_then ?_
  refine cw_seq ?_
  refine cw_seq ?_
  refine cw_region ?_
  refine t_rd rfl (rd_move rfl) ?_
  refine t_rd rfl (rd_lenS tS26 rfl (hm79.sl 0 rfl)) ?_
  refine t_rd rfl (rd_gtr rfl rfl) ?_
  refine rwt_nil ?_
  refine qn_then ?_
  obtain ⟨j151, hit152, q153⟩ := ob q77; clear q77
  refine cw_join (X := fun eq envq wq => eq = .normal ∧ Sub [(6, v11), (8, v19), (9, (Value.int .i64 r16.2)), (11, v68), (12, (Value.int .i64 r65.2)), (13, v78)] envq ∧ Mem w No [ownL 39 v78 (j151 : List T_Crew), ownL 41 v68 (r65.1 : List T_Pair), ownL 41 v19 (r16.1 : List T_Pair), ownL 37 v11 (r8.2.1 : List T_Task)] wq) ?_ ?_
  · clear q153
    obtain ⟨hb154, q155⟩ | ⟨hb154, q155⟩ := oi hit152 <;> clear hit152
    · refine cw_t rfl hb154 ?_
      refine cw_seq ?_
      refine cw_region ?_
      refine t_rd rfl (rd_move rfl) ?_
      refine t_rd rfl (rd_move rfl) ?_
      refine t_rd rfl (rd_move rfl) ?_
      refine t_rd rfl (rd_lenS tS26 rfl (hm79.sl 0 rfl)) ?_
      obtain ⟨r156, h157, q158⟩ := ob q155; clear q155
      refine t_ef rfl (ef_call tf15 rfl (yardgen_Place_ok h157)) ?_
      rintro _ w160 ⟨e_, hm159⟩
      obtain rfl := e_.symm
      have hm161 := hm79.call hm159
      obtain ⟨x162, h163, q164⟩ := ob q158; clear q158
      refine t_rd rfl (rd_index tS26 rfl rfl (hm161.sl 0 rfl) h163) ?_
      refine t_rd rfl (rd_assign rfl) ?_
      refine rwt_nil ?_
      refine qn_then ?_
      obtain ⟨w166, he168⟩ : ∃ q, q = w160.drew := ⟨_, rfl⟩
      have hm167 := hm161.drew; rw [← he168] at hm167
      refine cw_region_s (fun q => (ownL 39 v78 (l75 : List T_Crew)).φ q) (cls [13, 20] [24, 27, 30]) mixed ?_
      rintro _ rfl; rw [← he168]
      refine s_rp (i := 0) rfl (by kernel_rfl) rfl (fun _ => (rd_move rfl)) ?_
      refine s_rp (i := 1) rfl (by kernel_rfl) rfl (fun _ => (rd_move rfl)) ?_
      refine s_rp (i := 2) rfl (by kernel_rfl) rfl (fun _ => (rd_move rfl)) ?_
      refine s_rp (i := 3) rfl (by kernel_rfl) rfl (fun _ => (rd_move rfl)) ?_
      refine s_rp (i := 4) rfl (by kernel_rfl) rfl (fun _ => (rd_nilCheck rfl)) ?_
      refine s_rp (i := 5) rfl (by kernel_rfl) rfl (fun _ => (rd_fld tF39_0 rfl)) ?_
      refine s_rd (i := 6) rfl (by kernel_rfl) rfl (fun w165 hS => (rd_ld1 tO3 rfl ((sl_of_own hS).cells h163) (off := 0) rfl)) (hm167.get (k := 0) rfl) ?_
      obtain ⟨x196, h197, q198⟩ := ob q164; clear q164
      refine s_rp (i := 7) rfl (by kernel_rfl) rfl (fun _ => (rd_quo64 h197 rfl rfl)) ?_
      refine s_rp (i := 8) rfl (by kernel_rfl) rfl (fun _ => (rd_move rfl)) ?_
      refine s_rp (i := 9) rfl (by kernel_rfl) rfl (fun _ => (rd_nilCheck rfl)) ?_
      refine s_rp (i := 10) rfl (by kernel_rfl) rfl (fun _ => (rd_fld tF39_1 rfl)) ?_
      refine s_rd (i := 11) rfl (by kernel_rfl) rfl (fun w165 hS => (rd_ld1 tO3 rfl ((sl_of_own hS).cells h163) (off := 1) rfl)) (hm167.get (k := 0) rfl) ?_
      refine s_rp (i := 12) rfl (by kernel_rfl) rfl (fun _ => (rd_move rfl)) ?_
      refine s_rp (i := 15) rfl (by kernel_rfl) rfl (fun _ => (rd_move rfl)) ?_
      refine s_rp (i := 16) rfl (by kernel_rfl) rfl (fun _ => (rd_nilCheck rfl)) ?_
      refine s_rp (i := 17) rfl (by kernel_rfl) rfl (fun _ => (rd_fld tF39_2 rfl)) ?_
      refine s_rd (i := 18) rfl (by kernel_rfl) rfl (fun w165 hS => (rd_ld1 tO3 rfl ((sl_of_own hS).cells h163) (off := 2) rfl)) (hm167.get (k := 0) rfl) ?_
      refine s_rp (i := 19) rfl (by kernel_rfl) rfl (fun _ => (rd_move rfl)) ?_
      obtain ⟨r199, h200, q201⟩ := ob q198; clear q198
      refine s_ef (i := 13) rfl (by kernel_rfl) rfl (ef_call tf10 rfl (Maker_Next_ok h200 (hv0.to_callT (k := 8) hm167 rfl) (hm167.get (k := 8) rfl))) (by decide) ?_ ?_
      · rintro _ w203 ⟨e_, hm202⟩
        obtain rfl := e_.symm
        have hm204 := hm167.callT (k := 8) rfl (fun _ h => h) hm202 (fun _ => Iff.rfl)
        intro _
        exact (hm204.get (k := 0) rfl)
      rintro _ w203 ⟨e_, hm202⟩
      obtain rfl := e_.symm
      have hm204 := hm167.callT (k := 8) rfl (fun _ h => h) hm202 (fun _ => Iff.rfl)
      obtain ⟨x205, h206, q207⟩ := ob q201; clear q201
      refine s_rp (i := 14) rfl (by kernel_rfl) rfl (fun _ => (rd_add64 h206 rfl rfl)) ?_
      obtain ⟨r208, h209, q210⟩ := ob q207; clear q207
      refine s_ef (i := 20) rfl (by kernel_rfl) rfl (ef_call tf10 rfl (Maker_Next_ok h209 (hv0.to_callT (k := 8) hm204 rfl) (hm204.get (k := 8) rfl))) (by decide) ?_ ?_
      · rintro _ w212 ⟨e_, hm211⟩
        obtain rfl := e_.symm
        have hm213 := hm204.callT (k := 8) rfl (fun _ h => h) hm211 (fun _ => Iff.rfl)
        intro _
        exact (hm213.get (k := 0) rfl)
      rintro _ w212 ⟨e_, hm211⟩
      obtain rfl := e_.symm
      have hm213 := hm204.callT (k := 8) rfl (fun _ h => h) hm211 (fun _ => Iff.rfl)
      obtain ⟨x214, h215, q216⟩ := ob q210; clear q210
      refine s_rp (i := 21) rfl (by kernel_rfl) rfl (fun _ => (rd_add64 h215 rfl rfl)) ?_
      refine s_rp (i := 22) rfl (by kernel_rfl) rfl (fun _ => (rd_nilCheck rfl)) ?_
      refine s_rp (i := 23) rfl (by kernel_rfl) rfl (fun _ => (rd_fld tF39_0 rfl)) ?_
      refine s_ef0 (i := 24) rfl (by kernel_rfl) (ef_stl (k := 0) (off := 0) (x' := (T_Crew.mk x196 x162.To x162.Most)) hm213 tO3 rfl rfl rfl rfl h163 rfl rfl) (by decide) (fun _ _ _ q => absurd q (by decide)) ?_
      intro _ w218 hm217
      refine s_rp (i := 25) rfl (by kernel_rfl) rfl (fun _ => (rd_nilCheck rfl)) ?_
      refine s_rp (i := 26) rfl (by kernel_rfl) rfl (fun _ => (rd_fld tF39_1 rfl)) ?_
      refine s_ef0 (i := 27) rfl (by kernel_rfl) (ef_stl (k := 0) (off := 1) (x' := (T_Crew.mk ((T_Crew.mk x196 x162.To x162.Most).From) x205 ((T_Crew.mk x196 x162.To x162.Most).Most))) hm217 tO3 rfl rfl rfl rfl (idx_set_same h163) rfl rfl) (by decide) (fun _ _ _ q => absurd q (by decide)) ?_
      intro _ w220 hm219
      refine s_rp (i := 28) rfl (by kernel_rfl) rfl (fun _ => (rd_nilCheck rfl)) ?_
      refine s_rp (i := 29) rfl (by kernel_rfl) rfl (fun _ => (rd_fld tF39_2 rfl)) ?_
      refine s_ef0 (i := 30) rfl (by kernel_rfl) (ef_stl (k := 0) (off := 2) (x' := (T_Crew.mk ((T_Crew.mk ((T_Crew.mk x196 x162.To x162.Most).From) x205 ((T_Crew.mk x196 x162.To x162.Most).Most)).From) ((T_Crew.mk ((T_Crew.mk x196 x162.To x162.Most).From) x205 ((T_Crew.mk x196 x162.To x162.Most).Most)).To) x214)) hm219 tO3 rfl rfl rfl rfl (idx_set_same (idx_set_same h163)) rfl rfl) (by decide) (fun _ _ _ q => absurd q (by decide)) ?_
      intro _ w222 hm221
      refine s_nil (by kernel_rfl) ?_
      obtain rfl := os q216
      exact ⟨rfl, (by repeat (first | exact Sub.nil _ | refine Sub.cons rfl ?_)), (hm221.pick [0, 1, 5, 6] (by decide) rfl)⟩
    · refine cw_f rfl hb154 ?_
      refine cw_skip ?_
      obtain rfl := os q155
      exact ⟨rfl, (by repeat (first | exact Sub.nil _ | refine Sub.cons rfl ?_)), (hm79.pick [0, 1, 5, 6] (by decide) rfl)⟩
  · clear hit152
    intro e env223 w224 hX225
    obtain ⟨rfl, hs226, hm227⟩ := hX225
    refine qn_then ?_
    refine cw_sub hs226 ?_
    refine cw_seq ?_
    refine cw_region ?_
    refine t_rd rfl (rd_move rfl) ?_
    refine t_rd rfl (rd_move rfl) ?_
    obtain ⟨r228, h229, q230⟩ := ob q153; clear q153
    refine t_ef rfl (ef_call tf9 rfl (crew_Assign_ok h229 (hm227.sl_call 3 rfl) (hm227.sl_call 0 rfl))) ?_
    rintro _ w233 ⟨v231, e_, hm232⟩
    obtain rfl := e_.symm
    have hm234 := hm227.call hm232
    refine t_rd rfl (rd_move rfl) ?_
    refine t_rd rfl (rd_extract rfl rfl) ?_
    refine t_rd rfl (rd_extract rfl rfl) ?_
    refine t_rd rfl (rd_assign rfl) ?_
    refine t_rd rfl (rd_assign rfl) ?_
    refine rwt_nil ?_
    refine qn_then ?_
    refine cw_seq ?_
    refine cw_region ?_
    refine t_rd rfl (rd_move rfl) ?_
    refine t_rd rfl (rd_eql rfl rfl) ?_
    refine t_rd rfl (rd_move rfl) ?_
    refine t_rdg rfl rfl rfl rfl (gv_t _) (fun hg235 => (rd_move rfl)) ?_
    refine t_rdg rfl rfl rfl rfl (gv_t _) (fun hg236 => (rd_eql (gvx rfl hg236) rfl)) ?_
    refine t_rd rfl (rd_and rfl (fun hc237 => (gvx rfl hc237))) ?_
    refine t_rd rfl (rd_move rfl) ?_
    refine t_rdg rfl rfl rfl rfl (gv_t _) (fun hg238 => (rd_move rfl)) ?_
    refine t_rdg rfl rfl rfl rfl (gv_t _) (fun hg239 => (rd_eql (gvx rfl hg239) rfl)) ?_
    refine t_rd rfl (rd_and rfl (fun hc240 => (gvx rfl hc240))) ?_
    refine t_rd rfl (rd_move rfl) ?_
    refine t_rdg rfl rfl rfl rfl (gv_t _) (fun hg241 => (rd_move rfl)) ?_
    refine t_rdg rfl rfl rfl rfl (gv_t _) (fun hg242 => (rd_lenS tS29 (gvx rfl hg242) (hm234.sl 2 rfl))) ?_
    refine t_rdg rfl rfl rfl rfl (gv_t _) (fun hg243 => (rd_move rfl)) ?_
    refine t_rdg rfl rfl rfl rfl (gv_t _) (fun hg244 => (rd_lenS tS29 (gvx rfl hg244) (hm234.sl 3 rfl))) ?_
    refine t_rdg rfl rfl rfl rfl (gv_t _) (fun hg245 => (rd_geq (gvx rfl hg245) (gvx rfl hg245))) ?_
    refine t_rd rfl (rd_and rfl (fun hc246 => (gvx rfl hc246))) ?_
    refine t_rd rfl (rd_move rfl) ?_
    refine t_rdg rfl rfl rfl rfl (gv_t _) (fun hg247 => (rd_move rfl)) ?_
    refine t_rdg rfl rfl rfl rfl (gv_t _) (fun hg248 => (rd_lenS tS29 (gvx rfl hg248) (hm234.sl 2 rfl))) ?_
    refine t_rdg rfl rfl rfl rfl (gv_t _) (fun hg249 => (rd_move rfl)) ?_
    refine t_rdg rfl rfl rfl rfl (gv_t _) (fun hg250 => (rd_lenS tS29 (gvx rfl hg250) (hm234.sl 3 rfl))) ?_
    obtain ⟨x252, h253, q254⟩ := ob q230; clear q230
    refine t_rdg rfl rfl rfl rfl (gv_t _) (fun hg251 => (rd_add64 (gO_t h253 hg251) (gvx rfl hg251) rfl)) ?_
    refine t_rdg rfl rfl rfl rfl (gv_t _) (fun hg255 => (rd_leq (gvx rfl hg255) (gvx rfl hg255))) ?_
    refine t_rd rfl (rd_and rfl (fun hc256 => (gvx rfl hc256))) ?_
    refine t_rd rfl (rd_move rfl) ?_
    refine t_rdg rfl rfl rfl rfl (gv_t _) (fun hg257 => (rd_move rfl)) ?_
    refine t_rdg rfl rfl rfl rfl (gv_t _) (fun hg258 => (rd_lenS tS29 (gvx rfl hg258) (hm234.sl 0 rfl))) ?_
    refine t_rdg rfl rfl rfl rfl (gv_t _) (fun hg259 => (rd_move rfl)) ?_
    refine t_rdg rfl rfl rfl rfl (gv_t _) (fun hg260 => (rd_lenS tS29 (gvx rfl hg260) (hm234.sl 3 rfl))) ?_
    refine t_rdg rfl rfl rfl rfl (gv_t _) (fun hg261 => (rd_geq (gvx rfl hg261) (gvx rfl hg261))) ?_
    refine t_rd rfl (rd_and rfl (fun hc262 => (gvx rfl hc262))) ?_
    refine t_rd rfl (rd_move rfl) ?_
    refine t_rdg rfl rfl rfl rfl (gv_t _) (fun hg263 => (rd_move rfl)) ?_
    refine t_rdg rfl rfl rfl rfl (gv_t _) (fun hg264 => (rd_lenS tS29 (gvx rfl hg264) (hm234.sl 0 rfl))) ?_
    refine t_rdg rfl rfl rfl rfl (gv_t _) (fun hg265 => (rd_move rfl)) ?_
    refine t_rdg rfl rfl rfl rfl (gv_t _) (fun hg266 => (rd_lenS tS29 (gvx rfl hg266) (hm234.sl 3 rfl))) ?_
    obtain ⟨x268, h269, q270⟩ := ob q254; clear q254
    refine t_rdg rfl rfl rfl rfl (gv_t _) (fun hg267 => (rd_add64 (gO_t h269 hg267) (gvx rfl hg267) rfl)) ?_
    refine t_rdg rfl rfl rfl rfl (gv_t _) (fun hg271 => (rd_leq (gvx rfl hg271) (gvx rfl hg271))) ?_
    refine t_rd rfl (rd_and rfl (fun hc272 => (gvx rfl hc272))) ?_
    refine t_rd rfl (rd_move rfl) ?_
    obtain ⟨r274, h275, q276⟩ := ob q270; clear q270
    refine t_efg rfl rfl rfl rfl (R := (fun v w' => v = gV ((((((decide (r16.2 = 0) && decide (r65.2 = 0)) && decide (r228.2 = 0)) && decide ((List.length r16.1 : Int) ≤ (List.length r65.1 : Int))) && decide ((List.length r65.1 : Int) ≤ x252)) && decide ((List.length r16.1 : Int) ≤ (List.length r228.1 : Int))) && decide ((List.length r228.1 : Int) ≤ x268)) (Value.bool r274) ∧ Mem w233 No [] w')) (gv_t _) (fun hg273 => (ef_call tf13 rfl (law40_sane_ok (gO_t h275 hg273))).mono (by rintro _ _ ⟨rfl, q⟩; exact ⟨(gV_t hg273).symm, q⟩)) (fun q => ⟨(gV_f q).symm, Mem.nil _⟩) ?_
    rintro _ w278 ⟨rfl, hm277⟩
    have hm279 := hm234.call hm277
    refine t_rd rfl (rd_and rfl (fun hc280 => (gvx rfl hc280))) ?_
    refine t_rd rfl (rd_assign rfl) ?_
    refine rwt_nil ?_
    refine qn_then ?_
    refine cw_ret ?_
    obtain rfl := os q276
    exact ret1 rfl rfl ⟨rfl, (hm279.pick [] (by decide) rfl)⟩

theorem crew_set_ok {N : Nat} {a0 : List Int} {a1 : Int} {res : List Bool × Bool} (h : crew_set N a0 a1 = some res) {w : World} {v0 : Value} (hv0 : Sl (Old w No) w v0 a0) :
    CallsR Try.prog 27 [v0, (Value.int .i64 a1)] w (fun u w' => ∃ (y0 : Value), u = (Value.tuple #[y0, (Value.bool res.2)]) ∧ Mem w No [ownL 4 y0 (res.1 : List Bool)] w') := by
  unfold crew_set at h
  refine fn_ok Try.func27 rfl rfl rfl ?_
  have hm0 := Mem.nil w
  refine cw_seq ?_
  refine cw_region ?_
  refine t_rd rfl (rd_assign rfl) ?_
  refine t_rd rfl (rd_assign rfl) ?_
  refine rwt_nil ?_
  refine qn_then ?_
  refine cw_seq ?_
  refine cw_region ?_
  refine t_rd rfl (rd_move rfl) ?_
  obtain ⟨l1, h2, q3⟩ := ob h; clear h
  refine t_ef rfl (ef_make hm0 tS33 tE4 rfl rfl rfl h2) ?_
  intro v4 w6 hm5
  refine t_rd rfl (rd_assign rfl) ?_
  refine rwt_nil ?_
  refine qn_then ?_
  refine cw_seq ?_
  refine cw_seq ?_
  refine cw_region ?_
  refine t_rd rfl (rd_move rfl) ?_
  refine t_rd rfl (rd_lenS tS22 rfl (hv0.of_old hm5)) ?_
  refine t_rd rfl (rd_move rfl) ?_
  refine rwt_nil ?_
  refine qn_then ?_
  refine cw_block ?_
  obtain ⟨r94, hit95, q96⟩ := ob q3; clear q3
  refine cw_loop2 (I := fun q envq wq => Sub [(0, v0), (1, (Value.int .i64 a1)), (6, v4), (11, v0), (12, (Value.int .i64 (List.length a0 : Int))), (13, (Value.int .i64 q.1))] envq ∧ Mem w No [ownL 4 v4 (q.2 : List Bool)] wq) (X := fun eq envq wq => (∃ p97, r94 = (Sum.inl p97) ∧ eq = .ret ∧ retQ Try.prog 43 Try.f27 (fun u w' => ∃ (y0 : Value), u = (Value.tuple #[y0, (Value.bool p97.2)]) ∧ Mem w No [ownL 4 y0 (p97.1 : List Bool)] w') .ret envq wq) ∨ (∃ p98, r94 = (Sum.inr p98) ∧ eq = .exit 0 ∧ Sub [(6, v4)] envq ∧ Mem w No [ownL 4 v4 (p98 : List Bool)] wq)) hit95 ⟨(by repeat (first | exact Sub.nil _ | refine Sub.cons rfl ?_)), (hm5.pick [0] (by decide) rfl)⟩ ?_ ?_
  · rintro ⟨i86, l87⟩ x89 env90 w91 hf92 hr93 ⟨hs_, hm_⟩
    have hs_ : Sub [(0, v0), (1, (Value.int .i64 a1)), (6, v4), (11, v0), (12, (Value.int .i64 (List.length a0 : Int))), (13, (Value.int .i64 i86))] env90 := hs_
    have hm99 : Mem w No [ownL 4 v4 (l87 : List Bool)] w91 := hm_
    refine cw_sub hs_ ?_
    clear hs_ hm_ q96
    have h : crew_set_l1 N a0 a1 i86 l87 = some x89 := hf92
    clear hf92
    refine cw_seq ?_
    refine cw_region ?_
    refine t_rd rfl (rd_lss rfl rfl) ?_
    refine rwt_nil ?_
    refine qn_then ?_
    refine cw_seq ?_
    obtain ⟨hb100, q101⟩ | ⟨hb100, q101⟩ := oi h <;> clear h
    · refine cw_t rfl hb100 ?_
      refine cw_skip ?_
      refine qn_then ?_
      refine cw_seq ?_
      refine cw_block ?_
      refine cw_seq ?_
      refine cw_region ?_
      refine t_rd rfl (rd_move rfl) ?_
      obtain ⟨x102, h103, q104⟩ := ob q101; clear q101
      refine t_rd rfl (rd_index tS22 rfl rfl (hv0.of_old hm99) h103) ?_
      refine t_rd rfl (rd_ld1 tO3 rfl ((hv0.of_old hm99).cells h103) (off := 0) rfl) ?_
      refine t_rd rfl (rd_assign rfl) ?_
      refine t_rd rfl (rd_assign rfl) ?_
      refine rwt_nil ?_
      refine qn_then ?_
      refine cw_seq ?_
      refine cw_seq ?_
      refine cw_region ?_
      refine t_rd rfl (rd_move rfl) ?_
      refine t_rd rfl (rd_lss rfl rfl) ?_
      refine t_rd rfl (rd_move rfl) ?_
      refine t_rdg rfl rfl rfl rfl (gv_f _) (fun hg105 => (rd_move rfl)) ?_
      refine t_rdg rfl rfl rfl rfl (gv_f _) (fun hg106 => (rd_move rfl)) ?_
      refine t_rdg rfl rfl rfl rfl (gv_f _) (fun hg107 => (rd_geq (gvx rfl hg107) (gvx rfl hg107))) ?_
      refine t_rd rfl (rd_or rfl (fun hc108 => (gvx rfl (bnotIt hc108)))) ?_
      refine t_rd rfl (rd_move rfl) ?_
      refine t_rdg rfl rfl rfl rfl (gv_f _) (fun hg109 => (rd_move rfl)) ?_
      refine t_rdg rfl rfl rfl rfl (gv_f _) (fun hg110 => (rd_gtr (gvx rfl hg110) rfl)) ?_
      refine t_rdg rfl rfl rfl rfl (gv_f _) (fun hg111 => (rd_move (gvx rfl hg111))) ?_
      refine t_rdg rfl rfl rfl rfl (gv_nt _ _) (fun hg112 => (rd_move rfl)) ?_
      refine t_rdg rfl rfl rfl rfl (gv_nt _ _) (fun hg113 => (rd_move rfl)) ?_
      refine t_rdg rfl rfl rfl rfl (gv_nt _ _) (fun hg114 => (rd_move rfl)) ?_
      obtain ⟨x116, h117, q118⟩ := ob q104; clear q104
      refine t_rdg rfl rfl rfl rfl (gv_nt _ _) (fun hg115 => (rd_sub64 (gO_t h117 hg115) (gvx rfl hg115) rfl)) ?_
      obtain ⟨x120, h121, q122⟩ := ob q118; clear q118
      refine t_rdg rfl rfl rfl rfl (gv_nt _ _) (fun hg119 => (rd_index tS22 (gvx rfl hg119) (gvx rfl hg119) (hv0.of_old hm99) (gO_t h121 hg119))) ?_
      refine t_rdg rfl rfl rfl rfl (gv_nt _ _) (fun hg123 => (rd_ld1 tO3 (gvx rfl hg123) ((hv0.of_old hm99).cells (gO_t h121 hg123)) (off := 0) rfl)) ?_
      refine t_rdg rfl rfl rfl rfl (gv_nt _ _) (fun hg124 => (rd_leq (gvx rfl hg124) (gvx rfl hg124))) ?_
      refine t_rdg rfl rfl rfl rfl (gv_f _) (fun hg125 => (rd_and (gvx rfl hg125) (fun hc126 => (gvx rfl (band hg125 hc126))))) ?_
      refine t_rd rfl (rd_or rfl (fun hc127 => (gvx rfl (bnotIt hc127)))) ?_
      refine rwt_nil ?_
      refine qn_then ?_
      obtain ⟨hb128, q129⟩ | ⟨hb128, q129⟩ := oi q122 <;> clear q122
      · refine cw_t rfl hb128 ?_
        refine cw_seq ?_
        refine cw_region ?_
        refine t_rd rfl (rd_assign rfl) ?_
        refine t_rd rfl (rd_assign rfl) ?_
        refine rwt_nil ?_
        refine qn_then ?_
        refine cw_ret ?_
        refine qr_then (qr_block (qr_then (qr_then ?_)))
        obtain rfl := hr93 _ (os q129)
        refine .inl (⟨_, rfl, ⟨rfl, ?_⟩⟩)
        have hm130 := hm99.addNil (α := Bool) 4
        exact ret2 rfl rfl rfl ⟨(Value.slice none 0 0), rfl, (hm130.pick [0] (by decide) rfl)⟩
      · refine cw_f rfl hb128 ?_
        refine cw_skip ?_
        refine qn_then ?_
        refine cw_region ?_
        refine t_rd rfl (rd_move rfl) ?_
        refine t_rd rfl (rd_move rfl) ?_
        obtain ⟨x131, h132, q133⟩ := ob q129; clear q129
        refine t_rd rfl (rd_index tS33 rfl rfl (hm99.sl 0 rfl) h132) ?_
        refine t_ef0 (ef_stl (k := 0) (off := 0) (x' := true) hm99 tO4 rfl rfl rfl rfl h132 rfl rfl) ?_
        intro _ w135 hm134
        refine rwt_nil ?_
        refine qn_block (qn_then ?_)
        refine cw_region ?_
        obtain ⟨x136, h137, q138⟩ := ob q133; clear q133
        refine t_rd rfl (rd_add64 h137 rfl rfl) ?_
        refine t_rd rfl (rd_move rfl) ?_
        refine rwt_nil ?_
        refine qn_then ?_
        refine ⟨_, (os q138), (by repeat (first | exact Sub.nil _ | refine Sub.cons rfl ?_)), (hm134.pick [0] (by decide) rfl)⟩
    · refine cw_f rfl hb100 ?_
      refine cw_exit ?_
      refine qx_then (qx_then ?_)
      obtain rfl := hr93 _ (os q101)
      exact .inr (⟨_, rfl, ⟨rfl, (by repeat (first | exact Sub.nil _ | refine Sub.cons rfl ?_)), (hm99.pick [0] (by decide) rfl)⟩⟩)
  · skip
    intro e env139 w140 hX141
    rcases hX141 with hX141 | hX141
    · obtain ⟨p143, rfl, hX141⟩ := hX141
      obtain ⟨rfl, hq145⟩ := hX141
      exact qr_block (qr_then ((by have e := os q96; subst e; exact hq145)))
    · obtain ⟨p146, rfl, hX141⟩ := hX141
      obtain ⟨rfl, hs147, hm148⟩ := hX141
      refine qx_same (qn_then ?_)
      refine cw_sub hs147 ?_
      refine cw_seq ?_
      refine cw_region ?_
      refine t_rd rfl (rd_move rfl) ?_
      refine t_rd rfl (rd_assign rfl) ?_
      refine t_rd rfl (rd_assign rfl) ?_
      refine rwt_nil ?_
      refine qn_then ?_
      refine cw_ret ?_
      obtain rfl := os q96
      exact ret2 rfl rfl rfl ⟨v4, rfl, (hm148.pick [0] (by decide) rfl)⟩

theorem crew_matching_ok {N : Nat} {a0 : List T_Task} {a1 : List T_Crew} {a2 : List T_Pair} {res : Bool} (h : crew_matching N a0 a1 a2 = some res) {w : World} {v0 : Value} {v1 : Value} {v2 : Value} (hv0 : Sl (Old w No) w v0 a0) (hv1 : Sl (Old w No) w v1 a1) (hv2 : Sl (Old w No) w v2 a2) :
    CallsR Try.prog 28 [v0, v1, v2] w (fun u w' => u = (Value.bool res) ∧ Mem w No [] w') := by
  unfold crew_matching at h
  refine fn_ok Try.func28 rfl rfl rfl ?_
  have hm0 := Mem.nil w
  refine cw_seq ?_
  refine cw_region ?_
  refine t_rd rfl (rd_assign rfl) ?_
  refine rwt_nil ?_
  refine qn_then ?_
  refine cw_seq ?_
  refine cw_region ?_
  refine t_rd rfl (rd_move rfl) ?_
  refine t_rd rfl (rd_lenS tS26 rfl (hv1.of_old hm0)) ?_
  obtain ⟨l1, h2, q3⟩ := ob h; clear h
  refine t_ef rfl (ef_make hm0 tS33 tE4 rfl rfl rfl h2) ?_
  intro v4 w6 hm5
  refine t_rd rfl (rd_assign rfl) ?_
  refine rwt_nil ?_
  refine qn_then ?_
  refine cw_seq ?_
  refine cw_seq ?_
  refine cw_region ?_
  refine t_rd rfl (rd_move rfl) ?_
  refine t_rd rfl (rd_lenS tS29 rfl (hv2.of_old hm5)) ?_
  refine t_rd rfl (rd_move rfl) ?_
  refine rwt_nil ?_
  refine qn_then ?_
  refine cw_block ?_
  obtain ⟨r207, hit208, q209⟩ := ob q3; clear q3
  refine cw_loop2 (I := fun q envq wq => Sub [(0, v0), (1, v1), (2, v2), (7, v4), (13, v2), (14, (Value.int .i64 (List.length a2 : Int))), (15, (Value.int .i64 q.1))] envq ∧ Mem w No [ownL 4 v4 (q.2 : List Bool)] wq) (X := fun eq envq wq => (∃ p210, r207 = (Sum.inl p210) ∧ eq = .ret ∧ retQ Try.prog 83 Try.f28 (fun u w' => u = (Value.bool p210) ∧ Mem w No [] w') .ret envq wq) ∨ (∃ p211, r207 = (Sum.inr p211) ∧ eq = .exit 0 ∧ Sub [] envq ∧ Mem w No [] wq)) hit208 ⟨(by repeat (first | exact Sub.nil _ | refine Sub.cons rfl ?_)), (hm5.pick [0] (by decide) rfl)⟩ ?_ ?_
  · rintro ⟨i199, l200⟩ x202 env203 w204 hf205 hr206 ⟨hs_, hm_⟩
    have hs_ : Sub [(0, v0), (1, v1), (2, v2), (7, v4), (13, v2), (14, (Value.int .i64 (List.length a2 : Int))), (15, (Value.int .i64 i199))] env203 := hs_
    have hm212 : Mem w No [ownL 4 v4 (l200 : List Bool)] w204 := hm_
    refine cw_sub hs_ ?_
    clear hs_ hm_ q209
    have h : crew_matching_l1 N a0 a1 a2 i199 l200 = some x202 := hf205
    clear hf205
    refine cw_seq ?_
    refine cw_region ?_
    refine t_rd rfl (rd_lss rfl rfl) ?_
    refine rwt_nil ?_
    refine qn_then ?_
    refine cw_seq ?_
    obtain ⟨hb213, q214⟩ | ⟨hb213, q214⟩ := oi h <;> clear h
    · refine cw_t rfl hb213 ?_
      refine cw_skip ?_
      refine qn_then ?_
      refine cw_seq ?_
      refine cw_block ?_
      refine cw_seq ?_
      refine cw_region ?_
      refine t_rd rfl (rd_move rfl) ?_
      obtain ⟨x215, h216, q217⟩ := ob q214; clear q214
      refine t_rd rfl (rd_index tS29 rfl rfl (hv2.of_old hm212) h216) ?_
      refine t_rd rfl (rd_ld tA41 rfl ((hv2.of_old hm212).cells h216) rfl) ?_
      refine t_ef rfl (ef_alloc hm212 tZ41 rfl) ?_
      rintro _ w220 ⟨g218, rfl, hm219⟩
      refine t_rd rfl (rd_assign rfl) ?_
      refine t_ef0 (ef_stw (k := 0) hm219 tA41 rfl rfl (oc_cons rfl (oc_cons rfl oc_nil)) rfl rfl rfl) ?_
      intro _ w222 hm221
      refine rwt_nil ?_
      refine qn_then ?_
      refine cw_seq ?_
      refine cw_seq ?_
      obtain ⟨w224, he226⟩ : ∃ q, q = w222.drew := ⟨_, rfl⟩
      have hm225 := hm221.drew; rw [← he226] at hm225
      refine cw_region_s (fun q => q = w224) (cls [] [55]) mixed ?_
      rintro _ rfl; rw [← he226]
      refine s_rp (i := 0) rfl (by kernel_rfl) rfl (fun _ => (rd_fld tF41_0 rfl)) ?_
      refine s_rd (i := 1) rfl (by kernel_rfl) rfl (fun _ hS => by rw [hS]; exact (rd_ld1 tO3 rfl (hm225.blk 0 rfl) (off := 0) rfl)) rfl ?_
      refine s_rp (i := 2) rfl (by kernel_rfl) rfl (fun _ => (rd_lss rfl rfl)) ?_
      refine s_rp (i := 3) rfl (by kernel_rfl) rfl (fun _ => (rd_move rfl)) ?_
      refine s_rpg (i := 4) rfl (by kernel_rfl) rfl rfl rfl rfl (gv_f _) (fun hg227 _ => (rd_fld tF41_0 rfl)) ?_
      refine s_rdg (i := 5) rfl (by kernel_rfl) rfl rfl rfl rfl (gv_f _) (fun hg228 => (fun _ hS => by rw [hS]; exact (rd_ld1 tO3 (gvx rfl hg228) (hm225.blk 0 rfl) (off := 0) rfl))) rfl ?_
      refine s_rpg (i := 6) rfl (by kernel_rfl) rfl rfl rfl rfl (gv_f _) (fun hg229 _ => (rd_move rfl)) ?_
      refine s_rpg (i := 7) rfl (by kernel_rfl) rfl rfl rfl rfl (gv_f _) (fun hg230 _ => (rd_lenS tS25 (gvx rfl hg230) (hv0.of_old hm225))) ?_
      refine s_rpg (i := 8) rfl (by kernel_rfl) rfl rfl rfl rfl (gv_f _) (fun hg231 _ => (rd_geq (gvx rfl hg231) (gvx rfl hg231))) ?_
      refine s_rp (i := 9) rfl (by kernel_rfl) rfl (fun _ => (rd_or rfl (fun hc232 => (gvx rfl (bnotIt hc232))))) ?_
      refine s_rp (i := 10) rfl (by kernel_rfl) rfl (fun _ => (rd_move rfl)) ?_
      refine s_rpg (i := 11) rfl (by kernel_rfl) rfl rfl rfl rfl (gv_f _) (fun hg233 _ => (rd_fld tF41_1 rfl)) ?_
      refine s_rdg (i := 12) rfl (by kernel_rfl) rfl rfl rfl rfl (gv_f _) (fun hg234 => (fun _ hS => by rw [hS]; exact (rd_ld1 tO3 (gvx rfl hg234) (hm225.blk 0 rfl) (off := 1) rfl))) rfl ?_
      refine s_rpg (i := 13) rfl (by kernel_rfl) rfl rfl rfl rfl (gv_f _) (fun hg235 _ => (rd_lss (gvx rfl hg235) rfl)) ?_
      refine s_rp (i := 14) rfl (by kernel_rfl) rfl (fun _ => (rd_or rfl (fun hc236 => (gvx rfl (bnotIt hc236))))) ?_
      refine s_rp (i := 15) rfl (by kernel_rfl) rfl (fun _ => (rd_move rfl)) ?_
      refine s_rpg (i := 16) rfl (by kernel_rfl) rfl rfl rfl rfl (gv_f _) (fun hg237 _ => (rd_fld tF41_1 rfl)) ?_
      refine s_rdg (i := 17) rfl (by kernel_rfl) rfl rfl rfl rfl (gv_f _) (fun hg238 => (fun _ hS => by rw [hS]; exact (rd_ld1 tO3 (gvx rfl hg238) (hm225.blk 0 rfl) (off := 1) rfl))) rfl ?_
      refine s_rpg (i := 18) rfl (by kernel_rfl) rfl rfl rfl rfl (gv_f _) (fun hg239 _ => (rd_move rfl)) ?_
      refine s_rpg (i := 19) rfl (by kernel_rfl) rfl rfl rfl rfl (gv_f _) (fun hg240 _ => (rd_lenS tS26 (gvx rfl hg240) (hv1.of_old hm225))) ?_
      refine s_rpg (i := 20) rfl (by kernel_rfl) rfl rfl rfl rfl (gv_f _) (fun hg241 _ => (rd_geq (gvx rfl hg241) (gvx rfl hg241))) ?_
      refine s_rp (i := 21) rfl (by kernel_rfl) rfl (fun _ => (rd_or rfl (fun hc242 => (gvx rfl (bnotIt hc242))))) ?_
      refine s_rp (i := 22) rfl (by kernel_rfl) rfl (fun _ => (rd_move rfl)) ?_
      refine s_rpg (i := 23) rfl (by kernel_rfl) rfl rfl rfl rfl (gv_f _) (fun hg243 _ => (rd_move rfl)) ?_
      refine s_rpg (i := 24) rfl (by kernel_rfl) rfl rfl rfl rfl (gv_f _) (fun hg244 _ => (rd_fld tF41_1 rfl)) ?_
      refine s_rdg (i := 25) rfl (by kernel_rfl) rfl rfl rfl rfl (gv_f _) (fun hg245 => (fun _ hS => by rw [hS]; exact (rd_ld1 tO3 (gvx rfl hg245) (hm225.blk 0 rfl) (off := 1) rfl))) rfl ?_
      obtain ⟨x247, h248, q249⟩ := ob q217; clear q217
      refine s_rpg (i := 26) rfl (by kernel_rfl) rfl rfl rfl rfl (gv_f _) (fun hg246 _ => (rd_index tS33 (gvx rfl hg246) (gvx rfl hg246) (hm225.sl 1 rfl) (gO_t h248 hg246))) ?_
      refine s_rdg (i := 27) rfl (by kernel_rfl) rfl rfl rfl rfl (gv_f _) (fun hg250 => (fun _ hS => by rw [hS]; exact (rd_ld1 tO4 (gvx rfl hg250) ((hm225.sl 1 rfl).cells (gO_t h248 hg250)) (off := 0) rfl))) rfl ?_
      refine s_rp (i := 28) rfl (by kernel_rfl) rfl (fun _ => (rd_or rfl (fun hc251 => (gvx rfl (bnotIt hc251))))) ?_
      refine s_rp (i := 29) rfl (by kernel_rfl) rfl (fun _ => (rd_move rfl)) ?_
      refine s_rpg (i := 30) rfl (by kernel_rfl) rfl rfl rfl rfl (gv_f _) (fun hg252 _ => (rd_move rfl)) ?_
      refine s_rpg (i := 31) rfl (by kernel_rfl) rfl rfl rfl rfl (gv_f _) (fun hg253 _ => (rd_gtr (gvx rfl hg253) rfl)) ?_
      refine s_rpg (i := 32) rfl (by kernel_rfl) rfl rfl rfl rfl (gv_f _) (fun hg254 _ => (rd_move (gvx rfl hg254))) ?_
      refine s_rpg (i := 33) rfl (by kernel_rfl) rfl rfl rfl rfl (gv_nt _ _) (fun hg255 _ => (rd_fld tF41_0 rfl)) ?_
      refine s_rdg (i := 34) rfl (by kernel_rfl) rfl rfl rfl rfl (gv_nt _ _) (fun hg256 => (fun _ hS => by rw [hS]; exact (rd_ld1 tO3 (gvx rfl hg256) (hm225.blk 0 rfl) (off := 0) rfl))) rfl ?_
      refine s_rpg (i := 35) rfl (by kernel_rfl) rfl rfl rfl rfl (gv_nt _ _) (fun hg257 _ => (rd_move rfl)) ?_
      refine s_rpg (i := 36) rfl (by kernel_rfl) rfl rfl rfl rfl (gv_nt _ _) (fun hg258 _ => (rd_move rfl)) ?_
      obtain ⟨x260, h261, q262⟩ := ob q249; clear q249
      refine s_rpg (i := 37) rfl (by kernel_rfl) rfl rfl rfl rfl (gv_nt _ _) (fun hg259 _ => (rd_sub64 (gO_t h261 hg259) (gvx rfl hg259) rfl)) ?_
      obtain ⟨x264, h265, q266⟩ := ob q262; clear q262
      refine s_rpg (i := 38) rfl (by kernel_rfl) rfl rfl rfl rfl (gv_nt _ _) (fun hg263 _ => (rd_index tS29 (gvx rfl hg263) (gvx rfl hg263) (hv2.of_old hm225) (gO_t h265 hg263))) ?_
      refine s_rpg (i := 39) rfl (by kernel_rfl) rfl rfl rfl rfl (gv_nt _ _) (fun hg267 _ => (rd_fld tF41_0 (gvx rfl hg267))) ?_
      refine s_rdg (i := 40) rfl (by kernel_rfl) rfl rfl rfl rfl (gv_nt _ _) (fun hg268 => (fun _ hS => by rw [hS]; exact (rd_ld1 tO3 (gvx rfl hg268) ((hv2.of_old hm225).cells (gO_t h265 hg268)) (off := 0) rfl))) rfl ?_
      refine s_rpg (i := 41) rfl (by kernel_rfl) rfl rfl rfl rfl (gv_nt _ _) (fun hg269 _ => (rd_leq (gvx rfl hg269) (gvx rfl hg269))) ?_
      refine s_rpg (i := 42) rfl (by kernel_rfl) rfl rfl rfl rfl (gv_f _) (fun hg270 _ => (rd_and (gvx rfl hg270) (fun hc271 => (gvx rfl (band hg270 hc271))))) ?_
      refine s_rp (i := 43) rfl (by kernel_rfl) rfl (fun _ => (rd_or rfl (fun hc272 => (gvx rfl (bnotIt hc272))))) ?_
      refine s_rp (i := 44) rfl (by kernel_rfl) rfl (fun _ => (rd_move rfl)) ?_
      refine s_rpg (i := 45) rfl (by kernel_rfl) rfl rfl rfl rfl (gv_f _) (fun hg273 _ => (rd_move rfl)) ?_
      refine s_rpg (i := 46) rfl (by kernel_rfl) rfl rfl rfl rfl (gv_f _) (fun hg274 _ => (rd_fld tF41_0 rfl)) ?_
      refine s_rdg (i := 47) rfl (by kernel_rfl) rfl rfl rfl rfl (gv_f _) (fun hg275 => (fun _ hS => by rw [hS]; exact (rd_ld1 tO3 (gvx rfl hg275) (hm225.blk 0 rfl) (off := 0) rfl))) rfl ?_
      obtain ⟨x277, h278, q279⟩ := ob q266; clear q266
      refine s_rpg (i := 48) rfl (by kernel_rfl) rfl rfl rfl rfl (gv_f _) (fun hg276 _ => (rd_index tS25 (gvx rfl hg276) (gvx rfl hg276) (hv0.of_old hm225) (gO_t h278 hg276))) ?_
      refine s_rdg (i := 49) rfl (by kernel_rfl) rfl rfl rfl rfl (gv_f _) (fun hg280 => (fun _ hS => by rw [hS]; exact (rd_ld tA37 (gvx rfl hg280) ((hv0.of_old hm225).cells (gO_t h278 hg280)) rfl))) rfl ?_
      refine s_rpg (i := 50) rfl (by kernel_rfl) rfl rfl rfl rfl (gv_f _) (fun hg281 _ => (rd_move rfl)) ?_
      refine s_rpg (i := 51) rfl (by kernel_rfl) rfl rfl rfl rfl (gv_f _) (fun hg282 _ => (rd_fld tF41_1 rfl)) ?_
      refine s_rdg (i := 52) rfl (by kernel_rfl) rfl rfl rfl rfl (gv_f _) (fun hg283 => (fun _ hS => by rw [hS]; exact (rd_ld1 tO3 (gvx rfl hg283) (hm225.blk 0 rfl) (off := 1) rfl))) rfl ?_
      obtain ⟨x285, h286, q287⟩ := ob q279; clear q279
      refine s_rpg (i := 53) rfl (by kernel_rfl) rfl rfl rfl rfl (gv_f _) (fun hg284 _ => (rd_index tS26 (gvx rfl hg284) (gvx rfl hg284) (hv1.of_old hm225) (gO_t h286 hg284))) ?_
      refine s_rdg (i := 54) rfl (by kernel_rfl) rfl rfl rfl rfl (gv_f _) (fun hg288 => (fun _ hS => by rw [hS]; exact (rd_ld tA39 (gvx rfl hg288) ((hv1.of_old hm225).cells (gO_t h286 hg288)) rfl))) rfl ?_
      obtain ⟨r290, h291, q292⟩ := ob q287; clear q287
      refine s_efg (i := 55) rfl (by kernel_rfl) rfl rfl rfl rfl (R := (fun v w' => v = gV (!(((((decide (x215.Duty < 0) || decide ((List.length a0 : Int) ≤ x215.Duty)) || decide (x215.Crew < 0)) || decide ((List.length a1 : Int) ≤ x215.Crew)) || x247) || (decide (0 < i199) && decide (x215.Duty ≤ x264.Duty)))) (Value.bool r290) ∧ Mem w224 No [] w')) (gv_f _) (fun hg289 => (ef_call tf19 (evc (gvx rfl hg289) (evc (gvx rfl hg289) evn)) (crew_Fits_ok (gO_t h291 hg289))).mono (by rintro _ _ ⟨rfl, q⟩; exact ⟨(gV_t hg289).symm, q⟩)) (fun q => ⟨(gV_f q).symm, Mem.nil _⟩) (by decide) (fun _ _ _ q => absurd q (by decide)) ?_
      rintro _ w294 ⟨rfl, hm293⟩
      have hm295 := hm225.call hm293
      refine s_rpg (i := 56) rfl (by kernel_rfl) rfl rfl rfl rfl (gv_f _) (fun hg296 _ => (rd_not (gvx rfl hg296))) ?_
      refine s_rp (i := 57) rfl (by kernel_rfl) rfl (fun _ => (rd_or rfl (fun hc297 => (gvx rfl (bnotIt hc297))))) ?_
      refine s_nil (by kernel_rfl) ?_
      refine qn_then ?_
      obtain ⟨hb298, q299⟩ | ⟨hb298, q299⟩ := oi q292 <;> clear q292
      · refine cw_t rfl hb298 ?_
        refine cw_seq ?_
        refine cw_region ?_
        refine t_rd rfl (rd_assign rfl) ?_
        refine rwt_nil ?_
        refine qn_then ?_
        refine cw_ret ?_
        refine qr_then (qr_block (qr_then (qr_then ?_)))
        obtain rfl := hr206 _ (os q299)
        refine .inl (⟨_, rfl, ⟨rfl, ?_⟩⟩)
        exact ret1 rfl rfl ⟨rfl, (hm295.pick [] (by decide) rfl)⟩
      · refine cw_f rfl hb298 ?_
        refine cw_skip ?_
        refine qn_then ?_
        refine cw_region ?_
        refine t_rd rfl (rd_move rfl) ?_
        refine t_rd rfl (rd_fld tF41_1 rfl) ?_
        refine t_rd rfl (rd_ld1 tO3 rfl (hm295.blk 0 rfl) (off := 1) rfl) ?_
        obtain ⟨x300, h301, q302⟩ := ob q299; clear q299
        refine t_rd rfl (rd_index tS33 rfl rfl (hm295.sl 1 rfl) h301) ?_
        refine t_ef0 (ef_stl (k := 1) (off := 0) (x' := true) hm295 tO4 rfl rfl rfl rfl h301 rfl rfl) ?_
        intro _ w304 hm303
        refine rwt_nil ?_
        refine qn_block (qn_then ?_)
        refine cw_region ?_
        obtain ⟨x305, h306, q307⟩ := ob q302; clear q302
        refine t_rd rfl (rd_add64 h306 rfl rfl) ?_
        refine t_rd rfl (rd_move rfl) ?_
        refine rwt_nil ?_
        refine qn_then ?_
        refine ⟨_, (os q307), (by repeat (first | exact Sub.nil _ | refine Sub.cons rfl ?_)), (hm303.pick [1] (by decide) rfl)⟩
    · refine cw_f rfl hb213 ?_
      refine cw_exit ?_
      refine qx_then (qx_then ?_)
      obtain rfl := hr206 _ (os q214)
      exact .inr (⟨_, rfl, ⟨rfl, (by repeat (first | exact Sub.nil _ | refine Sub.cons rfl ?_)), (hm212.pick [] (by decide) rfl)⟩⟩)
  · skip
    intro e env308 w309 hX310
    rcases hX310 with hX310 | hX310
    · obtain ⟨p312, rfl, hX310⟩ := hX310
      obtain ⟨rfl, hq314⟩ := hX310
      exact qr_block (qr_then ((by have e := os q209; subst e; exact hq314)))
    · obtain ⟨p315, rfl, hX310⟩ := hX310
      obtain ⟨rfl, hs316, hm317⟩ := hX310
      refine qx_same (qn_then ?_)
      refine cw_sub hs316 ?_
      refine cw_seq ?_
      refine cw_region ?_
      refine t_rd rfl (rd_assign rfl) ?_
      refine rwt_nil ?_
      refine qn_then ?_
      refine cw_ret ?_
      obtain rfl := os q209
      exact ret1 rfl rfl ⟨rfl, (hm317.pick [] (by decide) rfl)⟩

theorem crew_Check_ok {N : Nat} {a0 : List T_Task} {a1 : List T_Crew} {a2 : List T_Pair} {a3 : List Int} {a4 : List Int} {res : Bool × Int} (h : crew_Check N a0 a1 a2 a3 a4 = some res) {w : World} {v0 : Value} {v1 : Value} {v2 : Value} {v3 : Value} {v4 : Value} (hv0 : Sl (Old w No) w v0 a0) (hv1 : Sl (Old w No) w v1 a1) (hv2 : Sl (Old w No) w v2 a2) (hv3 : Sl (Old w No) w v3 a3) (hv4 : Sl (Old w No) w v4 a4) :
    CallsR Try.prog 17 [v0, v1, v2, v3, v4] w (fun u w' => u = (Value.tuple #[(Value.bool res.1), (Value.int .i64 res.2)]) ∧ Mem w No [] w') := by
  unfold crew_Check at h
  refine fn_ok Try.func17 rfl rfl rfl ?_
  have hm0 := Mem.nil w
  refine cw_seq ?_
  refine cw_region ?_
  refine t_rd rfl (rd_assign rfl) ?_
  refine t_rd rfl (rd_assign rfl) ?_
  refine rwt_nil ?_
  refine qn_then ?_
  refine cw_seq ?_
  refine cw_seq ?_
  refine cw_region ?_
  refine t_rd rfl (rd_move rfl) ?_
  refine t_rd rfl (rd_move rfl) ?_
  obtain ⟨r1, h2, q3⟩ := ob h; clear h
  refine t_ef rfl (ef_call tf23 rfl (crew_check_ok h2 (hv0.to_call hm0) (hv1.to_call hm0))) ?_
  rintro _ w5 ⟨e_, hm4⟩
  obtain rfl := e_.symm
  have hm6 := hm0.call hm4
  refine t_rd rfl (rd_assign rfl) ?_
  refine rwt_nil ?_
  refine qn_then ?_
  refine cw_seq ?_
  refine cw_region ?_
  refine t_rd rfl (rd_move rfl) ?_
  refine t_rd rfl (rd_neq rfl rfl) ?_
  refine rwt_nil ?_
  refine qn_then ?_
  obtain ⟨hb7, q8⟩ | ⟨hb7, q8⟩ := oi q3 <;> clear q3
  · refine cw_t rfl hb7 ?_
    refine cw_seq ?_
    refine cw_region ?_
    refine t_rd rfl (rd_move rfl) ?_
    refine t_rd rfl (rd_assign rfl) ?_
    refine t_rd rfl (rd_assign rfl) ?_
    refine rwt_nil ?_
    refine qn_then ?_
    refine cw_ret ?_
    refine qr_then ?_
    obtain rfl := os q8
    exact ret2 rfl rfl rfl ⟨rfl, (hm6.pick [] (by decide) rfl)⟩
  · refine cw_f rfl hb7 ?_
    refine cw_skip ?_
    refine qn_then ?_
    refine cw_seq ?_
    refine cw_region ?_
    refine t_rd rfl (rd_move rfl) ?_
    refine t_rd rfl (rd_move rfl) ?_
    refine t_rd rfl (rd_lenS tS25 rfl (hv0.of_old hm6)) ?_
    obtain ⟨r9, h10, q11⟩ := ob q8; clear q8
    refine t_ef rfl (ef_call tf27 rfl (crew_set_ok h10 (hv3.to_call hm6))) ?_
    rintro _ w14 ⟨v12, e_, hm13⟩
    obtain rfl := e_.symm
    have hm15 := hm6.call hm13
    refine t_rd rfl (rd_move rfl) ?_
    refine t_rd rfl (rd_extract rfl rfl) ?_
    refine t_rd rfl (rd_extract rfl rfl) ?_
    refine t_rd rfl (rd_assign rfl) ?_
    refine t_rd rfl (rd_assign rfl) ?_
    refine rwt_nil ?_
    refine qn_then ?_
    refine cw_seq ?_
    refine cw_region ?_
    refine t_rd rfl (rd_move rfl) ?_
    refine t_rd rfl (rd_move rfl) ?_
    refine t_rd rfl (rd_lenS tS26 rfl (hv1.of_old hm15)) ?_
    obtain ⟨r16, h17, q18⟩ := ob q11; clear q11
    refine t_ef rfl (ef_call tf27 rfl (crew_set_ok h17 (hv4.to_call hm15))) ?_
    rintro _ w21 ⟨v19, e_, hm20⟩
    obtain rfl := e_.symm
    have hm22 := hm15.call hm20
    refine t_rd rfl (rd_move rfl) ?_
    refine t_rd rfl (rd_extract rfl rfl) ?_
    refine t_rd rfl (rd_extract rfl rfl) ?_
    refine t_rd rfl (rd_assign rfl) ?_
    refine t_rd rfl (rd_assign rfl) ?_
    refine rwt_nil ?_
    refine qn_then ?_
    refine cw_seq ?_
    refine cw_seq ?_
    refine cw_region ?_
    refine t_rd rfl (rd_move rfl) ?_
    refine t_rd rfl (rd_not rfl) ?_
    refine t_rd rfl (rd_move rfl) ?_
    refine t_rdg rfl rfl rfl rfl (gv_f _) (fun hg23 => (rd_move rfl)) ?_
    refine t_rdg rfl rfl rfl rfl (gv_f _) (fun hg24 => (rd_not (gvx rfl hg24))) ?_
    refine t_rd rfl (rd_or rfl (fun hc25 => (gvx rfl (bnotIt hc25)))) ?_
    refine t_rd rfl (rd_move rfl) ?_
    refine t_rdg rfl rfl rfl rfl (gv_f _) (fun hg26 => (rd_move rfl)) ?_
    refine t_rdg rfl rfl rfl rfl (gv_f _) (fun hg27 => (rd_lenS tS29 (gvx rfl hg27) (hv2.of_old hm22))) ?_
    refine t_rdg rfl rfl rfl rfl (gv_f _) (fun hg28 => (rd_move rfl)) ?_
    refine t_rdg rfl rfl rfl rfl (gv_f _) (fun hg29 => (rd_lenS tS22 (gvx rfl hg29) (hv3.of_old hm22))) ?_
    refine t_rdg rfl rfl rfl rfl (gv_f _) (fun hg30 => (rd_move rfl)) ?_
    refine t_rdg rfl rfl rfl rfl (gv_f _) (fun hg31 => (rd_lenS tS22 (gvx rfl hg31) (hv4.of_old hm22))) ?_
    obtain ⟨x33, h34, q35⟩ := ob q18; clear q18
    refine t_rdg rfl rfl rfl rfl (gv_f _) (fun hg32 => (rd_add64 (gO_t h34 hg32) (gvx rfl hg32) (gvx rfl hg32))) ?_
    refine t_rdg rfl rfl rfl rfl (gv_f _) (fun hg36 => (rd_neq (gvx rfl hg36) (gvx rfl hg36))) ?_
    refine t_rd rfl (rd_or rfl (fun hc37 => (gvx rfl (bnotIt hc37)))) ?_
    refine t_rd rfl (rd_move rfl) ?_
    refine t_rdg rfl rfl rfl rfl (gv_f _) (fun hg38 => (rd_move rfl)) ?_
    refine t_rdg rfl rfl rfl rfl (gv_f _) (fun hg39 => (rd_move rfl)) ?_
    refine t_rdg rfl rfl rfl rfl (gv_f _) (fun hg40 => (rd_move rfl)) ?_
    obtain ⟨r42, h43, q44⟩ := ob q35; clear q35
    refine t_efg rfl rfl rfl rfl (R := (fun v w' => v = gV (!(((!r9.2) || (!r16.2)) || (!decide ((List.length a2 : Int) = x33)))) (Value.bool r42) ∧ Mem w21 No [] w')) (gv_f _) (fun hg41 => (ef_call tf28 (evc (gvx rfl hg41) (evc (gvx rfl hg41) (evc (gvx rfl hg41) evn))) (crew_matching_ok (gO_t h43 hg41) (hv0.to_call hm22) (hv1.to_call hm22) (hv2.to_call hm22))).mono (by rintro _ _ ⟨rfl, q⟩; exact ⟨(gV_t hg41).symm, q⟩)) (fun q => ⟨(gV_f q).symm, Mem.nil _⟩) ?_
    rintro _ w46 ⟨rfl, hm45⟩
    have hm47 := hm22.call hm45
    refine t_rdg rfl rfl rfl rfl (gv_f _) (fun hg48 => (rd_not (gvx rfl hg48))) ?_
    refine t_rd rfl (rd_or rfl (fun hc49 => (gvx rfl (bnotIt hc49)))) ?_
    refine rwt_nil ?_
    refine qn_then ?_
    obtain ⟨hb50, q51⟩ | ⟨hb50, q51⟩ := oi q44 <;> clear q44
    · refine cw_t rfl hb50 ?_
      refine cw_seq ?_
      refine cw_region ?_
      refine t_rd rfl (rd_assign rfl) ?_
      refine t_rd rfl (rd_assign rfl) ?_
      refine rwt_nil ?_
      refine qn_then ?_
      refine cw_ret ?_
      refine qr_then ?_
      obtain rfl := os q51
      exact ret2 rfl rfl rfl ⟨rfl, (hm47.pick [] (by decide) rfl)⟩
    · refine cw_f rfl hb50 ?_
      refine cw_skip ?_
      refine qn_then ?_
      refine cw_seq ?_
      refine cw_seq ?_
      refine cw_region ?_
      refine t_rd rfl (rd_move rfl) ?_
      refine t_rd rfl (rd_lenS tS25 rfl (hv0.of_old hm47)) ?_
      refine t_rd rfl (rd_move rfl) ?_
      refine rwt_nil ?_
      refine qn_then ?_
      refine cw_block ?_
      obtain ⟨r368, hit369, q370⟩ := ob q51; clear q51
      refine cw_loop2 (I := fun q envq wq => Sub [(1, v1), (13, v12), (15, v19), (64, v0), (65, (Value.int .i64 (List.length a0 : Int))), (66, (Value.int .i64 q))] envq ∧ Mem w No [ownL 4 v19 (r16.1 : List Bool), ownL 4 v12 (r9.1 : List Bool)] wq) (X := fun eq envq wq => (∃ p371, r368 = (Sum.inl p371) ∧ eq = .ret ∧ retQ Try.prog 97 Try.f17 (fun u w' => u = (Value.tuple #[(Value.bool p371.1), (Value.int .i64 p371.2)]) ∧ Mem w No [] w') .ret envq wq) ∨ (∃ p372, r368 = (Sum.inr p372) ∧ eq = .exit 0 ∧ Sub [] envq ∧ Mem w No [] wq)) hit369 ⟨(by repeat (first | exact Sub.nil _ | refine Sub.cons rfl ?_)), (hm47.pick [0, 1] (by decide) rfl)⟩ ?_ ?_
      · rintro i361 x363 env364 w365 hf366 hr367 ⟨hs_, hm_⟩
        have hs_ : Sub [(1, v1), (13, v12), (15, v19), (64, v0), (65, (Value.int .i64 (List.length a0 : Int))), (66, (Value.int .i64 i361))] env364 := hs_
        have hm373 : Mem w No [ownL 4 v19 (r16.1 : List Bool), ownL 4 v12 (r9.1 : List Bool)] w365 := hm_
        refine cw_sub hs_ ?_
        clear hs_ hm_ q370
        have h : crew_Check_l3 N a0 a1 r9 r16 i361 = some x363 := hf366
        clear hf366
        refine cw_seq ?_
        refine cw_region ?_
        refine t_rd rfl (rd_lss rfl rfl) ?_
        refine rwt_nil ?_
        refine qn_then ?_
        refine cw_seq ?_
        obtain ⟨hb374, q375⟩ | ⟨hb374, q375⟩ := oi h <;> clear h
        · refine cw_t rfl hb374 ?_
          refine cw_skip ?_
          refine qn_then ?_
          refine cw_seq ?_
          refine cw_block ?_
          refine cw_seq ?_
          refine cw_region ?_
          refine t_rd rfl (rd_move rfl) ?_
          obtain ⟨x376, h377, q378⟩ := ob q375; clear q375
          refine t_rd rfl (rd_index tS25 rfl rfl (hv0.of_old hm373) h377) ?_
          refine t_rd rfl (rd_ld tA37 rfl ((hv0.of_old hm373).cells h377) rfl) ?_
          refine t_ef rfl (ef_alloc hm373 tZ37 rfl) ?_
          rintro _ w381 ⟨g379, rfl, hm380⟩
          refine t_rd rfl (rd_assign rfl) ?_
          refine t_ef0 (ef_stw (k := 0) hm380 tA37 rfl rfl (oc_cons rfl (oc_cons rfl oc_nil)) rfl rfl rfl) ?_
          intro _ w383 hm382
          refine rwt_nil ?_
          refine qn_then ?_
          refine cw_seq ?_
          refine cw_region ?_
          refine t_rd rfl (rd_move rfl) ?_
          refine t_rd rfl (rd_lenS tS26 rfl (hv1.of_old hm382)) ?_
          refine t_rd rfl (rd_move rfl) ?_
          refine rwt_nil ?_
          refine qn_then ?_
          refine cw_block ?_
          obtain ⟨r470, hit471, q472⟩ := ob q378; clear q378
          refine cw_loop2 (I := fun q envq wq => Sub [(1, v1), (13, v12), (15, v19), (17, (Value.int .i64 i361)), (18, (Value.pointer (some ⟨g379, 0, none⟩))), (64, v0), (65, (Value.int .i64 (List.length a0 : Int))), (66, (Value.int .i64 i361)), (71, v1), (72, (Value.int .i64 (List.length a1 : Int))), (73, (Value.int .i64 q))] envq ∧ Mem w No [blk g379 37 [(Value.int .i64 x376.From), (Value.int .i64 x376.To)], ownL 4 v19 (r16.1 : List Bool), ownL 4 v12 (r9.1 : List Bool)] wq) (X := fun eq envq wq => (∃ p473, r470 = (Sum.inl p473) ∧ eq = .ret ∧ retQ Try.prog 97 Try.f17 (fun u w' => u = (Value.tuple #[(Value.bool p473.1), (Value.int .i64 p473.2)]) ∧ Mem w No [] w') .ret envq wq) ∨ (∃ p474, r470 = (Sum.inr p474) ∧ eq = .exit 2 ∧ Sub [(1, v1), (13, v12), (15, v19), (64, v0), (65, (Value.int .i64 (List.length a0 : Int))), (66, (Value.int .i64 i361))] envq ∧ Mem w No [ownL 4 v19 (r16.1 : List Bool), ownL 4 v12 (r9.1 : List Bool)] wq)) hit471 ⟨(by repeat (first | exact Sub.nil _ | refine Sub.cons rfl ?_)), (hm382.pick [0, 1, 2] (by decide) rfl)⟩ ?_ ?_
          · rintro i463 x465 env466 w467 hf468 hr469 ⟨hs_, hm_⟩
            have hs_ : Sub [(1, v1), (13, v12), (15, v19), (17, (Value.int .i64 i361)), (18, (Value.pointer (some ⟨g379, 0, none⟩))), (64, v0), (65, (Value.int .i64 (List.length a0 : Int))), (66, (Value.int .i64 i361)), (71, v1), (72, (Value.int .i64 (List.length a1 : Int))), (73, (Value.int .i64 i463))] env466 := hs_
            have hm475 : Mem w No [blk g379 37 [(Value.int .i64 x376.From), (Value.int .i64 x376.To)], ownL 4 v19 (r16.1 : List Bool), ownL 4 v12 (r9.1 : List Bool)] w467 := hm_
            refine cw_sub hs_ ?_
            clear hs_ hm_ q472
            have h : crew_Check_l4 N a1 r9 r16 i361 x376 i463 = some x465 := hf468
            clear hf468
            refine cw_seq ?_
            refine cw_region ?_
            refine t_rd rfl (rd_lss rfl rfl) ?_
            refine rwt_nil ?_
            refine qn_then ?_
            refine cw_seq ?_
            obtain ⟨hb476, q477⟩ | ⟨hb476, q477⟩ := oi h <;> clear h
            · refine cw_t rfl hb476 ?_
              refine cw_skip ?_
              refine qn_then ?_
              refine cw_seq ?_
              refine cw_block ?_
              refine cw_seq ?_
              refine cw_region ?_
              refine t_rd rfl (rd_move rfl) ?_
              obtain ⟨x478, h479, q480⟩ := ob q477; clear q477
              refine t_rd rfl (rd_index tS26 rfl rfl (hv1.of_old hm475) h479) ?_
              refine t_rd rfl (rd_ld tA39 rfl ((hv1.of_old hm475).cells h479) rfl) ?_
              refine t_ef rfl (ef_alloc hm475 tZ39 rfl) ?_
              rintro _ w483 ⟨g481, rfl, hm482⟩
              refine t_rd rfl (rd_assign rfl) ?_
              refine t_ef0 (ef_stw (k := 0) hm482 tA39 rfl rfl (oc_cons rfl (oc_cons rfl (oc_cons rfl oc_nil))) rfl rfl rfl) ?_
              intro _ w485 hm484
              refine rwt_nil ?_
              refine qn_then ?_
              refine cw_seq ?_
              refine cw_region ?_
              refine t_rd rfl (rd_ld tA37 rfl (hm484.blk 1 rfl) rfl) ?_
              refine t_rd rfl (rd_ld tA39 rfl (hm484.blk 0 rfl) rfl) ?_
              obtain ⟨r486, h487, q488⟩ := ob q480; clear q480
              refine t_ef rfl (ef_call tf19 rfl (crew_Fits_ok h487)) ?_
              rintro _ w490 ⟨e_, hm489⟩
              obtain rfl := e_.symm
              have hm491 := hm484.call hm489
              refine t_rd rfl (rd_move rfl) ?_
              refine t_rdg rfl rfl rfl rfl (gv_t _) (fun hg492 => (rd_move rfl)) ?_
              refine t_rdg rfl rfl rfl rfl (gv_t _) (fun hg493 => (rd_move rfl)) ?_
              obtain ⟨x495, h496, q497⟩ := ob q488; clear q488
              refine t_rdg rfl rfl rfl rfl (gv_t _) (fun hg494 => (rd_index tS33 (gvx rfl hg494) (gvx rfl hg494) (hm491.sl 3 rfl) (gO_t h496 hg494))) ?_
              refine t_rdg rfl rfl rfl rfl (gv_t _) (fun hg498 => (rd_ld1 tO4 (gvx rfl hg498) ((hm491.sl 3 rfl).cells (gO_t h496 hg498)) (off := 0) rfl)) ?_
              refine t_rdg rfl rfl rfl rfl (gv_t _) (fun hg499 => (rd_not (gvx rfl hg499))) ?_
              refine t_rd rfl (rd_and rfl (fun hc500 => (gvx rfl hc500))) ?_
              refine t_rd rfl (rd_move rfl) ?_
              refine t_rdg rfl rfl rfl rfl (gv_t _) (fun hg501 => (rd_move rfl)) ?_
              refine t_rdg rfl rfl rfl rfl (gv_t _) (fun hg502 => (rd_move rfl)) ?_
              obtain ⟨x504, h505, q506⟩ := ob q497; clear q497
              refine t_rdg rfl rfl rfl rfl (gv_t _) (fun hg503 => (rd_index tS33 (gvx rfl hg503) (gvx rfl hg503) (hm491.sl 2 rfl) (gO_t h505 hg503))) ?_
              refine t_rdg rfl rfl rfl rfl (gv_t _) (fun hg507 => (rd_ld1 tO4 (gvx rfl hg507) ((hm491.sl 2 rfl).cells (gO_t h505 hg507)) (off := 0) rfl)) ?_
              refine t_rdg rfl rfl rfl rfl (gv_t _) (fun hg508 => (rd_not (gvx rfl hg508))) ?_
              refine t_rd rfl (rd_and rfl (fun hc509 => (gvx rfl hc509))) ?_
              refine rwt_nil ?_
              refine qn_then ?_
              obtain ⟨hb510, q511⟩ | ⟨hb510, q511⟩ := oi q506 <;> clear q506
              · refine cw_t rfl hb510 ?_
                refine cw_seq ?_
                refine cw_region ?_
                refine t_rd rfl (rd_assign rfl) ?_
                refine t_rd rfl (rd_assign rfl) ?_
                refine rwt_nil ?_
                refine qn_then ?_
                refine cw_ret ?_
                refine qr_block (qr_then (qr_then ?_))
                obtain rfl := hr469 _ (os q511)
                refine .inl (⟨_, rfl, ⟨rfl, ?_⟩⟩)
                exact ret2 rfl rfl rfl ⟨rfl, (hm491.pick [] (by decide) rfl)⟩
              · refine cw_f rfl hb510 ?_
                refine cw_skip ?_
                refine qn_block (qn_then ?_)
                refine cw_region ?_
                obtain ⟨x512, h513, q514⟩ := ob q511; clear q511
                refine t_rd rfl (rd_add64 h513 rfl rfl) ?_
                refine t_rd rfl (rd_move rfl) ?_
                refine rwt_nil ?_
                refine qn_then ?_
                refine ⟨_, (os q514), (by repeat (first | exact Sub.nil _ | refine Sub.cons rfl ?_)), (hm491.pick [1, 2, 3] (by decide) rfl)⟩
            · refine cw_f rfl hb476 ?_
              refine cw_exit ?_
              refine qx_then (qx_then ?_)
              obtain rfl := hr469 _ (os q477)
              exact .inr (⟨_, rfl, ⟨rfl, (by repeat (first | exact Sub.nil _ | refine Sub.cons rfl ?_)), (hm475.pick [1, 2] (by decide) rfl)⟩⟩)
          · skip
            intro e env515 w516 hX517
            rcases hX517 with hX517 | hX517
            · obtain ⟨p519, rfl, hX517⟩ := hX517
              obtain ⟨rfl, hq521⟩ := hX517
              obtain rfl := hr367 _ (os q472)
              exact qr_block (qr_block (qr_then (qr_then (.inl (⟨_, rfl, ⟨rfl, hq521⟩⟩)))))
            · obtain ⟨p522, rfl, hX517⟩ := hX517
              obtain ⟨rfl, hs523, hm524⟩ := hX517
              refine qx_same (qn_block (qn_then ?_))
              refine cw_sub hs523 ?_
              refine cw_region ?_
              obtain ⟨x525, h526, q527⟩ := ob q472; clear q472
              refine t_rd rfl (rd_add64 h526 rfl rfl) ?_
              refine t_rd rfl (rd_move rfl) ?_
              refine rwt_nil ?_
              refine qn_then ?_
              refine ⟨_, (os q527), (by repeat (first | exact Sub.nil _ | refine Sub.cons rfl ?_)), (hm524.pick [0, 1] (by decide) rfl)⟩
        · refine cw_f rfl hb374 ?_
          refine cw_exit ?_
          refine qx_then (qx_then ?_)
          obtain rfl := hr367 _ (os q375)
          exact .inr (⟨_, rfl, ⟨rfl, (by repeat (first | exact Sub.nil _ | refine Sub.cons rfl ?_)), (hm373.pick [] (by decide) rfl)⟩⟩)
      · skip
        intro e env528 w529 hX530
        rcases hX530 with hX530 | hX530
        · obtain ⟨p532, rfl, hX530⟩ := hX530
          obtain ⟨rfl, hq534⟩ := hX530
          exact qr_block (qr_then ((by have e := os q370; subst e; exact hq534)))
        · obtain ⟨p535, rfl, hX530⟩ := hX530
          obtain ⟨rfl, hs536, hm537⟩ := hX530
          refine qx_same (qn_then ?_)
          refine cw_sub hs536 ?_
          refine cw_seq ?_
          refine cw_region ?_
          refine t_rd rfl (rd_assign rfl) ?_
          refine t_rd rfl (rd_assign rfl) ?_
          refine rwt_nil ?_
          refine qn_then ?_
          refine cw_ret ?_
          obtain rfl := os q370
          exact ret2 rfl rfl rfl ⟨rfl, (hm537.pick [] (by decide) rfl)⟩

theorem r40_Valid_ok {N : Nat} {a0 : List T_Task} {a1 : List T_Crew} {res : Int} (h : r40_Valid N a0 a1 = some res) {w : World} {v0 : Value} {v1 : Value} (hv0 : Sl (Old w No) w v0 a0) (hv1 : Sl (Old w No) w v1 a1) :
    CallsR Try.prog 20 [v0, v1] w (fun u w' => u = (Value.int .i64 res) ∧ Mem w No [] w') := by
  unfold r40_Valid at h
  refine fn_ok Try.func20 rfl rfl rfl ?_
  have hm0 := Mem.nil w
  refine cw_seq ?_
  refine cw_region ?_
  refine t_rd rfl (rd_assign rfl) ?_
  refine rwt_nil ?_
  refine qn_then ?_
  refine cw_seq ?_
  refine cw_seq ?_
  refine cw_region ?_
  refine t_rd rfl (rd_move rfl) ?_
  refine t_rd rfl (rd_lenS tS25 rfl (hv0.of_old hm0)) ?_
  refine t_rd rfl (rd_gtr rfl rfl) ?_
  refine t_rd rfl (rd_move rfl) ?_
  refine t_rdg rfl rfl rfl rfl (gv_f _) (fun hg1 => (rd_move rfl)) ?_
  refine t_rdg rfl rfl rfl rfl (gv_f _) (fun hg2 => (rd_lenS tS26 (gvx rfl hg2) (hv1.of_old hm0))) ?_
  refine t_rdg rfl rfl rfl rfl (gv_f _) (fun hg3 => (rd_gtr (gvx rfl hg3) rfl)) ?_
  refine t_rd rfl (rd_or rfl (fun hc4 => (gvx rfl (bnotIt hc4)))) ?_
  refine rwt_nil ?_
  refine qn_then ?_
  obtain ⟨hb5, q6⟩ | ⟨hb5, q6⟩ := oi h <;> clear h
  · refine cw_t rfl hb5 ?_
    refine cw_seq ?_
    refine cw_region ?_
    refine t_rd rfl (rd_assign rfl) ?_
    refine rwt_nil ?_
    refine qn_then ?_
    refine cw_ret ?_
    refine qr_then ?_
    obtain rfl := os q6
    exact ret1 rfl rfl ⟨rfl, (hm0.pick [] (by decide) rfl)⟩
  · refine cw_f rfl hb5 ?_
    refine cw_skip ?_
    refine qn_then ?_
    refine cw_seq ?_
    refine cw_seq ?_
    refine cw_region ?_
    refine t_rd rfl (rd_assign rfl) ?_
    refine rwt_nil ?_
    refine qn_then ?_
    refine cw_block ?_
    obtain ⟨r65, hit66, q67⟩ := ob q6; clear q6
    refine cw_loop2 (I := fun q envq wq => Sub [(0, v0), (1, v1), (5, (Value.int .i64 q))] envq ∧ Mem w No [] wq) (X := fun eq envq wq => (∃ p68, r65 = (Sum.inl p68) ∧ eq = .ret ∧ retQ Try.prog 77 Try.f20 (fun u w' => u = (Value.int .i64 p68) ∧ Mem w No [] w') .ret envq wq) ∨ (∃ p69, r65 = (Sum.inr p69) ∧ eq = .exit 0 ∧ Sub [(1, v1)] envq ∧ Mem w No [] wq)) hit66 ⟨(by repeat (first | exact Sub.nil _ | refine Sub.cons rfl ?_)), (hm0.pick [] (by decide) rfl)⟩ ?_ ?_
    · rintro i58 x60 env61 w62 hf63 hr64 ⟨hs_, hm_⟩
      have hs_ : Sub [(0, v0), (1, v1), (5, (Value.int .i64 i58))] env61 := hs_
      have hm70 : Mem w No [] w62 := hm_
      refine cw_sub hs_ ?_
      clear hs_ hm_ q67
      have h : r40_Valid_l1 N a0 i58 = some x60 := hf63
      clear hf63
      refine cw_seq ?_
      refine cw_seq ?_
      refine cw_region ?_
      refine t_rd rfl (rd_move rfl) ?_
      refine t_rd rfl (rd_move rfl) ?_
      refine t_rd rfl (rd_lenS tS25 rfl (hv0.of_old hm70)) ?_
      refine t_rd rfl (rd_lss rfl rfl) ?_
      refine rwt_nil ?_
      refine qn_then ?_
      obtain ⟨hb71, q72⟩ | ⟨hb71, q72⟩ := oi h <;> clear h
      · refine cw_t rfl hb71 ?_
        refine cw_skip ?_
        refine qn_then ?_
        refine cw_seq ?_
        refine cw_block ?_
        refine cw_seq ?_
        refine cw_region ?_
        refine t_rd rfl (rd_move rfl) ?_
        refine t_rd rfl (rd_move rfl) ?_
        obtain ⟨x73, h74, q75⟩ := ob q72; clear q72
        refine t_rd rfl (rd_index tS25 rfl rfl (hv0.of_old hm70) h74) ?_
        refine t_rd rfl (rd_ld tA37 rfl ((hv0.of_old hm70).cells h74) rfl) ?_
        refine t_ef rfl (ef_alloc hm70 tZ37 rfl) ?_
        rintro _ w78 ⟨g76, rfl, hm77⟩
        refine t_ef0 (ef_stw (k := 0) hm77 tA37 rfl rfl (oc_cons rfl (oc_cons rfl oc_nil)) rfl rfl rfl) ?_
        intro _ w80 hm79
        refine rwt_nil ?_
        refine qn_then ?_
        refine cw_seq ?_
        refine cw_region ?_
        refine t_rd rfl (rd_fld tF37_0 rfl) ?_
        refine t_rd rfl (rd_ld1 tO3 rfl (hm79.blk 0 rfl) (off := 0) rfl) ?_
        refine t_rd rfl (rd_lss rfl rfl) ?_
        refine t_rd rfl (rd_move rfl) ?_
        refine t_rdg rfl rfl rfl rfl (gv_f _) (fun hg81 => (rd_fld tF37_0 rfl)) ?_
        refine t_rdg rfl rfl rfl rfl (gv_f _) (fun hg82 => (rd_ld1 tO3 (gvx rfl hg82) (hm79.blk 0 rfl) (off := 0) rfl)) ?_
        refine t_rdg rfl rfl rfl rfl (gv_f _) (fun hg83 => (rd_fld tF37_1 rfl)) ?_
        refine t_rdg rfl rfl rfl rfl (gv_f _) (fun hg84 => (rd_ld1 tO3 (gvx rfl hg84) (hm79.blk 0 rfl) (off := 1) rfl)) ?_
        refine t_rdg rfl rfl rfl rfl (gv_f _) (fun hg85 => (rd_geq (gvx rfl hg85) (gvx rfl hg85))) ?_
        refine t_rd rfl (rd_or rfl (fun hc86 => (gvx rfl (bnotIt hc86)))) ?_
        refine t_rd rfl (rd_move rfl) ?_
        refine t_rdg rfl rfl rfl rfl (gv_f _) (fun hg87 => (rd_fld tF37_1 rfl)) ?_
        refine t_rdg rfl rfl rfl rfl (gv_f _) (fun hg88 => (rd_ld1 tO3 (gvx rfl hg88) (hm79.blk 0 rfl) (off := 1) rfl)) ?_
        refine t_rdg rfl rfl rfl rfl (gv_f _) (fun hg89 => (rd_gtr (gvx rfl hg89) rfl)) ?_
        refine t_rd rfl (rd_or rfl (fun hc90 => (gvx rfl (bnotIt hc90)))) ?_
        refine rwt_nil ?_
        refine qn_then ?_
        obtain ⟨hb91, q92⟩ | ⟨hb91, q92⟩ := oi q75 <;> clear q75
        · refine cw_t rfl hb91 ?_
          refine cw_seq ?_
          refine cw_region ?_
          refine t_rd rfl (rd_assign rfl) ?_
          refine rwt_nil ?_
          refine qn_then ?_
          refine cw_ret ?_
          refine qr_block (qr_then (qr_then ?_))
          obtain rfl := hr64 _ (os q92)
          refine .inl (⟨_, rfl, ⟨rfl, ?_⟩⟩)
          exact ret1 rfl rfl ⟨rfl, (hm79.pick [] (by decide) rfl)⟩
        · refine cw_f rfl hb91 ?_
          refine cw_skip ?_
          refine qn_block (qn_then ?_)
          refine cw_region ?_
          refine t_rd rfl (rd_move rfl) ?_
          obtain ⟨x93, h94, q95⟩ := ob q92; clear q92
          refine t_rd rfl (rd_add64 h94 rfl rfl) ?_
          refine t_rd rfl (rd_assign rfl) ?_
          refine rwt_nil ?_
          refine qn_then ?_
          refine ⟨_, (os q95), (by repeat (first | exact Sub.nil _ | refine Sub.cons rfl ?_)), (hm79.pick [] (by decide) rfl)⟩
      · refine cw_f rfl hb71 ?_
        refine cw_exit ?_
        refine qx_then (qx_then ?_)
        obtain rfl := hr64 _ (os q72)
        exact .inr (⟨_, rfl, ⟨rfl, (by repeat (first | exact Sub.nil _ | refine Sub.cons rfl ?_)), (hm70.pick [] (by decide) rfl)⟩⟩)
    · skip
      intro e env96 w97 hX98
      rcases hX98 with hX98 | hX98
      · obtain ⟨p100, rfl, hX98⟩ := hX98
        obtain ⟨rfl, hq102⟩ := hX98
        exact qr_block (qr_then ((by have e := os q67; subst e; exact hq102)))
      · obtain ⟨p103, rfl, hX98⟩ := hX98
        obtain ⟨rfl, hs104, hm105⟩ := hX98
        refine qx_same (qn_then ?_)
        refine cw_sub hs104 ?_
        refine cw_seq ?_
        refine cw_seq ?_
        refine cw_region ?_
        refine t_rd rfl (rd_assign rfl) ?_
        refine rwt_nil ?_
        refine qn_then ?_
        refine cw_block ?_
        obtain ⟨r180, hit181, q182⟩ := ob q67; clear q67
        refine cw_loop2 (I := fun q envq wq => Sub [(1, v1), (7, (Value.int .i64 q))] envq ∧ Mem w No [] wq) (X := fun eq envq wq => (∃ p183, r180 = (Sum.inl p183) ∧ eq = .ret ∧ retQ Try.prog 77 Try.f20 (fun u w' => u = (Value.int .i64 p183) ∧ Mem w No [] w') .ret envq wq) ∨ (∃ p184, r180 = (Sum.inr p184) ∧ eq = .exit 2 ∧ Sub [] envq ∧ Mem w No [] wq)) hit181 ⟨(by repeat (first | exact Sub.nil _ | refine Sub.cons rfl ?_)), (hm105.pick [] (by decide) rfl)⟩ ?_ ?_
        · rintro i173 x175 env176 w177 hf178 hr179 ⟨hs_, hm_⟩
          have hs_ : Sub [(1, v1), (7, (Value.int .i64 i173))] env176 := hs_
          have hm185 : Mem w No [] w177 := hm_
          refine cw_sub hs_ ?_
          clear hs_ hm_ q182
          have h : r40_Valid_l2 N a1 i173 = some x175 := hf178
          clear hf178
          refine cw_seq ?_
          refine cw_seq ?_
          refine cw_region ?_
          refine t_rd rfl (rd_move rfl) ?_
          refine t_rd rfl (rd_move rfl) ?_
          refine t_rd rfl (rd_lenS tS26 rfl (hv1.of_old hm185)) ?_
          refine t_rd rfl (rd_lss rfl rfl) ?_
          refine rwt_nil ?_
          refine qn_then ?_
          obtain ⟨hb186, q187⟩ | ⟨hb186, q187⟩ := oi h <;> clear h
          · refine cw_t rfl hb186 ?_
            refine cw_skip ?_
            refine qn_then ?_
            refine cw_seq ?_
            refine cw_block ?_
            refine cw_seq ?_
            refine cw_region ?_
            refine t_rd rfl (rd_move rfl) ?_
            refine t_rd rfl (rd_move rfl) ?_
            obtain ⟨x188, h189, q190⟩ := ob q187; clear q187
            refine t_rd rfl (rd_index tS26 rfl rfl (hv1.of_old hm185) h189) ?_
            refine t_rd rfl (rd_ld tA39 rfl ((hv1.of_old hm185).cells h189) rfl) ?_
            refine t_ef rfl (ef_alloc hm185 tZ39 rfl) ?_
            rintro _ w193 ⟨g191, rfl, hm192⟩
            refine t_ef0 (ef_stw (k := 0) hm192 tA39 rfl rfl (oc_cons rfl (oc_cons rfl (oc_cons rfl oc_nil))) rfl rfl rfl) ?_
            intro _ w195 hm194
            refine rwt_nil ?_
            refine qn_then ?_
            refine cw_seq ?_
            refine cw_region ?_
            refine t_rd rfl (rd_fld tF39_0 rfl) ?_
            refine t_rd rfl (rd_ld1 tO3 rfl (hm194.blk 0 rfl) (off := 0) rfl) ?_
            refine t_rd rfl (rd_lss rfl rfl) ?_
            refine t_rd rfl (rd_move rfl) ?_
            refine t_rdg rfl rfl rfl rfl (gv_f _) (fun hg196 => (rd_fld tF39_0 rfl)) ?_
            refine t_rdg rfl rfl rfl rfl (gv_f _) (fun hg197 => (rd_ld1 tO3 (gvx rfl hg197) (hm194.blk 0 rfl) (off := 0) rfl)) ?_
            refine t_rdg rfl rfl rfl rfl (gv_f _) (fun hg198 => (rd_fld tF39_1 rfl)) ?_
            refine t_rdg rfl rfl rfl rfl (gv_f _) (fun hg199 => (rd_ld1 tO3 (gvx rfl hg199) (hm194.blk 0 rfl) (off := 1) rfl)) ?_
            refine t_rdg rfl rfl rfl rfl (gv_f _) (fun hg200 => (rd_geq (gvx rfl hg200) (gvx rfl hg200))) ?_
            refine t_rd rfl (rd_or rfl (fun hc201 => (gvx rfl (bnotIt hc201)))) ?_
            refine t_rd rfl (rd_move rfl) ?_
            refine t_rdg rfl rfl rfl rfl (gv_f _) (fun hg202 => (rd_fld tF39_1 rfl)) ?_
            refine t_rdg rfl rfl rfl rfl (gv_f _) (fun hg203 => (rd_ld1 tO3 (gvx rfl hg203) (hm194.blk 0 rfl) (off := 1) rfl)) ?_
            refine t_rdg rfl rfl rfl rfl (gv_f _) (fun hg204 => (rd_gtr (gvx rfl hg204) rfl)) ?_
            refine t_rd rfl (rd_or rfl (fun hc205 => (gvx rfl (bnotIt hc205)))) ?_
            refine t_rd rfl (rd_move rfl) ?_
            refine t_rdg rfl rfl rfl rfl (gv_f _) (fun hg206 => (rd_fld tF39_2 rfl)) ?_
            refine t_rdg rfl rfl rfl rfl (gv_f _) (fun hg207 => (rd_ld1 tO3 (gvx rfl hg207) (hm194.blk 0 rfl) (off := 2) rfl)) ?_
            refine t_rdg rfl rfl rfl rfl (gv_f _) (fun hg208 => (rd_lss (gvx rfl hg208) rfl)) ?_
            refine t_rd rfl (rd_or rfl (fun hc209 => (gvx rfl (bnotIt hc209)))) ?_
            refine t_rd rfl (rd_move rfl) ?_
            refine t_rdg rfl rfl rfl rfl (gv_f _) (fun hg210 => (rd_fld tF39_2 rfl)) ?_
            refine t_rdg rfl rfl rfl rfl (gv_f _) (fun hg211 => (rd_ld1 tO3 (gvx rfl hg211) (hm194.blk 0 rfl) (off := 2) rfl)) ?_
            refine t_rdg rfl rfl rfl rfl (gv_f _) (fun hg212 => (rd_gtr (gvx rfl hg212) rfl)) ?_
            refine t_rd rfl (rd_or rfl (fun hc213 => (gvx rfl (bnotIt hc213)))) ?_
            refine rwt_nil ?_
            refine qn_then ?_
            obtain ⟨hb214, q215⟩ | ⟨hb214, q215⟩ := oi q190 <;> clear q190
            · refine cw_t rfl hb214 ?_
              refine cw_seq ?_
              refine cw_region ?_
              refine t_rd rfl (rd_assign rfl) ?_
              refine rwt_nil ?_
              refine qn_then ?_
              refine cw_ret ?_
              refine qr_block (qr_then (qr_then ?_))
              obtain rfl := hr179 _ (os q215)
              refine .inl (⟨_, rfl, ⟨rfl, ?_⟩⟩)
              exact ret1 rfl rfl ⟨rfl, (hm194.pick [] (by decide) rfl)⟩
            · refine cw_f rfl hb214 ?_
              refine cw_skip ?_
              refine qn_block (qn_then ?_)
              refine cw_region ?_
              refine t_rd rfl (rd_move rfl) ?_
              obtain ⟨x216, h217, q218⟩ := ob q215; clear q215
              refine t_rd rfl (rd_add64 h217 rfl rfl) ?_
              refine t_rd rfl (rd_assign rfl) ?_
              refine rwt_nil ?_
              refine qn_then ?_
              refine ⟨_, (os q218), (by repeat (first | exact Sub.nil _ | refine Sub.cons rfl ?_)), (hm194.pick [] (by decide) rfl)⟩
          · refine cw_f rfl hb186 ?_
            refine cw_exit ?_
            refine qx_then (qx_then ?_)
            obtain rfl := hr179 _ (os q187)
            exact .inr (⟨_, rfl, ⟨rfl, (by repeat (first | exact Sub.nil _ | refine Sub.cons rfl ?_)), (hm185.pick [] (by decide) rfl)⟩⟩)
        · skip
          intro e env219 w220 hX221
          rcases hX221 with hX221 | hX221
          · obtain ⟨p223, rfl, hX221⟩ := hX221
            obtain ⟨rfl, hq225⟩ := hX221
            exact qr_block (qr_then ((by have e := os q182; subst e; exact hq225)))
          · obtain ⟨p226, rfl, hX221⟩ := hX221
            obtain ⟨rfl, hs227, hm228⟩ := hX221
            refine qx_same (qn_then ?_)
            refine cw_sub hs227 ?_
            refine cw_seq ?_
            refine cw_region ?_
            refine t_rd rfl (rd_assign rfl) ?_
            refine rwt_nil ?_
            refine qn_then ?_
            refine cw_ret ?_
            obtain rfl := os q182
            exact ret1 rfl rfl ⟨rfl, (hm228.pick [] (by decide) rfl)⟩

theorem r40_ascending_ok {N : Nat} {a0 : List Int} {a1 : Int} {res : Bool} (h : r40_ascending N a0 a1 = some res) {w : World} {v0 : Value} (hv0 : Sl (Old w No) w v0 a0) :
    CallsR Try.prog 29 [v0, (Value.int .i64 a1)] w (fun u w' => u = (Value.bool res) ∧ Mem w No [] w') := by
  unfold r40_ascending at h
  refine fn_ok Try.func29 rfl rfl rfl ?_
  have hm0 := Mem.nil w
  refine cw_seq ?_
  refine cw_region ?_
  refine t_rd rfl (rd_assign rfl) ?_
  refine rwt_nil ?_
  refine qn_then ?_
  refine cw_seq ?_
  refine cw_seq ?_
  refine cw_region ?_
  refine t_rd rfl (rd_assign rfl) ?_
  refine rwt_nil ?_
  refine qn_then ?_
  refine cw_block ?_
  obtain ⟨r107, hit108, q109⟩ := ob h; clear h
  refine cw_loop2 (I := fun q envq wq => Sub [(0, v0), (1, (Value.int .i64 a1)), (5, (Value.int .i64 q))] envq ∧ Mem w No [] wq) (X := fun eq envq wq => (∃ p110, r107 = (Sum.inl p110) ∧ eq = .ret ∧ retQ Try.prog 41 Try.f29 (fun u w' => u = (Value.bool p110) ∧ Mem w No [] w') .ret envq wq) ∨ (∃ p111, r107 = (Sum.inr p111) ∧ eq = .exit 0 ∧ Sub [] envq ∧ Mem w No [] wq)) hit108 ⟨(by repeat (first | exact Sub.nil _ | refine Sub.cons rfl ?_)), (hm0.pick [] (by decide) rfl)⟩ ?_ ?_
  · rintro i100 x102 env103 w104 hf105 hr106 ⟨hs_, hm_⟩
    have hs_ : Sub [(0, v0), (1, (Value.int .i64 a1)), (5, (Value.int .i64 i100))] env103 := hs_
    have hm112 : Mem w No [] w104 := hm_
    refine cw_sub hs_ ?_
    clear hs_ hm_ q109
    have h : r40_ascending_l1 N a0 a1 i100 = some x102 := hf105
    clear hf105
    refine cw_seq ?_
    refine cw_seq ?_
    refine cw_region ?_
    refine t_rd rfl (rd_move rfl) ?_
    refine t_rd rfl (rd_move rfl) ?_
    refine t_rd rfl (rd_lenS tS22 rfl (hv0.of_old hm112)) ?_
    refine t_rd rfl (rd_lss rfl rfl) ?_
    refine rwt_nil ?_
    refine qn_then ?_
    obtain ⟨hb113, q114⟩ | ⟨hb113, q114⟩ := oi h <;> clear h
    · refine cw_t rfl hb113 ?_
      refine cw_skip ?_
      refine qn_then ?_
      refine cw_seq ?_
      refine cw_block ?_
      refine cw_seq ?_
      obtain ⟨w116, he118⟩ : ∃ q, q = w104.drew := ⟨_, rfl⟩
      have hm117 := hm112.drew; rw [← he118] at hm117
      refine cw_region_s (fun q => q = w116) (cls [] []) mixed ?_
      rintro _ rfl; rw [← he118]
      refine s_rp (i := 0) rfl (by kernel_rfl) rfl (fun _ => (rd_move rfl)) ?_
      refine s_rp (i := 1) rfl (by kernel_rfl) rfl (fun _ => (rd_move rfl)) ?_
      obtain ⟨x119, h120, q121⟩ := ob q114; clear q114
      refine s_rp (i := 2) rfl (by kernel_rfl) rfl (fun _ => (rd_index tS22 rfl rfl (hv0.of_old hm117) h120)) ?_
      refine s_rd (i := 3) rfl (by kernel_rfl) rfl (fun _ hS => by rw [hS]; exact (rd_ld1 tO3 rfl ((hv0.of_old hm117).cells h120) (off := 0) rfl)) rfl ?_
      refine s_rp (i := 4) rfl (by kernel_rfl) rfl (fun _ => (rd_lss rfl rfl)) ?_
      refine s_rp (i := 5) rfl (by kernel_rfl) rfl (fun _ => (rd_move rfl)) ?_
      refine s_rpg (i := 6) rfl (by kernel_rfl) rfl rfl rfl rfl (gv_f _) (fun hg122 _ => (rd_move rfl)) ?_
      refine s_rpg (i := 7) rfl (by kernel_rfl) rfl rfl rfl rfl (gv_f _) (fun hg123 _ => (rd_move rfl)) ?_
      obtain ⟨x125, h126, q127⟩ := ob q121; clear q121
      refine s_rpg (i := 8) rfl (by kernel_rfl) rfl rfl rfl rfl (gv_f _) (fun hg124 _ => (rd_index tS22 (gvx rfl hg124) (gvx rfl hg124) (hv0.of_old hm117) (gO_t h126 hg124))) ?_
      refine s_rdg (i := 9) rfl (by kernel_rfl) rfl rfl rfl rfl (gv_f _) (fun hg128 => (fun _ hS => by rw [hS]; exact (rd_ld1 tO3 (gvx rfl hg128) ((hv0.of_old hm117).cells (gO_t h126 hg128)) (off := 0) rfl))) rfl ?_
      refine s_rpg (i := 10) rfl (by kernel_rfl) rfl rfl rfl rfl (gv_f _) (fun hg129 _ => (rd_move rfl)) ?_
      refine s_rpg (i := 11) rfl (by kernel_rfl) rfl rfl rfl rfl (gv_f _) (fun hg130 _ => (rd_geq (gvx rfl hg130) (gvx rfl hg130))) ?_
      refine s_rp (i := 12) rfl (by kernel_rfl) rfl (fun _ => (rd_or rfl (fun hc131 => (gvx rfl (bnotIt hc131))))) ?_
      refine s_rp (i := 13) rfl (by kernel_rfl) rfl (fun _ => (rd_move rfl)) ?_
      refine s_rpg (i := 14) rfl (by kernel_rfl) rfl rfl rfl rfl (gv_f _) (fun hg132 _ => (rd_move rfl)) ?_
      refine s_rpg (i := 15) rfl (by kernel_rfl) rfl rfl rfl rfl (gv_f _) (fun hg133 _ => (rd_gtr (gvx rfl hg133) rfl)) ?_
      refine s_rpg (i := 16) rfl (by kernel_rfl) rfl rfl rfl rfl (gv_f _) (fun hg134 _ => (rd_move (gvx rfl hg134))) ?_
      refine s_rpg (i := 17) rfl (by kernel_rfl) rfl rfl rfl rfl (gv_nt _ _) (fun hg135 _ => (rd_move rfl)) ?_
      refine s_rpg (i := 18) rfl (by kernel_rfl) rfl rfl rfl rfl (gv_nt _ _) (fun hg136 _ => (rd_move rfl)) ?_
      obtain ⟨x138, h139, q140⟩ := ob q127; clear q127
      refine s_rpg (i := 19) rfl (by kernel_rfl) rfl rfl rfl rfl (gv_nt _ _) (fun hg137 _ => (rd_index tS22 (gvx rfl hg137) (gvx rfl hg137) (hv0.of_old hm117) (gO_t h139 hg137))) ?_
      refine s_rdg (i := 20) rfl (by kernel_rfl) rfl rfl rfl rfl (gv_nt _ _) (fun hg141 => (fun _ hS => by rw [hS]; exact (rd_ld1 tO3 (gvx rfl hg141) ((hv0.of_old hm117).cells (gO_t h139 hg141)) (off := 0) rfl))) rfl ?_
      refine s_rpg (i := 21) rfl (by kernel_rfl) rfl rfl rfl rfl (gv_nt _ _) (fun hg142 _ => (rd_move rfl)) ?_
      refine s_rpg (i := 22) rfl (by kernel_rfl) rfl rfl rfl rfl (gv_nt _ _) (fun hg143 _ => (rd_move rfl)) ?_
      obtain ⟨x145, h146, q147⟩ := ob q140; clear q140
      refine s_rpg (i := 23) rfl (by kernel_rfl) rfl rfl rfl rfl (gv_nt _ _) (fun hg144 _ => (rd_sub64 (gO_t h146 hg144) (gvx rfl hg144) rfl)) ?_
      obtain ⟨x149, h150, q151⟩ := ob q147; clear q147
      refine s_rpg (i := 24) rfl (by kernel_rfl) rfl rfl rfl rfl (gv_nt _ _) (fun hg148 _ => (rd_index tS22 (gvx rfl hg148) (gvx rfl hg148) (hv0.of_old hm117) (gO_t h150 hg148))) ?_
      refine s_rdg (i := 25) rfl (by kernel_rfl) rfl rfl rfl rfl (gv_nt _ _) (fun hg152 => (fun _ hS => by rw [hS]; exact (rd_ld1 tO3 (gvx rfl hg152) ((hv0.of_old hm117).cells (gO_t h150 hg152)) (off := 0) rfl))) rfl ?_
      refine s_rpg (i := 26) rfl (by kernel_rfl) rfl rfl rfl rfl (gv_nt _ _) (fun hg153 _ => (rd_leq (gvx rfl hg153) (gvx rfl hg153))) ?_
      refine s_rpg (i := 27) rfl (by kernel_rfl) rfl rfl rfl rfl (gv_f _) (fun hg154 _ => (rd_and (gvx rfl hg154) (fun hc155 => (gvx rfl (band hg154 hc155))))) ?_
      refine s_rp (i := 28) rfl (by kernel_rfl) rfl (fun _ => (rd_or rfl (fun hc156 => (gvx rfl (bnotIt hc156))))) ?_
      refine s_nil (by kernel_rfl) ?_
      refine qn_then ?_
      obtain ⟨hb157, q158⟩ | ⟨hb157, q158⟩ := oi q151 <;> clear q151
      · refine cw_t rfl hb157 ?_
        refine cw_seq ?_
        refine cw_region ?_
        refine t_rd rfl (rd_assign rfl) ?_
        refine rwt_nil ?_
        refine qn_then ?_
        refine cw_ret ?_
        refine qr_block (qr_then (qr_then ?_))
        obtain rfl := hr106 _ (os q158)
        refine .inl (⟨_, rfl, ⟨rfl, ?_⟩⟩)
        exact ret1 rfl rfl ⟨rfl, (hm117.pick [] (by decide) rfl)⟩
      · refine cw_f rfl hb157 ?_
        refine cw_skip ?_
        refine qn_block (qn_then ?_)
        refine cw_region ?_
        refine t_rd rfl (rd_move rfl) ?_
        obtain ⟨x159, h160, q161⟩ := ob q158; clear q158
        refine t_rd rfl (rd_add64 h160 rfl rfl) ?_
        refine t_rd rfl (rd_assign rfl) ?_
        refine rwt_nil ?_
        refine qn_then ?_
        refine ⟨_, (os q161), (by repeat (first | exact Sub.nil _ | refine Sub.cons rfl ?_)), (hm117.pick [] (by decide) rfl)⟩
    · refine cw_f rfl hb113 ?_
      refine cw_exit ?_
      refine qx_then (qx_then ?_)
      obtain rfl := hr106 _ (os q114)
      exact .inr (⟨_, rfl, ⟨rfl, (by repeat (first | exact Sub.nil _ | refine Sub.cons rfl ?_)), (hm112.pick [] (by decide) rfl)⟩⟩)
  · skip
    intro e env162 w163 hX164
    rcases hX164 with hX164 | hX164
    · obtain ⟨p166, rfl, hX164⟩ := hX164
      obtain ⟨rfl, hq168⟩ := hX164
      exact qr_block (qr_then ((by have e := os q109; subst e; exact hq168)))
    · obtain ⟨p169, rfl, hX164⟩ := hX164
      obtain ⟨rfl, hs170, hm171⟩ := hX164
      refine qx_same (qn_then ?_)
      refine cw_sub hs170 ?_
      refine cw_seq ?_
      refine cw_region ?_
      refine t_rd rfl (rd_assign rfl) ?_
      refine rwt_nil ?_
      refine qn_then ?_
      refine cw_ret ?_
      obtain rfl := os q109
      exact ret1 rfl rfl ⟨rfl, (hm171.pick [] (by decide) rfl)⟩

theorem r40_has_ok {N : Nat} {a0 : List Int} {a1 : Int} {res : Bool} (h : r40_has N a0 a1 = some res) {w : World} {v0 : Value} (hv0 : Sl (Old w No) w v0 a0) :
    CallsR Try.prog 30 [v0, (Value.int .i64 a1)] w (fun u w' => u = (Value.bool res) ∧ Mem w No [] w') := by
  unfold r40_has at h
  refine fn_ok Try.func30 rfl rfl rfl ?_
  have hm0 := Mem.nil w
  refine cw_seq ?_
  refine cw_region ?_
  refine t_rd rfl (rd_assign rfl) ?_
  refine rwt_nil ?_
  refine qn_then ?_
  refine cw_seq ?_
  refine cw_seq ?_
  refine cw_region ?_
  refine t_rd rfl (rd_assign rfl) ?_
  refine rwt_nil ?_
  refine qn_then ?_
  refine cw_block ?_
  obtain ⟨r29, hit30, q31⟩ := ob h; clear h
  refine cw_loop2 (I := fun q envq wq => Sub [(0, v0), (1, (Value.int .i64 a1)), (5, (Value.int .i64 q))] envq ∧ Mem w No [] wq) (X := fun eq envq wq => (∃ p32, r29 = (Sum.inl p32) ∧ eq = .ret ∧ retQ Try.prog 18 Try.f30 (fun u w' => u = (Value.bool p32) ∧ Mem w No [] w') .ret envq wq) ∨ (∃ p33, r29 = (Sum.inr p33) ∧ eq = .exit 0 ∧ Sub [] envq ∧ Mem w No [] wq)) hit30 ⟨(by repeat (first | exact Sub.nil _ | refine Sub.cons rfl ?_)), (hm0.pick [] (by decide) rfl)⟩ ?_ ?_
  · rintro i22 x24 env25 w26 hf27 hr28 ⟨hs_, hm_⟩
    have hs_ : Sub [(0, v0), (1, (Value.int .i64 a1)), (5, (Value.int .i64 i22))] env25 := hs_
    have hm34 : Mem w No [] w26 := hm_
    refine cw_sub hs_ ?_
    clear hs_ hm_ q31
    have h : r40_has_l1 N a0 a1 i22 = some x24 := hf27
    clear hf27
    refine cw_seq ?_
    refine cw_seq ?_
    refine cw_region ?_
    refine t_rd rfl (rd_move rfl) ?_
    refine t_rd rfl (rd_move rfl) ?_
    refine t_rd rfl (rd_lenS tS22 rfl (hv0.of_old hm34)) ?_
    refine t_rd rfl (rd_lss rfl rfl) ?_
    refine rwt_nil ?_
    refine qn_then ?_
    obtain ⟨hb35, q36⟩ | ⟨hb35, q36⟩ := oi h <;> clear h
    · refine cw_t rfl hb35 ?_
      refine cw_skip ?_
      refine qn_then ?_
      refine cw_seq ?_
      refine cw_block ?_
      refine cw_seq ?_
      refine cw_region ?_
      refine t_rd rfl (rd_move rfl) ?_
      refine t_rd rfl (rd_move rfl) ?_
      obtain ⟨x37, h38, q39⟩ := ob q36; clear q36
      refine t_rd rfl (rd_index tS22 rfl rfl (hv0.of_old hm34) h38) ?_
      refine t_rd rfl (rd_ld1 tO3 rfl ((hv0.of_old hm34).cells h38) (off := 0) rfl) ?_
      refine t_rd rfl (rd_move rfl) ?_
      refine t_rd rfl (rd_eql rfl rfl) ?_
      refine rwt_nil ?_
      refine qn_then ?_
      obtain ⟨hb40, q41⟩ | ⟨hb40, q41⟩ := oi q39 <;> clear q39
      · refine cw_t rfl hb40 ?_
        refine cw_seq ?_
        refine cw_region ?_
        refine t_rd rfl (rd_assign rfl) ?_
        refine rwt_nil ?_
        refine qn_then ?_
        refine cw_ret ?_
        refine qr_block (qr_then (qr_then ?_))
        obtain rfl := hr28 _ (os q41)
        refine .inl (⟨_, rfl, ⟨rfl, ?_⟩⟩)
        exact ret1 rfl rfl ⟨rfl, (hm34.pick [] (by decide) rfl)⟩
      · refine cw_f rfl hb40 ?_
        refine cw_skip ?_
        refine qn_block (qn_then ?_)
        refine cw_region ?_
        refine t_rd rfl (rd_move rfl) ?_
        obtain ⟨x42, h43, q44⟩ := ob q41; clear q41
        refine t_rd rfl (rd_add64 h43 rfl rfl) ?_
        refine t_rd rfl (rd_assign rfl) ?_
        refine rwt_nil ?_
        refine qn_then ?_
        refine ⟨_, (os q44), (by repeat (first | exact Sub.nil _ | refine Sub.cons rfl ?_)), (hm34.pick [] (by decide) rfl)⟩
    · refine cw_f rfl hb35 ?_
      refine cw_exit ?_
      refine qx_then (qx_then ?_)
      obtain rfl := hr28 _ (os q36)
      exact .inr (⟨_, rfl, ⟨rfl, (by repeat (first | exact Sub.nil _ | refine Sub.cons rfl ?_)), (hm34.pick [] (by decide) rfl)⟩⟩)
  · skip
    intro e env45 w46 hX47
    rcases hX47 with hX47 | hX47
    · obtain ⟨p49, rfl, hX47⟩ := hX47
      obtain ⟨rfl, hq51⟩ := hX47
      exact qr_block (qr_then ((by have e := os q31; subst e; exact hq51)))
    · obtain ⟨p52, rfl, hX47⟩ := hX47
      obtain ⟨rfl, hs53, hm54⟩ := hX47
      refine qx_same (qn_then ?_)
      refine cw_sub hs53 ?_
      refine cw_seq ?_
      refine cw_region ?_
      refine t_rd rfl (rd_assign rfl) ?_
      refine rwt_nil ?_
      refine qn_then ?_
      refine cw_ret ?_
      obtain rfl := os q31
      exact ret1 rfl rfl ⟨rfl, (hm54.pick [] (by decide) rfl)⟩

end Go.Proofs.Ythoabchofjcigaa
