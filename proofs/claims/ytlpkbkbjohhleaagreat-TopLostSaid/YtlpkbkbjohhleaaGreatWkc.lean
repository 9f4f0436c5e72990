/- Each call computes what its mirror does; written by a program of mine (gowalk.py). -/
import Derived.Test.YtlpkbkbjohhleaaGreatWkb
namespace Go.Proofs.YtlpkbkbjohhleaaGreat
open Go.Gv Go.RowKit
set_option linter.unusedVariables false
set_option maxRecDepth 100000

theorem leastcode_Witness_ok {N : Nat} {a0_Items : List T_Item} {a0_Weight : Int} {res : List Int × Int} (h : leastcode_Witness N a0_Items a0_Weight = some res) {w : World} {v0_Items : Value} (hv0_Items : Sl (Old w No) w v0_Items a0_Items) :
    CallsR Tryz.prog 29 [(Value.agg #[v0_Items, (Value.int .i64 a0_Weight)])] w (fun u w' => ∃ (y0 : Value), u = (Value.tuple #[y0, (Value.int .i64 res.2)]) ∧ Mem w No [ownL 3 y0 (res.1 : List Int)] w') := by
  unfold leastcode_Witness at h
  refine fn_ok Tryz.func29 rfl rfl rfl ?_
  have hm0 := Mem.nil w
  refine cw_seq ?_
  refine cw_region ?_
  refine t_ef rfl (ef_box hm0 rfl rfl) ?_
  rintro _ w3 ⟨g1, rfl, hm2⟩
  refine t_rd rfl (rd_assign rfl) ?_
  refine t_rd rfl (rd_assign rfl) ?_
  refine rwt_nil ?_
  refine qn_then ?_
  refine cw_seq ?_
  refine cw_seq ?_
  refine cw_region ?_
  refine t_rd rfl (rd_ld tA27 rfl (hm2.blk 0 rfl) rfl) ?_
  obtain ⟨r4, h5, q6⟩ := ob h; clear h
  refine t_ef rfl (ef_call tf59 rfl (job_Valid_ok h5 (hv0_Items.to_call hm2))) ?_
  rintro _ w8 ⟨e_, hm7⟩
  obtain rfl := e_.symm
  have hm9 := hm2.call hm7
  refine t_rd rfl (rd_assign rfl) ?_
  refine rwt_nil ?_
  refine qn_then ?_
  refine cw_seq ?_
  refine cw_region ?_
  refine t_rd rfl (rd_move rfl) ?_
  refine t_rd rfl (rd_neq rfl rfl) ?_
  refine rwt_nil ?_
  refine qn_then ?_
  obtain ⟨hb10, q11⟩ | ⟨hb10, q11⟩ := oi q6 <;> clear q6
  · refine cw_t rfl hb10 ?_
    refine cw_seq ?_
    refine cw_region ?_
    refine t_rd rfl (rd_move rfl) ?_
    refine t_rd rfl (rd_assign rfl) ?_
    refine t_rd rfl (rd_assign rfl) ?_
    refine rwt_nil ?_
    refine qn_then ?_
    refine cw_ret ?_
    refine qr_then ?_
    obtain rfl := os q11
    have hm12 := hm9.addNil (α := Int) 3
    exact ret2 rfl rfl rfl ⟨(Value.slice none 0 0), rfl, (hm12.pick [0] (by decide) rfl)⟩
  · refine cw_f rfl hb10 ?_
    refine cw_skip ?_
    refine qn_then ?_
    refine cw_seq ?_
    refine cw_region ?_
    refine t_rd rfl (rd_ld tA27 rfl (hm9.blk 0 rfl) rfl) ?_
    obtain ⟨r13, h14, q15⟩ := ob q11; clear q11
    refine t_ef rfl (ef_call tf61 rfl (leastcode_relations_ok h14 (hv0_Items.to_call hm9))) ?_
    rintro _ w19 ⟨zs17, v16, e_, hm18⟩
    obtain rfl := e_.symm
    have hm20 := hm9.call hm18
    refine t_rd rfl (rd_assign rfl) ?_
    refine rwt_nil ?_
    refine qn_then ?_
    refine cw_seq ?_
    refine cw_region ?_
    refine t_rd rfl (rd_ld tA27 rfl (hm20.blk 2 rfl) rfl) ?_
    refine t_rd rfl (rd_move rfl) ?_
    obtain ⟨r21, h22, q23⟩ := ob q15; clear q15
    refine t_ef rfl (ef_call tf60 rfl (leastcode_solve_ok h22 (hv0_Items.to_call hm20) ((Nl.mk (hm20.sl_call 0 rfl) (hm20.rows_call 1 rfl)).sl))) ?_
    rintro _ w27 ⟨v24, v25, e_, hm26⟩
    obtain rfl := e_.symm
    have hm28 := hm20.call hm26
    refine t_rd rfl (rd_move rfl) ?_
    refine t_rd rfl (rd_extract rfl rfl) ?_
    refine t_rd rfl (rd_extract rfl rfl) ?_
    refine t_rd rfl (rd_extract rfl rfl) ?_
    refine t_rd rfl (rd_assign rfl) ?_
    refine t_rd rfl (rd_assign rfl) ?_
    refine t_rd rfl (rd_assign rfl) ?_
    refine rwt_nil ?_
    refine qn_then ?_
    refine cw_seq ?_
    refine cw_seq ?_
    refine cw_region ?_
    refine t_rd rfl (rd_move rfl) ?_
    refine t_rd rfl (rd_neq rfl rfl) ?_
    refine rwt_nil ?_
    refine qn_then ?_
    obtain ⟨hb29, q30⟩ | ⟨hb29, q30⟩ := oi q23 <;> clear q23
    · refine cw_t rfl hb29 ?_
      refine cw_seq ?_
      refine cw_region ?_
      refine t_rd rfl (rd_move rfl) ?_
      refine t_rd rfl (rd_assign rfl) ?_
      refine t_rd rfl (rd_assign rfl) ?_
      refine rwt_nil ?_
      refine qn_then ?_
      refine cw_ret ?_
      refine qr_then ?_
      obtain rfl := os q30
      have hm31 := hm28.addNil (α := Int) 3
      exact ret2 rfl rfl rfl ⟨(Value.slice none 0 0), rfl, (hm31.pick [0] (by decide) rfl)⟩
    · refine cw_f rfl hb29 ?_
      refine cw_skip ?_
      refine qn_then ?_
      refine cw_seq ?_
      refine cw_seq ?_
      refine cw_region ?_
      refine t_rd rfl (rd_move rfl) ?_
      refine t_rd rfl (rd_lenS tS22 rfl (hm28.sl 1 rfl)) ?_
      refine t_rd rfl (rd_eql rfl rfl) ?_
      refine rwt_nil ?_
      refine qn_then ?_
      obtain ⟨hb32, q33⟩ | ⟨hb32, q33⟩ := oi q30 <;> clear q30
      · refine cw_t rfl hb32 ?_
        refine cw_seq ?_
        refine cw_region ?_
        refine t_rd rfl (rd_assign rfl) ?_
        refine t_rd rfl (rd_assign rfl) ?_
        refine rwt_nil ?_
        refine qn_then ?_
        refine cw_ret ?_
        refine qr_then ?_
        obtain rfl := os q33
        have hm34 := hm28.addNil (α := Int) 3
        exact ret2 rfl rfl rfl ⟨(Value.slice none 0 0), rfl, (hm34.pick [0] (by decide) rfl)⟩
      · refine cw_f rfl hb32 ?_
        refine cw_skip ?_
        refine qn_then ?_
        refine cw_seq ?_
        refine cw_region ?_
        refine t_rd rfl (rd_move rfl) ?_
        refine t_rd rfl (rd_move rfl) ?_
        obtain ⟨r35, h36, q37⟩ := ob q33; clear q33
        refine t_ef rfl (ef_call tf63 rfl (g_slices_Max_int_int_ok h36 (hm28.sl_call 1 rfl))) ?_
        rintro _ w39 ⟨e_, hm38⟩
        obtain rfl := e_.symm
        have hm40 := hm28.call hm38
        obtain ⟨r41, h42, q43⟩ := ob q37; clear q37
        refine t_ef rfl (ef_call tf62 rfl (g_slices_Index_int_int_ok h42 (hm40.sl_call 1 rfl))) ?_
        rintro _ w45 ⟨e_, hm44⟩
        obtain rfl := e_.symm
        have hm46 := hm40.call hm44
        refine t_rd rfl (rd_assign rfl) ?_
        refine rwt_nil ?_
        refine qn_then ?_
        refine cw_seq ?_
        refine cw_region ?_
        refine t_rd rfl (rd_move rfl) ?_
        refine t_ef rfl (ef_bslice (l := ([r41] : List Int)) hm46 tS22 rfl (cs := #[(Value.int .i64 r41)]) (by unfold bsl; kernel_rfl) rfl rfl) ?_
        intro v47 w49 hm48
        refine t_rd rfl (rd_assign rfl) ?_
        refine rwt_nil ?_
        refine qn_then ?_
        refine cw_seq ?_
        refine cw_block ?_
        obtain ⟨r542, hit543, q544⟩ := ob q43; clear q43
        refine cw_loop2 (I := fun q envq wq => ∃ (v535 : Value), Sub [(5, v16), (6, v24), (7, v25), (9, (Value.int .i64 q.1)), (10, v535)] envq ∧ Mem w No [ownL 3 v535 (q.2 : List Int), ownL 3 v24 (r21.1 : List Int), ownL 3 v25 (r21.2.1 : List Int), ownL 22 v16 (zs17 : List Hdr), rowsC 3 zs17 (r13 : List (List Int)) none] wq) (X := fun eq envq wq => eq = .exit 0 ∧ ∃ (v532 : Value), Sub [(10, v532)] envq ∧ Mem w No [ownL 3 v532 (r542 : List Int)] wq) hit543 ⟨v47, (by repeat (first | exact Sub.nil _ | refine Sub.cons rfl ?_)), (hm48.pick [0, 1, 2, 3, 4] (by decide) rfl)⟩ ?_ ?_
        · rintro ⟨i533, l534⟩ x537 env538 w539 hf540 hr541 ⟨v535, hs_, hm_⟩
          have hs_ : Sub [(5, v16), (6, v24), (7, v25), (9, (Value.int .i64 i533)), (10, v535)] env538 := hs_
          have hm545 : Mem w No [ownL 3 v535 (l534 : List Int), ownL 3 v24 (r21.1 : List Int), ownL 3 v25 (r21.2.1 : List Int), ownL 22 v16 (zs17 : List Hdr), rowsC 3 zs17 (r13 : List (List Int)) none] w539 := hm_
          refine cw_sub hs_ ?_
          clear hs_ hm_ q544
          have h : leastcode_Witness_l3 N r13 r21 i533 l534 = some x537 := hf540
          clear hf540
          refine cw_seq ?_
          refine cw_seq ?_
          refine cw_region ?_
          refine t_rd rfl (rd_move rfl) ?_
          refine t_rd rfl (rd_move rfl) ?_
          obtain ⟨x546, h547, q548⟩ := ob h; clear h
          refine t_rd rfl (rd_index tS22 rfl rfl (hm545.sl 1 rfl) h547) ?_
          refine t_rd rfl (rd_ld1 tO3 rfl ((hm545.sl 1 rfl).cells h547) (off := 0) rfl) ?_
          refine t_rd rfl (rd_gtr rfl rfl) ?_
          refine rwt_nil ?_
          refine qn_then ?_
          obtain ⟨hb549, q550⟩ | ⟨hb549, q550⟩ := oi q548 <;> clear q548
          · refine cw_t rfl hb549 ?_
            refine cw_skip ?_
            refine qn_then ?_
            refine cw_block ?_
            refine cw_seq ?_
            refine cw_seq ?_
            refine cw_region ?_
            refine t_rd rfl (rd_move rfl) ?_
            refine t_rd rfl (rd_lenS tS22 rfl (hm545.sl 2 rfl)) ?_
            refine t_rd rfl (rd_move rfl) ?_
            refine rwt_nil ?_
            refine qn_then ?_
            refine cw_block ?_
            obtain ⟨r698, hit699, q700⟩ := ob q550; clear q550
            refine cw_loop2 (I := fun q envq wq => Sub [(5, v16), (6, v24), (7, v25), (9, (Value.int .i64 i533)), (10, v535), (45, (Value.int .i64 (List.length r21.2.1 : Int))), (46, (Value.int .i64 q))] envq ∧ Mem w No [ownL 3 v535 (l534 : List Int), ownL 3 v24 (r21.1 : List Int), ownL 3 v25 (r21.2.1 : List Int), ownL 22 v16 (zs17 : List Hdr), rowsC 3 zs17 (r13 : List (List Int)) none] wq) (X := fun eq envq wq => eq = .exit 2 ∧ Sub [(5, v16), (6, v24), (7, v25), (9, (Value.int .i64 r698)), (10, v535)] envq ∧ Mem w No [ownL 3 v535 (l534 : List Int), ownL 3 v24 (r21.1 : List Int), ownL 3 v25 (r21.2.1 : List Int), ownL 22 v16 (zs17 : List Hdr), rowsC 3 zs17 (r13 : List (List Int)) none] wq) hit699 ⟨(by repeat (first | exact Sub.nil _ | refine Sub.cons rfl ?_)), (hm545.pick [0, 1, 2, 3, 4] (by decide) rfl)⟩ ?_ ?_
            · rintro i691 x693 env694 w695 hf696 hr697 ⟨hs_, hm_⟩
              have hs_ : Sub [(5, v16), (6, v24), (7, v25), (9, (Value.int .i64 i533)), (10, v535), (45, (Value.int .i64 (List.length r21.2.1 : Int))), (46, (Value.int .i64 i691))] env694 := hs_
              have hm701 : Mem w No [ownL 3 v535 (l534 : List Int), ownL 3 v24 (r21.1 : List Int), ownL 3 v25 (r21.2.1 : List Int), ownL 22 v16 (zs17 : List Hdr), rowsC 3 zs17 (r13 : List (List Int)) none] w695 := hm_
              refine cw_sub hs_ ?_
              clear hs_ hm_ q700
              have h : leastcode_Witness_l4 N r13 r21 i533 i691 = some x693 := hf696
              clear hf696
              refine cw_seq ?_
              refine cw_region ?_
              refine t_rd rfl (rd_lss rfl rfl) ?_
              refine rwt_nil ?_
              refine qn_then ?_
              refine cw_seq ?_
              obtain ⟨hb702, q703⟩ | ⟨hb702, q703⟩ := oi h <;> clear h
              · refine cw_t rfl hb702 ?_
                refine cw_skip ?_
                refine qn_then ?_
                refine cw_seq ?_
                refine cw_block ?_
                refine cw_seq ?_
                refine cw_region ?_
                refine t_rd rfl (rd_move rfl) ?_
                refine t_rd rfl (rd_assign rfl) ?_
                refine rwt_nil ?_
                refine qn_then ?_
                refine cw_seq ?_
                refine cw_region ?_
                refine t_rd rfl (rd_move rfl) ?_
                refine t_rd rfl (rd_move rfl) ?_
                obtain ⟨x704, h705, q706⟩ := ob q703; clear q703
                refine t_rd rfl (rd_index tS41 rfl rfl ((Nl.mk (hm701.sl_call 3 rfl) (hm701.rows_call 4 rfl)).sl) h705) ?_
                obtain ⟨zd707, hz708⟩ := (Nl.mk (hm701.sl_call 3 rfl) (hm701.rows_call 4 rfl)).row h705
                refine t_rd rfl (rd_ld1 tO22 rfl ((Nl.mk (hm701.sl_call 3 rfl) (hm701.rows_call 4 rfl)).cells hz708) (off := 0) rfl) ?_
                refine t_rd rfl (rd_move rfl) ?_
                obtain ⟨x709, h710, q711⟩ := ob q706; clear q706
                refine t_rd rfl (rd_index tS22 rfl rfl ((Nl.mk (hm701.sl_call 3 rfl) (hm701.rows_call 4 rfl)).get hz708 h705) h710) ?_
                refine t_rd rfl (rd_ld1 tO3 rfl (((Nl.mk (hm701.sl_call 3 rfl) (hm701.rows_call 4 rfl)).get hz708 h705).cells h710) (off := 0) rfl) ?_
                refine t_rd rfl (rd_assign rfl) ?_
                refine rwt_nil ?_
                refine qn_then ?_
                refine cw_seq ?_
                obtain ⟨w738, he740⟩ : ∃ q, q = w695.drew := ⟨_, rfl⟩
                have hm739 := hm701.drew; rw [← he740] at hm739
                refine cw_region_s (fun q => q = w738) (cls [] []) mixed ?_
                rintro _ rfl; rw [← he740]
                refine s_rp (i := 0) rfl (by kernel_rfl) rfl (fun _ => (rd_move rfl)) ?_
                refine s_rp (i := 1) rfl (by kernel_rfl) rfl (fun _ => (rd_gtr rfl rfl)) ?_
                refine s_rp (i := 2) rfl (by kernel_rfl) rfl (fun _ => (rd_move rfl)) ?_
                refine s_rpg (i := 3) rfl (by kernel_rfl) rfl rfl rfl rfl (gv_t _) (fun hg741 _ => (rd_move rfl)) ?_
                refine s_rpg (i := 4) rfl (by kernel_rfl) rfl rfl rfl rfl (gv_t _) (fun hg742 _ => (rd_move rfl)) ?_
                obtain ⟨x744, h745, q746⟩ := ob q711; clear q711
                refine s_rpg (i := 5) rfl (by kernel_rfl) rfl rfl rfl rfl (gv_t _) (fun hg743 _ => (rd_index tS22 (gvx rfl hg743) (gvx rfl hg743) (hm739.sl 2 rfl) (gO_t h745 hg743))) ?_
                refine s_rdg (i := 6) rfl (by kernel_rfl) rfl rfl rfl rfl (gv_t _) (fun hg747 => (fun _ hS => by rw [hS]; exact (rd_ld1 tO3 (gvx rfl hg747) ((hm739.sl 2 rfl).cells (gO_t h745 hg747)) (off := 0) rfl))) rfl ?_
                refine s_rpg (i := 7) rfl (by kernel_rfl) rfl rfl rfl rfl (gv_t _) (fun hg748 _ => (rd_move rfl)) ?_
                obtain ⟨x750, h751, q752⟩ := ob q746; clear q746
                refine s_rpg (i := 8) rfl (by kernel_rfl) rfl rfl rfl rfl (gv_t _) (fun hg749 _ => (rd_add64 (gO_t h751 hg749) (gvx rfl hg749) (gvx rfl hg749))) ?_
                obtain ⟨x754, h755, q756⟩ := ob q752; clear q752
                refine s_rpg (i := 9) rfl (by kernel_rfl) rfl rfl rfl rfl (gv_t _) (fun hg753 _ => (rd_sub64 (gO_t h755 hg753) (gvx rfl hg753) rfl)) ?_
                refine s_rpg (i := 10) rfl (by kernel_rfl) rfl rfl rfl rfl (gv_t _) (fun hg757 _ => (rd_move rfl)) ?_
                refine s_rpg (i := 11) rfl (by kernel_rfl) rfl rfl rfl rfl (gv_t _) (fun hg758 _ => (rd_move rfl)) ?_
                obtain ⟨x760, h761, q762⟩ := ob q756; clear q756
                refine s_rpg (i := 12) rfl (by kernel_rfl) rfl rfl rfl rfl (gv_t _) (fun hg759 _ => (rd_index tS22 (gvx rfl hg759) (gvx rfl hg759) (hm739.sl 1 rfl) (gO_t h761 hg759))) ?_
                refine s_rdg (i := 13) rfl (by kernel_rfl) rfl rfl rfl rfl (gv_t _) (fun hg763 => (fun _ hS => by rw [hS]; exact (rd_ld1 tO3 (gvx rfl hg763) ((hm739.sl 1 rfl).cells (gO_t h761 hg763)) (off := 0) rfl))) rfl ?_
                refine s_rpg (i := 14) rfl (by kernel_rfl) rfl rfl rfl rfl (gv_t _) (fun hg764 _ => (rd_eql (gvx rfl hg764) (gvx rfl hg764))) ?_
                refine s_rp (i := 15) rfl (by kernel_rfl) rfl (fun _ => (rd_and rfl (fun hc765 => (gvx rfl hc765)))) ?_
                refine s_nil (by kernel_rfl) ?_
                refine qn_then ?_
                obtain ⟨hb766, q767⟩ | ⟨hb766, q767⟩ := oi q762 <;> clear q762
                · refine cw_t rfl hb766 ?_
                  refine cw_seq ?_
                  refine cw_region ?_
                  refine t_rd rfl (rd_move rfl) ?_
                  refine t_rd rfl (rd_assign rfl) ?_
                  refine rwt_nil ?_
                  refine qn_then ?_
                  refine cw_exit ?_
                  refine qx_other rfl (qx_then (qx_then ?_))
                  obtain rfl := hr697 _ (os q767)
                  exact ⟨rfl, (by repeat (first | exact Sub.nil _ | refine Sub.cons rfl ?_)), (hm739.pick [0, 1, 2, 3, 4] (by decide) rfl)⟩
                · refine cw_f rfl hb766 ?_
                  refine cw_skip ?_
                  refine qn_block (qn_then ?_)
                  refine cw_region ?_
                  obtain ⟨x768, h769, q770⟩ := ob q767; clear q767
                  refine t_rd rfl (rd_add64 h769 rfl rfl) ?_
                  refine t_rd rfl (rd_move rfl) ?_
                  refine rwt_nil ?_
                  refine qn_then ?_
                  refine ⟨_, (os q770), (by repeat (first | exact Sub.nil _ | refine Sub.cons rfl ?_)), (hm739.pick [0, 1, 2, 3, 4] (by decide) rfl)⟩
              · refine cw_f rfl hb702 ?_
                refine cw_exit ?_
                refine qx_then (qx_then ?_)
                obtain rfl := hr697 _ (os q703)
                exact ⟨rfl, (by repeat (first | exact Sub.nil _ | refine Sub.cons rfl ?_)), (hm701.pick [0, 1, 2, 3, 4] (by decide) rfl)⟩
            · skip
              intro e env771 w772 hX773
              obtain ⟨rfl, hs774, hm775⟩ := hX773
              refine qx_same (qn_then ?_)
              refine cw_sub hs774 ?_
              refine cw_region ?_
              refine t_rd rfl (rd_move rfl) ?_
              refine t_rd rfl (rd_move rfl) ?_
              refine t_ef rfl (ef_bslice (l := ([r698] : List Int)) hm775 tS22 rfl (cs := #[(Value.int .i64 r698)]) (by unfold bsl; kernel_rfl) rfl rfl) ?_
              intro v776 w778 hm777
              obtain ⟨l779, h780, q781⟩ := ob q700; clear q700
              refine t_ef rfl (ef_append (k := 1) hm777 tS22 tE3 rfl rfl rfl rfl (hm777.sl 0 rfl) h780) ?_
              intro v782 w784 hm783
              refine t_rd rfl (rd_assign rfl) ?_
              refine rwt_nil ?_
              refine qn_block (qn_then ?_)
              refine ⟨_, (os q781), v782, (by repeat (first | exact Sub.nil _ | refine Sub.cons rfl ?_)), (hm783.pick [1, 2, 3, 4, 5] (by decide) rfl)⟩
          · refine cw_f rfl hb549 ?_
            refine cw_exit ?_
            refine qx_then (qx_then ?_)
            obtain rfl := hr541 _ (os q550)
            exact ⟨rfl, v535, (by repeat (first | exact Sub.nil _ | refine Sub.cons rfl ?_)), (hm545.pick [0] (by decide) rfl)⟩
        · skip
          intro e env785 w786 hX787
          obtain ⟨rfl, v532, hs788, hm789⟩ := hX787
          refine qx_same (qn_then ?_)
          refine cw_sub hs788 ?_
          refine cw_seq ?_
          refine cw_region ?_
          refine t_rd rfl (rd_move rfl) ?_
          obtain ⟨r790, h791, q792⟩ := ob q544; clear q544
          refine t_ef rfl (ef_call tf64 rfl (g_slices_Reverse_int_int_ok h791 (hm789.get (k := 0) rfl))) ?_
          rintro _ w794 ⟨e_, hm793⟩
          obtain rfl := e_.symm
          have hm795 := hm789.callT (k := 0) rfl (fun _ h => h) hm793 (fun _ => Iff.rfl)
          refine rwt_nil ?_
          refine qn_then ?_
          refine cw_seq ?_
          refine cw_region ?_
          refine t_rd rfl (rd_move rfl) ?_
          refine t_rd rfl (rd_assign rfl) ?_
          refine t_rd rfl (rd_assign rfl) ?_
          refine rwt_nil ?_
          refine qn_then ?_
          refine cw_ret ?_
          obtain rfl := os q792
          exact ret2 rfl rfl rfl ⟨v532, rfl, (hm795.pick [0] (by decide) rfl)⟩

theorem certificate_Make_ok {N : Nat} {a0_Items : List T_Item} {a0_Weight : Int} {res : Int × List Int × List Int × Int} (h : certificate_Make N a0_Items a0_Weight = some res) {w : World} {v0_Items : Value} (hv0_Items : Sl (Old w No) w v0_Items a0_Items) :
    CallsR Tryz.prog 8 [(Value.agg #[v0_Items, (Value.int .i64 a0_Weight)])] w (fun u w' => ∃ (y0 : Value) (y1 : Value), u = (Value.tuple #[(Value.agg #[(Value.int .i64 res.1), y0, y1]), (Value.int .i64 res.2.2.2)]) ∧ Mem w No [ownL 3 y0 (res.2.1 : List Int), ownL 3 y1 (res.2.2.1 : List Int)] w') := by
  unfold certificate_Make at h
  refine fn_ok Tryz.func8 rfl rfl rfl ?_
  have hm0 := Mem.nil w
  refine cw_seq ?_
  refine cw_region ?_
  refine t_ef rfl (ef_box hm0 rfl rfl) ?_
  rintro _ w3 ⟨g1, rfl, hm2⟩
  refine t_ef rfl (ef_alloc hm2 tZ32 rfl) ?_
  rintro _ w6 ⟨g4, rfl, hm5⟩
  refine t_rd rfl (rd_assign rfl) ?_
  refine rwt_nil ?_
  refine qn_then ?_
  refine cw_seq ?_
  refine cw_region ?_
  refine t_rd rfl (rd_ld tA27 rfl (hm5.blk 1 rfl) rfl) ?_
  obtain ⟨r7, h8, q9⟩ := ob h; clear h
  refine t_ef rfl (ef_call tf28 rfl (leastcode_Least_ok h8 (hv0_Items.to_call hm5))) ?_
  rintro _ w12 ⟨v10, e_, hm11⟩
  obtain rfl := e_.symm
  have hm13 := hm5.call hm11
  refine t_rd rfl (rd_move rfl) ?_
  refine t_rd rfl (rd_extract rfl rfl) ?_
  refine t_rd rfl (rd_extract rfl rfl) ?_
  refine t_ef rfl (ef_alloc hm13 tZ30 rfl) ?_
  rintro _ w16 ⟨g14, rfl, hm15⟩
  refine t_ef0 (ef_stw (k := 0) hm15 tA30 rfl rfl (oc_cons rfl (oc_cons (sl_one (hm15.sl 1 rfl)) oc_nil)) rfl rfl rfl) ?_
  intro _ w18 hm17
  refine t_rd rfl (rd_assign rfl) ?_
  refine rwt_nil ?_
  refine qn_then ?_
  refine cw_seq ?_
  refine cw_seq ?_
  refine cw_region ?_
  refine t_rd rfl (rd_move rfl) ?_
  refine t_rd rfl (rd_neq rfl rfl) ?_
  refine rwt_nil ?_
  refine qn_then ?_
  obtain ⟨hb19, q20⟩ | ⟨hb19, q20⟩ := oi q9 <;> clear q9
  · refine cw_t rfl hb19 ?_
    refine cw_seq ?_
    refine cw_region ?_
    refine t_rd rfl (rd_build (cs := #[(Value.int .i64 0), (Value.slice none 0 0), (Value.slice none 0 0)]) rfl (by kernel_rfl)) ?_
    refine t_rd rfl (rd_move rfl) ?_
    refine t_ef0 (ef_stw (k := 2) hm17 tA32 rfl rfl (oc_cons rfl (oc_cons (sl_one (Sl.nil (α := Int) No w18)) (oc_cons (sl_one (Sl.nil (α := Int) No w18)) oc_nil))) rfl rfl rfl) ?_
    intro _ w22 hm21
    refine t_rd rfl (rd_assign rfl) ?_
    refine rwt_nil ?_
    refine qn_then ?_
    refine cw_ret ?_
    refine qr_then ?_
    obtain rfl := os q20
    have hm23 := hm21.addNil (α := Int) 3
    have hm24 := hm23.addNil (α := Int) 3
    exact retLn (rs := [.cell 2 32, .tmp 3]) rfl (.rc rfl tA32 (hm24.blk 4 rfl) rfl (.rt rfl .rn)) rfl ⟨(Value.slice none 0 0), (Value.slice none 0 0), rfl, (hm24.pick [1, 0] (by decide) rfl)⟩
  · refine cw_f rfl hb19 ?_
    refine cw_skip ?_
    refine qn_then ?_
    refine cw_seq ?_
    refine cw_region ?_
    refine t_rd rfl (rd_ld tA27 rfl (hm17.blk 3 rfl) rfl) ?_
    obtain ⟨r25, h26, q27⟩ := ob q20; clear q20
    refine t_ef rfl (ef_call tf29 rfl (leastcode_Witness_ok h26 (hv0_Items.to_call hm17))) ?_
    rintro _ w30 ⟨v28, e_, hm29⟩
    obtain rfl := e_.symm
    have hm31 := hm17.call hm29
    refine t_rd rfl (rd_move rfl) ?_
    refine t_rd rfl (rd_extract rfl rfl) ?_
    refine t_rd rfl (rd_extract rfl rfl) ?_
    refine t_rd rfl (rd_assign rfl) ?_
    refine t_rd rfl (rd_assign rfl) ?_
    refine rwt_nil ?_
    refine qn_then ?_
    refine cw_seq ?_
    refine cw_seq ?_
    refine cw_region ?_
    refine t_rd rfl (rd_move rfl) ?_
    refine t_rd rfl (rd_neq rfl rfl) ?_
    refine rwt_nil ?_
    refine qn_then ?_
    obtain ⟨hb32, q33⟩ | ⟨hb32, q33⟩ := oi q27 <;> clear q27
    · refine cw_t rfl hb32 ?_
      refine cw_seq ?_
      refine cw_region ?_
      refine t_rd rfl (rd_build (cs := #[(Value.int .i64 0), (Value.slice none 0 0), (Value.slice none 0 0)]) rfl (by kernel_rfl)) ?_
      refine t_rd rfl (rd_move rfl) ?_
      refine t_ef0 (ef_stw (k := 3) hm31 tA32 rfl rfl (oc_cons rfl (oc_cons (sl_one (Sl.nil (α := Int) No w30)) (oc_cons (sl_one (Sl.nil (α := Int) No w30)) oc_nil))) rfl rfl rfl) ?_
      intro _ w35 hm34
      refine t_rd rfl (rd_assign rfl) ?_
      refine rwt_nil ?_
      refine qn_then ?_
      refine cw_ret ?_
      refine qr_then ?_
      obtain rfl := os q33
      have hm36 := hm34.addNil (α := Int) 3
      have hm37 := hm36.addNil (α := Int) 3
      exact retLn (rs := [.cell 2 32, .tmp 3]) rfl (.rc rfl tA32 (hm37.blk 5 rfl) rfl (.rt rfl .rn)) rfl ⟨(Value.slice none 0 0), (Value.slice none 0 0), rfl, (hm37.pick [1, 0] (by decide) rfl)⟩
    · refine cw_f rfl hb32 ?_
      refine cw_skip ?_
      refine qn_then ?_
      refine cw_seq ?_
      refine cw_region ?_
      refine t_rd rfl (rd_ld tA30 rfl (hm31.blk 1 rfl) rfl) ?_
      refine t_rd rfl (rd_move rfl) ?_
      refine t_rd rfl (rd_build (cs := #[(Value.int .i64 r7.1), v10, v28]) rfl (by obtain ⟨_, _, e⟩ := ((hm31.sl 2 rfl)).val; rw [e]; clear e; obtain ⟨_, _, e⟩ := ((hm31.sl 0 rfl)).val; rw [e]; clear e; kernel_rfl)) ?_
      refine t_ef0 (ef_stw (k := 3) hm31 tA32 rfl rfl (oc_cons rfl (oc_cons (sl_one (hm31.sl 2 rfl)) (oc_cons (sl_one (hm31.sl 0 rfl)) oc_nil))) rfl rfl rfl) ?_
      intro _ w39 hm38
      refine t_rd rfl (rd_assign rfl) ?_
      refine rwt_nil ?_
      refine qn_then ?_
      refine cw_ret ?_
      obtain rfl := os q33
      exact retLn (rs := [.cell 2 32, .tmp 3]) rfl (.rc rfl tA32 (hm38.blk 3 rfl) rfl (.rt rfl .rn)) rfl ⟨v10, v28, rfl, (hm38.pick [2, 0] (by decide) rfl)⟩

theorem rollin_Loads_ok {N : Nat} {a0_Items : List T_Item} {a0_Weight : Int} {a1_Steps : Int} {a1_Codes : List Int} {res : List Int × Int} (h : rollin_Loads N a0_Items a0_Weight a1_Steps a1_Codes = some res) {w : World} {v0_Items : Value} {v1_Codes : Value} (hv0_Items : Sl (Old w No) w v0_Items a0_Items) (hv1_Codes : Sl (Old w No) w v1_Codes a1_Codes) :
    CallsR Tryz.prog 56 [(Value.agg #[v0_Items, (Value.int .i64 a0_Weight)]), (Value.agg #[(Value.int .i64 a1_Steps), v1_Codes])] w (fun u w' => ∃ (y0 : Value), u = (Value.tuple #[y0, (Value.int .i64 res.2)]) ∧ Mem w No [ownL 3 y0 (res.1 : List Int)] w') := by
  unfold rollin_Loads at h
  refine fn_ok Tryz.func56 rfl rfl rfl ?_
  have hm0 := Mem.nil w
  refine cw_seq ?_
  refine cw_region ?_
  refine t_ef rfl (ef_box hm0 rfl rfl) ?_
  rintro _ w3 ⟨g1, rfl, hm2⟩
  refine t_ef rfl (ef_box hm2 rfl rfl) ?_
  rintro _ w6 ⟨g4, rfl, hm5⟩
  refine t_rd rfl (rd_assign rfl) ?_
  refine t_rd rfl (rd_assign rfl) ?_
  refine rwt_nil ?_
  refine qn_then ?_
  refine cw_seq ?_
  refine cw_seq ?_
  refine cw_region ?_
  refine t_rd rfl (rd_ld tA27 rfl (hm5.blk 1 rfl) rfl) ?_
  refine t_rd rfl (rd_ld tA30 rfl (hm5.blk 0 rfl) rfl) ?_
  obtain ⟨r7, h8, q9⟩ := ob h; clear h
  refine t_ef rfl (ef_call tf31 rfl (rollin_Valid_ok h8 (hv0_Items.to_call hm5) (hv1_Codes.to_call hm5))) ?_
  rintro _ w11 ⟨e_, hm10⟩
  obtain rfl := e_.symm
  have hm12 := hm5.call hm10
  refine t_rd rfl (rd_assign rfl) ?_
  refine rwt_nil ?_
  refine qn_then ?_
  refine cw_seq ?_
  refine cw_region ?_
  refine t_rd rfl (rd_move rfl) ?_
  refine t_rd rfl (rd_neq rfl rfl) ?_
  refine rwt_nil ?_
  refine qn_then ?_
  obtain ⟨hb13, q14⟩ | ⟨hb13, q14⟩ := oi q9 <;> clear q9
  · refine cw_t rfl hb13 ?_
    refine cw_seq ?_
    refine cw_region ?_
    refine t_rd rfl (rd_move rfl) ?_
    refine t_rd rfl (rd_assign rfl) ?_
    refine t_rd rfl (rd_assign rfl) ?_
    refine rwt_nil ?_
    refine qn_then ?_
    refine cw_ret ?_
    refine qr_then ?_
    obtain rfl := os q14
    have hm15 := hm12.addNil (α := Int) 3
    exact ret2 rfl rfl rfl ⟨(Value.slice none 0 0), rfl, (hm15.pick [0] (by decide) rfl)⟩
  · refine cw_f rfl hb13 ?_
    refine cw_skip ?_
    refine qn_then ?_
    refine cw_seq ?_
    obtain ⟨w37, he39⟩ : ∃ q, q = w11.drew := ⟨_, rfl⟩
    have hm38 := hm12.drew; rw [← he39] at hm38
    refine cw_region_s (fun q => (blk g4 30 [(Value.int .i64 a1_Steps), v1_Codes]).φ q ∧ (blk g1 27 [v0_Items, (Value.int .i64 a0_Weight)]).φ q) (cls [4] [10]) mixed ?_
    rintro _ rfl; rw [← he39]
    refine s_rp (i := 0) rfl (by kernel_rfl) rfl (fun _ => (rd_fld tF30_0 rfl)) ?_
    refine s_rd (i := 1) rfl (by kernel_rfl) rfl (fun w36 hS => (rd_ld1 tO3 rfl (cells_blk hS.1) (off := 0) rfl)) ⟨(hm38.get (k := 0) rfl), (hm38.get (k := 1) rfl)⟩ ?_
    refine s_rd (i := 2) rfl (by kernel_rfl) rfl (fun w36 hS => (rd_ld tA27 rfl (cells_blk hS.2) rfl)) ⟨(hm38.get (k := 0) rfl), (hm38.get (k := 1) rfl)⟩ ?_
    refine s_rd (i := 3) rfl (by kernel_rfl) rfl (fun w36 hS => (rd_ld tA30 rfl (cells_blk hS.1) rfl)) ⟨(hm38.get (k := 0) rfl), (hm38.get (k := 1) rfl)⟩ ?_
    obtain ⟨r60, h61, q62⟩ := ob q14; clear q14
    refine s_ef (i := 4) rfl (by kernel_rfl) rfl (ef_call tf85 rfl (rollin_start_ok h61 (hv0_Items.to_call hm38) (hv1_Codes.to_call hm38))) (by decide) ?_ ?_
    · rintro _ w69 ⟨g63, zs64, v65, zs66, v67, e_, hm68⟩
      obtain rfl := e_.symm
      have hm70 := hm38.call hm68
      intro _
      exact ⟨(hm70.get (k := 5) rfl), (hm70.get (k := 6) rfl)⟩
    rintro _ w69 ⟨g63, zs64, v65, zs66, v67, e_, hm68⟩
    obtain rfl := e_.symm
    have hm70 := hm38.call hm68
    refine s_rp (i := 5) rfl (by kernel_rfl) rfl (fun _ => (rd_nilCheck rfl)) ?_
    refine s_rp (i := 6) rfl (by kernel_rfl) rfl (fun _ => (rd_fld tF131_3 rfl)) ?_
    refine s_re (S' := fun q => q = w69) (T' := cls [] [10]) (by kernel_rfl) ?_
    refine s_rd (i := 7) rfl (by kernel_rfl) rfl (fun _ hS => by rw [hS]; exact (rd_ld1 tO41 rfl (hm70.blk 0 rfl) (off := 5) rfl)) rfl ?_
    refine s_rp (i := 8) rfl (by kernel_rfl) rfl (fun _ => (rd_lenS tS41 rfl ((Nl.mk (hm70.sl_call 3 rfl) (hm70.rows_call 4 rfl)).sl))) ?_
    obtain ⟨x71, h72, q73⟩ := ob q62; clear q62
    refine s_rp (i := 9) rfl (by kernel_rfl) rfl (fun _ => (rd_add64 h72 rfl rfl)) ?_
    obtain ⟨l74, h75, q76⟩ := ob q73; clear q73
    refine s_ef (i := 10) rfl (by kernel_rfl) rfl (ef_make hm70 tS22 tE3 rfl rfl rfl h75) (by decide) (fun _ _ _ q => absurd q (by decide)) ?_
    intro v77 w79 hm78
    refine s_rp (i := 11) rfl (by kernel_rfl) rfl (fun _ => (rd_assign rfl)) ?_
    refine s_nil (by kernel_rfl) ?_
    refine qn_then ?_
    refine cw_seq ?_
    refine cw_seq ?_
    refine cw_region ?_
    refine t_rd rfl (rd_fld tF27_0 rfl) ?_
    refine t_rd rfl (rd_ld1 tO25 rfl (hm78.blk 7 rfl) (off := 0) rfl) ?_
    refine t_rd rfl (rd_lenS tS25 rfl (hv0_Items.of_old hm78)) ?_
    refine t_rd rfl (rd_move rfl) ?_
    refine rwt_nil ?_
    refine qn_then ?_
    refine cw_block ?_
    obtain ⟨r443, hit444, q445⟩ := ob q76; clear q76
    refine cw_loop2 (I := fun q envq wq => Sub [(3, (Value.pointer (some ⟨g4, 0, none⟩))), (7, v77), (29, v0_Items), (30, (Value.int .i64 (List.length a0_Items : Int))), (31, (Value.int .i64 q.1))] envq ∧ Mem w No [ownL 3 v77 (q.2 : List Int), blk g4 30 [(Value.int .i64 a1_Steps), v1_Codes]] wq) (X := fun eq envq wq => eq = .exit 0 ∧ Sub [(7, v77)] envq ∧ Mem w No [ownL 3 v77 (r443 : List Int)] wq) hit444 ⟨(by repeat (first | exact Sub.nil _ | refine Sub.cons rfl ?_)), (hm78.pick [0, 6] (by decide) rfl)⟩ ?_ ?_
    · rintro ⟨i435, l436⟩ x438 env439 w440 hf441 hr442 ⟨hs_, hm_⟩
      have hs_ : Sub [(3, (Value.pointer (some ⟨g4, 0, none⟩))), (7, v77), (29, v0_Items), (30, (Value.int .i64 (List.length a0_Items : Int))), (31, (Value.int .i64 i435))] env439 := hs_
      have hm446 : Mem w No [ownL 3 v77 (l436 : List Int), blk g4 30 [(Value.int .i64 a1_Steps), v1_Codes]] w440 := hm_
      refine cw_sub hs_ ?_
      clear hs_ hm_ q445
      have h : rollin_Loads_l3 N a0_Items a1_Steps a1_Codes i435 l436 = some x438 := hf441
      clear hf441
      refine cw_seq ?_
      refine cw_region ?_
      refine t_rd rfl (rd_lss rfl rfl) ?_
      refine rwt_nil ?_
      refine qn_then ?_
      refine cw_seq ?_
      obtain ⟨hb447, q448⟩ | ⟨hb447, q448⟩ := oi h <;> clear h
      · refine cw_t rfl hb447 ?_
        refine cw_skip ?_
        refine qn_then ?_
        refine cw_seq ?_
        refine cw_block ?_
        refine cw_seq ?_
        refine cw_region ?_
        refine t_rd rfl (rd_move rfl) ?_
        obtain ⟨x449, h450, q451⟩ := ob q448; clear q448
        refine t_rd rfl (rd_index tS25 rfl rfl (hv0_Items.of_old hm446) h450) ?_
        refine t_rd rfl (rd_ld tA40 rfl ((hv0_Items.of_old hm446).cells h450) rfl) ?_
        refine t_ef rfl (ef_alloc hm446 tZ40 rfl) ?_
        rintro _ w454 ⟨g452, rfl, hm453⟩
        refine t_rd rfl (rd_assign rfl) ?_
        refine t_ef0 (ef_stw (k := 0) hm453 tA40 rfl rfl (oc_cons rfl (oc_cons rfl (oc_cons rfl (oc_cons rfl oc_nil)))) rfl rfl rfl) ?_
        intro _ w456 hm455
        refine rwt_nil ?_
        refine qn_then ?_
        refine cw_seq ?_
        refine cw_seq ?_
        refine cw_region ?_
        refine t_rd rfl (rd_fld tF40_2 rfl) ?_
        refine t_rd rfl (rd_ld1 tO3 rfl (hm455.blk 0 rfl) (off := 2) rfl) ?_
        refine t_rd rfl (rd_assign rfl) ?_
        refine rwt_nil ?_
        refine qn_then ?_
        refine cw_block ?_
        obtain ⟨r546, hit547, q548⟩ := ob q451; clear q451
        refine cw_loop2 (I := fun q envq wq => Sub [(3, (Value.pointer (some ⟨g4, 0, none⟩))), (7, v77), (8, (Value.int .i64 i435)), (9, (Value.pointer (some ⟨g452, 0, none⟩))), (10, (Value.int .i64 q.1)), (29, v0_Items), (30, (Value.int .i64 (List.length a0_Items : Int))), (31, (Value.int .i64 i435))] envq ∧ Mem w No [blk g452 40 [(Value.int .i64 x449.Train), (Value.int .i64 x449.Block), (Value.int .i64 x449.Round), (Value.int .i64 x449.Length)], ownL 3 v77 (q.2 : List Int), blk g4 30 [(Value.int .i64 a1_Steps), v1_Codes]] wq) (X := fun eq envq wq => eq = .exit 2 ∧ Sub [(3, (Value.pointer (some ⟨g4, 0, none⟩))), (7, v77), (9, (Value.pointer (some ⟨g452, 0, none⟩))), (29, v0_Items), (30, (Value.int .i64 (List.length a0_Items : Int))), (31, (Value.int .i64 i435))] envq ∧ Mem w No [blk g452 40 [(Value.int .i64 x449.Train), (Value.int .i64 x449.Block), (Value.int .i64 x449.Round), (Value.int .i64 x449.Length)], ownL 3 v77 (r546 : List Int), blk g4 30 [(Value.int .i64 a1_Steps), v1_Codes]] wq) hit547 ⟨(by repeat (first | exact Sub.nil _ | refine Sub.cons rfl ?_)), (hm455.pick [0, 1, 2] (by decide) rfl)⟩ ?_ ?_
        · rintro ⟨i538, l539⟩ x541 env542 w543 hf544 hr545 ⟨hs_, hm_⟩
          have hs_ : Sub [(3, (Value.pointer (some ⟨g4, 0, none⟩))), (7, v77), (8, (Value.int .i64 i435)), (9, (Value.pointer (some ⟨g452, 0, none⟩))), (10, (Value.int .i64 i538)), (29, v0_Items), (30, (Value.int .i64 (List.length a0_Items : Int))), (31, (Value.int .i64 i435))] env542 := hs_
          have hm549 : Mem w No [blk g452 40 [(Value.int .i64 x449.Train), (Value.int .i64 x449.Block), (Value.int .i64 x449.Round), (Value.int .i64 x449.Length)], ownL 3 v77 (l539 : List Int), blk g4 30 [(Value.int .i64 a1_Steps), v1_Codes]] w543 := hm_
          refine cw_sub hs_ ?_
          clear hs_ hm_ q548
          have h : rollin_Loads_l4 N a1_Steps a1_Codes i435 x449 i538 l539 = some x541 := hf544
          clear hf544
          refine cw_seq ?_
          refine cw_seq ?_
          refine cw_region ?_
          refine t_rd rfl (rd_move rfl) ?_
          refine t_rd rfl (rd_fld tF30_0 rfl) ?_
          refine t_rd rfl (rd_ld1 tO3 rfl (hm549.blk 2 rfl) (off := 0) rfl) ?_
          refine t_rd rfl (rd_lss rfl rfl) ?_
          refine rwt_nil ?_
          refine qn_then ?_
          obtain ⟨hb550, q551⟩ | ⟨hb550, q551⟩ := oi h <;> clear h
          · refine cw_t rfl hb550 ?_
            refine cw_skip ?_
            refine qn_then ?_
            refine cw_seq ?_
            refine cw_block ?_
            refine cw_seq ?_
            refine cw_region ?_
            refine t_rd rfl (rd_fld tF30_1 rfl) ?_
            refine t_rd rfl (rd_ld1 tO22 rfl (hm549.blk 2 rfl) (off := 1) rfl) ?_
            refine t_rd rfl (rd_move rfl) ?_
            obtain ⟨x552, h553, q554⟩ := ob q551; clear q551
            refine t_rd rfl (rd_index tS22 rfl rfl (hv1_Codes.of_old hm549) h553) ?_
            refine t_rd rfl (rd_ld1 tO3 rfl ((hv1_Codes.of_old hm549).cells h553) (off := 0) rfl) ?_
            refine t_rd rfl (rd_move rfl) ?_
            obtain ⟨x555, h556, q557⟩ := ob q554; clear q554
            refine t_rd rfl (rd_shr_i64 h556 rfl rfl) ?_
            obtain ⟨x558, h559, q560⟩ := ob q557; clear q557
            refine t_rd rfl (rd_bits_and_i64 h559 rfl rfl) ?_
            refine t_rd rfl (rd_eql rfl rfl) ?_
            refine rwt_nil ?_
            refine qn_then ?_
            obtain ⟨hb561, q562⟩ | ⟨hb561, q562⟩ := oi q560 <;> clear q560
            · refine cw_t rfl hb561 ?_
              obtain ⟨w572, he574⟩ : ∃ q, q = w543.drew := ⟨_, rfl⟩
              have hm573 := hm549.drew; rw [← he574] at hm573
              refine cw_region_s (fun q => q = w572) (cls [] [8]) mixed ?_
              rintro _ rfl; rw [← he574]
              refine s_rp (i := 0) rfl (by kernel_rfl) rfl (fun _ => (rd_move rfl)) ?_
              refine s_rp (i := 1) rfl (by kernel_rfl) rfl (fun _ => (rd_move rfl)) ?_
              obtain ⟨x575, h576, q577⟩ := ob q562; clear q562
              refine s_rp (i := 2) rfl (by kernel_rfl) rfl (fun _ => (rd_index tS22 rfl rfl (hm573.sl 1 rfl) h576)) ?_
              refine s_rd (i := 3) rfl (by kernel_rfl) rfl (fun _ hS => by rw [hS]; exact (rd_ld1 tO3 rfl ((hm573.sl 1 rfl).cells h576) (off := 0) rfl)) rfl ?_
              refine s_rp (i := 4) rfl (by kernel_rfl) rfl (fun _ => (rd_fld tF40_3 rfl)) ?_
              refine s_rd (i := 5) rfl (by kernel_rfl) rfl (fun _ hS => by rw [hS]; exact (rd_ld1 tO3 rfl (hm573.blk 0 rfl) (off := 3) rfl)) rfl ?_
              obtain ⟨x578, h579, q580⟩ := ob q577; clear q577
              refine s_rp (i := 6) rfl (by kernel_rfl) rfl (fun _ => (rd_add64 h579 rfl rfl)) ?_
              refine s_rp (i := 7) rfl (by kernel_rfl) rfl (fun _ => (rd_index tS22 rfl rfl (hm573.sl 1 rfl) h576)) ?_
              refine s_ef0 (i := 8) rfl (by kernel_rfl) (ef_stl (k := 1) (off := 0) (x' := x578) hm573 tO3 rfl rfl rfl rfl h576 rfl rfl) (by decide) (fun _ _ _ q => absurd q (by decide)) ?_
              intro _ w582 hm581
              refine s_nil (by kernel_rfl) ?_
              refine qn_block (qn_then ?_)
              refine cw_region ?_
              refine t_rd rfl (rd_move rfl) ?_
              obtain ⟨x583, h584, q585⟩ := ob q580; clear q580
              refine t_rd rfl (rd_add64 h584 rfl rfl) ?_
              refine t_rd rfl (rd_assign rfl) ?_
              refine rwt_nil ?_
              refine qn_then ?_
              refine ⟨_, (os q585), (by repeat (first | exact Sub.nil _ | refine Sub.cons rfl ?_)), (hm581.pick [0, 1, 2] (by decide) rfl)⟩
            · refine cw_f rfl hb561 ?_
              refine cw_skip ?_
              refine qn_block (qn_then ?_)
              refine cw_region ?_
              refine t_rd rfl (rd_move rfl) ?_
              obtain ⟨x586, h587, q588⟩ := ob q562; clear q562
              refine t_rd rfl (rd_add64 h587 rfl rfl) ?_
              refine t_rd rfl (rd_assign rfl) ?_
              refine rwt_nil ?_
              refine qn_then ?_
              refine ⟨_, (os q588), (by repeat (first | exact Sub.nil _ | refine Sub.cons rfl ?_)), (hm549.pick [0, 1, 2] (by decide) rfl)⟩
          · refine cw_f rfl hb550 ?_
            refine cw_exit ?_
            refine qx_then (qx_then ?_)
            obtain rfl := hr545 _ (os q551)
            exact ⟨rfl, (by repeat (first | exact Sub.nil _ | refine Sub.cons rfl ?_)), (hm549.pick [0, 1, 2] (by decide) rfl)⟩
        · skip
          intro e env589 w590 hX591
          obtain ⟨rfl, hs592, hm593⟩ := hX591
          refine qx_same (qn_then ?_)
          refine cw_sub hs592 ?_
          obtain ⟨w606, he608⟩ : ∃ q, q = w590.drew := ⟨_, rfl⟩
          have hm607 := hm593.drew; rw [← he608] at hm607
          refine cw_region_s (fun q => q = w606) (cls [] [12]) mixed ?_
          rintro _ rfl; rw [← he608]
          refine s_rp (i := 0) rfl (by kernel_rfl) rfl (fun _ => (rd_move rfl)) ?_
          refine s_rp (i := 1) rfl (by kernel_rfl) rfl (fun _ => (rd_fld tF30_0 rfl)) ?_
          refine s_rd (i := 2) rfl (by kernel_rfl) rfl (fun _ hS => by rw [hS]; exact (rd_ld1 tO3 rfl (hm607.blk 2 rfl) (off := 0) rfl)) rfl ?_
          refine s_rp (i := 3) rfl (by kernel_rfl) rfl (fun _ => (rd_fld tF40_0 rfl)) ?_
          refine s_rd (i := 4) rfl (by kernel_rfl) rfl (fun _ hS => by rw [hS]; exact (rd_ld1 tO3 rfl (hm607.blk 0 rfl) (off := 0) rfl)) rfl ?_
          obtain ⟨x609, h610, q611⟩ := ob q548; clear q548
          refine s_rp (i := 5) rfl (by kernel_rfl) rfl (fun _ => (rd_add64 h610 rfl rfl)) ?_
          obtain ⟨x612, h613, q614⟩ := ob q611; clear q611
          refine s_rp (i := 6) rfl (by kernel_rfl) rfl (fun _ => (rd_index tS22 rfl rfl (hm607.sl 1 rfl) h613)) ?_
          refine s_rd (i := 7) rfl (by kernel_rfl) rfl (fun _ hS => by rw [hS]; exact (rd_ld1 tO3 rfl ((hm607.sl 1 rfl).cells h613) (off := 0) rfl)) rfl ?_
          refine s_rp (i := 8) rfl (by kernel_rfl) rfl (fun _ => (rd_fld tF40_3 rfl)) ?_
          refine s_rd (i := 9) rfl (by kernel_rfl) rfl (fun _ hS => by rw [hS]; exact (rd_ld1 tO3 rfl (hm607.blk 0 rfl) (off := 3) rfl)) rfl ?_
          obtain ⟨x615, h616, q617⟩ := ob q614; clear q614
          refine s_rp (i := 10) rfl (by kernel_rfl) rfl (fun _ => (rd_add64 h616 rfl rfl)) ?_
          refine s_rp (i := 11) rfl (by kernel_rfl) rfl (fun _ => (rd_index tS22 rfl rfl (hm607.sl 1 rfl) h613)) ?_
          refine s_ef0 (i := 12) rfl (by kernel_rfl) (ef_stl (k := 1) (off := 0) (x' := x615) hm607 tO3 rfl rfl rfl rfl h613 rfl rfl) (by decide) (fun _ _ _ q => absurd q (by decide)) ?_
          intro _ w619 hm618
          refine s_nil (by kernel_rfl) ?_
          refine qn_block (qn_then ?_)
          refine cw_region ?_
          obtain ⟨x620, h621, q622⟩ := ob q617; clear q617
          refine t_rd rfl (rd_add64 h621 rfl rfl) ?_
          refine t_rd rfl (rd_move rfl) ?_
          refine rwt_nil ?_
          refine qn_then ?_
          refine ⟨_, (os q622), (by repeat (first | exact Sub.nil _ | refine Sub.cons rfl ?_)), (hm618.pick [1, 2] (by decide) rfl)⟩
      · refine cw_f rfl hb447 ?_
        refine cw_exit ?_
        refine qx_then (qx_then ?_)
        obtain rfl := hr442 _ (os q448)
        exact ⟨rfl, (by repeat (first | exact Sub.nil _ | refine Sub.cons rfl ?_)), (hm446.pick [0] (by decide) rfl)⟩
    · skip
      intro e env623 w624 hX625
      obtain ⟨rfl, hs626, hm627⟩ := hX625
      refine qx_same (qn_then ?_)
      refine cw_sub hs626 ?_
      refine cw_seq ?_
      refine cw_region ?_
      refine t_rd rfl (rd_move rfl) ?_
      refine t_rd rfl (rd_assign rfl) ?_
      refine t_rd rfl (rd_assign rfl) ?_
      refine rwt_nil ?_
      refine qn_then ?_
      refine cw_ret ?_
      obtain rfl := os q445
      exact ret2 rfl rfl rfl ⟨v77, rfl, (hm627.pick [0] (by decide) rfl)⟩

theorem assign_check_ok {N : Nat} {a0 : List Int} {a1 : List Int} {res : Int} (h : assign_check N a0 a1 = some res) {w : World} {v0 : Value} {v1 : Value} (hv0 : Sl (Old w No) w v0 a0) (hv1 : Sl (Old w No) w v1 a1) :
    CallsR Tryz.prog 86 [v0, v1] w (fun u w' => u = (Value.int .i64 res) ∧ Mem w No [] w') := by
  unfold assign_check at h
  refine fn_ok Tryz.func86 rfl rfl rfl ?_
  have hm0 := Mem.nil w
  refine cw_seq ?_
  refine cw_region ?_
  refine t_rd rfl (rd_assign rfl) ?_
  refine rwt_nil ?_
  refine qn_then ?_
  refine cw_seq ?_
  refine cw_seq ?_
  refine cw_region ?_
  refine t_rd rfl (rd_move rfl) ?_
  refine t_rd rfl (rd_lenS tS22 rfl (hv0.of_old hm0)) ?_
  refine t_rd rfl (rd_gtr rfl rfl) ?_
  refine t_rd rfl (rd_move rfl) ?_
  refine t_rdg rfl rfl rfl rfl (gv_f _) (fun hg1 => (rd_move rfl)) ?_
  refine t_rdg rfl rfl rfl rfl (gv_f _) (fun hg2 => (rd_lenS tS22 (gvx rfl hg2) (hv1.of_old hm0))) ?_
  refine t_rdg rfl rfl rfl rfl (gv_f _) (fun hg3 => (rd_gtr (gvx rfl hg3) rfl)) ?_
  refine t_rd rfl (rd_or rfl (fun hc4 => (gvx rfl (bnotIt hc4)))) ?_
  refine rwt_nil ?_
  refine qn_then ?_
  obtain ⟨hb5, q6⟩ | ⟨hb5, q6⟩ := oi h <;> clear h
  · refine cw_t rfl hb5 ?_
    refine cw_seq ?_
    refine cw_region ?_
    refine t_rd rfl (rd_assign rfl) ?_
    refine rwt_nil ?_
    refine qn_then ?_
    refine cw_ret ?_
    refine qr_then ?_
    obtain rfl := os q6
    exact ret1 rfl rfl ⟨rfl, (hm0.pick [] (by decide) rfl)⟩
  · refine cw_f rfl hb5 ?_
    refine cw_skip ?_
    refine qn_then ?_
    refine cw_seq ?_
    refine cw_seq ?_
    refine cw_region ?_
    refine t_rd rfl (rd_move rfl) ?_
    refine t_rd rfl (rd_lenS tS22 rfl (hv0.of_old hm0)) ?_
    refine t_rd rfl (rd_move rfl) ?_
    refine rwt_nil ?_
    refine qn_then ?_
    refine cw_block ?_
    obtain ⟨r41, hit42, q43⟩ := ob q6; clear q6
    refine cw_loop2 (I := fun q envq wq => Sub [(1, v1), (17, v0), (18, (Value.int .i64 (List.length a0 : Int))), (19, (Value.int .i64 q))] envq ∧ Mem w No [] wq) (X := fun eq envq wq => (∃ p44, r41 = (Sum.inl p44) ∧ eq = .ret ∧ retQ Tryz.prog 43 Tryz.f86 (fun u w' => u = (Value.int .i64 p44) ∧ Mem w No [] w') .ret envq wq) ∨ (∃ p45, r41 = (Sum.inr p45) ∧ eq = .exit 0 ∧ Sub [(1, v1)] envq ∧ Mem w No [] wq)) hit42 ⟨(by repeat (first | exact Sub.nil _ | refine Sub.cons rfl ?_)), (hm0.pick [] (by decide) rfl)⟩ ?_ ?_
    · rintro i34 x36 env37 w38 hf39 hr40 ⟨hs_, hm_⟩
      have hs_ : Sub [(1, v1), (17, v0), (18, (Value.int .i64 (List.length a0 : Int))), (19, (Value.int .i64 i34))] env37 := hs_
      have hm46 : Mem w No [] w38 := hm_
      refine cw_sub hs_ ?_
      clear hs_ hm_ q43
      have h : assign_check_l1 N a0 i34 = some x36 := hf39
      clear hf39
      refine cw_seq ?_
      refine cw_region ?_
      refine t_rd rfl (rd_lss rfl rfl) ?_
      refine rwt_nil ?_
      refine qn_then ?_
      refine cw_seq ?_
      obtain ⟨hb47, q48⟩ | ⟨hb47, q48⟩ := oi h <;> clear h
      · refine cw_t rfl hb47 ?_
        refine cw_skip ?_
        refine qn_then ?_
        refine cw_seq ?_
        refine cw_block ?_
        refine cw_seq ?_
        refine cw_region ?_
        obtain ⟨x49, h50, q51⟩ := ob q48; clear q48
        refine t_rd rfl (rd_index tS22 rfl rfl (hv0.of_old hm46) h50) ?_
        refine t_rd rfl (rd_ld1 tO3 rfl ((hv0.of_old hm46).cells h50) (off := 0) rfl) ?_
        refine t_rd rfl (rd_assign rfl) ?_
        refine rwt_nil ?_
        refine qn_then ?_
        refine cw_seq ?_
        refine cw_region ?_
        refine t_rd rfl (rd_move rfl) ?_
        refine t_rd rfl (rd_lss rfl rfl) ?_
        refine t_rd rfl (rd_move rfl) ?_
        refine t_rdg rfl rfl rfl rfl (gv_f _) (fun hg52 => (rd_move rfl)) ?_
        refine t_rdg rfl rfl rfl rfl (gv_f _) (fun hg53 => (rd_gtr (gvx rfl hg53) rfl)) ?_
        refine t_rd rfl (rd_or rfl (fun hc54 => (gvx rfl (bnotIt hc54)))) ?_
        refine rwt_nil ?_
        refine qn_then ?_
        obtain ⟨hb55, q56⟩ | ⟨hb55, q56⟩ := oi q51 <;> clear q51
        · refine cw_t rfl hb55 ?_
          refine cw_seq ?_
          refine cw_region ?_
          refine t_rd rfl (rd_assign rfl) ?_
          refine rwt_nil ?_
          refine qn_then ?_
          refine cw_ret ?_
          refine qr_block (qr_then (qr_then ?_))
          obtain rfl := hr40 _ (os q56)
          refine .inl (⟨_, rfl, ⟨rfl, ?_⟩⟩)
          exact ret1 rfl rfl ⟨rfl, (hm46.pick [] (by decide) rfl)⟩
        · refine cw_f rfl hb55 ?_
          refine cw_skip ?_
          refine qn_block (qn_then ?_)
          refine cw_region ?_
          obtain ⟨x57, h58, q59⟩ := ob q56; clear q56
          refine t_rd rfl (rd_add64 h58 rfl rfl) ?_
          refine t_rd rfl (rd_move rfl) ?_
          refine rwt_nil ?_
          refine qn_then ?_
          refine ⟨_, (os q59), (by repeat (first | exact Sub.nil _ | refine Sub.cons rfl ?_)), (hm46.pick [] (by decide) rfl)⟩
      · refine cw_f rfl hb47 ?_
        refine cw_exit ?_
        refine qx_then (qx_then ?_)
        obtain rfl := hr40 _ (os q48)
        exact .inr (⟨_, rfl, ⟨rfl, (by repeat (first | exact Sub.nil _ | refine Sub.cons rfl ?_)), (hm46.pick [] (by decide) rfl)⟩⟩)
    · skip
      intro e env60 w61 hX62
      rcases hX62 with hX62 | hX62
      · obtain ⟨p64, rfl, hX62⟩ := hX62
        obtain ⟨rfl, hq66⟩ := hX62
        exact qr_block (qr_then ((by have e := os q43; subst e; exact hq66)))
      · obtain ⟨p67, rfl, hX62⟩ := hX62
        obtain ⟨rfl, hs68, hm69⟩ := hX62
        refine qx_same (qn_then ?_)
        refine cw_sub hs68 ?_
        refine cw_seq ?_
        refine cw_seq ?_
        refine cw_region ?_
        refine t_rd rfl (rd_move rfl) ?_
        refine t_rd rfl (rd_lenS tS22 rfl (hv1.of_old hm69)) ?_
        refine t_rd rfl (rd_move rfl) ?_
        refine rwt_nil ?_
        refine qn_then ?_
        refine cw_block ?_
        obtain ⟨r104, hit105, q106⟩ := ob q43; clear q43
        refine cw_loop2 (I := fun q envq wq => Sub [(30, v1), (31, (Value.int .i64 (List.length a1 : Int))), (32, (Value.int .i64 q))] envq ∧ Mem w No [] wq) (X := fun eq envq wq => (∃ p107, r104 = (Sum.inl p107) ∧ eq = .ret ∧ retQ Tryz.prog 43 Tryz.f86 (fun u w' => u = (Value.int .i64 p107) ∧ Mem w No [] w') .ret envq wq) ∨ (∃ p108, r104 = (Sum.inr p108) ∧ eq = .exit 2 ∧ Sub [] envq ∧ Mem w No [] wq)) hit105 ⟨(by repeat (first | exact Sub.nil _ | refine Sub.cons rfl ?_)), (hm69.pick [] (by decide) rfl)⟩ ?_ ?_
        · rintro i97 x99 env100 w101 hf102 hr103 ⟨hs_, hm_⟩
          have hs_ : Sub [(30, v1), (31, (Value.int .i64 (List.length a1 : Int))), (32, (Value.int .i64 i97))] env100 := hs_
          have hm109 : Mem w No [] w101 := hm_
          refine cw_sub hs_ ?_
          clear hs_ hm_ q106
          have h : assign_check_l2 N a1 i97 = some x99 := hf102
          clear hf102
          refine cw_seq ?_
          refine cw_region ?_
          refine t_rd rfl (rd_lss rfl rfl) ?_
          refine rwt_nil ?_
          refine qn_then ?_
          refine cw_seq ?_
          obtain ⟨hb110, q111⟩ | ⟨hb110, q111⟩ := oi h <;> clear h
          · refine cw_t rfl hb110 ?_
            refine cw_skip ?_
            refine qn_then ?_
            refine cw_seq ?_
            refine cw_block ?_
            refine cw_seq ?_
            refine cw_region ?_
            obtain ⟨x112, h113, q114⟩ := ob q111; clear q111
            refine t_rd rfl (rd_index tS22 rfl rfl (hv1.of_old hm109) h113) ?_
            refine t_rd rfl (rd_ld1 tO3 rfl ((hv1.of_old hm109).cells h113) (off := 0) rfl) ?_
            refine t_rd rfl (rd_assign rfl) ?_
            refine rwt_nil ?_
            refine qn_then ?_
            refine cw_seq ?_
            refine cw_region ?_
            refine t_rd rfl (rd_move rfl) ?_
            refine t_rd rfl (rd_lss rfl rfl) ?_
            refine t_rd rfl (rd_move rfl) ?_
            refine t_rdg rfl rfl rfl rfl (gv_f _) (fun hg115 => (rd_move rfl)) ?_
            refine t_rdg rfl rfl rfl rfl (gv_f _) (fun hg116 => (rd_gtr (gvx rfl hg116) rfl)) ?_
            refine t_rd rfl (rd_or rfl (fun hc117 => (gvx rfl (bnotIt hc117)))) ?_
            refine rwt_nil ?_
            refine qn_then ?_
            obtain ⟨hb118, q119⟩ | ⟨hb118, q119⟩ := oi q114 <;> clear q114
            · refine cw_t rfl hb118 ?_
              refine cw_seq ?_
              refine cw_region ?_
              refine t_rd rfl (rd_assign rfl) ?_
              refine rwt_nil ?_
              refine qn_then ?_
              refine cw_ret ?_
              refine qr_block (qr_then (qr_then ?_))
              obtain rfl := hr103 _ (os q119)
              refine .inl (⟨_, rfl, ⟨rfl, ?_⟩⟩)
              exact ret1 rfl rfl ⟨rfl, (hm109.pick [] (by decide) rfl)⟩
            · refine cw_f rfl hb118 ?_
              refine cw_skip ?_
              refine qn_block (qn_then ?_)
              refine cw_region ?_
              obtain ⟨x120, h121, q122⟩ := ob q119; clear q119
              refine t_rd rfl (rd_add64 h121 rfl rfl) ?_
              refine t_rd rfl (rd_move rfl) ?_
              refine rwt_nil ?_
              refine qn_then ?_
              refine ⟨_, (os q122), (by repeat (first | exact Sub.nil _ | refine Sub.cons rfl ?_)), (hm109.pick [] (by decide) rfl)⟩
          · refine cw_f rfl hb110 ?_
            refine cw_exit ?_
            refine qx_then (qx_then ?_)
            obtain rfl := hr103 _ (os q111)
            exact .inr (⟨_, rfl, ⟨rfl, (by repeat (first | exact Sub.nil _ | refine Sub.cons rfl ?_)), (hm109.pick [] (by decide) rfl)⟩⟩)
        · skip
          intro e env123 w124 hX125
          rcases hX125 with hX125 | hX125
          · obtain ⟨p127, rfl, hX125⟩ := hX125
            obtain ⟨rfl, hq129⟩ := hX125
            exact qr_block (qr_then ((by have e := os q106; subst e; exact hq129)))
          · obtain ⟨p130, rfl, hX125⟩ := hX125
            obtain ⟨rfl, hs131, hm132⟩ := hX125
            refine qx_same (qn_then ?_)
            refine cw_sub hs131 ?_
            refine cw_seq ?_
            refine cw_region ?_
            refine t_rd rfl (rd_assign rfl) ?_
            refine rwt_nil ?_
            refine qn_then ?_
            refine cw_ret ?_
            obtain rfl := os q106
            exact ret1 rfl rfl ⟨rfl, (hm132.pick [] (by decide) rfl)⟩

theorem assign_order_1_ok {N : Nat} {a0 : Int} {a1 : Int} {a2 : List (List Int)} {res : Int} (h : assign_order_1 N a0 a1 a2 = some res) {w : World} {v2 : Value} (hv2 : Sl (Old w No) w v2 a2) :
    CallsR Tryz.prog 109 [(Value.int .i64 a0), (Value.int .i64 a1), (Value.pointer (some ⟨pB v2, pO v2, none⟩))] w (fun u w' => u = (Value.int .i64 res) ∧ Mem w No [] w') := by
  unfold assign_order_1 at h
  refine fn_ok Tryz.func109 rfl rfl rfl ?_
  obtain ⟨zs_a2, hn2⟩ := hv2.nest
  have hm0 := Mem.nil w
  obtain ⟨x1, h2, q3⟩ := ob h; clear h
  refine cw_seq ?_
  refine cw_region ?_
  refine t_rd rfl (rd_assign rfl) ?_
  refine rwt_nil ?_
  refine qn_then ?_
  refine cw_seq ?_
  obtain ⟨w18, he20⟩ : ∃ q, q = w.drew := ⟨_, rfl⟩
  have hm19 := hm0.drew; rw [← he20] at hm19
  refine cw_region_s (fun q => q = w18) (cls [] []) mixed ?_
  rintro _ rfl; rw [← he20]
  obtain ⟨zd21, hz22⟩ := (hn2.of_old hm19).row h2
  refine s_rd (i := 0) rfl (by kernel_rfl) rfl (fun _ hS => by rw [hS]; exact (rd_ld1 tO22 rfl ((hn2.of_old hm19).cells hz22) (off := 0) rfl)) rfl ?_
  refine s_rp (i := 1) rfl (by kernel_rfl) rfl (fun _ => (rd_move rfl)) ?_
  obtain ⟨x23, h24, q25⟩ := ob q3; clear q3
  refine s_rp (i := 2) rfl (by kernel_rfl) rfl (fun _ => (rd_index tS22 rfl rfl ((hn2.of_old hm19).get hz22 h2) h24)) ?_
  refine s_rd (i := 3) rfl (by kernel_rfl) rfl (fun _ hS => by rw [hS]; exact (rd_ld1 tO3 rfl (((hn2.of_old hm19).get hz22 h2).cells h24) (off := 0) rfl)) rfl ?_
  obtain ⟨zd26, hz27⟩ := (hn2.of_old hm19).row h2
  refine s_rd (i := 4) rfl (by kernel_rfl) rfl (fun _ hS => by rw [hS]; exact (rd_ld1 tO22 rfl ((hn2.of_old hm19).cells hz27) (off := 0) rfl)) rfl ?_
  refine s_rp (i := 5) rfl (by kernel_rfl) rfl (fun _ => (rd_move rfl)) ?_
  obtain ⟨x28, h29, q30⟩ := ob q25; clear q25
  refine s_rp (i := 6) rfl (by kernel_rfl) rfl (fun _ => (rd_index tS22 rfl rfl ((hn2.of_old hm19).get hz27 h2) h29)) ?_
  refine s_rd (i := 7) rfl (by kernel_rfl) rfl (fun _ hS => by rw [hS]; exact (rd_ld1 tO3 rfl (((hn2.of_old hm19).get hz27 h2).cells h29) (off := 0) rfl)) rfl ?_
  obtain ⟨x31, h32, q33⟩ := ob q30; clear q30
  refine s_rp (i := 8) rfl (by kernel_rfl) rfl (fun _ => (rd_sub64 h32 rfl rfl)) ?_
  refine s_rp (i := 9) rfl (by kernel_rfl) rfl (fun _ => (rd_assign rfl)) ?_
  refine s_nil (by kernel_rfl) ?_
  refine qn_then ?_
  refine cw_ret ?_
  obtain rfl := os q33
  exact ret1 rfl rfl ⟨rfl, (hm19.pick [] (by decide) rfl)⟩

theorem g_slices_insertionSortCmpFunc_int_ok {N : Nat} {a0 : List Int} {a1 : Int} {a2 : Int} {a3 : List (List Int)} {res : List Int} (h : g_slices_insertionSortCmpFunc_int N a0 a1 a2 a3 = some res) {w : World} {v0 : Value} {v3 : Value} (hk0 : (ownL 3 v0 (a0 : List Int)).φ w) (hv3 : Sl (Old w (ownL 3 v0 (a0 : List Int)).D) w v3 a3) :
    CallsR Tryz.prog 111 [v0, (Value.int .i64 a1), (Value.int .i64 a2), (Value.func (.func 109) #[] #[(Value.pointer (some ⟨pB v3, pO v3, none⟩))])] w (fun u w' => u = (Value.tuple #[]) ∧ Mem w (ownL 3 v0 (a0 : List Int)).D [ownL 3 v0 (res : List Int)] w') := by
  unfold g_slices_insertionSortCmpFunc_int at h
  refine fn_ok Tryz.func111 rfl rfl rfl ?_
  obtain ⟨zs_a3, hn3⟩ := hv3.nest
  have hm0 := Mem.one hk0
  refine cw_seq ?_
  refine cw_region ?_
  refine t_rd rfl (rd_move rfl) ?_
  obtain ⟨x1, h2, q3⟩ := ob h; clear h
  refine t_rd rfl (rd_add64 h2 rfl rfl) ?_
  refine t_rd rfl (rd_assign rfl) ?_
  refine rwt_nil ?_
  refine qn_then ?_
  refine cw_block ?_
  obtain ⟨r653, hit654, q655⟩ := ob q3; clear q3
  refine cw_loop2 (I := fun q envq wq => Sub [(0, v0), (1, (Value.int .i64 a1)), (2, (Value.int .i64 a2)), (3, (Value.func (.func 109) #[] #[(Value.pointer (some ⟨pB v3, pO v3, none⟩))])), (8, (Value.int .i64 q.1))] envq ∧ Mem w (ownL 3 v0 (a0 : List Int)).D [ownL 3 v0 (q.2 : List Int)] wq) (X := fun eq envq wq => eq = .exit 0 ∧ Sub [] envq ∧ Mem w (ownL 3 v0 (a0 : List Int)).D [ownL 3 v0 (r653 : List Int)] wq) hit654 ⟨(by repeat (first | exact Sub.nil _ | refine Sub.cons rfl ?_)), (hm0.pick [0] (by decide) rfl)⟩ ?_ ?_
  · rintro ⟨i645, l646⟩ x648 env649 w650 hf651 hr652 ⟨hs_, hm_⟩
    have hs_ : Sub [(0, v0), (1, (Value.int .i64 a1)), (2, (Value.int .i64 a2)), (3, (Value.func (.func 109) #[] #[(Value.pointer (some ⟨pB v3, pO v3, none⟩))])), (8, (Value.int .i64 i645))] env649 := hs_
    have hm656 : Mem w (ownL 3 v0 (a0 : List Int)).D [ownL 3 v0 (l646 : List Int)] w650 := hm_
    refine cw_sub hs_ ?_
    clear hs_ hm_ q655
    have h : g_slices_insertionSortCmpFunc_int_l3 N a1 a2 a3 i645 l646 = some x648 := hf651
    clear hf651
    refine cw_seq ?_
    refine cw_seq ?_
    refine cw_region ?_
    refine t_rd rfl (rd_move rfl) ?_
    refine t_rd rfl (rd_move rfl) ?_
    refine t_rd rfl (rd_lss rfl rfl) ?_
    refine rwt_nil ?_
    refine qn_then ?_
    obtain ⟨hb657, q658⟩ | ⟨hb657, q658⟩ := oi h <;> clear h
    · refine cw_t rfl hb657 ?_
      refine cw_skip ?_
      refine qn_then ?_
      refine cw_seq ?_
      refine cw_block ?_
      refine cw_seq ?_
      refine cw_region ?_
      refine t_rd rfl (rd_move rfl) ?_
      refine t_rd rfl (rd_assign rfl) ?_
      refine rwt_nil ?_
      refine qn_then ?_
      refine cw_block ?_
      obtain ⟨r866, hit867, q868⟩ := ob q658; clear q658
      refine cw_loop2 (I := fun q envq wq => Sub [(0, v0), (1, (Value.int .i64 a1)), (2, (Value.int .i64 a2)), (3, (Value.func (.func 109) #[] #[(Value.pointer (some ⟨pB v3, pO v3, none⟩))])), (8, (Value.int .i64 i645)), (9, (Value.int .i64 q.1))] envq ∧ Mem w (ownL 3 v0 (a0 : List Int)).D [ownL 3 v0 (q.2 : List Int)] wq) (X := fun eq envq wq => eq = .exit 2 ∧ Sub [(0, v0), (1, (Value.int .i64 a1)), (2, (Value.int .i64 a2)), (3, (Value.func (.func 109) #[] #[(Value.pointer (some ⟨pB v3, pO v3, none⟩))])), (8, (Value.int .i64 i645))] envq ∧ Mem w (ownL 3 v0 (a0 : List Int)).D [ownL 3 v0 (r866 : List Int)] wq) hit867 ⟨(by repeat (first | exact Sub.nil _ | refine Sub.cons rfl ?_)), (hm656.pick [0] (by decide) rfl)⟩ ?_ ?_
      · rintro ⟨i858, l859⟩ x861 env862 w863 hf864 hr865 ⟨hs_, hm_⟩
        have hs_ : Sub [(0, v0), (1, (Value.int .i64 a1)), (2, (Value.int .i64 a2)), (3, (Value.func (.func 109) #[] #[(Value.pointer (some ⟨pB v3, pO v3, none⟩))])), (8, (Value.int .i64 i645)), (9, (Value.int .i64 i858))] env862 := hs_
        have hm869 : Mem w (ownL 3 v0 (a0 : List Int)).D [ownL 3 v0 (l859 : List Int)] w863 := hm_
        refine cw_sub hs_ ?_
        clear hs_ hm_ q868
        have h : g_slices_insertionSortCmpFunc_int_l4 N a1 a3 i858 l859 = some x861 := hf864
        clear hf864
        refine cw_seq ?_
        refine cw_seq ?_
        obtain ⟨w899, he901⟩ : ∃ q, q = w863.drew := ⟨_, rfl⟩
        have hm900 := hm869.drew; rw [← he901] at hm900
        refine cw_region_s (fun q => q = w899) (cls [] [14]) mixed ?_
        rintro _ rfl; rw [← he901]
        refine s_rp (i := 0) rfl (by kernel_rfl) rfl (fun _ => (rd_move rfl)) ?_
        refine s_rp (i := 1) rfl (by kernel_rfl) rfl (fun _ => (rd_move rfl)) ?_
        refine s_rp (i := 2) rfl (by kernel_rfl) rfl (fun _ => (rd_gtr rfl rfl)) ?_
        refine s_rp (i := 3) rfl (by kernel_rfl) rfl (fun _ => (rd_move rfl)) ?_
        refine s_rpg (i := 4) rfl (by kernel_rfl) rfl rfl rfl rfl (gv_t _) (fun hg902 _ => (rd_move rfl)) ?_
        refine s_rpg (i := 5) rfl (by kernel_rfl) rfl rfl rfl rfl (gv_t _) (fun hg903 _ => (rd_move rfl)) ?_
        refine s_rpg (i := 6) rfl (by kernel_rfl) rfl rfl rfl rfl (gv_t _) (fun hg904 _ => (rd_move rfl)) ?_
        obtain ⟨x906, h907, q908⟩ := ob h; clear h
        refine s_rpg (i := 7) rfl (by kernel_rfl) rfl rfl rfl rfl (gv_t _) (fun hg905 _ => (rd_index tS22 (gvx rfl hg905) (gvx rfl hg905) (hm900.sl 0 rfl) (gO_t h907 hg905))) ?_
        refine s_rdg (i := 8) rfl (by kernel_rfl) rfl rfl rfl rfl (gv_t _) (fun hg909 => (fun _ hS => by rw [hS]; exact (rd_ld1 tO3 (gvx rfl hg909) ((hm900.sl 0 rfl).cells (gO_t h907 hg909)) (off := 0) rfl))) rfl ?_
        refine s_rpg (i := 9) rfl (by kernel_rfl) rfl rfl rfl rfl (gv_t _) (fun hg910 _ => (rd_move rfl)) ?_
        refine s_rpg (i := 10) rfl (by kernel_rfl) rfl rfl rfl rfl (gv_t _) (fun hg911 _ => (rd_move rfl)) ?_
        obtain ⟨x913, h914, q915⟩ := ob q908; clear q908
        refine s_rpg (i := 11) rfl (by kernel_rfl) rfl rfl rfl rfl (gv_t _) (fun hg912 _ => (rd_sub64 (gO_t h914 hg912) (gvx rfl hg912) rfl)) ?_
        obtain ⟨x917, h918, q919⟩ := ob q915; clear q915
        refine s_rpg (i := 12) rfl (by kernel_rfl) rfl rfl rfl rfl (gv_t _) (fun hg916 _ => (rd_index tS22 (gvx rfl hg916) (gvx rfl hg916) (hm900.sl 0 rfl) (gO_t h918 hg916))) ?_
        refine s_rdg (i := 13) rfl (by kernel_rfl) rfl rfl rfl rfl (gv_t _) (fun hg920 => (fun _ hS => by rw [hS]; exact (rd_ld1 tO3 (gvx rfl hg920) ((hm900.sl 0 rfl).cells (gO_t h918 hg920)) (off := 0) rfl))) rfl ?_
        obtain ⟨r922, h923, q924⟩ := ob q919; clear q919
        refine s_efg (i := 14) rfl (by kernel_rfl) rfl rfl rfl rfl (R := (fun v w' => v = gV (decide (a1 < i858)) (Value.int .i64 r922) ∧ Mem w899 No [] w')) (gv_t _) (fun hg921 => (ef_callv tf109 (gvx rfl hg921) (evc (gvx rfl hg921) (evc (gvx rfl hg921) evn)) (assign_order_1_ok (gO_t h923 hg921) ((hn3.to_call hm900).sl))).mono (by rintro _ _ ⟨rfl, q⟩; exact ⟨(gV_t hg921).symm, q⟩)) (fun q => ⟨(gV_f q).symm, Mem.nil _⟩) (by decide) (fun _ _ _ q => absurd q (by decide)) ?_
        rintro _ w926 ⟨rfl, hm925⟩
        have hm927 := hm900.call hm925
        refine s_rpg (i := 15) rfl (by kernel_rfl) rfl rfl rfl rfl (gv_t _) (fun hg928 _ => (rd_lss (gvx rfl hg928) rfl)) ?_
        refine s_rp (i := 16) rfl (by kernel_rfl) rfl (fun _ => (rd_and rfl (fun hc929 => (gvx rfl hc929)))) ?_
        refine s_nil (by kernel_rfl) ?_
        refine qn_then ?_
        obtain ⟨hb930, q931⟩ | ⟨hb930, q931⟩ := oi q924 <;> clear q924
        · refine cw_t rfl hb930 ?_
          refine cw_skip ?_
          refine qn_then ?_
          refine cw_seq ?_
          refine cw_block ?_
          obtain ⟨w949, he951⟩ : ∃ q, q = w926.drew := ⟨_, rfl⟩
          have hm950 := hm927.drew; rw [← he951] at hm950
          refine cw_region_s (fun q => q = w949) (cls [] [15, 17]) mixed ?_
          rintro _ rfl; rw [← he951]
          refine s_rp (i := 0) rfl (by kernel_rfl) rfl (fun _ => (rd_move rfl)) ?_
          refine s_rp (i := 1) rfl (by kernel_rfl) rfl (fun _ => (rd_move rfl)) ?_
          refine s_rp (i := 2) rfl (by kernel_rfl) rfl (fun _ => (rd_move rfl)) ?_
          refine s_rp (i := 3) rfl (by kernel_rfl) rfl (fun _ => (rd_move rfl)) ?_
          obtain ⟨x952, h953, q954⟩ := ob q931; clear q931
          refine s_rp (i := 4) rfl (by kernel_rfl) rfl (fun _ => (rd_sub64 h953 rfl rfl)) ?_
          refine s_rp (i := 5) rfl (by kernel_rfl) rfl (fun _ => (rd_move rfl)) ?_
          refine s_rp (i := 6) rfl (by kernel_rfl) rfl (fun _ => (rd_move rfl)) ?_
          refine s_rp (i := 7) rfl (by kernel_rfl) rfl (fun _ => (rd_sub64 h953 rfl rfl)) ?_
          obtain ⟨x955, h956, q957⟩ := ob q954; clear q954
          refine s_rp (i := 8) rfl (by kernel_rfl) rfl (fun _ => (rd_index tS22 rfl rfl (hm950.sl 0 rfl) h956)) ?_
          refine s_rd (i := 9) rfl (by kernel_rfl) rfl (fun _ hS => by rw [hS]; exact (rd_ld1 tO3 rfl ((hm950.sl 0 rfl).cells h956) (off := 0) rfl)) rfl ?_
          refine s_rp (i := 10) rfl (by kernel_rfl) rfl (fun _ => (rd_move rfl)) ?_
          refine s_rp (i := 11) rfl (by kernel_rfl) rfl (fun _ => (rd_move rfl)) ?_
          obtain ⟨x958, h959, q960⟩ := ob q957; clear q957
          refine s_rp (i := 12) rfl (by kernel_rfl) rfl (fun _ => (rd_index tS22 rfl rfl (hm950.sl 0 rfl) h959)) ?_
          refine s_rd (i := 13) rfl (by kernel_rfl) rfl (fun _ hS => by rw [hS]; exact (rd_ld1 tO3 rfl ((hm950.sl 0 rfl).cells h959) (off := 0) rfl)) rfl ?_
          refine s_rp (i := 14) rfl (by kernel_rfl) rfl (fun _ => (rd_index tS22 rfl rfl (hm950.sl 0 rfl) h959)) ?_
          refine s_ef0 (i := 15) rfl (by kernel_rfl) (ef_stl (k := 0) (off := 0) (x' := x955) hm950 tO3 rfl rfl rfl rfl h959 rfl rfl) (by decide) (fun _ _ _ q => absurd q (by decide)) ?_
          intro _ w962 hm961
          obtain ⟨x963, h964, q965⟩ := ob q960; clear q960
          refine s_rp (i := 16) rfl (by kernel_rfl) rfl (fun _ => (rd_index tS22 rfl rfl (hm961.sl 0 rfl) h964)) ?_
          refine s_ef0 (i := 17) rfl (by kernel_rfl) (ef_stl (k := 0) (off := 0) (x' := x958) hm961 tO3 rfl rfl rfl rfl h964 rfl rfl) (by decide) (fun _ _ _ q => absurd q (by decide)) ?_
          intro _ w967 hm966
          refine s_nil (by kernel_rfl) ?_
          refine qn_block (qn_then ?_)
          refine cw_region ?_
          refine t_rd rfl (rd_move rfl) ?_
          refine t_rd rfl (rd_sub64 h953 rfl rfl) ?_
          refine t_rd rfl (rd_assign rfl) ?_
          refine rwt_nil ?_
          refine qn_then ?_
          refine ⟨_, (os q965), (by repeat (first | exact Sub.nil _ | refine Sub.cons rfl ?_)), (hm966.pick [0] (by decide) rfl)⟩
        · refine cw_f rfl hb930 ?_
          refine cw_exit ?_
          refine qx_then (qx_then ?_)
          obtain rfl := hr865 _ (os q931)
          exact ⟨rfl, (by repeat (first | exact Sub.nil _ | refine Sub.cons rfl ?_)), (hm927.pick [0] (by decide) rfl)⟩
      · skip
        intro e env968 w969 hX970
        obtain ⟨rfl, hs971, hm972⟩ := hX970
        refine qx_same (qn_block (qn_then ?_))
        refine cw_sub hs971 ?_
        refine cw_region ?_
        refine t_rd rfl (rd_move rfl) ?_
        obtain ⟨x973, h974, q975⟩ := ob q868; clear q868
        refine t_rd rfl (rd_add64 h974 rfl rfl) ?_
        refine t_rd rfl (rd_assign rfl) ?_
        refine rwt_nil ?_
        refine qn_then ?_
        refine ⟨_, (os q975), (by repeat (first | exact Sub.nil _ | refine Sub.cons rfl ?_)), (hm972.pick [0] (by decide) rfl)⟩
    · refine cw_f rfl hb657 ?_
      refine cw_exit ?_
      refine qx_then (qx_then ?_)
      obtain rfl := hr652 _ (os q658)
      exact ⟨rfl, (by repeat (first | exact Sub.nil _ | refine Sub.cons rfl ?_)), (hm656.pick [0] (by decide) rfl)⟩
  · skip
    intro e env976 w977 hX978
    obtain ⟨rfl, hs979, hm980⟩ := hX978
    refine qx_same ?_
    obtain rfl := os q655
    refine retn ?_
    refine ret_sub hs979 ?_
    exact ret0 rfl ⟨rfl, (hm980.pick [0] (by decide) rfl)⟩

theorem g_slices_swapRangeCmpFunc_int_ok {N : Nat} {a0 : List Int} {a1 : Int} {a2 : Int} {a3 : Int} {a4 : List (List Int)} {res : List Int} (h : g_slices_swapRangeCmpFunc_int N a0 a1 a2 a3 a4 = some res) {w : World} {v0 : Value} {v4 : Value} (hk0 : (ownL 3 v0 (a0 : List Int)).φ w) (hv4 : Sl (Old w (ownL 3 v0 (a0 : List Int)).D) w v4 a4) :
    CallsR Tryz.prog 146 [v0, (Value.int .i64 a1), (Value.int .i64 a2), (Value.int .i64 a3), (Value.func (.func 109) #[] #[(Value.pointer (some ⟨pB v4, pO v4, none⟩))])] w (fun u w' => u = (Value.tuple #[]) ∧ Mem w (ownL 3 v0 (a0 : List Int)).D [ownL 3 v0 (res : List Int)] w') := by
  unfold g_slices_swapRangeCmpFunc_int at h
  refine fn_ok Tryz.func146 rfl rfl rfl ?_
  obtain ⟨zs_a4, hn4⟩ := hv4.nest
  have hm0 := Mem.one hk0
  refine cw_seq ?_
  refine cw_region ?_
  refine t_rd rfl (rd_assign rfl) ?_
  refine rwt_nil ?_
  refine qn_then ?_
  refine cw_block ?_
  obtain ⟨r106, hit107, q108⟩ := ob h; clear h
  refine cw_loop2 (I := fun q envq wq => Sub [(0, v0), (1, (Value.int .i64 a1)), (2, (Value.int .i64 a2)), (3, (Value.int .i64 a3)), (10, (Value.int .i64 q.1))] envq ∧ Mem w (ownL 3 v0 (a0 : List Int)).D [ownL 3 v0 (q.2 : List Int)] wq) (X := fun eq envq wq => eq = .exit 0 ∧ Sub [] envq ∧ Mem w (ownL 3 v0 (a0 : List Int)).D [ownL 3 v0 (r106 : List Int)] wq) hit107 ⟨(by repeat (first | exact Sub.nil _ | refine Sub.cons rfl ?_)), (hm0.pick [0] (by decide) rfl)⟩ ?_ ?_
  · rintro ⟨i98, l99⟩ x101 env102 w103 hf104 hr105 ⟨hs_, hm_⟩
    have hs_ : Sub [(0, v0), (1, (Value.int .i64 a1)), (2, (Value.int .i64 a2)), (3, (Value.int .i64 a3)), (10, (Value.int .i64 i98))] env102 := hs_
    have hm109 : Mem w (ownL 3 v0 (a0 : List Int)).D [ownL 3 v0 (l99 : List Int)] w103 := hm_
    refine cw_sub hs_ ?_
    clear hs_ hm_ q108
    have h : g_slices_swapRangeCmpFunc_int_l1 N a1 a2 a3 i98 l99 = some x101 := hf104
    clear hf104
    refine cw_seq ?_
    refine cw_seq ?_
    refine cw_region ?_
    refine t_rd rfl (rd_move rfl) ?_
    refine t_rd rfl (rd_move rfl) ?_
    refine t_rd rfl (rd_lss rfl rfl) ?_
    refine rwt_nil ?_
    refine qn_then ?_
    obtain ⟨hb110, q111⟩ | ⟨hb110, q111⟩ := oi h <;> clear h
    · refine cw_t rfl hb110 ?_
      refine cw_skip ?_
      refine qn_then ?_
      refine cw_seq ?_
      refine cw_block ?_
      obtain ⟨w132, he134⟩ : ∃ q, q = w103.drew := ⟨_, rfl⟩
      have hm133 := hm109.drew; rw [← he134] at hm133
      refine cw_region_s (fun q => q = w132) (cls [] [21, 23]) mixed ?_
      rintro _ rfl; rw [← he134]
      refine s_rp (i := 0) rfl (by kernel_rfl) rfl (fun _ => (rd_move rfl)) ?_
      refine s_rp (i := 1) rfl (by kernel_rfl) rfl (fun _ => (rd_move rfl)) ?_
      refine s_rp (i := 2) rfl (by kernel_rfl) rfl (fun _ => (rd_move rfl)) ?_
      obtain ⟨x135, h136, q137⟩ := ob q111; clear q111
      refine s_rp (i := 3) rfl (by kernel_rfl) rfl (fun _ => (rd_add64 h136 rfl rfl)) ?_
      refine s_rp (i := 4) rfl (by kernel_rfl) rfl (fun _ => (rd_move rfl)) ?_
      refine s_rp (i := 5) rfl (by kernel_rfl) rfl (fun _ => (rd_move rfl)) ?_
      refine s_rp (i := 6) rfl (by kernel_rfl) rfl (fun _ => (rd_move rfl)) ?_
      obtain ⟨x138, h139, q140⟩ := ob q137; clear q137
      refine s_rp (i := 7) rfl (by kernel_rfl) rfl (fun _ => (rd_add64 h139 rfl rfl)) ?_
      refine s_rp (i := 8) rfl (by kernel_rfl) rfl (fun _ => (rd_move rfl)) ?_
      refine s_rp (i := 9) rfl (by kernel_rfl) rfl (fun _ => (rd_move rfl)) ?_
      refine s_rp (i := 10) rfl (by kernel_rfl) rfl (fun _ => (rd_move rfl)) ?_
      refine s_rp (i := 11) rfl (by kernel_rfl) rfl (fun _ => (rd_add64 h139 rfl rfl)) ?_
      obtain ⟨x141, h142, q143⟩ := ob q140; clear q140
      refine s_rp (i := 12) rfl (by kernel_rfl) rfl (fun _ => (rd_index tS22 rfl rfl (hm133.sl 0 rfl) h142)) ?_
      refine s_rd (i := 13) rfl (by kernel_rfl) rfl (fun _ hS => by rw [hS]; exact (rd_ld1 tO3 rfl ((hm133.sl 0 rfl).cells h142) (off := 0) rfl)) rfl ?_
      refine s_rp (i := 14) rfl (by kernel_rfl) rfl (fun _ => (rd_move rfl)) ?_
      refine s_rp (i := 15) rfl (by kernel_rfl) rfl (fun _ => (rd_move rfl)) ?_
      refine s_rp (i := 16) rfl (by kernel_rfl) rfl (fun _ => (rd_move rfl)) ?_
      refine s_rp (i := 17) rfl (by kernel_rfl) rfl (fun _ => (rd_add64 h136 rfl rfl)) ?_
      obtain ⟨x144, h145, q146⟩ := ob q143; clear q143
      refine s_rp (i := 18) rfl (by kernel_rfl) rfl (fun _ => (rd_index tS22 rfl rfl (hm133.sl 0 rfl) h145)) ?_
      refine s_rd (i := 19) rfl (by kernel_rfl) rfl (fun _ hS => by rw [hS]; exact (rd_ld1 tO3 rfl ((hm133.sl 0 rfl).cells h145) (off := 0) rfl)) rfl ?_
      refine s_rp (i := 20) rfl (by kernel_rfl) rfl (fun _ => (rd_index tS22 rfl rfl (hm133.sl 0 rfl) h145)) ?_
      refine s_ef0 (i := 21) rfl (by kernel_rfl) (ef_stl (k := 0) (off := 0) (x' := x141) hm133 tO3 rfl rfl rfl rfl h145 rfl rfl) (by decide) (fun _ _ _ q => absurd q (by decide)) ?_
      intro _ w148 hm147
      obtain ⟨x149, h150, q151⟩ := ob q146; clear q146
      refine s_rp (i := 22) rfl (by kernel_rfl) rfl (fun _ => (rd_index tS22 rfl rfl (hm147.sl 0 rfl) h150)) ?_
      refine s_ef0 (i := 23) rfl (by kernel_rfl) (ef_stl (k := 0) (off := 0) (x' := x144) hm147 tO3 rfl rfl rfl rfl h150 rfl rfl) (by decide) (fun _ _ _ q => absurd q (by decide)) ?_
      intro _ w153 hm152
      refine s_nil (by kernel_rfl) ?_
      refine qn_block (qn_then ?_)
      refine cw_region ?_
      refine t_rd rfl (rd_move rfl) ?_
      obtain ⟨x154, h155, q156⟩ := ob q151; clear q151
      refine t_rd rfl (rd_add64 h155 rfl rfl) ?_
      refine t_rd rfl (rd_assign rfl) ?_
      refine rwt_nil ?_
      refine qn_then ?_
      refine ⟨_, (os q156), (by repeat (first | exact Sub.nil _ | refine Sub.cons rfl ?_)), (hm152.pick [0] (by decide) rfl)⟩
    · refine cw_f rfl hb110 ?_
      refine cw_exit ?_
      refine qx_then (qx_then ?_)
      obtain rfl := hr105 _ (os q111)
      exact ⟨rfl, (by repeat (first | exact Sub.nil _ | refine Sub.cons rfl ?_)), (hm109.pick [0] (by decide) rfl)⟩
  · skip
    intro e env157 w158 hX159
    obtain ⟨rfl, hs160, hm161⟩ := hX159
    refine qx_same ?_
    obtain rfl := os q108
    refine retn ?_
    refine ret_sub hs160 ?_
    exact ret0 rfl ⟨rfl, (hm161.pick [0] (by decide) rfl)⟩

theorem g_slices_rotateCmpFunc_int_ok {N : Nat} {a0 : List Int} {a1 : Int} {a2 : Int} {a3 : Int} {a4 : List (List Int)} {res : List Int} (h : g_slices_rotateCmpFunc_int N a0 a1 a2 a3 a4 = some res) {w : World} {v0 : Value} {v4 : Value} (hk0 : (ownL 3 v0 (a0 : List Int)).φ w) (hv4 : Sl (Old w (ownL 3 v0 (a0 : List Int)).D) w v4 a4) :
    CallsR Tryz.prog 144 [v0, (Value.int .i64 a1), (Value.int .i64 a2), (Value.int .i64 a3), (Value.func (.func 109) #[] #[(Value.pointer (some ⟨pB v4, pO v4, none⟩))])] w (fun u w' => u = (Value.tuple #[]) ∧ Mem w (ownL 3 v0 (a0 : List Int)).D [ownL 3 v0 (res : List Int)] w') := by
  unfold g_slices_rotateCmpFunc_int at h
  refine fn_ok Tryz.func144 rfl rfl rfl ?_
  obtain ⟨zs_a4, hn4⟩ := hv4.nest
  have hm0 := Mem.one hk0
  refine cw_seq ?_
  refine cw_region ?_
  refine t_rd rfl (rd_move rfl) ?_
  refine t_rd rfl (rd_move rfl) ?_
  obtain ⟨x1, h2, q3⟩ := ob h; clear h
  refine t_rd rfl (rd_sub64 h2 rfl rfl) ?_
  refine t_rd rfl (rd_assign rfl) ?_
  refine rwt_nil ?_
  refine qn_then ?_
  refine cw_seq ?_
  refine cw_region ?_
  refine t_rd rfl (rd_move rfl) ?_
  refine t_rd rfl (rd_move rfl) ?_
  obtain ⟨x4, h5, q6⟩ := ob q3; clear q3
  refine t_rd rfl (rd_sub64 h5 rfl rfl) ?_
  refine t_rd rfl (rd_assign rfl) ?_
  refine rwt_nil ?_
  refine qn_then ?_
  refine cw_seq ?_
  refine cw_block ?_
  obtain ⟨r89, hit90, q91⟩ := ob q6; clear q6
  refine cw_loop2 (I := fun q envq wq => Sub [(0, v0), (2, (Value.int .i64 a2)), (4, (Value.func (.func 109) #[] #[(Value.pointer (some ⟨pB v4, pO v4, none⟩))])), (10, (Value.int .i64 q.1)), (11, (Value.int .i64 q.2.1))] envq ∧ Mem w (ownL 3 v0 (a0 : List Int)).D [ownL 3 v0 (q.2.2 : List Int)] wq) (X := fun eq envq wq => eq = .exit 0 ∧ Sub [(0, v0), (2, (Value.int .i64 a2)), (4, (Value.func (.func 109) #[] #[(Value.pointer (some ⟨pB v4, pO v4, none⟩))])), (10, (Value.int .i64 r89.1))] envq ∧ Mem w (ownL 3 v0 (a0 : List Int)).D [ownL 3 v0 (r89.2 : List Int)] wq) hit90 ⟨(by repeat (first | exact Sub.nil _ | refine Sub.cons rfl ?_)), (hm0.pick [0] (by decide) rfl)⟩ ?_ ?_
  · rintro ⟨i80, i81, l82⟩ x84 env85 w86 hf87 hr88 ⟨hs_, hm_⟩
    have hs_ : Sub [(0, v0), (2, (Value.int .i64 a2)), (4, (Value.func (.func 109) #[] #[(Value.pointer (some ⟨pB v4, pO v4, none⟩))])), (10, (Value.int .i64 i80)), (11, (Value.int .i64 i81))] env85 := hs_
    have hm92 : Mem w (ownL 3 v0 (a0 : List Int)).D [ownL 3 v0 (l82 : List Int)] w86 := hm_
    refine cw_sub hs_ ?_
    clear hs_ hm_ q91
    have h : g_slices_rotateCmpFunc_int_l1 N a2 a4 i80 i81 l82 = some x84 := hf87
    clear hf87
    refine cw_seq ?_
    refine cw_seq ?_
    refine cw_region ?_
    refine t_rd rfl (rd_move rfl) ?_
    refine t_rd rfl (rd_move rfl) ?_
    refine t_rd rfl (rd_neq rfl rfl) ?_
    refine rwt_nil ?_
    refine qn_then ?_
    obtain ⟨hb93, q94⟩ | ⟨hb93, q94⟩ := oi h <;> clear h
    · refine cw_t rfl hb93 ?_
      refine cw_skip ?_
      refine qn_then ?_
      refine cw_block ?_
      refine cw_seq ?_
      refine cw_region ?_
      refine t_rd rfl (rd_move rfl) ?_
      refine t_rd rfl (rd_move rfl) ?_
      refine t_rd rfl (rd_gtr rfl rfl) ?_
      refine rwt_nil ?_
      refine qn_then ?_
      obtain ⟨hb95, q96⟩ | ⟨hb95, q96⟩ := oi q94 <;> clear q94
      · refine cw_t rfl hb95 ?_
        refine cw_seq ?_
        refine cw_region ?_
        refine t_rd rfl (rd_move rfl) ?_
        refine t_rd rfl (rd_move rfl) ?_
        refine t_rd rfl (rd_move rfl) ?_
        obtain ⟨x97, h98, q99⟩ := ob q96; clear q96
        refine t_rd rfl (rd_sub64 h98 rfl rfl) ?_
        refine t_rd rfl (rd_move rfl) ?_
        refine t_rd rfl (rd_move rfl) ?_
        refine t_rd rfl (rd_move rfl) ?_
        obtain ⟨r100, h101, q102⟩ := ob q99; clear q99
        refine t_ef rfl (ef_call tf146 rfl (g_slices_swapRangeCmpFunc_int_ok h101 (hm92.get (k := 0) rfl) ((hn4.to_callT (k := 0) hm92 rfl).sl))) ?_
        rintro _ w104 ⟨e_, hm103⟩
        obtain rfl := e_.symm
        have hm105 := hm92.callT (k := 0) rfl (fun _ h => h) hm103 (fun _ => Iff.rfl)
        refine rwt_nil ?_
        refine qn_then ?_
        refine cw_region ?_
        refine t_rd rfl (rd_move rfl) ?_
        refine t_rd rfl (rd_move rfl) ?_
        obtain ⟨x106, h107, q108⟩ := ob q102; clear q102
        refine t_rd rfl (rd_sub64 h107 rfl rfl) ?_
        refine t_rd rfl (rd_assign rfl) ?_
        refine rwt_nil ?_
        refine qn_block (qn_then ?_)
        refine ⟨_, (os q108), (by repeat (first | exact Sub.nil _ | refine Sub.cons rfl ?_)), (hm105.pick [0] (by decide) rfl)⟩
      · refine cw_f rfl hb95 ?_
        refine cw_seq ?_
        refine cw_region ?_
        refine t_rd rfl (rd_move rfl) ?_
        refine t_rd rfl (rd_move rfl) ?_
        refine t_rd rfl (rd_move rfl) ?_
        obtain ⟨x109, h110, q111⟩ := ob q96; clear q96
        refine t_rd rfl (rd_sub64 h110 rfl rfl) ?_
        refine t_rd rfl (rd_move rfl) ?_
        refine t_rd rfl (rd_move rfl) ?_
        obtain ⟨x112, h113, q114⟩ := ob q111; clear q111
        refine t_rd rfl (rd_add64 h113 rfl rfl) ?_
        refine t_rd rfl (rd_move rfl) ?_
        obtain ⟨x115, h116, q117⟩ := ob q114; clear q114
        refine t_rd rfl (rd_sub64 h116 rfl rfl) ?_
        refine t_rd rfl (rd_move rfl) ?_
        refine t_rd rfl (rd_move rfl) ?_
        obtain ⟨r118, h119, q120⟩ := ob q117; clear q117
        refine t_ef rfl (ef_call tf146 rfl (g_slices_swapRangeCmpFunc_int_ok h119 (hm92.get (k := 0) rfl) ((hn4.to_callT (k := 0) hm92 rfl).sl))) ?_
        rintro _ w122 ⟨e_, hm121⟩
        obtain rfl := e_.symm
        have hm123 := hm92.callT (k := 0) rfl (fun _ h => h) hm121 (fun _ => Iff.rfl)
        refine rwt_nil ?_
        refine qn_then ?_
        refine cw_region ?_
        refine t_rd rfl (rd_move rfl) ?_
        refine t_rd rfl (rd_move rfl) ?_
        obtain ⟨x124, h125, q126⟩ := ob q120; clear q120
        refine t_rd rfl (rd_sub64 h125 rfl rfl) ?_
        refine t_rd rfl (rd_assign rfl) ?_
        refine rwt_nil ?_
        refine qn_block (qn_then ?_)
        refine ⟨_, (os q126), (by repeat (first | exact Sub.nil _ | refine Sub.cons rfl ?_)), (hm123.pick [0] (by decide) rfl)⟩
    · refine cw_f rfl hb93 ?_
      refine cw_exit ?_
      refine qx_then (qx_then ?_)
      obtain rfl := hr88 _ (os q94)
      exact ⟨rfl, (by repeat (first | exact Sub.nil _ | refine Sub.cons rfl ?_)), (hm92.pick [0] (by decide) rfl)⟩
  · skip
    intro e env127 w128 hX129
    obtain ⟨rfl, hs130, hm131⟩ := hX129
    refine qx_same (qn_then ?_)
    refine cw_sub hs130 ?_
    refine cw_region ?_
    refine t_rd rfl (rd_move rfl) ?_
    refine t_rd rfl (rd_move rfl) ?_
    refine t_rd rfl (rd_move rfl) ?_
    obtain ⟨x132, h133, q134⟩ := ob q91; clear q91
    refine t_rd rfl (rd_sub64 h133 rfl rfl) ?_
    refine t_rd rfl (rd_move rfl) ?_
    refine t_rd rfl (rd_move rfl) ?_
    refine t_rd rfl (rd_move rfl) ?_
    obtain ⟨r135, h136, q137⟩ := ob q134; clear q134
    refine t_ef rfl (ef_call tf146 rfl (g_slices_swapRangeCmpFunc_int_ok h136 (hm131.get (k := 0) rfl) ((hn4.to_callT (k := 0) hm131 rfl).sl))) ?_
    rintro _ w139 ⟨e_, hm138⟩
    obtain rfl := e_.symm
    have hm140 := hm131.callT (k := 0) rfl (fun _ h => h) hm138 (fun _ => Iff.rfl)
    refine rwt_nil ?_
    obtain rfl := os q137
    refine retn ?_
    exact ret0 rfl ⟨rfl, (hm140.pick [0] (by decide) rfl)⟩

theorem g_slices_symMergeCmpFunc_int_r_ok {N : Nat} (M : Nat) : ∀ {a0 : List Int} {a1 : Int} {a2 : Int} {a3 : Int} {a4 : List (List Int)} {res : List Int} (h : g_slices_symMergeCmpFunc_int_r N M a0 a1 a2 a3 a4 = some res) {w : World} {v0 : Value} {v4 : Value} (hk0 : (ownL 3 v0 (a0 : List Int)).φ w) (hv4 : Sl (Old w (ownL 3 v0 (a0 : List Int)).D) w v4 a4),
    CallsR Tryz.prog 138 [v0, (Value.int .i64 a1), (Value.int .i64 a2), (Value.int .i64 a3), (Value.func (.func 109) #[] #[(Value.pointer (some ⟨pB v4, pO v4, none⟩))])] w (fun u w' => u = (Value.tuple #[]) ∧ Mem w (ownL 3 v0 (a0 : List Int)).D [ownL 3 v0 (res : List Int)] w') := by
  induction M with
  | zero =>
    intro a0 a1 a2 a3 a4 res h
    rw [g_slices_symMergeCmpFunc_int_r] at h
    cases h
  | succ M ih =>
  intro a0 a1 a2 a3 a4 res h w v0 v4 hk0 hv4
  rw [g_slices_symMergeCmpFunc_int_r] at h
  refine fn_ok Tryz.func138 rfl rfl rfl ?_
  obtain ⟨zs_a4, hn4⟩ := hv4.nest
  have hm0 := Mem.one hk0
  refine cw_seq ?_
  refine cw_seq ?_
  refine cw_region ?_
  refine t_rd rfl (rd_move rfl) ?_
  refine t_rd rfl (rd_move rfl) ?_
  obtain ⟨x1, h2, q3⟩ := ob h; clear h
  refine t_rd rfl (rd_sub64 h2 rfl rfl) ?_
  refine t_rd rfl (rd_eql rfl rfl) ?_
  refine rwt_nil ?_
  refine qn_then ?_
  obtain ⟨hb4, q5⟩ | ⟨hb4, q5⟩ := oi q3 <;> clear q3
  · refine cw_t rfl hb4 ?_
    refine cw_seq ?_
    refine cw_region ?_
    refine t_rd rfl (rd_move rfl) ?_
    refine t_rd rfl (rd_assign rfl) ?_
    refine rwt_nil ?_
    refine qn_then ?_
    refine cw_seq ?_
    refine cw_region ?_
    refine t_rd rfl (rd_move rfl) ?_
    refine t_rd rfl (rd_assign rfl) ?_
    refine rwt_nil ?_
    refine qn_then ?_
    refine cw_seq ?_
    refine cw_block ?_
    obtain ⟨r105, hit106, q107⟩ := ob q5; clear q5
    refine cw_loop2 (I := fun q envq wq => Sub [(0, v0), (1, (Value.int .i64 a1)), (4, (Value.func (.func 109) #[] #[(Value.pointer (some ⟨pB v4, pO v4, none⟩))])), (10, (Value.int .i64 q.1)), (11, (Value.int .i64 q.2))] envq ∧ Mem w (ownL 3 v0 (a0 : List Int)).D [ownL 3 v0 (a0 : List Int)] wq) (X := fun eq envq wq => eq = .exit 0 ∧ Sub [(0, v0), (1, (Value.int .i64 a1)), (10, (Value.int .i64 r105))] envq ∧ Mem w (ownL 3 v0 (a0 : List Int)).D [ownL 3 v0 (a0 : List Int)] wq) hit106 ⟨(by repeat (first | exact Sub.nil _ | refine Sub.cons rfl ?_)), (hm0.pick [0] (by decide) rfl)⟩ ?_ ?_
    · rintro ⟨i97, i98⟩ x100 env101 w102 hf103 hr104 ⟨hs_, hm_⟩
      have hs_ : Sub [(0, v0), (1, (Value.int .i64 a1)), (4, (Value.func (.func 109) #[] #[(Value.pointer (some ⟨pB v4, pO v4, none⟩))])), (10, (Value.int .i64 i97)), (11, (Value.int .i64 i98))] env101 := hs_
      have hm108 : Mem w (ownL 3 v0 (a0 : List Int)).D [ownL 3 v0 (a0 : List Int)] w102 := hm_
      refine cw_sub hs_ ?_
      clear hs_ hm_ q107
      have h : g_slices_symMergeCmpFunc_int_l1 N a0 a1 a4 i97 i98 = some x100 := hf103
      clear hf103
      refine cw_seq ?_
      refine cw_seq ?_
      refine cw_region ?_
      refine t_rd rfl (rd_move rfl) ?_
      refine t_rd rfl (rd_move rfl) ?_
      refine t_rd rfl (rd_lss rfl rfl) ?_
      refine rwt_nil ?_
      refine qn_then ?_
      obtain ⟨hb109, q110⟩ | ⟨hb109, q110⟩ := oi h <;> clear h
      · refine cw_t rfl hb109 ?_
        refine cw_skip ?_
        refine qn_then ?_
        refine cw_block ?_
        refine cw_seq ?_
        refine cw_region ?_
        refine t_rd rfl (rd_move rfl) ?_
        refine t_rd rfl (rd_move rfl) ?_
        obtain ⟨x111, h112, q113⟩ := ob q110; clear q110
        refine t_rd rfl (rd_add64 h112 rfl rfl) ?_
        refine t_rd rfl (rd_cvu64 tH3 tI107 rfl) ?_
        obtain ⟨x114, h115, q116⟩ := ob q113; clear q113
        refine t_rd rfl (rd_shr_u64 h115 rfl rfl) ?_
        obtain ⟨x117, h118, q119⟩ := ob q116; clear q116
        refine t_rd rfl (rd_cv64 tH107 tI3 h118 rfl) ?_
        refine t_rd rfl (rd_assign rfl) ?_
        refine rwt_nil ?_
        refine qn_then ?_
        refine cw_seq ?_
        obtain ⟨w133, he135⟩ : ∃ q, q = w102.drew := ⟨_, rfl⟩
        have hm134 := hm108.drew; rw [← he135] at hm134
        refine cw_region_s (fun q => q = w133) (cls [] [9]) mixed ?_
        rintro _ rfl; rw [← he135]
        refine s_rp (i := 0) rfl (by kernel_rfl) rfl (fun _ => (rd_move rfl)) ?_
        refine s_rp (i := 1) rfl (by kernel_rfl) rfl (fun _ => (rd_move rfl)) ?_
        refine s_rp (i := 2) rfl (by kernel_rfl) rfl (fun _ => (rd_move rfl)) ?_
        obtain ⟨x136, h137, q138⟩ := ob q119; clear q119
        refine s_rp (i := 3) rfl (by kernel_rfl) rfl (fun _ => (rd_index tS22 rfl rfl (hm134.sl 0 rfl) h137)) ?_
        refine s_rd (i := 4) rfl (by kernel_rfl) rfl (fun _ hS => by rw [hS]; exact (rd_ld1 tO3 rfl ((hm134.sl 0 rfl).cells h137) (off := 0) rfl)) rfl ?_
        refine s_rp (i := 5) rfl (by kernel_rfl) rfl (fun _ => (rd_move rfl)) ?_
        refine s_rp (i := 6) rfl (by kernel_rfl) rfl (fun _ => (rd_move rfl)) ?_
        obtain ⟨x139, h140, q141⟩ := ob q138; clear q138
        refine s_rp (i := 7) rfl (by kernel_rfl) rfl (fun _ => (rd_index tS22 rfl rfl (hm134.sl 0 rfl) h140)) ?_
        refine s_rd (i := 8) rfl (by kernel_rfl) rfl (fun _ hS => by rw [hS]; exact (rd_ld1 tO3 rfl ((hm134.sl 0 rfl).cells h140) (off := 0) rfl)) rfl ?_
        obtain ⟨r142, h143, q144⟩ := ob q141; clear q141
        refine s_ef (i := 9) rfl (by kernel_rfl) rfl (ef_callv tf109 rfl rfl (assign_order_1_ok h143 ((hn4.to_call hm134).sl))) (by decide) (fun _ _ _ q => absurd q (by decide)) ?_
        rintro _ w146 ⟨e_, hm145⟩
        obtain rfl := e_.symm
        have hm147 := hm134.call hm145
        refine s_rp (i := 10) rfl (by kernel_rfl) rfl (fun _ => (rd_lss rfl rfl)) ?_
        refine s_nil (by kernel_rfl) ?_
        refine qn_then ?_
        obtain ⟨hb148, q149⟩ | ⟨hb148, q149⟩ := oi q144 <;> clear q144
        · refine cw_t rfl hb148 ?_
          refine cw_region ?_
          refine t_rd rfl (rd_move rfl) ?_
          obtain ⟨x150, h151, q152⟩ := ob q149; clear q149
          refine t_rd rfl (rd_add64 h151 rfl rfl) ?_
          refine t_rd rfl (rd_assign rfl) ?_
          refine rwt_nil ?_
          refine qn_block (qn_then ?_)
          refine ⟨_, (os q152), (by repeat (first | exact Sub.nil _ | refine Sub.cons rfl ?_)), (hm147.pick [0] (by decide) rfl)⟩
        · refine cw_f rfl hb148 ?_
          refine cw_region ?_
          refine t_rd rfl (rd_move rfl) ?_
          refine t_rd rfl (rd_assign rfl) ?_
          refine rwt_nil ?_
          refine qn_block (qn_then ?_)
          refine ⟨_, (os q149), (by repeat (first | exact Sub.nil _ | refine Sub.cons rfl ?_)), (hm147.pick [0] (by decide) rfl)⟩
      · refine cw_f rfl hb109 ?_
        refine cw_exit ?_
        refine qx_then (qx_then ?_)
        obtain rfl := hr104 _ (os q110)
        exact ⟨rfl, (by repeat (first | exact Sub.nil _ | refine Sub.cons rfl ?_)), (hm108.pick [0] (by decide) rfl)⟩
    · skip
      intro e env153 w154 hX155
      obtain ⟨rfl, hs156, hm157⟩ := hX155
      refine qx_same (qn_then ?_)
      refine cw_sub hs156 ?_
      refine cw_seq ?_
      refine cw_seq ?_
      refine cw_region ?_
      refine t_rd rfl (rd_move rfl) ?_
      refine t_rd rfl (rd_assign rfl) ?_
      refine rwt_nil ?_
      refine qn_then ?_
      refine cw_block ?_
      obtain ⟨r251, hit252, q253⟩ := ob q107; clear q107
      refine cw_loop2 (I := fun q envq wq => Sub [(0, v0), (10, (Value.int .i64 r105)), (13, (Value.int .i64 q.1))] envq ∧ Mem w (ownL 3 v0 (a0 : List Int)).D [ownL 3 v0 (q.2 : List Int)] wq) (X := fun eq envq wq => eq = .exit 2 ∧ Sub [] envq ∧ Mem w (ownL 3 v0 (a0 : List Int)).D [ownL 3 v0 (r251 : List Int)] wq) hit252 ⟨(by repeat (first | exact Sub.nil _ | refine Sub.cons rfl ?_)), (hm157.pick [0] (by decide) rfl)⟩ ?_ ?_
      · rintro ⟨i243, l244⟩ x246 env247 w248 hf249 hr250 ⟨hs_, hm_⟩
        have hs_ : Sub [(0, v0), (10, (Value.int .i64 r105)), (13, (Value.int .i64 i243))] env247 := hs_
        have hm254 : Mem w (ownL 3 v0 (a0 : List Int)).D [ownL 3 v0 (l244 : List Int)] w248 := hm_
        refine cw_sub hs_ ?_
        clear hs_ hm_ q253
        have h : g_slices_symMergeCmpFunc_int_l2 N r105 i243 l244 = some x246 := hf249
        clear hf249
        refine cw_seq ?_
        refine cw_seq ?_
        refine cw_region ?_
        refine t_rd rfl (rd_move rfl) ?_
        refine t_rd rfl (rd_move rfl) ?_
        obtain ⟨x255, h256, q257⟩ := ob h; clear h
        refine t_rd rfl (rd_sub64 h256 rfl rfl) ?_
        refine t_rd rfl (rd_lss rfl rfl) ?_
        refine rwt_nil ?_
        refine qn_then ?_
        obtain ⟨hb258, q259⟩ | ⟨hb258, q259⟩ := oi q257 <;> clear q257
        · refine cw_t rfl hb258 ?_
          refine cw_skip ?_
          refine qn_then ?_
          refine cw_seq ?_
          refine cw_block ?_
          obtain ⟨w277, he279⟩ : ∃ q, q = w248.drew := ⟨_, rfl⟩
          have hm278 := hm254.drew; rw [← he279] at hm278
          refine cw_region_s (fun q => q = w277) (cls [] [15, 17]) mixed ?_
          rintro _ rfl; rw [← he279]
          refine s_rp (i := 0) rfl (by kernel_rfl) rfl (fun _ => (rd_move rfl)) ?_
          refine s_rp (i := 1) rfl (by kernel_rfl) rfl (fun _ => (rd_move rfl)) ?_
          refine s_rp (i := 2) rfl (by kernel_rfl) rfl (fun _ => (rd_move rfl)) ?_
          refine s_rp (i := 3) rfl (by kernel_rfl) rfl (fun _ => (rd_move rfl)) ?_
          obtain ⟨x280, h281, q282⟩ := ob q259; clear q259
          refine s_rp (i := 4) rfl (by kernel_rfl) rfl (fun _ => (rd_add64 h281 rfl rfl)) ?_
          refine s_rp (i := 5) rfl (by kernel_rfl) rfl (fun _ => (rd_move rfl)) ?_
          refine s_rp (i := 6) rfl (by kernel_rfl) rfl (fun _ => (rd_move rfl)) ?_
          refine s_rp (i := 7) rfl (by kernel_rfl) rfl (fun _ => (rd_add64 h281 rfl rfl)) ?_
          obtain ⟨x283, h284, q285⟩ := ob q282; clear q282
          refine s_rp (i := 8) rfl (by kernel_rfl) rfl (fun _ => (rd_index tS22 rfl rfl (hm278.sl 0 rfl) h284)) ?_
          refine s_rd (i := 9) rfl (by kernel_rfl) rfl (fun _ hS => by rw [hS]; exact (rd_ld1 tO3 rfl ((hm278.sl 0 rfl).cells h284) (off := 0) rfl)) rfl ?_
          refine s_rp (i := 10) rfl (by kernel_rfl) rfl (fun _ => (rd_move rfl)) ?_
          refine s_rp (i := 11) rfl (by kernel_rfl) rfl (fun _ => (rd_move rfl)) ?_
          obtain ⟨x286, h287, q288⟩ := ob q285; clear q285
          refine s_rp (i := 12) rfl (by kernel_rfl) rfl (fun _ => (rd_index tS22 rfl rfl (hm278.sl 0 rfl) h287)) ?_
          refine s_rd (i := 13) rfl (by kernel_rfl) rfl (fun _ hS => by rw [hS]; exact (rd_ld1 tO3 rfl ((hm278.sl 0 rfl).cells h287) (off := 0) rfl)) rfl ?_
          refine s_rp (i := 14) rfl (by kernel_rfl) rfl (fun _ => (rd_index tS22 rfl rfl (hm278.sl 0 rfl) h287)) ?_
          refine s_ef0 (i := 15) rfl (by kernel_rfl) (ef_stl (k := 0) (off := 0) (x' := x283) hm278 tO3 rfl rfl rfl rfl h287 rfl rfl) (by decide) (fun _ _ _ q => absurd q (by decide)) ?_
          intro _ w290 hm289
          obtain ⟨x291, h292, q293⟩ := ob q288; clear q288
          refine s_rp (i := 16) rfl (by kernel_rfl) rfl (fun _ => (rd_index tS22 rfl rfl (hm289.sl 0 rfl) h292)) ?_
          refine s_ef0 (i := 17) rfl (by kernel_rfl) (ef_stl (k := 0) (off := 0) (x' := x286) hm289 tO3 rfl rfl rfl rfl h292 rfl rfl) (by decide) (fun _ _ _ q => absurd q (by decide)) ?_
          intro _ w295 hm294
          refine s_nil (by kernel_rfl) ?_
          refine qn_block (qn_then ?_)
          refine cw_region ?_
          refine t_rd rfl (rd_move rfl) ?_
          refine t_rd rfl (rd_add64 h281 rfl rfl) ?_
          refine t_rd rfl (rd_assign rfl) ?_
          refine rwt_nil ?_
          refine qn_then ?_
          refine ⟨_, (os q293), (by repeat (first | exact Sub.nil _ | refine Sub.cons rfl ?_)), (hm294.pick [0] (by decide) rfl)⟩
        · refine cw_f rfl hb258 ?_
          refine cw_exit ?_
          refine qx_then (qx_then ?_)
          obtain rfl := hr250 _ (os q259)
          exact ⟨rfl, (by repeat (first | exact Sub.nil _ | refine Sub.cons rfl ?_)), (hm254.pick [0] (by decide) rfl)⟩
      · skip
        intro e env296 w297 hX298
        obtain ⟨rfl, hs299, hm300⟩ := hX298
        refine qx_same (qn_then ?_)
        refine cw_sub hs299 ?_
        refine cw_ret ?_
        refine qr_then ?_
        obtain rfl := os q253
        exact ret0 rfl ⟨rfl, (hm300.pick [0] (by decide) rfl)⟩
  · refine cw_f rfl hb4 ?_
    refine cw_skip ?_
    refine qn_then ?_
    refine cw_seq ?_
    refine cw_seq ?_
    refine cw_region ?_
    refine t_rd rfl (rd_move rfl) ?_
    refine t_rd rfl (rd_move rfl) ?_
    obtain ⟨x301, h302, q303⟩ := ob q5; clear q5
    refine t_rd rfl (rd_sub64 h302 rfl rfl) ?_
    refine t_rd rfl (rd_eql rfl rfl) ?_
    refine rwt_nil ?_
    refine qn_then ?_
    obtain ⟨hb304, q305⟩ | ⟨hb304, q305⟩ := oi q303 <;> clear q303
    · refine cw_t rfl hb304 ?_
      refine cw_seq ?_
      refine cw_region ?_
      refine t_rd rfl (rd_move rfl) ?_
      refine t_rd rfl (rd_assign rfl) ?_
      refine rwt_nil ?_
      refine qn_then ?_
      refine cw_seq ?_
      refine cw_region ?_
      refine t_rd rfl (rd_move rfl) ?_
      refine t_rd rfl (rd_assign rfl) ?_
      refine rwt_nil ?_
      refine qn_then ?_
      refine cw_seq ?_
      refine cw_block ?_
      obtain ⟨r405, hit406, q407⟩ := ob q305; clear q305
      refine cw_loop2 (I := fun q envq wq => Sub [(0, v0), (2, (Value.int .i64 a2)), (4, (Value.func (.func 109) #[] #[(Value.pointer (some ⟨pB v4, pO v4, none⟩))])), (14, (Value.int .i64 q.1)), (15, (Value.int .i64 q.2))] envq ∧ Mem w (ownL 3 v0 (a0 : List Int)).D [ownL 3 v0 (a0 : List Int)] wq) (X := fun eq envq wq => eq = .exit 4 ∧ Sub [(0, v0), (2, (Value.int .i64 a2)), (14, (Value.int .i64 r405))] envq ∧ Mem w (ownL 3 v0 (a0 : List Int)).D [ownL 3 v0 (a0 : List Int)] wq) hit406 ⟨(by repeat (first | exact Sub.nil _ | refine Sub.cons rfl ?_)), (hm0.pick [0] (by decide) rfl)⟩ ?_ ?_
      · rintro ⟨i397, i398⟩ x400 env401 w402 hf403 hr404 ⟨hs_, hm_⟩
        have hs_ : Sub [(0, v0), (2, (Value.int .i64 a2)), (4, (Value.func (.func 109) #[] #[(Value.pointer (some ⟨pB v4, pO v4, none⟩))])), (14, (Value.int .i64 i397)), (15, (Value.int .i64 i398))] env401 := hs_
        have hm408 : Mem w (ownL 3 v0 (a0 : List Int)).D [ownL 3 v0 (a0 : List Int)] w402 := hm_
        refine cw_sub hs_ ?_
        clear hs_ hm_ q407
        have h : g_slices_symMergeCmpFunc_int_l3 N a0 a2 a4 i397 i398 = some x400 := hf403
        clear hf403
        refine cw_seq ?_
        refine cw_seq ?_
        refine cw_region ?_
        refine t_rd rfl (rd_move rfl) ?_
        refine t_rd rfl (rd_move rfl) ?_
        refine t_rd rfl (rd_lss rfl rfl) ?_
        refine rwt_nil ?_
        refine qn_then ?_
        obtain ⟨hb409, q410⟩ | ⟨hb409, q410⟩ := oi h <;> clear h
        · refine cw_t rfl hb409 ?_
          refine cw_skip ?_
          refine qn_then ?_
          refine cw_block ?_
          refine cw_seq ?_
          refine cw_region ?_
          refine t_rd rfl (rd_move rfl) ?_
          refine t_rd rfl (rd_move rfl) ?_
          obtain ⟨x411, h412, q413⟩ := ob q410; clear q410
          refine t_rd rfl (rd_add64 h412 rfl rfl) ?_
          refine t_rd rfl (rd_cvu64 tH3 tI107 rfl) ?_
          obtain ⟨x414, h415, q416⟩ := ob q413; clear q413
          refine t_rd rfl (rd_shr_u64 h415 rfl rfl) ?_
          obtain ⟨x417, h418, q419⟩ := ob q416; clear q416
          refine t_rd rfl (rd_cv64 tH107 tI3 h418 rfl) ?_
          refine t_rd rfl (rd_assign rfl) ?_
          refine rwt_nil ?_
          refine qn_then ?_
          refine cw_seq ?_
          obtain ⟨w433, he435⟩ : ∃ q, q = w402.drew := ⟨_, rfl⟩
          have hm434 := hm408.drew; rw [← he435] at hm434
          refine cw_region_s (fun q => q = w433) (cls [] [9]) mixed ?_
          rintro _ rfl; rw [← he435]
          refine s_rp (i := 0) rfl (by kernel_rfl) rfl (fun _ => (rd_move rfl)) ?_
          refine s_rp (i := 1) rfl (by kernel_rfl) rfl (fun _ => (rd_move rfl)) ?_
          refine s_rp (i := 2) rfl (by kernel_rfl) rfl (fun _ => (rd_move rfl)) ?_
          obtain ⟨x436, h437, q438⟩ := ob q419; clear q419
          refine s_rp (i := 3) rfl (by kernel_rfl) rfl (fun _ => (rd_index tS22 rfl rfl (hm434.sl 0 rfl) h437)) ?_
          refine s_rd (i := 4) rfl (by kernel_rfl) rfl (fun _ hS => by rw [hS]; exact (rd_ld1 tO3 rfl ((hm434.sl 0 rfl).cells h437) (off := 0) rfl)) rfl ?_
          refine s_rp (i := 5) rfl (by kernel_rfl) rfl (fun _ => (rd_move rfl)) ?_
          refine s_rp (i := 6) rfl (by kernel_rfl) rfl (fun _ => (rd_move rfl)) ?_
          obtain ⟨x439, h440, q441⟩ := ob q438; clear q438
          refine s_rp (i := 7) rfl (by kernel_rfl) rfl (fun _ => (rd_index tS22 rfl rfl (hm434.sl 0 rfl) h440)) ?_
          refine s_rd (i := 8) rfl (by kernel_rfl) rfl (fun _ hS => by rw [hS]; exact (rd_ld1 tO3 rfl ((hm434.sl 0 rfl).cells h440) (off := 0) rfl)) rfl ?_
          obtain ⟨r442, h443, q444⟩ := ob q441; clear q441
          refine s_ef (i := 9) rfl (by kernel_rfl) rfl (ef_callv tf109 rfl rfl (assign_order_1_ok h443 ((hn4.to_call hm434).sl))) (by decide) (fun _ _ _ q => absurd q (by decide)) ?_
          rintro _ w446 ⟨e_, hm445⟩
          obtain rfl := e_.symm
          have hm447 := hm434.call hm445
          refine s_rp (i := 10) rfl (by kernel_rfl) rfl (fun _ => (rd_lss rfl rfl)) ?_
          refine s_rp (i := 11) rfl (by kernel_rfl) rfl (fun _ => (rd_not rfl)) ?_
          refine s_nil (by kernel_rfl) ?_
          refine qn_then ?_
          obtain ⟨hb448, q449⟩ | ⟨hb448, q449⟩ := oi q444 <;> clear q444
          · refine cw_t rfl hb448 ?_
            refine cw_region ?_
            refine t_rd rfl (rd_move rfl) ?_
            obtain ⟨x450, h451, q452⟩ := ob q449; clear q449
            refine t_rd rfl (rd_add64 h451 rfl rfl) ?_
            refine t_rd rfl (rd_assign rfl) ?_
            refine rwt_nil ?_
            refine qn_block (qn_then ?_)
            refine ⟨_, (os q452), (by repeat (first | exact Sub.nil _ | refine Sub.cons rfl ?_)), (hm447.pick [0] (by decide) rfl)⟩
          · refine cw_f rfl hb448 ?_
            refine cw_region ?_
            refine t_rd rfl (rd_move rfl) ?_
            refine t_rd rfl (rd_assign rfl) ?_
            refine rwt_nil ?_
            refine qn_block (qn_then ?_)
            refine ⟨_, (os q449), (by repeat (first | exact Sub.nil _ | refine Sub.cons rfl ?_)), (hm447.pick [0] (by decide) rfl)⟩
        · refine cw_f rfl hb409 ?_
          refine cw_exit ?_
          refine qx_then (qx_then ?_)
          obtain rfl := hr404 _ (os q410)
          exact ⟨rfl, (by repeat (first | exact Sub.nil _ | refine Sub.cons rfl ?_)), (hm408.pick [0] (by decide) rfl)⟩
      · skip
        intro e env453 w454 hX455
        obtain ⟨rfl, hs456, hm457⟩ := hX455
        refine qx_same (qn_then ?_)
        refine cw_sub hs456 ?_
        refine cw_seq ?_
        refine cw_seq ?_
        refine cw_region ?_
        refine t_rd rfl (rd_move rfl) ?_
        refine t_rd rfl (rd_assign rfl) ?_
        refine rwt_nil ?_
        refine qn_then ?_
        refine cw_block ?_
        obtain ⟨r545, hit546, q547⟩ := ob q407; clear q407
        refine cw_loop2 (I := fun q envq wq => Sub [(0, v0), (14, (Value.int .i64 r405)), (17, (Value.int .i64 q.1))] envq ∧ Mem w (ownL 3 v0 (a0 : List Int)).D [ownL 3 v0 (q.2 : List Int)] wq) (X := fun eq envq wq => eq = .exit 6 ∧ Sub [] envq ∧ Mem w (ownL 3 v0 (a0 : List Int)).D [ownL 3 v0 (r545 : List Int)] wq) hit546 ⟨(by repeat (first | exact Sub.nil _ | refine Sub.cons rfl ?_)), (hm457.pick [0] (by decide) rfl)⟩ ?_ ?_
        · rintro ⟨i537, l538⟩ x540 env541 w542 hf543 hr544 ⟨hs_, hm_⟩
          have hs_ : Sub [(0, v0), (14, (Value.int .i64 r405)), (17, (Value.int .i64 i537))] env541 := hs_
          have hm548 : Mem w (ownL 3 v0 (a0 : List Int)).D [ownL 3 v0 (l538 : List Int)] w542 := hm_
          refine cw_sub hs_ ?_
          clear hs_ hm_ q547
          have h : g_slices_symMergeCmpFunc_int_l4 N r405 i537 l538 = some x540 := hf543
          clear hf543
          refine cw_seq ?_
          refine cw_seq ?_
          refine cw_region ?_
          refine t_rd rfl (rd_move rfl) ?_
          refine t_rd rfl (rd_move rfl) ?_
          refine t_rd rfl (rd_gtr rfl rfl) ?_
          refine rwt_nil ?_
          refine qn_then ?_
          obtain ⟨hb549, q550⟩ | ⟨hb549, q550⟩ := oi h <;> clear h
          · refine cw_t rfl hb549 ?_
            refine cw_skip ?_
            refine qn_then ?_
            refine cw_seq ?_
            refine cw_block ?_
            obtain ⟨w568, he570⟩ : ∃ q, q = w542.drew := ⟨_, rfl⟩
            have hm569 := hm548.drew; rw [← he570] at hm569
            refine cw_region_s (fun q => q = w568) (cls [] [15, 17]) mixed ?_
            rintro _ rfl; rw [← he570]
            refine s_rp (i := 0) rfl (by kernel_rfl) rfl (fun _ => (rd_move rfl)) ?_
            refine s_rp (i := 1) rfl (by kernel_rfl) rfl (fun _ => (rd_move rfl)) ?_
            refine s_rp (i := 2) rfl (by kernel_rfl) rfl (fun _ => (rd_move rfl)) ?_
            refine s_rp (i := 3) rfl (by kernel_rfl) rfl (fun _ => (rd_move rfl)) ?_
            obtain ⟨x571, h572, q573⟩ := ob q550; clear q550
            refine s_rp (i := 4) rfl (by kernel_rfl) rfl (fun _ => (rd_sub64 h572 rfl rfl)) ?_
            refine s_rp (i := 5) rfl (by kernel_rfl) rfl (fun _ => (rd_move rfl)) ?_
            refine s_rp (i := 6) rfl (by kernel_rfl) rfl (fun _ => (rd_move rfl)) ?_
            refine s_rp (i := 7) rfl (by kernel_rfl) rfl (fun _ => (rd_sub64 h572 rfl rfl)) ?_
            obtain ⟨x574, h575, q576⟩ := ob q573; clear q573
            refine s_rp (i := 8) rfl (by kernel_rfl) rfl (fun _ => (rd_index tS22 rfl rfl (hm569.sl 0 rfl) h575)) ?_
            refine s_rd (i := 9) rfl (by kernel_rfl) rfl (fun _ hS => by rw [hS]; exact (rd_ld1 tO3 rfl ((hm569.sl 0 rfl).cells h575) (off := 0) rfl)) rfl ?_
            refine s_rp (i := 10) rfl (by kernel_rfl) rfl (fun _ => (rd_move rfl)) ?_
            refine s_rp (i := 11) rfl (by kernel_rfl) rfl (fun _ => (rd_move rfl)) ?_
            obtain ⟨x577, h578, q579⟩ := ob q576; clear q576
            refine s_rp (i := 12) rfl (by kernel_rfl) rfl (fun _ => (rd_index tS22 rfl rfl (hm569.sl 0 rfl) h578)) ?_
            refine s_rd (i := 13) rfl (by kernel_rfl) rfl (fun _ hS => by rw [hS]; exact (rd_ld1 tO3 rfl ((hm569.sl 0 rfl).cells h578) (off := 0) rfl)) rfl ?_
            refine s_rp (i := 14) rfl (by kernel_rfl) rfl (fun _ => (rd_index tS22 rfl rfl (hm569.sl 0 rfl) h578)) ?_
            refine s_ef0 (i := 15) rfl (by kernel_rfl) (ef_stl (k := 0) (off := 0) (x' := x574) hm569 tO3 rfl rfl rfl rfl h578 rfl rfl) (by decide) (fun _ _ _ q => absurd q (by decide)) ?_
            intro _ w581 hm580
            obtain ⟨x582, h583, q584⟩ := ob q579; clear q579
            refine s_rp (i := 16) rfl (by kernel_rfl) rfl (fun _ => (rd_index tS22 rfl rfl (hm580.sl 0 rfl) h583)) ?_
            refine s_ef0 (i := 17) rfl (by kernel_rfl) (ef_stl (k := 0) (off := 0) (x' := x577) hm580 tO3 rfl rfl rfl rfl h583 rfl rfl) (by decide) (fun _ _ _ q => absurd q (by decide)) ?_
            intro _ w586 hm585
            refine s_nil (by kernel_rfl) ?_
            refine qn_block (qn_then ?_)
            refine cw_region ?_
            refine t_rd rfl (rd_move rfl) ?_
            refine t_rd rfl (rd_sub64 h572 rfl rfl) ?_
            refine t_rd rfl (rd_assign rfl) ?_
            refine rwt_nil ?_
            refine qn_then ?_
            refine ⟨_, (os q584), (by repeat (first | exact Sub.nil _ | refine Sub.cons rfl ?_)), (hm585.pick [0] (by decide) rfl)⟩
          · refine cw_f rfl hb549 ?_
            refine cw_exit ?_
            refine qx_then (qx_then ?_)
            obtain rfl := hr544 _ (os q550)
            exact ⟨rfl, (by repeat (first | exact Sub.nil _ | refine Sub.cons rfl ?_)), (hm548.pick [0] (by decide) rfl)⟩
        · skip
          intro e env587 w588 hX589
          obtain ⟨rfl, hs590, hm591⟩ := hX589
          refine qx_same (qn_then ?_)
          refine cw_sub hs590 ?_
          refine cw_ret ?_
          refine qr_then ?_
          obtain rfl := os q547
          exact ret0 rfl ⟨rfl, (hm591.pick [0] (by decide) rfl)⟩
    · refine cw_f rfl hb304 ?_
      refine cw_skip ?_
      refine qn_then ?_
      refine cw_seq ?_
      refine cw_region ?_
      refine t_rd rfl (rd_move rfl) ?_
      refine t_rd rfl (rd_move rfl) ?_
      obtain ⟨x592, h593, q594⟩ := ob q305; clear q305
      refine t_rd rfl (rd_add64 h593 rfl rfl) ?_
      refine t_rd rfl (rd_cvu64 tH3 tI107 rfl) ?_
      obtain ⟨x595, h596, q597⟩ := ob q594; clear q594
      refine t_rd rfl (rd_shr_u64 h596 rfl rfl) ?_
      obtain ⟨x598, h599, q600⟩ := ob q597; clear q597
      refine t_rd rfl (rd_cv64 tH107 tI3 h599 rfl) ?_
      refine t_rd rfl (rd_assign rfl) ?_
      refine rwt_nil ?_
      refine qn_then ?_
      refine cw_seq ?_
      refine cw_region ?_
      refine t_rd rfl (rd_move rfl) ?_
      refine t_rd rfl (rd_move rfl) ?_
      obtain ⟨x601, h602, q603⟩ := ob q600; clear q600
      refine t_rd rfl (rd_add64 h602 rfl rfl) ?_
      refine t_rd rfl (rd_assign rfl) ?_
      refine rwt_nil ?_
      refine qn_then ?_
      refine cw_seq ?_
      refine cw_region ?_
      refine t_rd rfl (rd_assign rfl) ?_
      refine t_rd rfl (rd_assign rfl) ?_
      refine rwt_nil ?_
      refine qn_then ?_
      refine cw_seq ?_
      refine cw_seq ?_
      refine cw_region ?_
      refine t_rd rfl (rd_move rfl) ?_
      refine t_rd rfl (rd_move rfl) ?_
      refine t_rd rfl (rd_gtr rfl rfl) ?_
      refine rwt_nil ?_
      refine qn_then ?_
      obtain ⟨j611, hit612, q613⟩ := ob q603; clear q603
      refine cw_join (X := fun eq envq wq => eq = .normal ∧ Sub [(0, v0), (1, (Value.int .i64 a1)), (2, (Value.int .i64 a2)), (3, (Value.int .i64 a3)), (4, (Value.func (.func 109) #[] #[(Value.pointer (some ⟨pB v4, pO v4, none⟩))])), (18, (Value.int .i64 x598)), (19, (Value.int .i64 x601)), (20, (Value.int .i64 j611.1)), (21, (Value.int .i64 j611.2))] envq ∧ Mem w (ownL 3 v0 (a0 : List Int)).D [ownL 3 v0 (a0 : List Int)] wq) ?_ ?_
      · clear q613
        obtain ⟨hb614, q615⟩ | ⟨hb614, q615⟩ := oi hit612 <;> clear hit612
        · refine cw_t rfl hb614 ?_
          refine cw_seq ?_
          refine cw_region ?_
          refine t_rd rfl (rd_move rfl) ?_
          refine t_rd rfl (rd_move rfl) ?_
          obtain ⟨x616, h617, q618⟩ := ob q615; clear q615
          refine t_rd rfl (rd_sub64 h617 rfl rfl) ?_
          refine t_rd rfl (rd_assign rfl) ?_
          refine rwt_nil ?_
          refine qn_then ?_
          refine cw_region ?_
          refine t_rd rfl (rd_move rfl) ?_
          refine t_rd rfl (rd_assign rfl) ?_
          refine rwt_nil ?_
          obtain rfl := os q618
          exact ⟨rfl, (by repeat (first | exact Sub.nil _ | refine Sub.cons rfl ?_)), (hm0.pick [0] (by decide) rfl)⟩
        · refine cw_f rfl hb614 ?_
          refine cw_seq ?_
          refine cw_region ?_
          refine t_rd rfl (rd_move rfl) ?_
          refine t_rd rfl (rd_assign rfl) ?_
          refine rwt_nil ?_
          refine qn_then ?_
          refine cw_region ?_
          refine t_rd rfl (rd_move rfl) ?_
          refine t_rd rfl (rd_assign rfl) ?_
          refine rwt_nil ?_
          obtain rfl := os q615
          exact ⟨rfl, (by repeat (first | exact Sub.nil _ | refine Sub.cons rfl ?_)), (hm0.pick [0] (by decide) rfl)⟩
      · clear hit612
        intro e env619 w620 hX621
        obtain ⟨rfl, hs622, hm623⟩ := hX621
        refine qn_then ?_
        refine cw_sub hs622 ?_
        refine cw_seq ?_
        refine cw_region ?_
        refine t_rd rfl (rd_move rfl) ?_
        obtain ⟨x624, h625, q626⟩ := ob q613; clear q613
        refine t_rd rfl (rd_sub64 h625 rfl rfl) ?_
        refine t_rd rfl (rd_assign rfl) ?_
        refine rwt_nil ?_
        refine qn_then ?_
        refine cw_seq ?_
        refine cw_block ?_
        obtain ⟨r738, hit739, q740⟩ := ob q626; clear q626
        refine cw_loop2 (I := fun q envq wq => Sub [(0, v0), (1, (Value.int .i64 a1)), (2, (Value.int .i64 a2)), (3, (Value.int .i64 a3)), (4, (Value.func (.func 109) #[] #[(Value.pointer (some ⟨pB v4, pO v4, none⟩))])), (18, (Value.int .i64 x598)), (19, (Value.int .i64 x601)), (20, (Value.int .i64 q.1)), (21, (Value.int .i64 q.2)), (22, (Value.int .i64 x624))] envq ∧ Mem w (ownL 3 v0 (a0 : List Int)).D [ownL 3 v0 (a0 : List Int)] wq) (X := fun eq envq wq => eq = .exit 8 ∧ Sub [(0, v0), (1, (Value.int .i64 a1)), (2, (Value.int .i64 a2)), (3, (Value.int .i64 a3)), (4, (Value.func (.func 109) #[] #[(Value.pointer (some ⟨pB v4, pO v4, none⟩))])), (18, (Value.int .i64 x598)), (19, (Value.int .i64 x601)), (20, (Value.int .i64 r738))] envq ∧ Mem w (ownL 3 v0 (a0 : List Int)).D [ownL 3 v0 (a0 : List Int)] wq) hit739 ⟨(by repeat (first | exact Sub.nil _ | refine Sub.cons rfl ?_)), (hm623.pick [0] (by decide) rfl)⟩ ?_ ?_
        · rintro ⟨i730, i731⟩ x733 env734 w735 hf736 hr737 ⟨hs_, hm_⟩
          have hs_ : Sub [(0, v0), (1, (Value.int .i64 a1)), (2, (Value.int .i64 a2)), (3, (Value.int .i64 a3)), (4, (Value.func (.func 109) #[] #[(Value.pointer (some ⟨pB v4, pO v4, none⟩))])), (18, (Value.int .i64 x598)), (19, (Value.int .i64 x601)), (20, (Value.int .i64 i730)), (21, (Value.int .i64 i731)), (22, (Value.int .i64 x624))] env734 := hs_
          have hm741 : Mem w (ownL 3 v0 (a0 : List Int)).D [ownL 3 v0 (a0 : List Int)] w735 := hm_
          refine cw_sub hs_ ?_
          clear hs_ hm_ q740
          have h : g_slices_symMergeCmpFunc_int_l5 N a0 a4 x624 i730 i731 = some x733 := hf736
          clear hf736
          refine cw_seq ?_
          refine cw_seq ?_
          refine cw_region ?_
          refine t_rd rfl (rd_move rfl) ?_
          refine t_rd rfl (rd_move rfl) ?_
          refine t_rd rfl (rd_lss rfl rfl) ?_
          refine rwt_nil ?_
          refine qn_then ?_
          obtain ⟨hb742, q743⟩ | ⟨hb742, q743⟩ := oi h <;> clear h
          · refine cw_t rfl hb742 ?_
            refine cw_skip ?_
            refine qn_then ?_
            refine cw_block ?_
            refine cw_seq ?_
            refine cw_region ?_
            refine t_rd rfl (rd_move rfl) ?_
            refine t_rd rfl (rd_move rfl) ?_
            obtain ⟨x744, h745, q746⟩ := ob q743; clear q743
            refine t_rd rfl (rd_add64 h745 rfl rfl) ?_
            refine t_rd rfl (rd_cvu64 tH3 tI107 rfl) ?_
            obtain ⟨x747, h748, q749⟩ := ob q746; clear q746
            refine t_rd rfl (rd_shr_u64 h748 rfl rfl) ?_
            obtain ⟨x750, h751, q752⟩ := ob q749; clear q749
            refine t_rd rfl (rd_cv64 tH107 tI3 h751 rfl) ?_
            refine t_rd rfl (rd_assign rfl) ?_
            refine rwt_nil ?_
            refine qn_then ?_
            refine cw_seq ?_
            obtain ⟨w769, he771⟩ : ∃ q, q = w735.drew := ⟨_, rfl⟩
            have hm770 := hm741.drew; rw [← he771] at hm770
            refine cw_region_s (fun q => q = w769) (cls [] [11]) mixed ?_
            rintro _ rfl; rw [← he771]
            refine s_rp (i := 0) rfl (by kernel_rfl) rfl (fun _ => (rd_move rfl)) ?_
            refine s_rp (i := 1) rfl (by kernel_rfl) rfl (fun _ => (rd_move rfl)) ?_
            refine s_rp (i := 2) rfl (by kernel_rfl) rfl (fun _ => (rd_move rfl)) ?_
            refine s_rp (i := 3) rfl (by kernel_rfl) rfl (fun _ => (rd_move rfl)) ?_
            obtain ⟨x772, h773, q774⟩ := ob q752; clear q752
            refine s_rp (i := 4) rfl (by kernel_rfl) rfl (fun _ => (rd_sub64 h773 rfl rfl)) ?_
            obtain ⟨x775, h776, q777⟩ := ob q774; clear q774
            refine s_rp (i := 5) rfl (by kernel_rfl) rfl (fun _ => (rd_index tS22 rfl rfl (hm770.sl 0 rfl) h776)) ?_
            refine s_rd (i := 6) rfl (by kernel_rfl) rfl (fun _ hS => by rw [hS]; exact (rd_ld1 tO3 rfl ((hm770.sl 0 rfl).cells h776) (off := 0) rfl)) rfl ?_
            refine s_rp (i := 7) rfl (by kernel_rfl) rfl (fun _ => (rd_move rfl)) ?_
            refine s_rp (i := 8) rfl (by kernel_rfl) rfl (fun _ => (rd_move rfl)) ?_
            obtain ⟨x778, h779, q780⟩ := ob q777; clear q777
            refine s_rp (i := 9) rfl (by kernel_rfl) rfl (fun _ => (rd_index tS22 rfl rfl (hm770.sl 0 rfl) h779)) ?_
            refine s_rd (i := 10) rfl (by kernel_rfl) rfl (fun _ hS => by rw [hS]; exact (rd_ld1 tO3 rfl ((hm770.sl 0 rfl).cells h779) (off := 0) rfl)) rfl ?_
            obtain ⟨r781, h782, q783⟩ := ob q780; clear q780
            refine s_ef (i := 11) rfl (by kernel_rfl) rfl (ef_callv tf109 rfl rfl (assign_order_1_ok h782 ((hn4.to_call hm770).sl))) (by decide) (fun _ _ _ q => absurd q (by decide)) ?_
            rintro _ w785 ⟨e_, hm784⟩
            obtain rfl := e_.symm
            have hm786 := hm770.call hm784
            refine s_rp (i := 12) rfl (by kernel_rfl) rfl (fun _ => (rd_lss rfl rfl)) ?_
            refine s_rp (i := 13) rfl (by kernel_rfl) rfl (fun _ => (rd_not rfl)) ?_
            refine s_nil (by kernel_rfl) ?_
            refine qn_then ?_
            obtain ⟨hb787, q788⟩ | ⟨hb787, q788⟩ := oi q783 <;> clear q783
            · refine cw_t rfl hb787 ?_
              refine cw_region ?_
              refine t_rd rfl (rd_move rfl) ?_
              obtain ⟨x789, h790, q791⟩ := ob q788; clear q788
              refine t_rd rfl (rd_add64 h790 rfl rfl) ?_
              refine t_rd rfl (rd_assign rfl) ?_
              refine rwt_nil ?_
              refine qn_block (qn_then ?_)
              refine ⟨_, (os q791), (by repeat (first | exact Sub.nil _ | refine Sub.cons rfl ?_)), (hm786.pick [0] (by decide) rfl)⟩
            · refine cw_f rfl hb787 ?_
              refine cw_region ?_
              refine t_rd rfl (rd_move rfl) ?_
              refine t_rd rfl (rd_assign rfl) ?_
              refine rwt_nil ?_
              refine qn_block (qn_then ?_)
              refine ⟨_, (os q788), (by repeat (first | exact Sub.nil _ | refine Sub.cons rfl ?_)), (hm786.pick [0] (by decide) rfl)⟩
          · refine cw_f rfl hb742 ?_
            refine cw_exit ?_
            refine qx_then (qx_then ?_)
            obtain rfl := hr737 _ (os q743)
            exact ⟨rfl, (by repeat (first | exact Sub.nil _ | refine Sub.cons rfl ?_)), (hm741.pick [0] (by decide) rfl)⟩
        · skip
          intro e env792 w793 hX794
          obtain ⟨rfl, hs795, hm796⟩ := hX794
          refine qx_same (qn_then ?_)
          refine cw_sub hs795 ?_
          refine cw_seq ?_
          refine cw_region ?_
          refine t_rd rfl (rd_move rfl) ?_
          refine t_rd rfl (rd_move rfl) ?_
          obtain ⟨x797, h798, q799⟩ := ob q740; clear q740
          refine t_rd rfl (rd_sub64 h798 rfl rfl) ?_
          refine t_rd rfl (rd_assign rfl) ?_
          refine rwt_nil ?_
          refine qn_then ?_
          refine cw_seq ?_
          refine cw_seq ?_
          refine cw_region ?_
          refine t_rd rfl (rd_move rfl) ?_
          refine t_rd rfl (rd_move rfl) ?_
          refine t_rd rfl (rd_lss rfl rfl) ?_
          refine t_rd rfl (rd_move rfl) ?_
          refine t_rdg rfl rfl rfl rfl (gv_t _) (fun hg800 => (rd_move rfl)) ?_
          refine t_rdg rfl rfl rfl rfl (gv_t _) (fun hg801 => (rd_move rfl)) ?_
          refine t_rdg rfl rfl rfl rfl (gv_t _) (fun hg802 => (rd_lss (gvx rfl hg802) (gvx rfl hg802))) ?_
          refine t_rd rfl (rd_and rfl (fun hc803 => (gvx rfl hc803))) ?_
          refine rwt_nil ?_
          refine qn_then ?_
          obtain ⟨j813, hit814, q815⟩ := ob q799; clear q799
          refine cw_join (X := fun eq envq wq => eq = .normal ∧ Sub [(0, v0), (1, (Value.int .i64 a1)), (3, (Value.int .i64 a3)), (4, (Value.func (.func 109) #[] #[(Value.pointer (some ⟨pB v4, pO v4, none⟩))])), (18, (Value.int .i64 x598)), (20, (Value.int .i64 r738)), (24, (Value.int .i64 x797))] envq ∧ Mem w (ownL 3 v0 (a0 : List Int)).D [ownL 3 v0 (j813 : List Int)] wq) ?_ ?_
          · clear q815
            obtain ⟨hb816, q817⟩ | ⟨hb816, q817⟩ := oi hit814 <;> clear hit814
            · refine cw_t rfl hb816 ?_
              refine cw_region ?_
              refine t_rd rfl (rd_move rfl) ?_
              refine t_rd rfl (rd_move rfl) ?_
              refine t_rd rfl (rd_move rfl) ?_
              refine t_rd rfl (rd_move rfl) ?_
              refine t_rd rfl (rd_move rfl) ?_
              obtain ⟨r818, h819, q820⟩ := ob q817; clear q817
              refine t_ef rfl (ef_call tf144 rfl (g_slices_rotateCmpFunc_int_ok h819 (hm796.get (k := 0) rfl) ((hn4.to_callT (k := 0) hm796 rfl).sl))) ?_
              rintro _ w822 ⟨e_, hm821⟩
              obtain rfl := e_.symm
              have hm823 := hm796.callT (k := 0) rfl (fun _ h => h) hm821 (fun _ => Iff.rfl)
              refine rwt_nil ?_
              obtain rfl := os q820
              exact ⟨rfl, (by repeat (first | exact Sub.nil _ | refine Sub.cons rfl ?_)), (hm823.pick [0] (by decide) rfl)⟩
            · refine cw_f rfl hb816 ?_
              refine cw_skip ?_
              obtain rfl := os q817
              exact ⟨rfl, (by repeat (first | exact Sub.nil _ | refine Sub.cons rfl ?_)), (hm796.pick [0] (by decide) rfl)⟩
          · clear hit814
            intro e env824 w825 hX826
            obtain ⟨rfl, hs827, hm828⟩ := hX826
            refine qn_then ?_
            refine cw_sub hs827 ?_
            refine cw_seq ?_
            refine cw_seq ?_
            refine cw_region ?_
            refine t_rd rfl (rd_move rfl) ?_
            refine t_rd rfl (rd_move rfl) ?_
            refine t_rd rfl (rd_lss rfl rfl) ?_
            refine t_rd rfl (rd_move rfl) ?_
            refine t_rdg rfl rfl rfl rfl (gv_t _) (fun hg829 => (rd_move rfl)) ?_
            refine t_rdg rfl rfl rfl rfl (gv_t _) (fun hg830 => (rd_move rfl)) ?_
            refine t_rdg rfl rfl rfl rfl (gv_t _) (fun hg831 => (rd_lss (gvx rfl hg831) (gvx rfl hg831))) ?_
            refine t_rd rfl (rd_and rfl (fun hc832 => (gvx rfl hc832))) ?_
            refine rwt_nil ?_
            refine qn_then ?_
            obtain ⟨j842, hit843, q844⟩ := ob q815; clear q815
            refine cw_join (X := fun eq envq wq => eq = .normal ∧ Sub [(0, v0), (3, (Value.int .i64 a3)), (4, (Value.func (.func 109) #[] #[(Value.pointer (some ⟨pB v4, pO v4, none⟩))])), (18, (Value.int .i64 x598)), (24, (Value.int .i64 x797))] envq ∧ Mem w (ownL 3 v0 (a0 : List Int)).D [ownL 3 v0 (j842 : List Int)] wq) ?_ ?_
            · clear q844
              obtain ⟨hb845, q846⟩ | ⟨hb845, q846⟩ := oi hit843 <;> clear hit843
              · refine cw_t rfl hb845 ?_
                refine cw_region ?_
                refine t_rd rfl (rd_move rfl) ?_
                refine t_rd rfl (rd_move rfl) ?_
                refine t_rd rfl (rd_move rfl) ?_
                refine t_rd rfl (rd_move rfl) ?_
                refine t_rd rfl (rd_move rfl) ?_
                obtain ⟨r847, h848, q849⟩ := ob q846; clear q846
                refine t_ef rfl (ef_call tf138 rfl (ih h848 (hm828.get (k := 0) rfl) ((hn4.to_callT (k := 0) hm828 rfl).sl))) ?_
                rintro _ w851 ⟨e_, hm850⟩
                obtain rfl := e_.symm
                have hm852 := hm828.callT (k := 0) rfl (fun _ h => h) hm850 (fun _ => Iff.rfl)
                refine rwt_nil ?_
                obtain rfl := os q849
                exact ⟨rfl, (by repeat (first | exact Sub.nil _ | refine Sub.cons rfl ?_)), (hm852.pick [0] (by decide) rfl)⟩
              · refine cw_f rfl hb845 ?_
                refine cw_skip ?_
                obtain rfl := os q846
                exact ⟨rfl, (by repeat (first | exact Sub.nil _ | refine Sub.cons rfl ?_)), (hm828.pick [0] (by decide) rfl)⟩
            · clear hit843
              intro e env853 w854 hX855
              obtain ⟨rfl, hs856, hm857⟩ := hX855
              refine qn_then ?_
              refine cw_sub hs856 ?_
              refine cw_seq ?_
              refine cw_region ?_
              refine t_rd rfl (rd_move rfl) ?_
              refine t_rd rfl (rd_move rfl) ?_
              refine t_rd rfl (rd_lss rfl rfl) ?_
              refine t_rd rfl (rd_move rfl) ?_
              refine t_rdg rfl rfl rfl rfl (gv_t _) (fun hg858 => (rd_move rfl)) ?_
              refine t_rdg rfl rfl rfl rfl (gv_t _) (fun hg859 => (rd_move rfl)) ?_
              refine t_rdg rfl rfl rfl rfl (gv_t _) (fun hg860 => (rd_lss (gvx rfl hg860) (gvx rfl hg860))) ?_
              refine t_rd rfl (rd_and rfl (fun hc861 => (gvx rfl hc861))) ?_
              refine rwt_nil ?_
              refine qn_then ?_
              obtain ⟨hb862, q863⟩ | ⟨hb862, q863⟩ := oi q844 <;> clear q844
              · refine cw_t rfl hb862 ?_
                refine cw_region ?_
                refine t_rd rfl (rd_move rfl) ?_
                refine t_rd rfl (rd_move rfl) ?_
                refine t_rd rfl (rd_move rfl) ?_
                refine t_rd rfl (rd_move rfl) ?_
                refine t_rd rfl (rd_move rfl) ?_
                obtain ⟨r864, h865, q866⟩ := ob q863; clear q863
                refine t_ef rfl (ef_call tf138 rfl (ih h865 (hm857.get (k := 0) rfl) ((hn4.to_callT (k := 0) hm857 rfl).sl))) ?_
                rintro _ w868 ⟨e_, hm867⟩
                obtain rfl := e_.symm
                have hm869 := hm857.callT (k := 0) rfl (fun _ h => h) hm867 (fun _ => Iff.rfl)
                refine rwt_nil ?_
                obtain rfl := os q866
                refine retn ?_
                exact ret0 rfl ⟨rfl, (hm869.pick [0] (by decide) rfl)⟩
              · refine cw_f rfl hb862 ?_
                refine cw_skip ?_
                obtain rfl := os q863
                refine retn ?_
                exact ret0 rfl ⟨rfl, (hm857.pick [0] (by decide) rfl)⟩

theorem g_slices_symMergeCmpFunc_int_ok {N : Nat} {a0 : List Int} {a1 : Int} {a2 : Int} {a3 : Int} {a4 : List (List Int)} {res : List Int} (h : g_slices_symMergeCmpFunc_int N a0 a1 a2 a3 a4 = some res) {w : World} {v0 : Value} {v4 : Value} (hk0 : (ownL 3 v0 (a0 : List Int)).φ w) (hv4 : Sl (Old w (ownL 3 v0 (a0 : List Int)).D) w v4 a4) :
    CallsR Tryz.prog 138 [v0, (Value.int .i64 a1), (Value.int .i64 a2), (Value.int .i64 a3), (Value.func (.func 109) #[] #[(Value.pointer (some ⟨pB v4, pO v4, none⟩))])] w (fun u w' => u = (Value.tuple #[]) ∧ Mem w (ownL 3 v0 (a0 : List Int)).D [ownL 3 v0 (res : List Int)] w') := g_slices_symMergeCmpFunc_int_r_ok N h hk0 hv4

theorem g_slices_stableCmpFunc_int_ok {N : Nat} {a0 : List Int} {a1 : Int} {a2 : List (List Int)} {res : List Int} (h : g_slices_stableCmpFunc_int N a0 a1 a2 = some res) {w : World} {v0 : Value} {v2 : Value} (hk0 : (ownL 3 v0 (a0 : List Int)).φ w) (hv2 : Sl (Old w (ownL 3 v0 (a0 : List Int)).D) w v2 a2) :
    CallsR Tryz.prog 122 [v0, (Value.int .i64 a1), (Value.func (.func 109) #[] #[(Value.pointer (some ⟨pB v2, pO v2, none⟩))])] w (fun u w' => u = (Value.tuple #[]) ∧ Mem w (ownL 3 v0 (a0 : List Int)).D [ownL 3 v0 (res : List Int)] w') := by
  unfold g_slices_stableCmpFunc_int at h
  refine fn_ok Tryz.func122 rfl rfl rfl ?_
  obtain ⟨zs_a2, hn2⟩ := hv2.nest
  have hm0 := Mem.one hk0
  refine cw_seq ?_
  refine cw_region ?_
  refine t_rd rfl (rd_assign rfl) ?_
  refine rwt_nil ?_
  refine qn_then ?_
  refine cw_seq ?_
  refine cw_region ?_
  refine t_rd rfl (rd_move rfl) ?_
  refine t_rd rfl (rd_assign rfl) ?_
  refine t_rd rfl (rd_assign rfl) ?_
  refine rwt_nil ?_
  refine qn_then ?_
  refine cw_seq ?_
  refine cw_block ?_
  obtain ⟨r37, hit38, q39⟩ := ob h; clear h
  refine cw_loop2 (I := fun q envq wq => Sub [(0, v0), (1, (Value.int .i64 a1)), (2, (Value.func (.func 109) #[] #[(Value.pointer (some ⟨pB v2, pO v2, none⟩))])), (6, (Value.int .i64 20)), (7, (Value.int .i64 q.1)), (8, (Value.int .i64 q.2.1))] envq ∧ Mem w (ownL 3 v0 (a0 : List Int)).D [ownL 3 v0 (q.2.2 : List Int)] wq) (X := fun eq envq wq => eq = .exit 0 ∧ Sub [(0, v0), (1, (Value.int .i64 a1)), (2, (Value.func (.func 109) #[] #[(Value.pointer (some ⟨pB v2, pO v2, none⟩))])), (6, (Value.int .i64 20)), (7, (Value.int .i64 r37.1))] envq ∧ Mem w (ownL 3 v0 (a0 : List Int)).D [ownL 3 v0 (r37.2 : List Int)] wq) hit38 ⟨(by repeat (first | exact Sub.nil _ | refine Sub.cons rfl ?_)), (hm0.pick [0] (by decide) rfl)⟩ ?_ ?_
  · rintro ⟨i28, i29, l30⟩ x32 env33 w34 hf35 hr36 ⟨hs_, hm_⟩
    have hs_ : Sub [(0, v0), (1, (Value.int .i64 a1)), (2, (Value.func (.func 109) #[] #[(Value.pointer (some ⟨pB v2, pO v2, none⟩))])), (6, (Value.int .i64 20)), (7, (Value.int .i64 i28)), (8, (Value.int .i64 i29))] env33 := hs_
    have hm40 : Mem w (ownL 3 v0 (a0 : List Int)).D [ownL 3 v0 (l30 : List Int)] w34 := hm_
    refine cw_sub hs_ ?_
    clear hs_ hm_ q39
    have h : g_slices_stableCmpFunc_int_l1 N a1 a2 i28 i29 l30 = some x32 := hf35
    clear hf35
    refine cw_seq ?_
    refine cw_seq ?_
    refine cw_region ?_
    refine t_rd rfl (rd_move rfl) ?_
    refine t_rd rfl (rd_move rfl) ?_
    refine t_rd rfl (rd_leq rfl rfl) ?_
    refine rwt_nil ?_
    refine qn_then ?_
    obtain ⟨hb41, q42⟩ | ⟨hb41, q42⟩ := oi h <;> clear h
    · refine cw_t rfl hb41 ?_
      refine cw_skip ?_
      refine qn_then ?_
      refine cw_block ?_
      refine cw_seq ?_
      refine cw_region ?_
      refine t_rd rfl (rd_move rfl) ?_
      refine t_rd rfl (rd_move rfl) ?_
      refine t_rd rfl (rd_move rfl) ?_
      refine t_rd rfl (rd_move rfl) ?_
      obtain ⟨r43, h44, q45⟩ := ob q42; clear q42
      refine t_ef rfl (ef_call tf111 rfl (g_slices_insertionSortCmpFunc_int_ok h44 (hm40.get (k := 0) rfl) ((hn2.to_callT (k := 0) hm40 rfl).sl))) ?_
      rintro _ w47 ⟨e_, hm46⟩
      obtain rfl := e_.symm
      have hm48 := hm40.callT (k := 0) rfl (fun _ h => h) hm46 (fun _ => Iff.rfl)
      refine rwt_nil ?_
      refine qn_then ?_
      refine cw_seq ?_
      refine cw_region ?_
      refine t_rd rfl (rd_move rfl) ?_
      refine t_rd rfl (rd_assign rfl) ?_
      refine rwt_nil ?_
      refine qn_then ?_
      refine cw_region ?_
      refine t_rd rfl (rd_move rfl) ?_
      refine t_rd rfl (rd_move rfl) ?_
      obtain ⟨x49, h50, q51⟩ := ob q45; clear q45
      refine t_rd rfl (rd_add64 h50 rfl rfl) ?_
      refine t_rd rfl (rd_assign rfl) ?_
      refine rwt_nil ?_
      refine qn_block (qn_then ?_)
      refine ⟨_, (os q51), (by repeat (first | exact Sub.nil _ | refine Sub.cons rfl ?_)), (hm48.pick [0] (by decide) rfl)⟩
    · refine cw_f rfl hb41 ?_
      refine cw_exit ?_
      refine qx_then (qx_then ?_)
      obtain rfl := hr36 _ (os q42)
      exact ⟨rfl, (by repeat (first | exact Sub.nil _ | refine Sub.cons rfl ?_)), (hm40.pick [0] (by decide) rfl)⟩
  · skip
    intro e env52 w53 hX54
    obtain ⟨rfl, hs55, hm56⟩ := hX54
    refine qx_same (qn_then ?_)
    refine cw_sub hs55 ?_
    refine cw_seq ?_
    refine cw_region ?_
    refine t_rd rfl (rd_move rfl) ?_
    refine t_rd rfl (rd_move rfl) ?_
    refine t_rd rfl (rd_move rfl) ?_
    refine t_rd rfl (rd_move rfl) ?_
    obtain ⟨r57, h58, q59⟩ := ob q39; clear q39
    refine t_ef rfl (ef_call tf111 rfl (g_slices_insertionSortCmpFunc_int_ok h58 (hm56.get (k := 0) rfl) ((hn2.to_callT (k := 0) hm56 rfl).sl))) ?_
    rintro _ w61 ⟨e_, hm60⟩
    obtain rfl := e_.symm
    have hm62 := hm56.callT (k := 0) rfl (fun _ h => h) hm60 (fun _ => Iff.rfl)
    refine rwt_nil ?_
    refine qn_then ?_
    refine cw_block ?_
    obtain ⟨r248, hit249, q250⟩ := ob q59; clear q59
    refine cw_loop2 (I := fun q envq wq => Sub [(0, v0), (1, (Value.int .i64 a1)), (2, (Value.func (.func 109) #[] #[(Value.pointer (some ⟨pB v2, pO v2, none⟩))])), (6, (Value.int .i64 q.1))] envq ∧ Mem w (ownL 3 v0 (a0 : List Int)).D [ownL 3 v0 (q.2 : List Int)] wq) (X := fun eq envq wq => eq = .exit 2 ∧ Sub [] envq ∧ Mem w (ownL 3 v0 (a0 : List Int)).D [ownL 3 v0 (r248 : List Int)] wq) hit249 ⟨(by repeat (first | exact Sub.nil _ | refine Sub.cons rfl ?_)), (hm62.pick [0] (by decide) rfl)⟩ ?_ ?_
    · rintro ⟨i240, l241⟩ x243 env244 w245 hf246 hr247 ⟨hs_, hm_⟩
      have hs_ : Sub [(0, v0), (1, (Value.int .i64 a1)), (2, (Value.func (.func 109) #[] #[(Value.pointer (some ⟨pB v2, pO v2, none⟩))])), (6, (Value.int .i64 i240))] env244 := hs_
      have hm251 : Mem w (ownL 3 v0 (a0 : List Int)).D [ownL 3 v0 (l241 : List Int)] w245 := hm_
      refine cw_sub hs_ ?_
      clear hs_ hm_ q250
      have h : g_slices_stableCmpFunc_int_l4 N a1 a2 i240 l241 = some x243 := hf246
      clear hf246
      refine cw_seq ?_
      refine cw_seq ?_
      refine cw_region ?_
      refine t_rd rfl (rd_move rfl) ?_
      refine t_rd rfl (rd_move rfl) ?_
      refine t_rd rfl (rd_lss rfl rfl) ?_
      refine rwt_nil ?_
      refine qn_then ?_
      obtain ⟨hb252, q253⟩ | ⟨hb252, q253⟩ := oi h <;> clear h
      · refine cw_t rfl hb252 ?_
        refine cw_skip ?_
        refine qn_then ?_
        refine cw_block ?_
        refine cw_seq ?_
        refine cw_region ?_
        refine t_rd rfl (rd_move rfl) ?_
        obtain ⟨x254, h255, q256⟩ := ob q253; clear q253
        refine t_rd rfl (rd_mul64 h255 rfl rfl) ?_
        refine t_rd rfl (rd_assign rfl) ?_
        refine t_rd rfl (rd_assign rfl) ?_
        refine rwt_nil ?_
        refine qn_then ?_
        refine cw_seq ?_
        refine cw_block ?_
        obtain ⟨r299, hit300, q301⟩ := ob q256; clear q256
        refine cw_loop2 (I := fun q envq wq => Sub [(0, v0), (1, (Value.int .i64 a1)), (2, (Value.func (.func 109) #[] #[(Value.pointer (some ⟨pB v2, pO v2, none⟩))])), (6, (Value.int .i64 i240)), (7, (Value.int .i64 q.1)), (8, (Value.int .i64 q.2.1))] envq ∧ Mem w (ownL 3 v0 (a0 : List Int)).D [ownL 3 v0 (q.2.2 : List Int)] wq) (X := fun eq envq wq => eq = .exit 4 ∧ Sub [(0, v0), (1, (Value.int .i64 a1)), (2, (Value.func (.func 109) #[] #[(Value.pointer (some ⟨pB v2, pO v2, none⟩))])), (6, (Value.int .i64 i240)), (7, (Value.int .i64 r299.1))] envq ∧ Mem w (ownL 3 v0 (a0 : List Int)).D [ownL 3 v0 (r299.2 : List Int)] wq) hit300 ⟨(by repeat (first | exact Sub.nil _ | refine Sub.cons rfl ?_)), (hm251.pick [0] (by decide) rfl)⟩ ?_ ?_
        · rintro ⟨i290, i291, l292⟩ x294 env295 w296 hf297 hr298 ⟨hs_, hm_⟩
          have hs_ : Sub [(0, v0), (1, (Value.int .i64 a1)), (2, (Value.func (.func 109) #[] #[(Value.pointer (some ⟨pB v2, pO v2, none⟩))])), (6, (Value.int .i64 i240)), (7, (Value.int .i64 i290)), (8, (Value.int .i64 i291))] env295 := hs_
          have hm302 : Mem w (ownL 3 v0 (a0 : List Int)).D [ownL 3 v0 (l292 : List Int)] w296 := hm_
          refine cw_sub hs_ ?_
          clear hs_ hm_ q301
          have h : g_slices_stableCmpFunc_int_l5 N a1 a2 i240 x254 i290 i291 l292 = some x294 := hf297
          clear hf297
          refine cw_seq ?_
          refine cw_seq ?_
          refine cw_region ?_
          refine t_rd rfl (rd_move rfl) ?_
          refine t_rd rfl (rd_move rfl) ?_
          refine t_rd rfl (rd_leq rfl rfl) ?_
          refine rwt_nil ?_
          refine qn_then ?_
          obtain ⟨hb303, q304⟩ | ⟨hb303, q304⟩ := oi h <;> clear h
          · refine cw_t rfl hb303 ?_
            refine cw_skip ?_
            refine qn_then ?_
            refine cw_block ?_
            refine cw_seq ?_
            refine cw_region ?_
            refine t_rd rfl (rd_move rfl) ?_
            refine t_rd rfl (rd_move rfl) ?_
            refine t_rd rfl (rd_move rfl) ?_
            refine t_rd rfl (rd_move rfl) ?_
            obtain ⟨x305, h306, q307⟩ := ob q304; clear q304
            refine t_rd rfl (rd_add64 h306 rfl rfl) ?_
            refine t_rd rfl (rd_move rfl) ?_
            refine t_rd rfl (rd_move rfl) ?_
            obtain ⟨r308, h309, q310⟩ := ob q307; clear q307
            refine t_ef rfl (ef_call tf138 rfl (g_slices_symMergeCmpFunc_int_ok h309 (hm302.get (k := 0) rfl) ((hn2.to_callT (k := 0) hm302 rfl).sl))) ?_
            rintro _ w312 ⟨e_, hm311⟩
            obtain rfl := e_.symm
            have hm313 := hm302.callT (k := 0) rfl (fun _ h => h) hm311 (fun _ => Iff.rfl)
            refine rwt_nil ?_
            refine qn_then ?_
            refine cw_seq ?_
            refine cw_region ?_
            refine t_rd rfl (rd_move rfl) ?_
            refine t_rd rfl (rd_assign rfl) ?_
            refine rwt_nil ?_
            refine qn_then ?_
            refine cw_region ?_
            refine t_rd rfl (rd_move rfl) ?_
            refine t_rd rfl (rd_move rfl) ?_
            refine t_rd rfl (rd_mul64 h255 rfl rfl) ?_
            obtain ⟨x314, h315, q316⟩ := ob q310; clear q310
            refine t_rd rfl (rd_add64 h315 rfl rfl) ?_
            refine t_rd rfl (rd_assign rfl) ?_
            refine rwt_nil ?_
            refine qn_block (qn_then ?_)
            refine ⟨_, (os q316), (by repeat (first | exact Sub.nil _ | refine Sub.cons rfl ?_)), (hm313.pick [0] (by decide) rfl)⟩
          · refine cw_f rfl hb303 ?_
            refine cw_exit ?_
            refine qx_then (qx_then ?_)
            obtain rfl := hr298 _ (os q304)
            exact ⟨rfl, (by repeat (first | exact Sub.nil _ | refine Sub.cons rfl ?_)), (hm302.pick [0] (by decide) rfl)⟩
        · skip
          intro e env317 w318 hX319
          obtain ⟨rfl, hs320, hm321⟩ := hX319
          refine qx_same (qn_then ?_)
          refine cw_sub hs320 ?_
          refine cw_seq ?_
          refine cw_seq ?_
          refine cw_region ?_
          refine t_rd rfl (rd_move rfl) ?_
          refine t_rd rfl (rd_move rfl) ?_
          obtain ⟨x322, h323, q324⟩ := ob q301; clear q301
          refine t_rd rfl (rd_add64 h323 rfl rfl) ?_
          refine t_rd rfl (rd_assign rfl) ?_
          refine rwt_nil ?_
          refine qn_then ?_
          refine cw_seq ?_
          refine cw_region ?_
          refine t_rd rfl (rd_move rfl) ?_
          refine t_rd rfl (rd_move rfl) ?_
          refine t_rd rfl (rd_lss rfl rfl) ?_
          refine rwt_nil ?_
          refine qn_then ?_
          obtain ⟨hb325, q326⟩ | ⟨hb325, q326⟩ := oi q324 <;> clear q324
          · refine cw_t rfl hb325 ?_
            refine cw_region ?_
            refine t_rd rfl (rd_move rfl) ?_
            refine t_rd rfl (rd_move rfl) ?_
            refine t_rd rfl (rd_move rfl) ?_
            refine t_rd rfl (rd_move rfl) ?_
            refine t_rd rfl (rd_move rfl) ?_
            obtain ⟨r327, h328, q329⟩ := ob q326; clear q326
            refine t_ef rfl (ef_call tf138 rfl (g_slices_symMergeCmpFunc_int_ok h328 (hm321.get (k := 0) rfl) ((hn2.to_callT (k := 0) hm321 rfl).sl))) ?_
            rintro _ w331 ⟨e_, hm330⟩
            obtain rfl := e_.symm
            have hm332 := hm321.callT (k := 0) rfl (fun _ h => h) hm330 (fun _ => Iff.rfl)
            refine rwt_nil ?_
            refine qn_then ?_
            refine cw_region ?_
            refine t_rd rfl (rd_move rfl) ?_
            obtain ⟨x333, h334, q335⟩ := ob q329; clear q329
            refine t_rd rfl (rd_mul64 h334 rfl rfl) ?_
            refine t_rd rfl (rd_assign rfl) ?_
            refine rwt_nil ?_
            refine qn_block (qn_then ?_)
            refine ⟨_, (os q335), (by repeat (first | exact Sub.nil _ | refine Sub.cons rfl ?_)), (hm332.pick [0] (by decide) rfl)⟩
          · refine cw_f rfl hb325 ?_
            refine cw_skip ?_
            refine qn_then ?_
            refine cw_region ?_
            refine t_rd rfl (rd_move rfl) ?_
            obtain ⟨x336, h337, q338⟩ := ob q326; clear q326
            refine t_rd rfl (rd_mul64 h337 rfl rfl) ?_
            refine t_rd rfl (rd_assign rfl) ?_
            refine rwt_nil ?_
            refine qn_block (qn_then ?_)
            refine ⟨_, (os q338), (by repeat (first | exact Sub.nil _ | refine Sub.cons rfl ?_)), (hm321.pick [0] (by decide) rfl)⟩
      · refine cw_f rfl hb252 ?_
        refine cw_exit ?_
        refine qx_then (qx_then ?_)
        obtain rfl := hr247 _ (os q253)
        exact ⟨rfl, (by repeat (first | exact Sub.nil _ | refine Sub.cons rfl ?_)), (hm251.pick [0] (by decide) rfl)⟩
    · skip
      intro e env339 w340 hX341
      obtain ⟨rfl, hs342, hm343⟩ := hX341
      refine qx_same ?_
      obtain rfl := os q250
      refine retn ?_
      refine ret_sub hs342 ?_
      exact ret0 rfl ⟨rfl, (hm343.pick [0] (by decide) rfl)⟩

theorem g_slices_SortStableFunc_int_int_ok {N : Nat} {a0 : List Int} {a1 : List (List Int)} {res : List Int} (h : g_slices_SortStableFunc_int_int N a0 a1 = some res) {w : World} {v0 : Value} {v1 : Value} (hk0 : (ownL 3 v0 (a0 : List Int)).φ w) (hv1 : Sl (Old w (ownL 3 v0 (a0 : List Int)).D) w v1 a1) :
    CallsR Tryz.prog 108 [v0, (Value.func (.func 109) #[] #[(Value.pointer (some ⟨pB v1, pO v1, none⟩))])] w (fun u w' => u = (Value.tuple #[]) ∧ Mem w (ownL 3 v0 (a0 : List Int)).D [ownL 3 v0 (res : List Int)] w') := by
  unfold g_slices_SortStableFunc_int_int at h
  refine fn_ok Tryz.func108 rfl rfl rfl ?_
  obtain ⟨zs_a1, hn1⟩ := hv1.nest
  have hm0 := Mem.one hk0
  refine cw_region ?_
  refine t_rd rfl (rd_move rfl) ?_
  refine t_rd rfl (rd_move rfl) ?_
  refine t_rd rfl (rd_lenS tS22 rfl (hm0.sl 0 rfl)) ?_
  refine t_rd rfl (rd_move rfl) ?_
  obtain ⟨r1, h2, q3⟩ := ob h; clear h
  refine t_ef rfl (ef_call tf122 rfl (g_slices_stableCmpFunc_int_ok h2 (hm0.get (k := 0) rfl) ((hn1.to_callT (k := 0) hm0 rfl).sl))) ?_
  rintro _ w5 ⟨e_, hm4⟩
  obtain rfl := e_.symm
  have hm6 := hm0.callT (k := 0) rfl (fun _ h => h) hm4 (fun _ => Iff.rfl)
  refine rwt_nil ?_
  obtain rfl := os q3
  refine retn ?_
  exact ret0 rfl ⟨rfl, (hm6.pick [0] (by decide) rfl)⟩

theorem assign_order_ok {N : Nat} {a0 : List Int} {res : List Int} (h : assign_order N a0 = some res) {w : World} {v0 : Value} (hv0 : Sl (Old w No) w v0 a0) :
    CallsR Tryz.prog 98 [v0] w (fun u w' => ∃ (y0 : Value), u = y0 ∧ Mem w No [ownL 3 y0 (res : List Int)] w') := by
  unfold assign_order at h
  refine fn_ok Tryz.func98 rfl rfl rfl ?_
  have hm0 := Mem.nil w
  refine cw_seq ?_
  refine cw_region ?_
  refine t_ef rfl (ef_box hm0 rfl rfl) ?_
  rintro _ w3 ⟨g1, rfl, hm2⟩
  have cb4 : v0.cells.toList = [v0] := by obtain ⟨_, _, e⟩ := ((hv0.of_old hm0)).val; rw [e]; rfl
  simp only [cb4] at hm2
  refine t_rd rfl (rd_assign rfl) ?_
  refine rwt_nil ?_
  refine qn_then ?_
  refine cw_seq ?_
  refine cw_region ?_
  refine t_rd rfl (rd_assign rfl) ?_
  refine rwt_nil ?_
  refine qn_then ?_
  refine cw_seq ?_
  refine cw_seq ?_
  refine cw_region ?_
  refine t_rd rfl (rd_ld1 tO22 rfl (hm2.blk 0 rfl) (off := 0) rfl) ?_
  refine t_rd rfl (rd_lenS tS22 rfl (hv0.of_old hm2)) ?_
  refine t_rd rfl (rd_move rfl) ?_
  refine rwt_nil ?_
  refine qn_then ?_
  refine cw_block ?_
  have hm28 := hm2.addNil (α := Int) 3
  obtain ⟨r88, hit89, q90⟩ := ob h; clear h
  refine cw_loop2 (I := fun q envq wq => ∃ (v81 : Value), Sub [(1, (Value.pointer (some ⟨g1, 0, none⟩))), (3, v81), (6, v0), (7, (Value.int .i64 (List.length a0 : Int))), (8, (Value.int .i64 q.1))] envq ∧ Mem w No [ownL 3 v81 (q.2 : List Int), blk g1 22 [v0]] wq) (X := fun eq envq wq => eq = .exit 0 ∧ ∃ (v78 : Value), Sub [(1, (Value.pointer (some ⟨g1, 0, none⟩))), (3, v78)] envq ∧ Mem w No [ownL 3 v78 (r88 : List Int), blk g1 22 [v0]] wq) hit89 ⟨(Value.slice none 0 0), (by repeat (first | exact Sub.nil _ | refine Sub.cons rfl ?_)), (hm28.pick [0, 1] (by decide) rfl)⟩ ?_ ?_
  · rintro ⟨i79, l80⟩ x83 env84 w85 hf86 hr87 ⟨v81, hs_, hm_⟩
    have hs_ : Sub [(1, (Value.pointer (some ⟨g1, 0, none⟩))), (3, v81), (6, v0), (7, (Value.int .i64 (List.length a0 : Int))), (8, (Value.int .i64 i79))] env84 := hs_
    have hm91 : Mem w No [ownL 3 v81 (l80 : List Int), blk g1 22 [v0]] w85 := hm_
    refine cw_sub hs_ ?_
    clear hs_ hm_ q90
    have h : assign_order_l1 N a0 i79 l80 = some x83 := hf86
    clear hf86
    refine cw_seq ?_
    refine cw_region ?_
    refine t_rd rfl (rd_lss rfl rfl) ?_
    refine rwt_nil ?_
    refine qn_then ?_
    refine cw_seq ?_
    obtain ⟨hb92, q93⟩ | ⟨hb92, q93⟩ := oi h <;> clear h
    · refine cw_t rfl hb92 ?_
      refine cw_skip ?_
      refine qn_then ?_
      refine cw_seq ?_
      refine cw_block ?_
      refine cw_seq ?_
      refine cw_region ?_
      refine t_rd rfl (rd_move rfl) ?_
      obtain ⟨x94, h95, q96⟩ := ob q93; clear q93
      refine t_rd rfl (rd_index tS22 rfl rfl (hv0.of_old hm91) h95) ?_
      refine t_rd rfl (rd_ld1 tO3 rfl ((hv0.of_old hm91).cells h95) (off := 0) rfl) ?_
      refine t_rd rfl (rd_assign rfl) ?_
      refine t_rd rfl (rd_assign rfl) ?_
      refine rwt_nil ?_
      refine qn_then ?_
      refine cw_seq ?_
      refine cw_region ?_
      refine t_rd rfl (rd_move rfl) ?_
      refine t_rd rfl (rd_gtr rfl rfl) ?_
      refine rwt_nil ?_
      refine qn_then ?_
      obtain ⟨hb97, q98⟩ | ⟨hb97, q98⟩ := oi q96 <;> clear q96
      · refine cw_t rfl hb97 ?_
        refine cw_region ?_
        refine t_rd rfl (rd_move rfl) ?_
        refine t_rd rfl (rd_move rfl) ?_
        refine t_ef rfl (ef_bslice (l := ([i79] : List Int)) hm91 tS22 rfl (cs := #[(Value.int .i64 i79)]) (by unfold bsl; kernel_rfl) rfl rfl) ?_
        intro v99 w101 hm100
        obtain ⟨l102, h103, q104⟩ := ob q98; clear q98
        refine t_ef rfl (ef_append (k := 1) hm100 tS22 tE3 rfl rfl rfl rfl (hm100.sl 0 rfl) h103) ?_
        intro v105 w107 hm106
        refine t_rd rfl (rd_assign rfl) ?_
        refine rwt_nil ?_
        refine qn_block (qn_then ?_)
        refine cw_region ?_
        obtain ⟨x108, h109, q110⟩ := ob q104; clear q104
        refine t_rd rfl (rd_add64 h109 rfl rfl) ?_
        refine t_rd rfl (rd_move rfl) ?_
        refine rwt_nil ?_
        refine qn_then ?_
        refine ⟨_, (os q110), v105, (by repeat (first | exact Sub.nil _ | refine Sub.cons rfl ?_)), (hm106.pick [1, 2] (by decide) rfl)⟩
      · refine cw_f rfl hb97 ?_
        refine cw_skip ?_
        refine qn_block (qn_then ?_)
        refine cw_region ?_
        obtain ⟨x111, h112, q113⟩ := ob q98; clear q98
        refine t_rd rfl (rd_add64 h112 rfl rfl) ?_
        refine t_rd rfl (rd_move rfl) ?_
        refine rwt_nil ?_
        refine qn_then ?_
        refine ⟨_, (os q113), v81, (by repeat (first | exact Sub.nil _ | refine Sub.cons rfl ?_)), (hm91.pick [0, 1] (by decide) rfl)⟩
    · refine cw_f rfl hb92 ?_
      refine cw_exit ?_
      refine qx_then (qx_then ?_)
      obtain rfl := hr87 _ (os q93)
      exact ⟨rfl, v81, (by repeat (first | exact Sub.nil _ | refine Sub.cons rfl ?_)), (hm91.pick [0, 1] (by decide) rfl)⟩
  · skip
    intro e env114 w115 hX116
    obtain ⟨rfl, v78, hs117, hm118⟩ := hX116
    refine qx_same (qn_then ?_)
    refine cw_sub hs117 ?_
    refine cw_seq ?_
    refine cw_region ?_
    refine t_rd rfl (rd_move rfl) ?_
    refine t_rd rfl (rd_makeFunc rfl) ?_
    obtain ⟨r119, h120, q121⟩ := ob q90; clear q90
    refine t_ef rfl (ef_call tf108 rfl (g_slices_SortStableFunc_int_int_ok (v1 := (Value.slice (some ⟨g1, 0, none⟩) 1 1)) h120 (hm118.get (k := 0) rfl) (hm118.box_callT 1 0 rfl rfl (by decide) (hv0.to_callT (k := 0) hm118 rfl)))) ?_
    rintro _ w123 ⟨e_, hm122⟩
    obtain rfl := e_.symm
    have hm124 := hm118.callT (k := 0) rfl (fun _ h => h) hm122 (fun _ => Iff.rfl)
    refine rwt_nil ?_
    refine qn_then ?_
    refine cw_seq ?_
    refine cw_region ?_
    refine t_rd rfl (rd_move rfl) ?_
    refine t_rd rfl (rd_assign rfl) ?_
    refine rwt_nil ?_
    refine qn_then ?_
    refine cw_ret ?_
    obtain rfl := os q121
    exact ret1 rfl rfl ⟨v78, rfl, (hm124.pick [0] (by decide) rfl)⟩

theorem g_slices_Clone_int_int_ok {N : Nat} {a0 : List Int} {res : List Int} (h : g_slices_Clone_int_int N a0 = some res) {w : World} {v0 : Value} (hv0 : Sl (Old w No) w v0 a0) :
    CallsR Tryz.prog 99 [v0] w (fun u w' => ∃ (y0 : Value), u = y0 ∧ Mem w No [ownL 3 y0 (res : List Int)] w') := by
  unfold g_slices_Clone_int_int at h
  refine fn_ok Tryz.func99 rfl rfl rfl ?_
  have hm0 := Mem.nil w
  refine cw_seq ?_
  refine cw_region ?_
  refine t_rd rfl (rd_assign rfl) ?_
  refine rwt_nil ?_
  refine qn_then ?_
  refine cw_seq ?_
  refine cw_seq ?_
  refine cw_region ?_
  refine t_rd rfl (rd_move rfl) ?_
  obtain ⟨tb, hr, hb⟩ := rd_nilS tS22 (hv0.of_old hm0)
  refine t_rd rfl (hr rfl) ?_
  refine rwt_nil ?_
  refine qn_then ?_
  cases tb with
  | true =>
    refine cw_t rfl rfl ?_
    refine cw_seq ?_
    refine cw_region ?_
    refine t_rd rfl (rd_assign rfl) ?_
    refine rwt_nil ?_
    refine qn_then ?_
    refine cw_ret ?_
    refine qr_then ?_
    have e := hb rfl
    rw [e] at h
    obtain rfl := app_nn h
    exact ret1 rfl rfl ⟨_, rfl, hm0.addNil (α := Int) 3⟩
  | false =>
    refine cw_f rfl rfl ?_
    refine cw_skip ?_
    refine qn_then ?_
    refine cw_seq ?_
    refine cw_region ?_
    refine t_ef rfl (ef_bslice0 (α := Int) hm0 tS22) ?_
    intro v1 w1 hm1
    refine t_rd rfl (rd_move rfl) ?_
    refine t_ef rfl (ef_append (k := 0) hm1 tS22 tE3 rfl rfl rfl rfl (hv0.of_old hm1) h) ?_
    intro v2 w2 hm2
    refine t_rd rfl (rd_assign rfl) ?_
    refine rwt_nil ?_
    refine qn_then ?_
    refine cw_ret ?_
    exact ret1 rfl rfl ⟨v2, rfl, hm2.pick [0] (by decide) rfl⟩

theorem assign_Match_ok {N : Nat} {a0 : List Int} {a1 : List Int} {res : List Int × List Int × Int} (h : assign_Match N a0 a1 = some res) {w : World} {v0 : Value} {v1 : Value} (hv0 : Sl (Old w No) w v0 a0) (hv1 : Sl (Old w No) w v1 a1) :
    CallsR Tryz.prog 84 [v0, v1] w (fun u w' => ∃ (y0 : Value) (y1 : Value), u = (Value.tuple #[y0, y1, (Value.int .i64 res.2.2)]) ∧ Mem w No [ownL 3 y0 (res.1 : List Int), ownL 3 y1 (res.2.1 : List Int)] w') := by
  unfold assign_Match at h
  refine fn_ok Tryz.func84 rfl rfl rfl ?_
  have hm0 := Mem.nil w
  refine cw_seq ?_
  refine cw_region ?_
  refine t_rd rfl (rd_assign rfl) ?_
  refine t_rd rfl (rd_assign rfl) ?_
  refine t_rd rfl (rd_assign rfl) ?_
  refine rwt_nil ?_
  refine qn_then ?_
  refine cw_seq ?_
  refine cw_seq ?_
  refine cw_region ?_
  refine t_rd rfl (rd_move rfl) ?_
  refine t_rd rfl (rd_move rfl) ?_
  obtain ⟨r1, h2, q3⟩ := ob h; clear h
  refine t_ef rfl (ef_call tf86 rfl (assign_check_ok h2 (hv0.to_call hm0) (hv1.to_call hm0))) ?_
  rintro _ w5 ⟨e_, hm4⟩
  obtain rfl := e_.symm
  have hm6 := hm0.call hm4
  refine t_rd rfl (rd_assign rfl) ?_
  refine rwt_nil ?_
  refine qn_then ?_
  refine cw_seq ?_
  refine cw_region ?_
  refine t_rd rfl (rd_move rfl) ?_
  refine t_rd rfl (rd_neq rfl rfl) ?_
  refine rwt_nil ?_
  refine qn_then ?_
  obtain ⟨hb7, q8⟩ | ⟨hb7, q8⟩ := oi q3 <;> clear q3
  · refine cw_t rfl hb7 ?_
    refine cw_seq ?_
    refine cw_region ?_
    refine t_rd rfl (rd_move rfl) ?_
    refine t_rd rfl (rd_assign rfl) ?_
    refine t_rd rfl (rd_assign rfl) ?_
    refine t_rd rfl (rd_assign rfl) ?_
    refine rwt_nil ?_
    refine qn_then ?_
    refine cw_ret ?_
    refine qr_then ?_
    obtain rfl := os q8
    have hm9 := hm6.addNil (α := Int) 3
    have hm10 := hm9.addNil (α := Int) 3
    exact ret3 rfl rfl rfl rfl ⟨(Value.slice none 0 0), (Value.slice none 0 0), rfl, (hm10.pick [1, 0] (by decide) rfl)⟩
  · refine cw_f rfl hb7 ?_
    refine cw_skip ?_
    refine qn_then ?_
    refine cw_seq ?_
    refine cw_region ?_
    refine t_rd rfl (rd_move rfl) ?_
    refine t_rd rfl (rd_lenS tS22 rfl (hv0.of_old hm6)) ?_
    obtain ⟨l11, h12, q13⟩ := ob q8; clear q8
    refine t_ef rfl (ef_make hm6 tS22 tE3 rfl rfl rfl h12) ?_
    intro v14 w16 hm15
    refine t_rd rfl (rd_assign rfl) ?_
    refine rwt_nil ?_
    refine qn_then ?_
    refine cw_seq ?_
    refine cw_seq ?_
    refine cw_region ?_
    refine t_rd rfl (rd_move rfl) ?_
    refine t_rd rfl (rd_lenS tS22 rfl (hm15.sl 0 rfl)) ?_
    refine t_rd rfl (rd_move rfl) ?_
    refine rwt_nil ?_
    refine qn_then ?_
    refine cw_block ?_
    obtain ⟨r48, hit49, q50⟩ := ob q13; clear q13
    refine cw_loop2 (I := fun q envq wq => Sub [(0, v0), (1, v1), (4, v14), (26, (Value.int .i64 (List.length l11 : Int))), (27, (Value.int .i64 q.1))] envq ∧ Mem w No [ownL 3 v14 (q.2 : List Int)] wq) (X := fun eq envq wq => eq = .exit 0 ∧ Sub [(0, v0), (1, v1), (4, v14)] envq ∧ Mem w No [ownL 3 v14 (r48 : List Int)] wq) hit49 ⟨(by repeat (first | exact Sub.nil _ | refine Sub.cons rfl ?_)), (hm15.pick [0] (by decide) rfl)⟩ ?_ ?_
    · rintro ⟨i40, l41⟩ x43 env44 w45 hf46 hr47 ⟨hs_, hm_⟩
      have hs_ : Sub [(0, v0), (1, v1), (4, v14), (26, (Value.int .i64 (List.length l11 : Int))), (27, (Value.int .i64 i40))] env44 := hs_
      have hm51 : Mem w No [ownL 3 v14 (l41 : List Int)] w45 := hm_
      refine cw_sub hs_ ?_
      clear hs_ hm_ q50
      have h : assign_Match_l1 N l11 i40 l41 = some x43 := hf46
      clear hf46
      refine cw_seq ?_
      refine cw_region ?_
      refine t_rd rfl (rd_lss rfl rfl) ?_
      refine rwt_nil ?_
      refine qn_then ?_
      refine cw_seq ?_
      obtain ⟨hb52, q53⟩ | ⟨hb52, q53⟩ := oi h <;> clear h
      · refine cw_t rfl hb52 ?_
        refine cw_skip ?_
        refine qn_then ?_
        refine cw_seq ?_
        refine cw_block ?_
        refine cw_seq ?_
        refine cw_region ?_
        refine t_rd rfl (rd_move rfl) ?_
        refine t_rd rfl (rd_assign rfl) ?_
        refine rwt_nil ?_
        refine qn_then ?_
        refine cw_region ?_
        refine t_rd rfl (rd_move rfl) ?_
        refine t_rd rfl (rd_move rfl) ?_
        obtain ⟨x54, h55, q56⟩ := ob q53; clear q53
        refine t_rd rfl (rd_index tS22 rfl rfl (hm51.sl 0 rfl) h55) ?_
        refine t_ef0 (ef_stl (k := 0) (off := 0) (x' := (-1)) hm51 tO3 rfl rfl rfl rfl h55 rfl rfl) ?_
        intro _ w58 hm57
        refine rwt_nil ?_
        refine qn_block (qn_then ?_)
        refine cw_region ?_
        obtain ⟨x59, h60, q61⟩ := ob q56; clear q56
        refine t_rd rfl (rd_add64 h60 rfl rfl) ?_
        refine t_rd rfl (rd_move rfl) ?_
        refine rwt_nil ?_
        refine qn_then ?_
        refine ⟨_, (os q61), (by repeat (first | exact Sub.nil _ | refine Sub.cons rfl ?_)), (hm57.pick [0] (by decide) rfl)⟩
      · refine cw_f rfl hb52 ?_
        refine cw_exit ?_
        refine qx_then (qx_then ?_)
        obtain rfl := hr47 _ (os q53)
        exact ⟨rfl, (by repeat (first | exact Sub.nil _ | refine Sub.cons rfl ?_)), (hm51.pick [0] (by decide) rfl)⟩
    · skip
      intro e env62 w63 hX64
      obtain ⟨rfl, hs65, hm66⟩ := hX64
      refine qx_same (qn_then ?_)
      refine cw_sub hs65 ?_
      refine cw_seq ?_
      refine cw_region ?_
      refine t_rd rfl (rd_move rfl) ?_
      refine t_rd rfl (rd_lenS tS22 rfl (hv1.of_old hm66)) ?_
      obtain ⟨l67, h68, q69⟩ := ob q50; clear q50
      refine t_ef rfl (ef_make hm66 tS98 tE4 rfl rfl rfl h68) ?_
      intro v70 w72 hm71
      refine t_rd rfl (rd_assign rfl) ?_
      refine rwt_nil ?_
      refine qn_then ?_
      refine cw_seq ?_
      refine cw_region ?_
      refine t_rd rfl (rd_move rfl) ?_
      obtain ⟨r73, h74, q75⟩ := ob q69; clear q69
      refine t_ef rfl (ef_call tf98 rfl (assign_order_ok h74 (hv0.to_call hm71))) ?_
      rintro _ w78 ⟨v76, e_, hm77⟩
      obtain rfl := e_.symm
      have hm79 := hm71.call hm77
      refine t_rd rfl (rd_assign rfl) ?_
      refine rwt_nil ?_
      refine qn_then ?_
      refine cw_seq ?_
      refine cw_seq ?_
      refine cw_region ?_
      refine t_rd rfl (rd_move rfl) ?_
      refine t_rd rfl (rd_lenS tS22 rfl (hm79.sl 0 rfl)) ?_
      refine t_rd rfl (rd_move rfl) ?_
      refine rwt_nil ?_
      refine qn_then ?_
      refine cw_block ?_
      obtain ⟨r457, hit458, q459⟩ := ob q75; clear q75
      refine cw_loop2 (I := fun q envq wq => Sub [(0, v0), (1, v1), (4, v14), (9, v70), (10, v76), (39, v76), (40, (Value.int .i64 (List.length r73 : Int))), (41, (Value.int .i64 q.1))] envq ∧ Mem w No [ownL 3 v76 (r73 : List Int), ownL 4 v70 (q.2.2 : List Bool), ownL 3 v14 (q.2.1 : List Int)] wq) (X := fun eq envq wq => (∃ p460, r457 = (Sum.inl p460) ∧ eq = .ret ∧ retQ Tryz.prog 99 Tryz.f84 (fun u w' => ∃ (y0 : Value) (y1 : Value), u = (Value.tuple #[y0, y1, (Value.int .i64 p460.2.2)]) ∧ Mem w No [ownL 3 y0 (p460.1 : List Int), ownL 3 y1 (p460.2.1 : List Int)] w') .ret envq wq) ∨ (∃ p461, r457 = (Sum.inr p461) ∧ eq = .exit 2 ∧ Sub [(4, v14)] envq ∧ Mem w No [ownL 3 v14 (p461 : List Int)] wq)) hit458 ⟨(by repeat (first | exact Sub.nil _ | refine Sub.cons rfl ?_)), (hm79.pick [0, 1, 2] (by decide) rfl)⟩ ?_ ?_
      · rintro ⟨i448, l449, l450⟩ x452 env453 w454 hf455 hr456 ⟨hs_, hm_⟩
        have hs_ : Sub [(0, v0), (1, v1), (4, v14), (9, v70), (10, v76), (39, v76), (40, (Value.int .i64 (List.length r73 : Int))), (41, (Value.int .i64 i448))] env453 := hs_
        have hm462 : Mem w No [ownL 3 v76 (r73 : List Int), ownL 4 v70 (l450 : List Bool), ownL 3 v14 (l449 : List Int)] w454 := hm_
        refine cw_sub hs_ ?_
        clear hs_ hm_ q459
        have h : assign_Match_l4 N a0 a1 r73 i448 l449 l450 = some x452 := hf455
        clear hf455
        refine cw_seq ?_
        refine cw_region ?_
        refine t_rd rfl (rd_lss rfl rfl) ?_
        refine rwt_nil ?_
        refine qn_then ?_
        refine cw_seq ?_
        obtain ⟨hb463, q464⟩ | ⟨hb463, q464⟩ := oi h <;> clear h
        · refine cw_t rfl hb463 ?_
          refine cw_skip ?_
          refine qn_then ?_
          refine cw_seq ?_
          refine cw_block ?_
          refine cw_seq ?_
          refine cw_region ?_
          refine t_rd rfl (rd_move rfl) ?_
          obtain ⟨x465, h466, q467⟩ := ob q464; clear q464
          refine t_rd rfl (rd_index tS22 rfl rfl (hm462.sl 0 rfl) h466) ?_
          refine t_rd rfl (rd_ld1 tO3 rfl ((hm462.sl 0 rfl).cells h466) (off := 0) rfl) ?_
          refine t_rd rfl (rd_assign rfl) ?_
          refine t_rd rfl (rd_assign rfl) ?_
          refine rwt_nil ?_
          refine qn_then ?_
          refine cw_seq ?_
          refine cw_region ?_
          refine t_rd rfl (rd_assign rfl) ?_
          refine rwt_nil ?_
          refine qn_then ?_
          refine cw_seq ?_
          refine cw_seq ?_
          refine cw_region ?_
          refine t_rd rfl (rd_move rfl) ?_
          refine t_rd rfl (rd_lenS tS22 rfl (hv1.of_old hm462)) ?_
          refine t_rd rfl (rd_move rfl) ?_
          refine rwt_nil ?_
          refine qn_then ?_
          refine cw_block ?_
          obtain ⟨r561, hit562, q563⟩ := ob q467; clear q467
          refine cw_loop2 (I := fun q envq wq => Sub [(0, v0), (1, v1), (4, v14), (9, v70), (10, v76), (11, (Value.int .i64 i448)), (12, (Value.int .i64 x465)), (13, (Value.int .i64 q.1)), (39, v76), (40, (Value.int .i64 (List.length r73 : Int))), (41, (Value.int .i64 i448)), (46, v1), (47, (Value.int .i64 (List.length a1 : Int))), (48, (Value.int .i64 q.2))] envq ∧ Mem w No [ownL 3 v76 (r73 : List Int), ownL 4 v70 (l450 : List Bool), ownL 3 v14 (l449 : List Int)] wq) (X := fun eq envq wq => eq = .exit 4 ∧ Sub [(0, v0), (1, v1), (4, v14), (9, v70), (10, v76), (11, (Value.int .i64 i448)), (12, (Value.int .i64 x465)), (13, (Value.int .i64 r561)), (39, v76), (40, (Value.int .i64 (List.length r73 : Int))), (41, (Value.int .i64 i448))] envq ∧ Mem w No [ownL 3 v76 (r73 : List Int), ownL 4 v70 (l450 : List Bool), ownL 3 v14 (l449 : List Int)] wq) hit562 ⟨(by repeat (first | exact Sub.nil _ | refine Sub.cons rfl ?_)), (hm462.pick [0, 1, 2] (by decide) rfl)⟩ ?_ ?_
          · rintro ⟨i553, i554⟩ x556 env557 w558 hf559 hr560 ⟨hs_, hm_⟩
            have hs_ : Sub [(0, v0), (1, v1), (4, v14), (9, v70), (10, v76), (11, (Value.int .i64 i448)), (12, (Value.int .i64 x465)), (13, (Value.int .i64 i553)), (39, v76), (40, (Value.int .i64 (List.length r73 : Int))), (41, (Value.int .i64 i448)), (46, v1), (47, (Value.int .i64 (List.length a1 : Int))), (48, (Value.int .i64 i554))] env557 := hs_
            have hm564 : Mem w No [ownL 3 v76 (r73 : List Int), ownL 4 v70 (l450 : List Bool), ownL 3 v14 (l449 : List Int)] w558 := hm_
            refine cw_sub hs_ ?_
            clear hs_ hm_ q563
            have h : assign_Match_l5 N a0 a1 l450 x465 i553 i554 = some x556 := hf559
            clear hf559
            refine cw_seq ?_
            refine cw_region ?_
            refine t_rd rfl (rd_lss rfl rfl) ?_
            refine rwt_nil ?_
            refine qn_then ?_
            refine cw_seq ?_
            obtain ⟨hb565, q566⟩ | ⟨hb565, q566⟩ := oi h <;> clear h
            · refine cw_t rfl hb565 ?_
              refine cw_skip ?_
              refine qn_then ?_
              refine cw_seq ?_
              refine cw_block ?_
              refine cw_seq ?_
              refine cw_region ?_
              refine t_rd rfl (rd_move rfl) ?_
              obtain ⟨x567, h568, q569⟩ := ob q566; clear q566
              refine t_rd rfl (rd_index tS22 rfl rfl (hv1.of_old hm564) h568) ?_
              refine t_rd rfl (rd_ld1 tO3 rfl ((hv1.of_old hm564).cells h568) (off := 0) rfl) ?_
              refine t_rd rfl (rd_assign rfl) ?_
              refine t_rd rfl (rd_assign rfl) ?_
              refine rwt_nil ?_
              refine qn_then ?_
              refine cw_seq ?_
              refine cw_region ?_
              refine t_rd rfl (rd_move rfl) ?_
              refine t_rd rfl (rd_move rfl) ?_
              obtain ⟨x570, h571, q572⟩ := ob q569; clear q569
              refine t_rd rfl (rd_index tS98 rfl rfl (hm564.sl 1 rfl) h571) ?_
              refine t_rd rfl (rd_ld1 tO4 rfl ((hm564.sl 1 rfl).cells h571) (off := 0) rfl) ?_
              refine t_rd rfl (rd_not rfl) ?_
              refine t_rd rfl (rd_move rfl) ?_
              refine t_rdg rfl rfl rfl rfl (gv_t _) (fun hg573 => (rd_move rfl)) ?_
              refine t_rdg rfl rfl rfl rfl (gv_t _) (fun hg574 => (rd_move rfl)) ?_
              refine t_rdg rfl rfl rfl rfl (gv_t _) (fun hg575 => (rd_move rfl)) ?_
              obtain ⟨x577, h578, q579⟩ := ob q572; clear q572
              refine t_rdg rfl rfl rfl rfl (gv_t _) (fun hg576 => (rd_index tS22 (gvx rfl hg576) (gvx rfl hg576) (hv0.of_old hm564) (gO_t h578 hg576))) ?_
              refine t_rdg rfl rfl rfl rfl (gv_t _) (fun hg580 => (rd_ld1 tO3 (gvx rfl hg580) ((hv0.of_old hm564).cells (gO_t h578 hg580)) (off := 0) rfl)) ?_
              refine t_rdg rfl rfl rfl rfl (gv_t _) (fun hg581 => (rd_geq (gvx rfl hg581) (gvx rfl hg581))) ?_
              refine t_rd rfl (rd_and rfl (fun hc582 => (gvx rfl hc582))) ?_
              refine t_rd rfl (rd_move rfl) ?_
              refine t_rdg rfl rfl rfl rfl (gv_t _) (fun hg583 => (rd_move rfl)) ?_
              refine t_rdg rfl rfl rfl rfl (gv_t _) (fun hg584 => (rd_lss (gvx rfl hg584) rfl)) ?_
              refine t_rdg rfl rfl rfl rfl (gv_t _) (fun hg585 => (rd_move (gvx rfl hg585))) ?_
              refine t_rdg rfl rfl rfl rfl (gv_nf _ _) (fun hg586 => (rd_move rfl)) ?_
              refine t_rdg rfl rfl rfl rfl (gv_nf _ _) (fun hg587 => (rd_move rfl)) ?_
              refine t_rdg rfl rfl rfl rfl (gv_nf _ _) (fun hg588 => (rd_move rfl)) ?_
              obtain ⟨x590, h591, q592⟩ := ob q579; clear q579
              refine t_rdg rfl rfl rfl rfl (gv_nf _ _) (fun hg589 => (rd_index tS22 (gvx rfl hg589) (gvx rfl hg589) (hv1.of_old hm564) (gO_t h591 hg589))) ?_
              refine t_rdg rfl rfl rfl rfl (gv_nf _ _) (fun hg593 => (rd_ld1 tO3 (gvx rfl hg593) ((hv1.of_old hm564).cells (gO_t h591 hg593)) (off := 0) rfl)) ?_
              refine t_rdg rfl rfl rfl rfl (gv_nf _ _) (fun hg594 => (rd_lss (gvx rfl hg594) (gvx rfl hg594))) ?_
              refine t_rdg rfl rfl rfl rfl (gv_t _) (fun hg595 => (rd_or (gvx rfl hg595) (fun hc596 => (gvx rfl (band hg595 (bnotIt hc596)))))) ?_
              refine t_rd rfl (rd_and rfl (fun hc597 => (gvx rfl hc597))) ?_
              refine rwt_nil ?_
              refine qn_then ?_
              obtain ⟨hb598, q599⟩ | ⟨hb598, q599⟩ := oi q592 <;> clear q592
              · refine cw_t rfl hb598 ?_
                refine cw_region ?_
                refine t_rd rfl (rd_move rfl) ?_
                refine t_rd rfl (rd_assign rfl) ?_
                refine rwt_nil ?_
                refine qn_block (qn_then ?_)
                refine cw_region ?_
                obtain ⟨x600, h601, q602⟩ := ob q599; clear q599
                refine t_rd rfl (rd_add64 h601 rfl rfl) ?_
                refine t_rd rfl (rd_move rfl) ?_
                refine rwt_nil ?_
                refine qn_then ?_
                refine ⟨_, (os q602), (by repeat (first | exact Sub.nil _ | refine Sub.cons rfl ?_)), (hm564.pick [0, 1, 2] (by decide) rfl)⟩
              · refine cw_f rfl hb598 ?_
                refine cw_skip ?_
                refine qn_block (qn_then ?_)
                refine cw_region ?_
                obtain ⟨x603, h604, q605⟩ := ob q599; clear q599
                refine t_rd rfl (rd_add64 h604 rfl rfl) ?_
                refine t_rd rfl (rd_move rfl) ?_
                refine rwt_nil ?_
                refine qn_then ?_
                refine ⟨_, (os q605), (by repeat (first | exact Sub.nil _ | refine Sub.cons rfl ?_)), (hm564.pick [0, 1, 2] (by decide) rfl)⟩
            · refine cw_f rfl hb565 ?_
              refine cw_exit ?_
              refine qx_then (qx_then ?_)
              obtain rfl := hr560 _ (os q566)
              exact ⟨rfl, (by repeat (first | exact Sub.nil _ | refine Sub.cons rfl ?_)), (hm564.pick [0, 1, 2] (by decide) rfl)⟩
          · skip
            intro e env606 w607 hX608
            obtain ⟨rfl, hs609, hm610⟩ := hX608
            refine qx_same (qn_then ?_)
            refine cw_sub hs609 ?_
            refine cw_seq ?_
            refine cw_seq ?_
            refine cw_region ?_
            refine t_rd rfl (rd_move rfl) ?_
            refine t_rd rfl (rd_lss rfl rfl) ?_
            refine rwt_nil ?_
            refine qn_then ?_
            obtain ⟨hb611, q612⟩ | ⟨hb611, q612⟩ := oi q563 <;> clear q563
            · refine cw_t rfl hb611 ?_
              refine cw_seq ?_
              refine cw_region ?_
              refine t_rd rfl (rd_move rfl) ?_
              refine t_rd rfl (rd_move rfl) ?_
              obtain ⟨x613, h614, q615⟩ := ob q612; clear q612
              refine t_rd rfl (rd_add64 h614 rfl rfl) ?_
              obtain ⟨l616, h617, q618⟩ := ob q615; clear q615
              refine t_rd rfl (rd_slcH tS22 rfl rfl (hm610.sl 0 rfl) h617) ?_
              obtain ⟨r619, h620, q621⟩ := ob q618; clear q618
              refine t_ef rfl (ef_call tf99 rfl (g_slices_Clone_int_int_ok h620 ((hm610.sl_call 0 rfl).sub h617))) ?_
              rintro _ w624 ⟨v622, e_, hm623⟩
              obtain rfl := e_.symm
              have hm625 := hm610.call hm623
              refine t_rd rfl (rd_assign rfl) ?_
              refine rwt_nil ?_
              refine qn_then ?_
              refine cw_seq ?_
              refine cw_region ?_
              refine t_rd rfl (rd_move rfl) ?_
              obtain ⟨l626, h627, q628⟩ := ob q621; clear q621
              refine t_ef rfl (ef_call tf100 rfl (sortI_calls Tryz.srt100 h627 (hm625.get (k := 0) rfl))) ?_
              rintro _ w630 ⟨e_, hm629⟩
              obtain rfl := e_.symm
              have hm631 := hm625.callT (k := 0) rfl (fun _ h => h) hm629 (fun _ => Iff.rfl)
              refine rwt_nil ?_
              refine qn_then ?_
              refine cw_seq ?_
              refine cw_region ?_
              refine t_rd rfl (rd_move rfl) ?_
              refine t_rd rfl (rd_assign rfl) ?_
              refine t_rd rfl (rd_assign rfl) ?_
              refine t_rd rfl (rd_assign rfl) ?_
              refine rwt_nil ?_
              refine qn_then ?_
              refine cw_ret ?_
              refine qr_then (qr_block (qr_then (qr_then ?_)))
              obtain rfl := hr456 _ (os q628)
              refine .inl (⟨_, rfl, ⟨rfl, ?_⟩⟩)
              have hm632 := hm631.addNil (α := Int) 3
              exact ret3 rfl rfl rfl rfl ⟨(Value.slice none 0 0), v622, rfl, (hm632.pick [0, 1] (by decide) rfl)⟩
            · refine cw_f rfl hb611 ?_
              refine cw_skip ?_
              refine qn_then ?_
              refine cw_seq ?_
              refine cw_region ?_
              refine t_rd rfl (rd_move rfl) ?_
              refine t_rd rfl (rd_move rfl) ?_
              obtain ⟨x633, h634, q635⟩ := ob q612; clear q612
              refine t_rd rfl (rd_index tS98 rfl rfl (hm610.sl 1 rfl) h634) ?_
              refine t_ef0 (ef_stl (k := 1) (off := 0) (x' := true) hm610 tO4 rfl rfl rfl rfl h634 rfl rfl) ?_
              intro _ w637 hm636
              refine rwt_nil ?_
              refine qn_then ?_
              refine cw_region ?_
              refine t_rd rfl (rd_move rfl) ?_
              refine t_rd rfl (rd_move rfl) ?_
              refine t_rd rfl (rd_move rfl) ?_
              obtain ⟨x638, h639, q640⟩ := ob q635; clear q635
              refine t_rd rfl (rd_index tS22 rfl rfl (hm636.sl 2 rfl) h639) ?_
              refine t_ef0 (ef_stl (k := 2) (off := 0) (x' := r561) hm636 tO3 rfl rfl rfl rfl h639 rfl rfl) ?_
              intro _ w642 hm641
              refine rwt_nil ?_
              refine qn_block (qn_then ?_)
              refine cw_region ?_
              obtain ⟨x643, h644, q645⟩ := ob q640; clear q640
              refine t_rd rfl (rd_add64 h644 rfl rfl) ?_
              refine t_rd rfl (rd_move rfl) ?_
              refine rwt_nil ?_
              refine qn_then ?_
              refine ⟨_, (os q645), (by repeat (first | exact Sub.nil _ | refine Sub.cons rfl ?_)), (hm641.pick [0, 1, 2] (by decide) rfl)⟩
        · refine cw_f rfl hb463 ?_
          refine cw_exit ?_
          refine qx_then (qx_then ?_)
          obtain rfl := hr456 _ (os q464)
          exact .inr (⟨_, rfl, ⟨rfl, (by repeat (first | exact Sub.nil _ | refine Sub.cons rfl ?_)), (hm462.pick [2] (by decide) rfl)⟩⟩)
      · skip
        intro e env646 w647 hX648
        rcases hX648 with hX648 | hX648
        · obtain ⟨p650, rfl, hX648⟩ := hX648
          obtain ⟨rfl, hq652⟩ := hX648
          exact qr_block (qr_then ((by have e := os q459; subst e; exact hq652)))
        · obtain ⟨p653, rfl, hX648⟩ := hX648
          obtain ⟨rfl, hs654, hm655⟩ := hX648
          refine qx_same (qn_then ?_)
          refine cw_sub hs654 ?_
          refine cw_seq ?_
          refine cw_region ?_
          refine t_rd rfl (rd_move rfl) ?_
          refine t_rd rfl (rd_assign rfl) ?_
          refine t_rd rfl (rd_assign rfl) ?_
          refine t_rd rfl (rd_assign rfl) ?_
          refine rwt_nil ?_
          refine qn_then ?_
          refine cw_ret ?_
          obtain rfl := os q459
          have hm656 := hm655.addNil (α := Int) 3
          exact ret3 rfl rfl rfl rfl ⟨v14, (Value.slice none 0 0), rfl, (hm656.pick [1, 0] (by decide) rfl)⟩

theorem planner_sheet_ok {N : Nat} {a0 : List T_Item} {a1 : Int} {a2 : List Int} {res : List T_Item × Int × Int × List Int × List Int × List Int × List Int × Int} (h : planner_sheet N a0 a1 a2 = some res) {w : World} {v0 : Value} {v2 : Value} (hv0 : Sl (Old w No) w v0 a0) (hv2 : Sl (Old w No) w v2 a2) :
    CallsR Tryz.prog 55 [v0, (Value.int .i64 a1), v2] w (fun u w' => ∃ (y0 : Value) (y1 : Value) (y2 : Value) (y3 : Value) (y4 : Value), u = (Value.tuple #[(Value.agg #[y0, (Value.int .i64 res.2.1), (Value.int .i64 res.2.2.1), y1, y2, y3]), y4, (Value.int .i64 res.2.2.2.2.2.2.2)]) ∧ Mem w No [ownL 40 y0 (res.1 : List T_Item), ownL 3 y1 (res.2.2.2.1 : List Int), ownL 3 y2 (res.2.2.2.2.1 : List Int), ownL 3 y3 (res.2.2.2.2.2.1 : List Int), ownL 3 y4 (res.2.2.2.2.2.2.1 : List Int)] w') := by
  unfold planner_sheet at h
  refine fn_ok Tryz.func55 rfl rfl rfl ?_
  have hm0 := Mem.nil w
  refine cw_seq ?_
  refine cw_region ?_
  refine t_ef rfl (ef_alloc hm0 tZ74 rfl) ?_
  rintro _ w3 ⟨g1, rfl, hm2⟩
  refine t_rd rfl (rd_assign rfl) ?_
  refine t_rd rfl (rd_assign rfl) ?_
  refine rwt_nil ?_
  refine qn_then ?_
  refine cw_seq ?_
  refine cw_region ?_
  refine t_rd rfl (rd_move rfl) ?_
  obtain ⟨r4, h5, q6⟩ := ob h; clear h
  refine t_ef rfl (ef_call tf83 rfl (g_slices_Clone_api_Item_api_Item_ok h5 (hv0.to_call hm2))) ?_
  rintro _ w9 ⟨v7, e_, hm8⟩
  obtain rfl := e_.symm
  have hm10 := hm2.call hm8
  refine t_rd rfl (rd_move rfl) ?_
  refine t_rd rfl (rd_build (cs := #[v7, (Value.int .i64 a1)]) rfl (by obtain ⟨_, _, e⟩ := ((hm10.sl 0 rfl)).val; rw [e]; clear e; kernel_rfl)) ?_
  refine t_ef rfl (ef_alloc hm10 tZ27 rfl) ?_
  rintro _ w13 ⟨g11, rfl, hm12⟩
  refine t_ef0 (ef_stw (k := 0) hm12 tA27 rfl rfl (oc_cons (sl_one (hm12.sl 1 rfl)) (oc_cons rfl oc_nil)) rfl rfl rfl) ?_
  intro _ w15 hm14
  refine rwt_nil ?_
  refine qn_then ?_
  refine cw_seq ?_
  refine cw_region ?_
  refine t_rd rfl (rd_ld tA27 rfl (hm14.blk 0 rfl) rfl) ?_
  obtain ⟨r16, h17, q18⟩ := ob q6; clear q6
  refine t_ef rfl (ef_call tf8 rfl (certificate_Make_ok h17 (hm14.sl_call 1 rfl))) ?_
  rintro _ w22 ⟨v19, v20, e_, hm21⟩
  obtain rfl := e_.symm
  have hm23 := hm14.call hm21
  refine t_rd rfl (rd_move rfl) ?_
  refine t_rd rfl (rd_extract rfl rfl) ?_
  refine t_rd rfl (rd_extract rfl rfl) ?_
  refine t_ef rfl (ef_alloc hm23 tZ32 rfl) ?_
  rintro _ w26 ⟨g24, rfl, hm25⟩
  refine t_ef0 (ef_stw (k := 0) hm25 tA32 rfl rfl (oc_cons rfl (oc_cons (sl_one (hm25.sl 1 rfl)) (oc_cons (sl_one (hm25.sl 2 rfl)) oc_nil))) rfl rfl rfl) ?_
  intro _ w28 hm27
  refine t_rd rfl (rd_assign rfl) ?_
  refine rwt_nil ?_
  refine qn_then ?_
  refine cw_seq ?_
  refine cw_seq ?_
  refine cw_region ?_
  refine t_rd rfl (rd_move rfl) ?_
  refine t_rd rfl (rd_neq rfl rfl) ?_
  refine rwt_nil ?_
  refine qn_then ?_
  obtain ⟨hb29, q30⟩ | ⟨hb29, q30⟩ := oi q18 <;> clear q18
  · refine cw_t rfl hb29 ?_
    refine cw_seq ?_
    refine cw_region ?_
    refine t_rd rfl (rd_build (cs := #[(Value.slice none 0 0), (Value.int .i64 0), (Value.int .i64 0), (Value.slice none 0 0), (Value.slice none 0 0), (Value.slice none 0 0)]) rfl (by kernel_rfl)) ?_
    refine t_rd rfl (rd_move rfl) ?_
    refine t_ef0 (ef_stw (k := 5) hm27 tA74 rfl rfl (oc_cons (sl_one (Sl.nil (α := T_Item) No w28)) (oc_cons rfl (oc_cons rfl (oc_cons (sl_one (Sl.nil (α := Int) No w28)) (oc_cons (sl_one (Sl.nil (α := Int) No w28)) (oc_cons (sl_one (Sl.nil (α := Int) No w28)) oc_nil)))))) rfl rfl rfl) ?_
    intro _ w32 hm31
    refine t_rd rfl (rd_assign rfl) ?_
    refine t_rd rfl (rd_assign rfl) ?_
    refine rwt_nil ?_
    refine qn_then ?_
    refine cw_ret ?_
    refine qr_then ?_
    obtain rfl := os q30
    have hm33 := hm31.addNil (α := T_Item) 40
    have hm34 := hm33.addNil (α := Int) 3
    have hm35 := hm34.addNil (α := Int) 3
    have hm36 := hm35.addNil (α := Int) 3
    have hm37 := hm36.addNil (α := Int) 3
    exact retLn (rs := [.cell 6 74, .tmp 7, .tmp 8]) rfl (.rc rfl tA74 (hm37.blk 10 rfl) rfl (.rt rfl (.rt rfl .rn))) rfl ⟨(Value.slice none 0 0), (Value.slice none 0 0), (Value.slice none 0 0), (Value.slice none 0 0), (Value.slice none 0 0), rfl, (hm37.pick [4, 3, 2, 1, 0] (by decide) rfl)⟩
  · refine cw_f rfl hb29 ?_
    refine cw_skip ?_
    refine qn_then ?_
    refine cw_seq ?_
    refine cw_region ?_
    refine t_rd rfl (rd_ld tA27 rfl (hm27.blk 3 rfl) rfl) ?_
    refine t_rd rfl (rd_fld tF32_0 rfl) ?_
    refine t_rd rfl (rd_ldp (cs' := [(Value.int .i64 r16.1), v19]) tA30 rfl (hm27.blk 0 rfl) (off := 0) rfl rfl) ?_
    obtain ⟨r38, h39, q40⟩ := ob q30; clear q30
    refine t_ef rfl (ef_call tf56 rfl (rollin_Loads_ok h39 (hm27.sl_call 4 rfl) (hm27.sl_call 1 rfl))) ?_
    rintro _ w43 ⟨v41, e_, hm42⟩
    obtain rfl := e_.symm
    have hm44 := hm27.call hm42
    refine t_rd rfl (rd_move rfl) ?_
    refine t_rd rfl (rd_extract rfl rfl) ?_
    refine t_rd rfl (rd_extract rfl rfl) ?_
    refine t_rd rfl (rd_assign rfl) ?_
    refine t_rd rfl (rd_assign rfl) ?_
    refine rwt_nil ?_
    refine qn_then ?_
    refine cw_seq ?_
    refine cw_seq ?_
    refine cw_region ?_
    refine t_rd rfl (rd_move rfl) ?_
    refine t_rd rfl (rd_neq rfl rfl) ?_
    refine rwt_nil ?_
    refine qn_then ?_
    obtain ⟨hb45, q46⟩ | ⟨hb45, q46⟩ := oi q40 <;> clear q40
    · refine cw_t rfl hb45 ?_
      refine cw_seq ?_
      refine cw_region ?_
      refine t_rd rfl (rd_build (cs := #[(Value.slice none 0 0), (Value.int .i64 0), (Value.int .i64 0), (Value.slice none 0 0), (Value.slice none 0 0), (Value.slice none 0 0)]) rfl (by kernel_rfl)) ?_
      refine t_rd rfl (rd_move rfl) ?_
      refine t_ef0 (ef_stw (k := 6) hm44 tA74 rfl rfl (oc_cons (sl_one (Sl.nil (α := T_Item) No w43)) (oc_cons rfl (oc_cons rfl (oc_cons (sl_one (Sl.nil (α := Int) No w43)) (oc_cons (sl_one (Sl.nil (α := Int) No w43)) (oc_cons (sl_one (Sl.nil (α := Int) No w43)) oc_nil)))))) rfl rfl rfl) ?_
      intro _ w48 hm47
      refine t_rd rfl (rd_assign rfl) ?_
      refine t_rd rfl (rd_assign rfl) ?_
      refine rwt_nil ?_
      refine qn_then ?_
      refine cw_ret ?_
      refine qr_then ?_
      obtain rfl := os q46
      have hm49 := hm47.addNil (α := T_Item) 40
      have hm50 := hm49.addNil (α := Int) 3
      have hm51 := hm50.addNil (α := Int) 3
      have hm52 := hm51.addNil (α := Int) 3
      have hm53 := hm52.addNil (α := Int) 3
      exact retLn (rs := [.cell 6 74, .tmp 7, .tmp 8]) rfl (.rc rfl tA74 (hm53.blk 11 rfl) rfl (.rt rfl (.rt rfl .rn))) rfl ⟨(Value.slice none 0 0), (Value.slice none 0 0), (Value.slice none 0 0), (Value.slice none 0 0), (Value.slice none 0 0), rfl, (hm53.pick [4, 3, 2, 1, 0] (by decide) rfl)⟩
    · refine cw_f rfl hb45 ?_
      refine cw_skip ?_
      refine qn_then ?_
      refine cw_seq ?_
      refine cw_region ?_
      refine t_rd rfl (rd_move rfl) ?_
      refine t_rd rfl (rd_move rfl) ?_
      obtain ⟨r54, h55, q56⟩ := ob q46; clear q46
      refine t_ef rfl (ef_call tf84 rfl (assign_Match_ok h55 (hm44.sl_call 0 rfl) (hv2.to_call hm44))) ?_
      rintro _ w60 ⟨v57, v58, e_, hm59⟩
      obtain rfl := e_.symm
      have hm61 := hm44.call hm59
      refine t_rd rfl (rd_move rfl) ?_
      refine t_rd rfl (rd_extract rfl rfl) ?_
      refine t_rd rfl (rd_extract rfl rfl) ?_
      refine t_rd rfl (rd_extract rfl rfl) ?_
      refine t_rd rfl (rd_assign rfl) ?_
      refine t_rd rfl (rd_assign rfl) ?_
      refine t_rd rfl (rd_assign rfl) ?_
      refine rwt_nil ?_
      refine qn_then ?_
      refine cw_seq ?_
      refine cw_seq ?_
      refine cw_region ?_
      refine t_rd rfl (rd_move rfl) ?_
      refine t_rd rfl (rd_neq rfl rfl) ?_
      refine rwt_nil ?_
      refine qn_then ?_
      obtain ⟨hb62, q63⟩ | ⟨hb62, q63⟩ := oi q56 <;> clear q56
      · refine cw_t rfl hb62 ?_
        refine cw_seq ?_
        refine cw_region ?_
        refine t_rd rfl (rd_build (cs := #[(Value.slice none 0 0), (Value.int .i64 0), (Value.int .i64 0), (Value.slice none 0 0), (Value.slice none 0 0), (Value.slice none 0 0)]) rfl (by kernel_rfl)) ?_
        refine t_rd rfl (rd_move rfl) ?_
        refine t_rd rfl (rd_move rfl) ?_
        refine t_ef0 (ef_stw (k := 8) hm61 tA74 rfl rfl (oc_cons (sl_one (Sl.nil (α := T_Item) No w60)) (oc_cons rfl (oc_cons rfl (oc_cons (sl_one (Sl.nil (α := Int) No w60)) (oc_cons (sl_one (Sl.nil (α := Int) No w60)) (oc_cons (sl_one (Sl.nil (α := Int) No w60)) oc_nil)))))) rfl rfl rfl) ?_
        intro _ w65 hm64
        refine t_rd rfl (rd_assign rfl) ?_
        refine t_rd rfl (rd_assign rfl) ?_
        refine rwt_nil ?_
        refine qn_then ?_
        refine cw_ret ?_
        refine qr_then ?_
        obtain rfl := os q63
        have hm66 := hm64.addNil (α := T_Item) 40
        have hm67 := hm66.addNil (α := Int) 3
        have hm68 := hm67.addNil (α := Int) 3
        have hm69 := hm68.addNil (α := Int) 3
        exact retLn (rs := [.cell 6 74, .tmp 7, .tmp 8]) rfl (.rc rfl tA74 (hm69.blk 12 rfl) rfl (.rt rfl (.rt rfl .rn))) rfl ⟨(Value.slice none 0 0), (Value.slice none 0 0), (Value.slice none 0 0), (Value.slice none 0 0), v58, rfl, (hm69.pick [3, 2, 1, 0, 5] (by decide) rfl)⟩
      · refine cw_f rfl hb62 ?_
        refine cw_skip ?_
        refine qn_then ?_
        refine cw_seq ?_
        refine cw_region ?_
        refine t_rd rfl (rd_ld tA27 rfl (hm61.blk 6 rfl) rfl) ?_
        refine t_rd rfl (rd_ld tA32 rfl (hm61.blk 3 rfl) rfl) ?_
        refine t_rd rfl (rd_move rfl) ?_
        refine t_rd rfl (rd_build (cs := #[v7, (Value.int .i64 a1), (Value.int .i64 r16.1), v19, v20, v57]) rfl (by obtain ⟨_, _, e⟩ := ((hm61.sl 7 rfl)).val; rw [e]; clear e; obtain ⟨_, _, e⟩ := ((hm61.sl 4 rfl)).val; rw [e]; clear e; obtain ⟨_, _, e⟩ := ((hm61.sl 5 rfl)).val; rw [e]; clear e; obtain ⟨_, _, e⟩ := ((hm61.sl 0 rfl)).val; rw [e]; clear e; kernel_rfl)) ?_
        refine t_ef0 (ef_stw (k := 8) hm61 tA74 rfl rfl (oc_cons (sl_one (hm61.sl 7 rfl)) (oc_cons rfl (oc_cons rfl (oc_cons (sl_one (hm61.sl 4 rfl)) (oc_cons (sl_one (hm61.sl 5 rfl)) (oc_cons (sl_one (hm61.sl 0 rfl)) oc_nil)))))) rfl rfl rfl) ?_
        intro _ w71 hm70
        refine t_rd rfl (rd_assign rfl) ?_
        refine t_rd rfl (rd_assign rfl) ?_
        refine rwt_nil ?_
        refine qn_then ?_
        refine cw_ret ?_
        obtain rfl := os q63
        have hm72 := hm70.addNil (α := Int) 3
        exact retLn (rs := [.cell 6 74, .tmp 7, .tmp 8]) rfl (.rc rfl tA74 (hm72.blk 9 rfl) rfl (.rt rfl (.rt rfl .rn))) rfl ⟨v7, v19, v20, v57, (Value.slice none 0 0), rfl, (hm72.pick [8, 5, 6, 1, 0] (by decide) rfl)⟩

theorem planner_Plan_ok {N : Nat} {a0 : List T_Item} {a1 : List Int} {res : List T_Item × Int × Int × List Int × List Int × List Int × List Int × Int} (h : planner_Plan N a0 a1 = some res) {w : World} {v0 : Value} {v1 : Value} (hv0 : Sl (Old w No) w v0 a0) (hv1 : Sl (Old w No) w v1 a1) :
    CallsR Tryz.prog 24 [v0, v1] w (fun u w' => ∃ (y0 : Value) (y1 : Value) (y2 : Value) (y3 : Value) (y4 : Value), u = (Value.tuple #[(Value.agg #[y0, (Value.int .i64 res.2.1), (Value.int .i64 res.2.2.1), y1, y2, y3]), y4, (Value.int .i64 res.2.2.2.2.2.2.2)]) ∧ Mem w No [ownL 40 y0 (res.1 : List T_Item), ownL 3 y1 (res.2.2.2.1 : List Int), ownL 3 y2 (res.2.2.2.2.1 : List Int), ownL 3 y3 (res.2.2.2.2.2.1 : List Int), ownL 3 y4 (res.2.2.2.2.2.2.1 : List Int)] w') := by
  unfold planner_Plan at h
  refine fn_ok Tryz.func24 rfl rfl rfl ?_
  have hm0 := Mem.nil w
  refine cw_seq ?_
  refine cw_region ?_
  refine t_ef rfl (ef_alloc hm0 tZ74 rfl) ?_
  rintro _ w3 ⟨g1, rfl, hm2⟩
  refine t_rd rfl (rd_assign rfl) ?_
  refine t_rd rfl (rd_assign rfl) ?_
  refine rwt_nil ?_
  refine qn_then ?_
  refine cw_seq ?_
  refine cw_region ?_
  refine t_rd rfl (rd_move rfl) ?_
  obtain ⟨r4, h5, q6⟩ := ob h; clear h
  refine t_ef rfl (ef_call tf54 rfl (planner_Schemes_ok h5 (hv0.to_call hm2))) ?_
  rintro _ w9 ⟨v7, e_, hm8⟩
  obtain rfl := e_.symm
  have hm10 := hm2.call hm8
  refine t_rd rfl (rd_move rfl) ?_
  refine t_rd rfl (rd_extract rfl rfl) ?_
  refine t_rd rfl (rd_extract rfl rfl) ?_
  refine t_rd rfl (rd_assign rfl) ?_
  refine t_rd rfl (rd_assign rfl) ?_
  refine rwt_nil ?_
  refine qn_then ?_
  refine cw_seq ?_
  refine cw_seq ?_
  refine cw_region ?_
  refine t_rd rfl (rd_move rfl) ?_
  refine t_rd rfl (rd_neq rfl rfl) ?_
  refine rwt_nil ?_
  refine qn_then ?_
  obtain ⟨hb11, q12⟩ | ⟨hb11, q12⟩ := oi q6 <;> clear q6
  · refine cw_t rfl hb11 ?_
    refine cw_seq ?_
    refine cw_region ?_
    refine t_rd rfl (rd_build (cs := #[(Value.slice none 0 0), (Value.int .i64 0), (Value.int .i64 0), (Value.slice none 0 0), (Value.slice none 0 0), (Value.slice none 0 0)]) rfl (by kernel_rfl)) ?_
    refine t_rd rfl (rd_move rfl) ?_
    refine t_ef0 (ef_stw (k := 1) hm10 tA74 rfl rfl (oc_cons (sl_one (Sl.nil (α := T_Item) No w9)) (oc_cons rfl (oc_cons rfl (oc_cons (sl_one (Sl.nil (α := Int) No w9)) (oc_cons (sl_one (Sl.nil (α := Int) No w9)) (oc_cons (sl_one (Sl.nil (α := Int) No w9)) oc_nil)))))) rfl rfl rfl) ?_
    intro _ w14 hm13
    refine t_rd rfl (rd_assign rfl) ?_
    refine t_rd rfl (rd_assign rfl) ?_
    refine rwt_nil ?_
    refine qn_then ?_
    refine cw_ret ?_
    refine qr_then ?_
    obtain rfl := os q12
    have hm15 := hm13.addNil (α := T_Item) 40
    have hm16 := hm15.addNil (α := Int) 3
    have hm17 := hm16.addNil (α := Int) 3
    have hm18 := hm17.addNil (α := Int) 3
    have hm19 := hm18.addNil (α := Int) 3
    exact retLn (rs := [.cell 4 74, .tmp 5, .tmp 6]) rfl (.rc rfl tA74 (hm19.blk 6 rfl) rfl (.rt rfl (.rt rfl .rn))) rfl ⟨(Value.slice none 0 0), (Value.slice none 0 0), (Value.slice none 0 0), (Value.slice none 0 0), (Value.slice none 0 0), rfl, (hm19.pick [4, 3, 2, 1, 0] (by decide) rfl)⟩
  · refine cw_f rfl hb11 ?_
    refine cw_skip ?_
    refine qn_then ?_
    refine cw_seq ?_
    refine cw_region ?_
    refine t_rd rfl (rd_assign rfl) ?_
    refine rwt_nil ?_
    refine qn_then ?_
    refine cw_seq ?_
    refine cw_seq ?_
    refine cw_region ?_
    refine t_rd rfl (rd_move rfl) ?_
    refine t_rd rfl (rd_lenS tS120 rfl (hm10.sl 0 rfl)) ?_
    refine t_rd rfl (rd_move rfl) ?_
    refine rwt_nil ?_
    refine qn_then ?_
    refine cw_block ?_
    have hm62 := hm10.addNil (α := Int) 3
    obtain ⟨r162, hit163, q164⟩ := ob q12; clear q12
    refine cw_loop2 (I := fun q envq wq => ∃ (v155 : Value), Sub [(0, v0), (1, v1), (4, (Value.pointer (some ⟨g1, 0, none⟩))), (9, v155), (24, v7), (25, (Value.int .i64 (List.length r4.1 : Int))), (26, (Value.int .i64 q.1))] envq ∧ Mem w No [ownL 3 v155 (q.2 : List Int), ownL 124 v7 (r4.1 : List T_Scheme), blk g1 74 [(Value.slice none 0 0), (Value.int .i64 0), (Value.int .i64 0), (Value.slice none 0 0), (Value.slice none 0 0), (Value.slice none 0 0)]] wq) (X := fun eq envq wq => (∃ p165, r162 = (Sum.inl p165) ∧ eq = .ret ∧ retQ Tryz.prog 54 Tryz.f24 (fun u w' => ∃ (y0 : Value) (y1 : Value) (y2 : Value) (y3 : Value) (y4 : Value), u = (Value.tuple #[(Value.agg #[y0, (Value.int .i64 p165.2.1), (Value.int .i64 p165.2.2.1), y1, y2, y3]), y4, (Value.int .i64 p165.2.2.2.2.2.2.2)]) ∧ Mem w No [ownL 40 y0 (p165.1 : List T_Item), ownL 3 y1 (p165.2.2.2.1 : List Int), ownL 3 y2 (p165.2.2.2.2.1 : List Int), ownL 3 y3 (p165.2.2.2.2.2.1 : List Int), ownL 3 y4 (p165.2.2.2.2.2.2.1 : List Int)] w') .ret envq wq) ∨ (∃ p166, r162 = (Sum.inr p166) ∧ eq = .exit 0 ∧ ∃ (v152 : Value), Sub [(4, (Value.pointer (some ⟨g1, 0, none⟩))), (9, v152)] envq ∧ Mem w No [ownL 3 v152 (p166 : List Int), blk g1 74 [(Value.slice none 0 0), (Value.int .i64 0), (Value.int .i64 0), (Value.slice none 0 0), (Value.slice none 0 0), (Value.slice none 0 0)]] wq)) hit163 ⟨(Value.slice none 0 0), (by repeat (first | exact Sub.nil _ | refine Sub.cons rfl ?_)), (hm62.pick [0, 1, 2] (by decide) rfl)⟩ ?_ ?_
    · rintro ⟨i153, l154⟩ x157 env158 w159 hf160 hr161 ⟨v155, hs_, hm_⟩
      have hs_ : Sub [(0, v0), (1, v1), (4, (Value.pointer (some ⟨g1, 0, none⟩))), (9, v155), (24, v7), (25, (Value.int .i64 (List.length r4.1 : Int))), (26, (Value.int .i64 i153))] env158 := hs_
      have hm167 : Mem w No [ownL 3 v155 (l154 : List Int), ownL 124 v7 (r4.1 : List T_Scheme), blk g1 74 [(Value.slice none 0 0), (Value.int .i64 0), (Value.int .i64 0), (Value.slice none 0 0), (Value.slice none 0 0), (Value.slice none 0 0)]] w159 := hm_
      refine cw_sub hs_ ?_
      clear hs_ hm_ q164
      have h : planner_Plan_l1 N a0 a1 r4 i153 l154 = some x157 := hf160
      clear hf160
      refine cw_seq ?_
      refine cw_region ?_
      refine t_rd rfl (rd_lss rfl rfl) ?_
      refine rwt_nil ?_
      refine qn_then ?_
      refine cw_seq ?_
      obtain ⟨hb168, q169⟩ | ⟨hb168, q169⟩ := oi h <;> clear h
      · refine cw_t rfl hb168 ?_
        refine cw_skip ?_
        refine qn_then ?_
        refine cw_seq ?_
        refine cw_block ?_
        refine cw_seq ?_
        refine cw_region ?_
        refine t_rd rfl (rd_move rfl) ?_
        obtain ⟨x170, h171, q172⟩ := ob q169; clear q169
        refine t_rd rfl (rd_index tS120 rfl rfl (hm167.sl 1 rfl) h171) ?_
        refine t_rd rfl (rd_ld tA124 rfl ((hm167.sl 1 rfl).cells h171) rfl) ?_
        refine t_ef rfl (ef_alloc hm167 tZ124 rfl) ?_
        rintro _ w175 ⟨g173, rfl, hm174⟩
        refine t_rd rfl (rd_assign rfl) ?_
        refine t_ef0 (ef_stw (k := 0) hm174 tA124 rfl rfl (oc_cons rfl (oc_cons rfl (oc_cons rfl (oc_cons rfl oc_nil)))) rfl rfl rfl) ?_
        intro _ w177 hm176
        refine rwt_nil ?_
        refine qn_then ?_
        refine cw_seq ?_
        refine cw_region ?_
        refine t_rd rfl (rd_move rfl) ?_
        refine t_rd rfl (rd_fld tF124_0 rfl) ?_
        refine t_rd rfl (rd_ld1 tO3 rfl (hm176.blk 0 rfl) (off := 0) rfl) ?_
        refine t_rd rfl (rd_move rfl) ?_
        obtain ⟨r178, h179, q180⟩ := ob q172; clear q172
        refine t_ef rfl (ef_call tf55 rfl (planner_sheet_ok h179 (hv0.to_call hm176) (hv1.to_call hm176))) ?_
        rintro _ w187 ⟨v181, v182, v183, v184, v185, e_, hm186⟩
        obtain rfl := e_.symm
        have hm188 := hm176.call hm186
        refine t_rd rfl (rd_move rfl) ?_
        refine t_rd rfl (rd_extract rfl rfl) ?_
        refine t_rd rfl (rd_extract rfl rfl) ?_
        refine t_rd rfl (rd_extract rfl rfl) ?_
        refine t_ef rfl (ef_alloc hm188 tZ74 rfl) ?_
        rintro _ w191 ⟨g189, rfl, hm190⟩
        refine t_ef0 (ef_stw (k := 0) hm190 tA74 rfl rfl (oc_cons (sl_one (hm190.sl 1 rfl)) (oc_cons rfl (oc_cons rfl (oc_cons (sl_one (hm190.sl 2 rfl)) (oc_cons (sl_one (hm190.sl 3 rfl)) (oc_cons (sl_one (hm190.sl 4 rfl)) oc_nil)))))) rfl rfl rfl) ?_
        intro _ w193 hm192
        refine t_rd rfl (rd_assign rfl) ?_
        refine t_rd rfl (rd_assign rfl) ?_
        refine rwt_nil ?_
        refine qn_then ?_
        refine cw_seq ?_
        refine cw_region ?_
        refine t_rd rfl (rd_move rfl) ?_
        refine rwt_nil ?_
        refine qn_then ?_
        refine cw_block ?_
        refine cw_seq ?_
        refine cw_region ?_
        refine t_rd rfl (rd_eql rfl rfl) ?_
        refine t_rd rfl (rd_assign rfl) ?_
        refine rwt_nil ?_
        refine qn_then ?_
        obtain ⟨hb194, q195⟩ | ⟨hb194, q195⟩ := oi q180 <;> clear q180
        · refine cw_t rfl hb194 ?_
          refine cw_seq ?_
          refine cw_region ?_
          refine t_rd rfl (rd_ld tA74 rfl (hm192.blk 0 rfl) rfl) ?_
          refine t_ef0 (ef_stw (k := 9) hm192 tA74 rfl rfl (oc_cons (sl_one (hm192.sl 1 rfl)) (oc_cons rfl (oc_cons rfl (oc_cons (sl_one (hm192.sl 2 rfl)) (oc_cons (sl_one (hm192.sl 3 rfl)) (oc_cons (sl_one (hm192.sl 4 rfl)) oc_nil)))))) rfl rfl rfl) ?_
          intro _ w197 hm196
          refine t_rd rfl (rd_assign rfl) ?_
          refine t_rd rfl (rd_assign rfl) ?_
          refine rwt_nil ?_
          refine qn_then ?_
          refine cw_ret ?_
          refine qr_block (qr_block (qr_then (qr_then ?_)))
          obtain rfl := hr161 _ (os q195)
          refine .inl (⟨_, rfl, ⟨rfl, ?_⟩⟩)
          have hm198 := hm196.addNil (α := Int) 3
          exact retLn (rs := [.cell 4 74, .tmp 5, .tmp 6]) rfl (.rc rfl tA74 (hm198.blk 10 rfl) rfl (.rt rfl (.rt rfl .rn))) rfl ⟨v181, v182, v183, v184, (Value.slice none 0 0), rfl, (hm198.pick [2, 3, 4, 5, 0] (by decide) rfl)⟩
        · refine cw_f rfl hb194 ?_
          refine cw_seq ?_
          refine cw_region ?_
          refine t_rd rfl (rd_eql rfl rfl) ?_
          refine t_rd rfl (rd_assign rfl) ?_
          refine rwt_nil ?_
          refine qn_then ?_
          obtain ⟨hb199, q200⟩ | ⟨hb199, q200⟩ := oi q195 <;> clear q195
          · refine cw_t rfl hb199 ?_
            refine cw_seq ?_
            refine cw_region ?_
            refine t_rd rfl (rd_move rfl) ?_
            refine t_rd rfl (rd_eql rfl rfl) ?_
            refine rwt_nil ?_
            refine qn_then ?_
            obtain ⟨hb201, q202⟩ | ⟨hb201, q202⟩ := oi q200 <;> clear q200
            · refine cw_t rfl hb201 ?_
              refine cw_region ?_
              refine t_rd rfl (rd_move rfl) ?_
              refine t_rd rfl (rd_assign rfl) ?_
              refine rwt_nil ?_
              refine qn_block (qn_block (qn_then ?_))
              refine cw_region ?_
              obtain ⟨x203, h204, q205⟩ := ob q202; clear q202
              refine t_rd rfl (rd_add64 h204 rfl rfl) ?_
              refine t_rd rfl (rd_move rfl) ?_
              refine rwt_nil ?_
              refine qn_then ?_
              refine ⟨_, (os q205), v185, (by repeat (first | exact Sub.nil _ | refine Sub.cons rfl ?_)), (hm192.pick [5, 8, 9] (by decide) rfl)⟩
            · refine cw_f rfl hb201 ?_
              refine cw_skip ?_
              refine qn_block (qn_block (qn_then ?_))
              refine cw_region ?_
              obtain ⟨x206, h207, q208⟩ := ob q202; clear q202
              refine t_rd rfl (rd_add64 h207 rfl rfl) ?_
              refine t_rd rfl (rd_move rfl) ?_
              refine rwt_nil ?_
              refine qn_then ?_
              refine ⟨_, (os q208), v155, (by repeat (first | exact Sub.nil _ | refine Sub.cons rfl ?_)), (hm192.pick [7, 8, 9] (by decide) rfl)⟩
          · refine cw_f rfl hb199 ?_
            refine cw_seq ?_
            refine cw_region ?_
            refine t_rd rfl (rd_build (cs := #[(Value.slice none 0 0), (Value.int .i64 0), (Value.int .i64 0), (Value.slice none 0 0), (Value.slice none 0 0), (Value.slice none 0 0)]) rfl (by kernel_rfl)) ?_
            refine t_rd rfl (rd_move rfl) ?_
            refine t_ef0 (ef_stw (k := 9) hm192 tA74 rfl rfl (oc_cons (sl_one (Sl.nil (α := T_Item) No w193)) (oc_cons rfl (oc_cons rfl (oc_cons (sl_one (Sl.nil (α := Int) No w193)) (oc_cons (sl_one (Sl.nil (α := Int) No w193)) (oc_cons (sl_one (Sl.nil (α := Int) No w193)) oc_nil)))))) rfl rfl rfl) ?_
            intro _ w210 hm209
            refine t_rd rfl (rd_assign rfl) ?_
            refine t_rd rfl (rd_assign rfl) ?_
            refine rwt_nil ?_
            refine qn_then ?_
            refine cw_ret ?_
            refine qr_block (qr_block (qr_then (qr_then ?_)))
            obtain rfl := hr161 _ (os q200)
            refine .inl (⟨_, rfl, ⟨rfl, ?_⟩⟩)
            have hm211 := hm209.addNil (α := T_Item) 40
            have hm212 := hm211.addNil (α := Int) 3
            have hm213 := hm212.addNil (α := Int) 3
            have hm214 := hm213.addNil (α := Int) 3
            have hm215 := hm214.addNil (α := Int) 3
            exact retLn (rs := [.cell 4 74, .tmp 5, .tmp 6]) rfl (.rc rfl tA74 (hm215.blk 14 rfl) rfl (.rt rfl (.rt rfl .rn))) rfl ⟨(Value.slice none 0 0), (Value.slice none 0 0), (Value.slice none 0 0), (Value.slice none 0 0), (Value.slice none 0 0), rfl, (hm215.pick [4, 3, 2, 1, 0] (by decide) rfl)⟩
      · refine cw_f rfl hb168 ?_
        refine cw_exit ?_
        refine qx_then (qx_then ?_)
        obtain rfl := hr161 _ (os q169)
        exact .inr (⟨_, rfl, ⟨rfl, v155, (by repeat (first | exact Sub.nil _ | refine Sub.cons rfl ?_)), (hm167.pick [0, 2] (by decide) rfl)⟩⟩)
    · skip
      intro e env216 w217 hX218
      rcases hX218 with hX218 | hX218
      · obtain ⟨p220, rfl, hX218⟩ := hX218
        obtain ⟨rfl, hq222⟩ := hX218
        exact qr_block (qr_then ((by have e := os q164; subst e; exact hq222)))
      · obtain ⟨p223, rfl, hX218⟩ := hX218
        obtain ⟨rfl, v152, hs224, hm225⟩ := hX218
        refine qx_same (qn_then ?_)
        refine cw_sub hs224 ?_
        refine cw_seq ?_
        refine cw_region ?_
        refine t_rd rfl (rd_build (cs := #[(Value.slice none 0 0), (Value.int .i64 0), (Value.int .i64 0), (Value.slice none 0 0), (Value.slice none 0 0), (Value.slice none 0 0)]) rfl (by kernel_rfl)) ?_
        refine t_rd rfl (rd_move rfl) ?_
        refine t_ef0 (ef_stw (k := 1) hm225 tA74 rfl rfl (oc_cons (sl_one (Sl.nil (α := T_Item) No w217)) (oc_cons rfl (oc_cons rfl (oc_cons (sl_one (Sl.nil (α := Int) No w217)) (oc_cons (sl_one (Sl.nil (α := Int) No w217)) (oc_cons (sl_one (Sl.nil (α := Int) No w217)) oc_nil)))))) rfl rfl rfl) ?_
        intro _ w227 hm226
        refine t_rd rfl (rd_assign rfl) ?_
        refine t_rd rfl (rd_assign rfl) ?_
        refine rwt_nil ?_
        refine qn_then ?_
        refine cw_ret ?_
        obtain rfl := os q164
        have hm228 := hm226.addNil (α := T_Item) 40
        have hm229 := hm228.addNil (α := Int) 3
        have hm230 := hm229.addNil (α := Int) 3
        have hm231 := hm230.addNil (α := Int) 3
        exact retLn (rs := [.cell 4 74, .tmp 5, .tmp 6]) rfl (.rc rfl tA74 (hm231.blk 5 rfl) rfl (.rt rfl (.rt rfl .rn))) rfl ⟨(Value.slice none 0 0), (Value.slice none 0 0), (Value.slice none 0 0), (Value.slice none 0 0), v152, rfl, (hm231.pick [3, 2, 1, 0, 4] (by decide) rfl)⟩

theorem humpgen_Ints_ok {N : Nat} {a0 : List Int} {a1 : List Int} {res : Bool} (h : humpgen_Ints N a0 a1 = some res) {w : World} {v0 : Value} {v1 : Value} (hv0 : Sl (Old w No) w v0 a0) (hv1 : Sl (Old w No) w v1 a1) :
    CallsR Tryz.prog 65 [v0, v1] w (fun u w' => u = (Value.bool res) ∧ Mem w No [] w') := by
  unfold humpgen_Ints at h
  refine fn_ok Tryz.func65 rfl rfl rfl ?_
  have hm0 := Mem.nil w
  refine cw_seq ?_
  refine cw_region ?_
  refine t_rd rfl (rd_assign rfl) ?_
  refine rwt_nil ?_
  refine qn_then ?_
  refine cw_seq ?_
  refine cw_seq ?_
  refine cw_region ?_
  refine t_rd rfl (rd_move rfl) ?_
  refine t_rd rfl (rd_lenS tS22 rfl (hv0.of_old hm0)) ?_
  refine t_rd rfl (rd_move rfl) ?_
  refine t_rd rfl (rd_lenS tS22 rfl (hv1.of_old hm0)) ?_
  refine t_rd rfl (rd_neq rfl rfl) ?_
  refine rwt_nil ?_
  refine qn_then ?_
  obtain ⟨hb1, q2⟩ | ⟨hb1, q2⟩ := oi h <;> clear h
  · refine cw_t rfl hb1 ?_
    refine cw_seq ?_
    refine cw_region ?_
    refine t_rd rfl (rd_assign rfl) ?_
    refine rwt_nil ?_
    refine qn_then ?_
    refine cw_ret ?_
    refine qr_then ?_
    obtain rfl := os q2
    exact ret1 rfl rfl ⟨rfl, (hm0.pick [] (by decide) rfl)⟩
  · refine cw_f rfl hb1 ?_
    refine cw_skip ?_
    refine qn_then ?_
    refine cw_seq ?_
    refine cw_seq ?_
    refine cw_region ?_
    refine t_rd rfl (rd_assign rfl) ?_
    refine rwt_nil ?_
    refine qn_then ?_
    refine cw_block ?_
    obtain ⟨r57, hit58, q59⟩ := ob q2; clear q2
    refine cw_loop2 (I := fun q envq wq => Sub [(0, v0), (1, v1), (5, (Value.int .i64 q))] envq ∧ Mem w No [] wq) (X := fun eq envq wq => (∃ p60, r57 = (Sum.inl p60) ∧ eq = .ret ∧ retQ Tryz.prog 26 Tryz.f65 (fun u w' => u = (Value.bool p60) ∧ Mem w No [] w') .ret envq wq) ∨ (∃ p61, r57 = (Sum.inr p61) ∧ eq = .exit 0 ∧ Sub [] envq ∧ Mem w No [] wq)) hit58 ⟨(by repeat (first | exact Sub.nil _ | refine Sub.cons rfl ?_)), (hm0.pick [] (by decide) rfl)⟩ ?_ ?_
    · rintro i50 x52 env53 w54 hf55 hr56 ⟨hs_, hm_⟩
      have hs_ : Sub [(0, v0), (1, v1), (5, (Value.int .i64 i50))] env53 := hs_
      have hm62 : Mem w No [] w54 := hm_
      refine cw_sub hs_ ?_
      clear hs_ hm_ q59
      have h : humpgen_Ints_l1 N a0 a1 i50 = some x52 := hf55
      clear hf55
      refine cw_seq ?_
      refine cw_seq ?_
      refine cw_region ?_
      refine t_rd rfl (rd_move rfl) ?_
      refine t_rd rfl (rd_move rfl) ?_
      refine t_rd rfl (rd_lenS tS22 rfl (hv0.of_old hm62)) ?_
      refine t_rd rfl (rd_lss rfl rfl) ?_
      refine rwt_nil ?_
      refine qn_then ?_
      obtain ⟨hb63, q64⟩ | ⟨hb63, q64⟩ := oi h <;> clear h
      · refine cw_t rfl hb63 ?_
        refine cw_skip ?_
        refine qn_then ?_
        refine cw_seq ?_
        refine cw_block ?_
        refine cw_seq ?_
        obtain ⟨w72, he74⟩ : ∃ q, q = w54.drew := ⟨_, rfl⟩
        have hm73 := hm62.drew; rw [← he74] at hm73
        refine cw_region_s (fun q => q = w72) (cls [] []) mixed ?_
        rintro _ rfl; rw [← he74]
        refine s_rp (i := 0) rfl (by kernel_rfl) rfl (fun _ => (rd_move rfl)) ?_
        refine s_rp (i := 1) rfl (by kernel_rfl) rfl (fun _ => (rd_move rfl)) ?_
        obtain ⟨x75, h76, q77⟩ := ob q64; clear q64
        refine s_rp (i := 2) rfl (by kernel_rfl) rfl (fun _ => (rd_index tS22 rfl rfl (hv0.of_old hm73) h76)) ?_
        refine s_rd (i := 3) rfl (by kernel_rfl) rfl (fun _ hS => by rw [hS]; exact (rd_ld1 tO3 rfl ((hv0.of_old hm73).cells h76) (off := 0) rfl)) rfl ?_
        refine s_rp (i := 4) rfl (by kernel_rfl) rfl (fun _ => (rd_move rfl)) ?_
        refine s_rp (i := 5) rfl (by kernel_rfl) rfl (fun _ => (rd_move rfl)) ?_
        obtain ⟨x78, h79, q80⟩ := ob q77; clear q77
        refine s_rp (i := 6) rfl (by kernel_rfl) rfl (fun _ => (rd_index tS22 rfl rfl (hv1.of_old hm73) h79)) ?_
        refine s_rd (i := 7) rfl (by kernel_rfl) rfl (fun _ hS => by rw [hS]; exact (rd_ld1 tO3 rfl ((hv1.of_old hm73).cells h79) (off := 0) rfl)) rfl ?_
        refine s_rp (i := 8) rfl (by kernel_rfl) rfl (fun _ => (rd_neq rfl rfl)) ?_
        refine s_nil (by kernel_rfl) ?_
        refine qn_then ?_
        obtain ⟨hb81, q82⟩ | ⟨hb81, q82⟩ := oi q80 <;> clear q80
        · refine cw_t rfl hb81 ?_
          refine cw_seq ?_
          refine cw_region ?_
          refine t_rd rfl (rd_assign rfl) ?_
          refine rwt_nil ?_
          refine qn_then ?_
          refine cw_ret ?_
          refine qr_block (qr_then (qr_then ?_))
          obtain rfl := hr56 _ (os q82)
          refine .inl (⟨_, rfl, ⟨rfl, ?_⟩⟩)
          exact ret1 rfl rfl ⟨rfl, (hm73.pick [] (by decide) rfl)⟩
        · refine cw_f rfl hb81 ?_
          refine cw_skip ?_
          refine qn_block (qn_then ?_)
          refine cw_region ?_
          refine t_rd rfl (rd_move rfl) ?_
          obtain ⟨x83, h84, q85⟩ := ob q82; clear q82
          refine t_rd rfl (rd_add64 h84 rfl rfl) ?_
          refine t_rd rfl (rd_assign rfl) ?_
          refine rwt_nil ?_
          refine qn_then ?_
          refine ⟨_, (os q85), (by repeat (first | exact Sub.nil _ | refine Sub.cons rfl ?_)), (hm73.pick [] (by decide) rfl)⟩
      · refine cw_f rfl hb63 ?_
        refine cw_exit ?_
        refine qx_then (qx_then ?_)
        obtain rfl := hr56 _ (os q64)
        exact .inr (⟨_, rfl, ⟨rfl, (by repeat (first | exact Sub.nil _ | refine Sub.cons rfl ?_)), (hm62.pick [] (by decide) rfl)⟩⟩)
    · skip
      intro e env86 w87 hX88
      rcases hX88 with hX88 | hX88
      · obtain ⟨p90, rfl, hX88⟩ := hX88
        obtain ⟨rfl, hq92⟩ := hX88
        exact qr_block (qr_then ((by have e := os q59; subst e; exact hq92)))
      · obtain ⟨p93, rfl, hX88⟩ := hX88
        obtain ⟨rfl, hs94, hm95⟩ := hX88
        refine qx_same (qn_then ?_)
        refine cw_sub hs94 ?_
        refine cw_seq ?_
        refine cw_region ?_
        refine t_rd rfl (rd_assign rfl) ?_
        refine rwt_nil ?_
        refine qn_then ?_
        refine cw_ret ?_
        obtain rfl := os q59
        exact ret1 rfl rfl ⟨rfl, (hm95.pick [] (by decide) rfl)⟩

end Go.Proofs.YtlpkbkbjohhleaaGreat
