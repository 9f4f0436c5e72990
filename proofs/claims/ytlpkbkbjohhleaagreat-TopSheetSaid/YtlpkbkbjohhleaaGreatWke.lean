/- Each call computes what its mirror does; written by a program of mine (gowalk.py). -/
import Derived.Test.YtlpkbkbjohhleaaGreatWkd
namespace Go.Proofs.YtlpkbkbjohhleaaGreat
open Go.Gv Go.RowKit
set_option linter.unusedVariables false
set_option maxRecDepth 100000

theorem certificate_Check_ok {N : Nat} {a0_Items : List T_Item} {a0_Weight : Int} {a1_Plan_Steps : Int} {a1_Plan_Codes : List Int} {a1_Chain : List Int} {res : Int} (h : certificate_Check N a0_Items a0_Weight a1_Plan_Steps a1_Plan_Codes a1_Chain = some res) {w : World} {v0_Items : Value} {v1_Plan_Codes : Value} {v1_Chain : Value} (hv0_Items : Sl (Old w No) w v0_Items a0_Items) (hv1_Plan_Codes : Sl (Old w No) w v1_Plan_Codes a1_Plan_Codes) (hv1_Chain : Sl (Old w No) w v1_Chain a1_Chain) :
  CallsR Tryz.prog 10 [(Value.agg #[v0_Items, (Value.int .i64 a0_Weight)]), (Value.agg #[(Value.int .i64 a1_Plan_Steps), v1_Plan_Codes, v1_Chain])] w (fun u w' => u = (Value.int .i64 res) ∧ Mem w No [] w') := by
 unfold certificate_Check at h
 refine fn_ok Tryz.func10 rfl rfl rfl ?_
 have hm0 := Mem.nil w
 refine cw_sr ?_
 refine t_ef rfl (ef_box hm0 rfl rfl) ?_
 rintro _ w3 ⟨g1, rfl, hm2⟩
 refine t_ef rfl (ef_box hm2 rfl rfl) ?_
 rintro _ w6 ⟨g4, rfl, hm5⟩
 refine t_as rfl rfl (rwt_n (cw_seq (cw_sr ?_)))
 refine t_rd rfl (rd_ld tA27 rfl (hm5.blk 1 rfl) rfl) ?_
 refine t_rd rfl (rd_fld tF32_0 rfl) ?_
 refine t_rd rfl (rd_ldp (cs' := [(Value.int .i64 a1_Plan_Steps), v1_Plan_Codes]) tA30 rfl (hm5.blk 0 rfl) (off := 0) rfl rfl) ?_
 obtain ⟨r7, h8, q9⟩ := ob h; clear h
 refine t_ef rfl (ef_call tf31 rfl (rollin_Valid_ok h8 (hv0_Items.to_call hm5) (hv1_Plan_Codes.to_call hm5))) ?_
 rintro _ w11 ⟨e_, hm10⟩
 obtain rfl := e_.symm
 have hm12 := hm5.call hm10
 refine t_as rfl rfl (rwt_n (cw_sr (t_mv rfl rfl ?_)))
 refine t_rd rfl (rd_neq rfl rfl) ?_
 refine rwt_n ?_
 obtain ⟨hb13, q14⟩ | ⟨hb13, q14⟩ := oi q9 <;> clear q9
 ·refine cw_t rfl hb13 (cw_sr (t_mv rfl rfl (t_as rfl rfl (rwt_n ?_))))
  refine cw_ret ?_
  refine qr_then ?_
  obtain rfl := os q14
  exact ret1 rfl rfl ⟨rfl, (hm12.pick [] (by decide) rfl)⟩
 ·refine cw_f rfl hb13 (cw_skip (qn_then (cw_seq (cw_sr (t_rd rfl (rd_fld tF27_0 rfl) ?_)))))
  refine t_rd rfl (rd_ld1 tO25 rfl (hm12.blk 1 rfl) (off := 0) rfl) ?_
  refine t_rd rfl (rd_lenS tS25 rfl (hv0_Items.of_old hm12)) ?_
  refine t_mv rfl rfl (rwt_n (cw_block ?_))
  obtain ⟨r543, hit544, q545⟩ := ob q14; clear q14
  refine cw_loop2 (I := fun q envq wq => Sub [(2, (Value.pointer (some ⟨g1, 0, none⟩))), (3, (Value.pointer (some ⟨g4, 0, none⟩))), (23, (Value.int .i64 (List.length a0_Items : Int))), (24, (Value.int .i64 q))] envq ∧ Mem w No [blk g4 32 [(Value.int .i64 a1_Plan_Steps), v1_Plan_Codes, v1_Chain], blk g1 27 [v0_Items, (Value.int .i64 a0_Weight)]] wq) (X := fun eq envq wq => (∃ p546, r543 = (Sum.inl p546) ∧ eq = .ret ∧ retQ Tryz.prog 89 Tryz.f10 (fun u w' => u = (Value.int .i64 p546) ∧ Mem w No [] w') .ret envq wq) ∨ (∃ p547, r543 = (Sum.inr p547) ∧ eq = .exit 0 ∧ Sub [(2, (Value.pointer (some ⟨g1, 0, none⟩))), (3, (Value.pointer (some ⟨g4, 0, none⟩)))] envq ∧ Mem w No [blk g4 32 [(Value.int .i64 a1_Plan_Steps), v1_Plan_Codes, v1_Chain], blk g1 27 [v0_Items, (Value.int .i64 a0_Weight)]] wq)) hit544 ⟨(by repeat (first | exact Sub.nil _ | refine Sub.cons rfl ?_)), (hm12.pick [0, 1] (by decide) rfl)⟩ ?_ ?_
  ·rintro i536 x538 env539 w540 hf541 hr542 ⟨hs_, hm_⟩
   have hs_ : Sub [(2, (Value.pointer (some ⟨g1, 0, none⟩))), (3, (Value.pointer (some ⟨g4, 0, none⟩))), (23, (Value.int .i64 (List.length a0_Items : Int))), (24, (Value.int .i64 i536))] env539 := hs_
   have hm548 : Mem w No [blk g4 32 [(Value.int .i64 a1_Plan_Steps), v1_Plan_Codes, v1_Chain], blk g1 27 [v0_Items, (Value.int .i64 a0_Weight)]] w540 := hm_
   refine cw_sub hs_ ?_
   clear hs_ hm_ q545
   have h : certificate_Check_l3 N a0_Items a0_Weight a1_Plan_Codes i536 = some x538 := hf541
   clear hf541
   refine cw_sr (t_rd rfl (rd_lss rfl rfl) (rwt_n (cw_seq ?_)))
   obtain ⟨hb549, q550⟩ | ⟨hb549, q550⟩ := oi h <;> clear h
   ·refine cw_t rfl hb549 (cw_skip (qn_then (cw_seq (cw_block (cw_sr ?_)))))
    refine t_mv rfl rfl (t_as rfl rfl (rwt_n (cw_sr (t_rd rfl (rd_fld tF27_0 rfl) ?_))))
    refine t_rd rfl (rd_ld1 tO25 rfl (hm548.blk 1 rfl) (off := 0) rfl) ?_
    refine t_rd rfl (rd_lenS tS25 rfl (hv0_Items.of_old hm548)) ?_
    refine t_mv rfl rfl (rwt_n (cw_block ?_))
    obtain ⟨r713, hit714, q715⟩ := ob q550; clear q550
    refine cw_loop2 (I := fun q envq wq => Sub [(2, (Value.pointer (some ⟨g1, 0, none⟩))), (3, (Value.pointer (some ⟨g4, 0, none⟩))), (6, (Value.int .i64 i536)), (23, (Value.int .i64 (List.length a0_Items : Int))), (24, (Value.int .i64 i536)), (29, (Value.int .i64 (List.length a0_Items : Int))), (30, (Value.int .i64 q))] envq ∧ Mem w No [blk g4 32 [(Value.int .i64 a1_Plan_Steps), v1_Plan_Codes, v1_Chain], blk g1 27 [v0_Items, (Value.int .i64 a0_Weight)]] wq) (X := fun eq envq wq => (∃ p716, r713 = (Sum.inl p716) ∧ eq = .ret ∧ retQ Tryz.prog 89 Tryz.f10 (fun u w' => u = (Value.int .i64 p716) ∧ Mem w No [] w') .ret envq wq) ∨ (∃ p717, r713 = (Sum.inr p717) ∧ eq = .exit 2 ∧ Sub [(2, (Value.pointer (some ⟨g1, 0, none⟩))), (3, (Value.pointer (some ⟨g4, 0, none⟩))), (23, (Value.int .i64 (List.length a0_Items : Int))), (24, (Value.int .i64 i536))] envq ∧ Mem w No [blk g4 32 [(Value.int .i64 a1_Plan_Steps), v1_Plan_Codes, v1_Chain], blk g1 27 [v0_Items, (Value.int .i64 a0_Weight)]] wq)) hit714 ⟨(by repeat (first | exact Sub.nil _ | refine Sub.cons rfl ?_)), (hm548.pick [0, 1] (by decide) rfl)⟩ ?_ ?_
    ·rintro i706 x708 env709 w710 hf711 hr712 ⟨hs_, hm_⟩
     have hs_ : Sub [(2, (Value.pointer (some ⟨g1, 0, none⟩))), (3, (Value.pointer (some ⟨g4, 0, none⟩))), (6, (Value.int .i64 i536)), (23, (Value.int .i64 (List.length a0_Items : Int))), (24, (Value.int .i64 i536)), (29, (Value.int .i64 (List.length a0_Items : Int))), (30, (Value.int .i64 i706))] env709 := hs_
     have hm718 : Mem w No [blk g4 32 [(Value.int .i64 a1_Plan_Steps), v1_Plan_Codes, v1_Chain], blk g1 27 [v0_Items, (Value.int .i64 a0_Weight)]] w710 := hm_
     refine cw_sub hs_ ?_
     clear hs_ hm_ q715
     have h : certificate_Check_l4 N a0_Items a0_Weight a1_Plan_Codes i536 i706 = some x708 := hf711
     clear hf711
     refine cw_sr (t_rd rfl (rd_lss rfl rfl) (rwt_n (cw_seq ?_)))
     obtain ⟨hb719, q720⟩ | ⟨hb719, q720⟩ := oi h <;> clear h
     ·refine cw_t rfl hb719 (cw_skip (qn_then (cw_seq (cw_block (cw_sr ?_)))))
      refine t_mv rfl rfl (t_as rfl rfl (rwt_n (cw_sr ?_)))
      refine t_rd rfl (rd_ld tA27 rfl (hm718.blk 1 rfl) rfl) ?_
      refine t_mv rfl rfl (t_mv rfl rfl ?_)
      obtain ⟨r721, h722, q723⟩ := ob q720; clear q720
      refine t_ef rfl (ef_call tf32 rfl (job_Relation_ok h722 (hv0_Items.to_call hm718))) ?_
      rintro _ w725 ⟨e_, hm724⟩
      obtain rfl := e_.symm
      have hm726 := hm718.call hm724
      refine t_mv rfl rfl ?_
      refine t_rd rfl (rd_extract rfl rfl) ?_
      refine t_rd rfl (rd_extract rfl rfl) ?_
      refine t_as rfl rfl (t_as rfl rfl (rwt_n (cw_seq (cw_sr (t_mv rfl rfl ?_)))))
      refine t_rd rfl (rd_neq rfl rfl) ?_
      refine rwt_n ?_
      obtain ⟨hb727, q728⟩ | ⟨hb727, q728⟩ := oi q723 <;> clear q723
      ·refine cw_t rfl hb727 (cw_sr (t_mv rfl rfl (t_as rfl rfl (rwt_n ?_))))
       refine cw_ret ?_
       refine qr_then (qr_block (qr_then (qr_then ?_)))
       obtain rfl := hr712 _ (os q728)
       refine .inl (⟨_, rfl, ⟨rfl, ?_⟩⟩)
       exact ret1 rfl rfl ⟨rfl, (hm726.pick [] (by decide) rfl)⟩
      ·refine cw_f rfl hb727 (cw_skip (qn_then (cw_seq ?_)))
       obtain ⟨w759, he761⟩ : ∃ q, q = w725.drew := ⟨_, rfl⟩
       have hm760 := hm726.drew; rw [← he761] at hm760
       refine cw_region_s (fun q => q = w759) (cls [] []) mixed ?_
       rintro _ rfl; rw [← he761]
       refine s_rp (i := 0) rfl (by kernel_rfl) rfl (fun _ => (rd_move rfl)) ?_
       refine s_rp (i := 1) rfl (by kernel_rfl) rfl (fun _ => (rd_gtr rfl rfl)) ?_
       refine s_rp (i := 2) rfl (by kernel_rfl) rfl (fun _ => (rd_move rfl)) ?_
       refine s_rpg (i := 3) rfl (by kernel_rfl) rfl rfl rfl rfl (gv_t _) (fun hg762 _ => (rd_fld tF32_0 rfl)) ?_
       refine s_rpg (i := 4) rfl (by kernel_rfl) rfl rfl rfl rfl (gv_t _) (fun hg763 _ => (rd_fld tF30_1 (gvx rfl hg763))) ?_
       refine s_rdg (i := 5) rfl (by kernel_rfl) rfl rfl rfl rfl (gv_t _) (fun hg764 => (fun _ hS => by rw [hS]; exact (rd_ld1 tO22 (gvx rfl hg764) (hm760.blk 0 rfl) (off := 1) rfl))) rfl ?_
       refine s_rpg (i := 6) rfl (by kernel_rfl) rfl rfl rfl rfl (gv_t _) (fun hg765 _ => (rd_move rfl)) ?_
       obtain ⟨x767, h768, q769⟩ := ob q728; clear q728
       refine s_rpg (i := 7) rfl (by kernel_rfl) rfl rfl rfl rfl (gv_t _) (fun hg766 _ => (rd_index tS22 (gvx rfl hg766) (gvx rfl hg766) (hv1_Plan_Codes.of_old hm760) (gO_t h768 hg766))) ?_
       refine s_rdg (i := 8) rfl (by kernel_rfl) rfl rfl rfl rfl (gv_t _) (fun hg770 => (fun _ hS => by rw [hS]; exact (rd_ld1 tO3 (gvx rfl hg770) ((hv1_Plan_Codes.of_old hm760).cells (gO_t h768 hg770)) (off := 0) rfl))) rfl ?_
       refine s_rpg (i := 9) rfl (by kernel_rfl) rfl rfl rfl rfl (gv_t _) (fun hg771 _ => (rd_move rfl)) ?_
       obtain ⟨x773, h774, q775⟩ := ob q769; clear q769
       refine s_rpg (i := 10) rfl (by kernel_rfl) rfl rfl rfl rfl (gv_t _) (fun hg772 _ => (rd_add64 (gO_t h774 hg772) (gvx rfl hg772) (gvx rfl hg772))) ?_
       obtain ⟨x777, h778, q779⟩ := ob q775; clear q775
       refine s_rpg (i := 11) rfl (by kernel_rfl) rfl rfl rfl rfl (gv_t _) (fun hg776 _ => (rd_sub64 (gO_t h778 hg776) (gvx rfl hg776) rfl)) ?_
       refine s_rpg (i := 12) rfl (by kernel_rfl) rfl rfl rfl rfl (gv_t _) (fun hg780 _ => (rd_fld tF32_0 rfl)) ?_
       refine s_rpg (i := 13) rfl (by kernel_rfl) rfl rfl rfl rfl (gv_t _) (fun hg781 _ => (rd_fld tF30_1 (gvx rfl hg781))) ?_
       refine s_rdg (i := 14) rfl (by kernel_rfl) rfl rfl rfl rfl (gv_t _) (fun hg782 => (fun _ hS => by rw [hS]; exact (rd_ld1 tO22 (gvx rfl hg782) (hm760.blk 0 rfl) (off := 1) rfl))) rfl ?_
       refine s_rpg (i := 15) rfl (by kernel_rfl) rfl rfl rfl rfl (gv_t _) (fun hg783 _ => (rd_move rfl)) ?_
       obtain ⟨x785, h786, q787⟩ := ob q779; clear q779
       refine s_rpg (i := 16) rfl (by kernel_rfl) rfl rfl rfl rfl (gv_t _) (fun hg784 _ => (rd_index tS22 (gvx rfl hg784) (gvx rfl hg784) (hv1_Plan_Codes.of_old hm760) (gO_t h786 hg784))) ?_
       refine s_rdg (i := 17) rfl (by kernel_rfl) rfl rfl rfl rfl (gv_t _) (fun hg788 => (fun _ hS => by rw [hS]; exact (rd_ld1 tO3 (gvx rfl hg788) ((hv1_Plan_Codes.of_old hm760).cells (gO_t h786 hg788)) (off := 0) rfl))) rfl ?_
       refine s_rpg (i := 18) rfl (by kernel_rfl) rfl rfl rfl rfl (gv_t _) (fun hg789 _ => (rd_gtr (gvx rfl hg789) (gvx rfl hg789))) ?_
       refine s_rp (i := 19) rfl (by kernel_rfl) rfl (fun _ => (rd_and rfl (fun hc790 => (gvx rfl hc790)))) ?_
       refine s_nil (by kernel_rfl) ?_
       refine qn_then ?_
       obtain ⟨hb791, q792⟩ | ⟨hb791, q792⟩ := oi q787 <;> clear q787
       ·refine cw_t rfl hb791 (cw_sr (t_as rfl rfl (rwt_n ?_)))
        refine cw_ret ?_
        refine qr_block (qr_then (qr_then ?_))
        obtain rfl := hr712 _ (os q792)
        refine .inl (⟨_, rfl, ⟨rfl, ?_⟩⟩)
        exact ret1 rfl rfl ⟨rfl, (hm760.pick [] (by decide) rfl)⟩
       ·refine cw_f rfl hb791 (cw_skip ?_)
        refine qn_block (qn_then ?_)
        refine cw_region ?_
        obtain ⟨x793, h794, q795⟩ := ob q792; clear q792
        refine t_rd rfl (rd_add64 h794 rfl rfl) (t_mv rfl rfl (rwt_n ?_))
        refine ⟨_, (os q795), (by repeat (first | exact Sub.nil _ | refine Sub.cons rfl ?_)), (hm760.pick [0, 1] (by decide) rfl)⟩
     ·refine cw_f rfl hb719 ?_
      refine cw_exit ?_
      refine qx_then (qx_then ?_)
      obtain rfl := hr712 _ (os q720)
      exact .inr (⟨_, rfl, ⟨rfl, (by repeat (first | exact Sub.nil _ | refine Sub.cons rfl ?_)), (hm718.pick [0, 1] (by decide) rfl)⟩⟩)
    ·skip
     intro e env796 w797 hX798
     rcases hX798 with hX798 | hX798
     ·obtain ⟨p800, rfl, hX798⟩ := hX798
      obtain ⟨rfl, hq802⟩ := hX798
      obtain rfl := hr542 _ (os q715)
      exact qr_block (qr_block (qr_then (qr_then (.inl (⟨_, rfl, ⟨rfl, hq802⟩⟩)))))
     ·obtain ⟨p803, rfl, hX798⟩ := hX798
      obtain ⟨rfl, hs804, hm805⟩ := hX798
      refine qx_same (qn_block (qn_then ?_))
      refine cw_sub hs804 ?_
      refine cw_region ?_
      obtain ⟨x806, h807, q808⟩ := ob q715; clear q715
      refine t_rd rfl (rd_add64 h807 rfl rfl) (t_mv rfl rfl (rwt_n ?_))
      refine ⟨_, (os q808), (by repeat (first | exact Sub.nil _ | refine Sub.cons rfl ?_)), (hm805.pick [0, 1] (by decide) rfl)⟩
   ·refine cw_f rfl hb549 ?_
    refine cw_exit ?_
    refine qx_then (qx_then ?_)
    obtain rfl := hr542 _ (os q550)
    exact .inr (⟨_, rfl, ⟨rfl, (by repeat (first | exact Sub.nil _ | refine Sub.cons rfl ?_)), (hm548.pick [0, 1] (by decide) rfl)⟩⟩)
  ·skip
   intro e env809 w810 hX811
   rcases hX811 with hX811 | hX811
   ·obtain ⟨p813, rfl, hX811⟩ := hX811
    obtain ⟨rfl, hq815⟩ := hX811
    exact qr_block (qr_then ((by have e := os q545; subst e; exact hq815)))
   ·obtain ⟨p816, rfl, hX811⟩ := hX811
    obtain ⟨rfl, hs817, hm818⟩ := hX811
    refine qx_same (qn_then ?_)
    refine cw_sub hs817 ?_
    refine cw_sr ?_
    refine t_rd rfl (rd_ld tA27 rfl (hm818.blk 1 rfl) rfl) ?_
    refine t_rd rfl (rd_fld tF32_1 rfl) ?_
    refine t_rd rfl (rd_ld1 tO22 rfl (hm818.blk 0 rfl) (off := 2) rfl) ?_
    obtain ⟨r819, h820, q821⟩ := ob q545; clear q545
    refine t_ef rfl (ef_call tf33 rfl (leastcode_Bound_ok h820 (hv0_Items.to_call hm818) (hv1_Chain.to_call hm818))) ?_
    rintro _ w823 ⟨e_, hm822⟩
    obtain rfl := e_.symm
    have hm824 := hm818.call hm822
    refine t_mv rfl rfl ?_
    refine t_rd rfl (rd_extract rfl rfl) ?_
    refine t_rd rfl (rd_extract rfl rfl) ?_
    refine t_as rfl rfl (t_as rfl rfl (rwt_n (cw_seq (cw_sr (t_mv rfl rfl ?_)))))
    refine t_rd rfl (rd_neq rfl rfl) ?_
    refine rwt_n ?_
    obtain ⟨hb825, q826⟩ | ⟨hb825, q826⟩ := oi q821 <;> clear q821
    ·refine cw_t rfl hb825 (cw_sr (t_mv rfl rfl (t_as rfl rfl (rwt_n ?_))))
     refine cw_ret ?_
     refine qr_then ?_
     obtain rfl := os q826
     exact ret1 rfl rfl ⟨rfl, (hm824.pick [] (by decide) rfl)⟩
    ·refine cw_f rfl hb825 (cw_skip (qn_then (cw_seq (cw_sr (t_mv rfl rfl ?_)))))
     obtain ⟨r827, h828, q829⟩ := ob q826; clear q826
     refine t_ef rfl (ef_call tf34 rfl (code_Steps_ok h828)) ?_
     rintro _ w831 ⟨e_, hm830⟩
     obtain rfl := e_.symm
     have hm832 := hm824.call hm830
     refine t_mv rfl rfl ?_
     refine t_rd rfl (rd_extract rfl rfl) ?_
     refine t_rd rfl (rd_extract rfl rfl) ?_
     refine t_as rfl rfl (t_as rfl rfl (rwt_n (cw_sr (t_mv rfl rfl ?_))))
     refine t_rd rfl (rd_neq rfl rfl) ?_
     refine t_mv rfl rfl ?_
     refine t_rdg rfl rfl rfl rfl (gv_f _) (fun hg833 => (rd_move rfl)) ?_
     refine t_rdg rfl rfl rfl rfl (gv_f _) (fun hg834 => (rd_fld tF32_0 rfl)) ?_
     refine t_rdg rfl rfl rfl rfl (gv_f _) (fun hg835 => (rd_fld tF30_0 (gvx rfl hg835))) ?_
     refine t_rdg rfl rfl rfl rfl (gv_f _) (fun hg836 => (rd_ld1 tO3 (gvx rfl hg836) (hm832.blk 0 rfl) (off := 0) rfl)) ?_
     refine t_rdg rfl rfl rfl rfl (gv_f _) (fun hg837 => (rd_neq (gvx rfl hg837) (gvx rfl hg837))) ?_
     refine t_rd rfl (rd_or rfl (fun hc838 => (gvx rfl (bnotIt hc838)))) ?_
     refine rwt_n ?_
     obtain ⟨hb839, q840⟩ | ⟨hb839, q840⟩ := oi q829 <;> clear q829
     ·refine cw_t rfl hb839 (cw_sr (t_as rfl rfl (rwt_n ?_)))
      refine cw_ret ?_
      refine qr_then ?_
      obtain rfl := os q840
      exact ret1 rfl rfl ⟨rfl, (hm832.pick [] (by decide) rfl)⟩
     ·refine cw_f rfl hb839 (cw_skip (qn_then (cw_sr (t_as rfl rfl (rwt_n ?_)))))
      refine cw_ret ?_
      obtain rfl := os q840
      exact ret1 rfl rfl ⟨rfl, (hm832.pick [] (by decide) rfl)⟩

theorem assign_Fits_ok {N : Nat} {a0 : List Int} {a1 : List Int} {a2 : List Int} {res : Bool} (h : assign_Fits N a0 a1 a2 = some res) {w : World} {v0 : Value} {v1 : Value} {v2 : Value} (hv0 : Sl (Old w No) w v0 a0) (hv1 : Sl (Old w No) w v1 a1) (hv2 : Sl (Old w No) w v2 a2) :
  CallsR Tryz.prog 57 [v0, v1, v2] w (fun u w' => u = (Value.bool res) ∧ Mem w No [] w') := by
 unfold assign_Fits at h
 refine fn_ok Tryz.func57 rfl rfl rfl ?_
 have hm0 := Mem.nil w
 refine cw_sr (t_as rfl rfl (rwt_n (cw_seq (cw_sr (t_mv rfl rfl ?_)))))
 refine t_mv rfl rfl ?_
 obtain ⟨r1, h2, q3⟩ := ob h; clear h
 refine t_ef rfl (ef_call tf86 rfl (assign_check_ok h2 (hv0.to_call hm0) (hv1.to_call hm0))) ?_
 rintro _ w5 ⟨e_, hm4⟩
 obtain rfl := e_.symm
 have hm6 := hm0.call hm4
 refine t_rd rfl (rd_neq rfl rfl) ?_
 refine t_mv rfl rfl ?_
 refine t_rdg rfl rfl rfl rfl (gv_f _) (fun hg7 => (rd_move rfl)) ?_
 refine t_rdg rfl rfl rfl rfl (gv_f _) (fun hg8 => (rd_lenS tS22 (gvx rfl hg8) (hv2.of_old hm6))) ?_
 refine t_rdg rfl rfl rfl rfl (gv_f _) (fun hg9 => (rd_move rfl)) ?_
 refine t_rdg rfl rfl rfl rfl (gv_f _) (fun hg10 => (rd_lenS tS22 (gvx rfl hg10) (hv0.of_old hm6))) ?_
 refine t_rdg rfl rfl rfl rfl (gv_f _) (fun hg11 => (rd_neq (gvx rfl hg11) (gvx rfl hg11))) ?_
 refine t_rd rfl (rd_or rfl (fun hc12 => (gvx rfl (bnotIt hc12)))) ?_
 refine rwt_n ?_
 obtain ⟨hb13, q14⟩ | ⟨hb13, q14⟩ := oi q3 <;> clear q3
 ·refine cw_t rfl hb13 (cw_sr (t_as rfl rfl (rwt_n ?_)))
  refine cw_ret ?_
  refine qr_then ?_
  obtain rfl := os q14
  exact ret1 rfl rfl ⟨rfl, (hm6.pick [] (by decide) rfl)⟩
 ·refine cw_f rfl hb13 (cw_skip (qn_then (cw_sr (t_mv rfl rfl ?_))))
  refine t_rd rfl (rd_lenS tS22 rfl (hv1.of_old hm6)) ?_
  obtain ⟨l15, h16, q17⟩ := ob q14; clear q14
  refine t_ef rfl (ef_make hm6 tS98 tE4 rfl rfl rfl h16) ?_
  intro v18 w20 hm19
  refine t_as rfl rfl (rwt_n (cw_seq (cw_sr (t_mv rfl rfl ?_))))
  refine t_rd rfl (rd_lenS tS22 rfl (hv2.of_old hm19)) ?_
  refine t_mv rfl rfl (rwt_n (cw_block ?_))
  obtain ⟨r205, hit206, q207⟩ := ob q17; clear q17
  refine cw_loop2 (I := fun q envq wq => Sub [(0, v0), (1, v1), (7, v18), (24, v2), (25, (Value.int .i64 (List.length a2 : Int))), (26, (Value.int .i64 q.1))] envq ∧ Mem w No [ownL 4 v18 (q.2 : List Bool)] wq) (X := fun eq envq wq => (∃ p208, r205 = (Sum.inl p208) ∧ eq = .ret ∧ retQ Tryz.prog 67 Tryz.f57 (fun u w' => u = (Value.bool p208) ∧ Mem w No [] w') .ret envq wq) ∨ (∃ p209, r205 = (Sum.inr p209) ∧ eq = .exit 0 ∧ Sub [] envq ∧ Mem w No [] wq)) hit206 ⟨(by repeat (first | exact Sub.nil _ | refine Sub.cons rfl ?_)), (hm19.pick [0] (by decide) rfl)⟩ ?_ ?_
  ·rintro ⟨i197, l198⟩ x200 env201 w202 hf203 hr204 ⟨hs_, hm_⟩
   have hs_ : Sub [(0, v0), (1, v1), (7, v18), (24, v2), (25, (Value.int .i64 (List.length a2 : Int))), (26, (Value.int .i64 i197))] env201 := hs_
   have hm210 : Mem w No [ownL 4 v18 (l198 : List Bool)] w202 := hm_
   refine cw_sub hs_ ?_
   clear hs_ hm_ q207
   have h : assign_Fits_l1 N a0 a1 a2 i197 l198 = some x200 := hf203
   clear hf203
   refine cw_sr (t_rd rfl (rd_lss rfl rfl) (rwt_n (cw_seq ?_)))
   obtain ⟨hb211, q212⟩ | ⟨hb211, q212⟩ := oi h <;> clear h
   ·refine cw_t rfl hb211 (cw_skip (qn_then (cw_seq (cw_block (cw_sr ?_)))))
    refine t_mv rfl rfl ?_
    obtain ⟨x213, h214, q215⟩ := ob q212; clear q212
    refine t_rd rfl (rd_index tS22 rfl rfl (hv2.of_old hm210) h214) ?_
    refine t_rd rfl (rd_ld1 tO3 rfl ((hv2.of_old hm210).cells h214) (off := 0) rfl) ?_
    refine t_as rfl rfl (t_as rfl rfl (rwt_n (cw_seq (cw_sr (t_mv rfl rfl ?_)))))
    refine t_mv rfl rfl ?_
    obtain ⟨x216, h217, q218⟩ := ob q215; clear q215
    refine t_rd rfl (rd_index tS22 rfl rfl (hv0.of_old hm210) h217) ?_
    refine t_rd rfl (rd_ld1 tO3 rfl ((hv0.of_old hm210).cells h217) (off := 0) rfl) ?_
    refine t_rd rfl (rd_eql rfl rfl) ?_
    refine rwt_n ?_
    obtain ⟨hb219, q220⟩ | ⟨hb219, q220⟩ := oi q218 <;> clear q218
    ·refine cw_t rfl hb219 (cw_seq (cw_sr (t_mv rfl rfl ?_)))
     refine t_rd rfl (rd_neq rfl rfl) ?_
     refine rwt_n ?_
     obtain ⟨hb221, q222⟩ | ⟨hb221, q222⟩ := oi q220 <;> clear q220
     ·refine cw_t rfl hb221 (cw_sr (t_as rfl rfl (rwt_n ?_)))
      refine cw_ret ?_
      refine qr_then (qr_then (qr_block (qr_then (qr_then ?_))))
      obtain rfl := hr204 _ (os q222)
      refine .inl (⟨_, rfl, ⟨rfl, ?_⟩⟩)
      exact ret1 rfl rfl ⟨rfl, (hm210.pick [] (by decide) rfl)⟩
     ·refine cw_f rfl hb221 (cw_skip (qn_then ?_))
      refine cw_exit ?_
      refine qx_then (qx_same (qn_then ?_))
      refine cw_region ?_
      obtain ⟨x223, h224, q225⟩ := ob q222; clear q222
      refine t_rd rfl (rd_add64 h224 rfl rfl) (t_mv rfl rfl (rwt_n ?_))
      refine ⟨_, (os q225), (by repeat (first | exact Sub.nil _ | refine Sub.cons rfl ?_)), (hm210.pick [0] (by decide) rfl)⟩
    ·refine cw_f rfl hb219 (cw_skip (qn_then (cw_seq (cw_seq ?_))))
     obtain ⟨w256, he258⟩ : ∃ q, q = w202.drew := ⟨_, rfl⟩
     have hm257 := hm210.drew; rw [← he258] at hm257
     refine cw_region_s (fun q => q = w256) (cls [] []) mixed ?_
     rintro _ rfl; rw [← he258]
     refine s_rp (i := 0) rfl (by kernel_rfl) rfl (fun _ => (rd_move rfl)) ?_
     refine s_rp (i := 1) rfl (by kernel_rfl) rfl (fun _ => (rd_lss rfl rfl)) ?_
     refine s_rp (i := 2) rfl (by kernel_rfl) rfl (fun _ => (rd_move rfl)) ?_
     refine s_rpg (i := 3) rfl (by kernel_rfl) rfl rfl rfl rfl (gv_f _) (fun hg259 _ => (rd_move rfl)) ?_
     refine s_rpg (i := 4) rfl (by kernel_rfl) rfl rfl rfl rfl (gv_f _) (fun hg260 _ => (rd_move rfl)) ?_
     refine s_rpg (i := 5) rfl (by kernel_rfl) rfl rfl rfl rfl (gv_f _) (fun hg261 _ => (rd_lenS tS22 (gvx rfl hg261) (hv1.of_old hm257))) ?_
     refine s_rpg (i := 6) rfl (by kernel_rfl) rfl rfl rfl rfl (gv_f _) (fun hg262 _ => (rd_geq (gvx rfl hg262) (gvx rfl hg262))) ?_
     refine s_rp (i := 7) rfl (by kernel_rfl) rfl (fun _ => (rd_or rfl (fun hc263 => (gvx rfl (bnotIt hc263))))) ?_
     refine s_rp (i := 8) rfl (by kernel_rfl) rfl (fun _ => (rd_move rfl)) ?_
     refine s_rpg (i := 9) rfl (by kernel_rfl) rfl rfl rfl rfl (gv_f _) (fun hg264 _ => (rd_move rfl)) ?_
     refine s_rpg (i := 10) rfl (by kernel_rfl) rfl rfl rfl rfl (gv_f _) (fun hg265 _ => (rd_move rfl)) ?_
     obtain ⟨x267, h268, q269⟩ := ob q220; clear q220
     refine s_rpg (i := 11) rfl (by kernel_rfl) rfl rfl rfl rfl (gv_f _) (fun hg266 _ => (rd_index tS98 (gvx rfl hg266) (gvx rfl hg266) (hm257.sl 0 rfl) (gO_t h268 hg266))) ?_
     refine s_rdg (i := 12) rfl (by kernel_rfl) rfl rfl rfl rfl (gv_f _) (fun hg270 => (fun _ hS => by rw [hS]; exact (rd_ld1 tO4 (gvx rfl hg270) ((hm257.sl 0 rfl).cells (gO_t h268 hg270)) (off := 0) rfl))) rfl ?_
     refine s_rp (i := 13) rfl (by kernel_rfl) rfl (fun _ => (rd_or rfl (fun hc271 => (gvx rfl (bnotIt hc271))))) ?_
     refine s_rp (i := 14) rfl (by kernel_rfl) rfl (fun _ => (rd_move rfl)) ?_
     refine s_rpg (i := 15) rfl (by kernel_rfl) rfl rfl rfl rfl (gv_f _) (fun hg272 _ => (rd_move rfl)) ?_
     refine s_rpg (i := 16) rfl (by kernel_rfl) rfl rfl rfl rfl (gv_f _) (fun hg273 _ => (rd_move rfl)) ?_
     obtain ⟨x275, h276, q277⟩ := ob q269; clear q269
     refine s_rpg (i := 17) rfl (by kernel_rfl) rfl rfl rfl rfl (gv_f _) (fun hg274 _ => (rd_index tS22 (gvx rfl hg274) (gvx rfl hg274) (hv1.of_old hm257) (gO_t h276 hg274))) ?_
     refine s_rdg (i := 18) rfl (by kernel_rfl) rfl rfl rfl rfl (gv_f _) (fun hg278 => (fun _ hS => by rw [hS]; exact (rd_ld1 tO3 (gvx rfl hg278) ((hv1.of_old hm257).cells (gO_t h276 hg278)) (off := 0) rfl))) rfl ?_
     refine s_rpg (i := 19) rfl (by kernel_rfl) rfl rfl rfl rfl (gv_f _) (fun hg279 _ => (rd_move rfl)) ?_
     refine s_rpg (i := 20) rfl (by kernel_rfl) rfl rfl rfl rfl (gv_f _) (fun hg280 _ => (rd_move rfl)) ?_
     obtain ⟨x282, h283, q284⟩ := ob q277; clear q277
     refine s_rpg (i := 21) rfl (by kernel_rfl) rfl rfl rfl rfl (gv_f _) (fun hg281 _ => (rd_index tS22 (gvx rfl hg281) (gvx rfl hg281) (hv0.of_old hm257) (gO_t h283 hg281))) ?_
     refine s_rdg (i := 22) rfl (by kernel_rfl) rfl rfl rfl rfl (gv_f _) (fun hg285 => (fun _ hS => by rw [hS]; exact (rd_ld1 tO3 (gvx rfl hg285) ((hv0.of_old hm257).cells (gO_t h283 hg285)) (off := 0) rfl))) rfl ?_
     refine s_rpg (i := 23) rfl (by kernel_rfl) rfl rfl rfl rfl (gv_f _) (fun hg286 _ => (rd_lss (gvx rfl hg286) (gvx rfl hg286))) ?_
     refine s_rp (i := 24) rfl (by kernel_rfl) rfl (fun _ => (rd_or rfl (fun hc287 => (gvx rfl (bnotIt hc287))))) ?_
     refine s_nil (by kernel_rfl) ?_
     refine qn_then ?_
     obtain ⟨hb288, q289⟩ | ⟨hb288, q289⟩ := oi q284 <;> clear q284
     ·refine cw_t rfl hb288 (cw_sr (t_as rfl rfl (rwt_n ?_)))
      refine cw_ret ?_
      refine qr_then (qr_block (qr_then (qr_then ?_)))
      obtain rfl := hr204 _ (os q289)
      refine .inl (⟨_, rfl, ⟨rfl, ?_⟩⟩)
      exact ret1 rfl rfl ⟨rfl, (hm257.pick [] (by decide) rfl)⟩
     ·refine cw_f rfl hb288 (cw_skip (qn_then ?_))
      refine cw_region ?_
      refine t_mv rfl rfl (t_mv rfl rfl ?_)
      obtain ⟨x290, h291, q292⟩ := ob q289; clear q289
      refine t_rd rfl (rd_index tS98 rfl rfl (hm257.sl 0 rfl) h291) ?_
      refine t_ef0 (ef_stl (k := 0) (off := 0) (x' := true) hm257 tO4 rfl rfl rfl rfl h291 rfl rfl) ?_
      intro _ w294 hm293
      refine rwt_nil ?_
      refine qn_block (qn_then ?_)
      refine cw_region ?_
      obtain ⟨x295, h296, q297⟩ := ob q292; clear q292
      refine t_rd rfl (rd_add64 h296 rfl rfl) (t_mv rfl rfl (rwt_n ?_))
      refine ⟨_, (os q297), (by repeat (first | exact Sub.nil _ | refine Sub.cons rfl ?_)), (hm293.pick [0] (by decide) rfl)⟩
   ·refine cw_f rfl hb211 ?_
    refine cw_exit ?_
    refine qx_then (qx_then ?_)
    obtain rfl := hr204 _ (os q212)
    exact .inr (⟨_, rfl, ⟨rfl, (by repeat (first | exact Sub.nil _ | refine Sub.cons rfl ?_)), (hm210.pick [] (by decide) rfl)⟩⟩)
  ·skip
   intro e env298 w299 hX300
   rcases hX300 with hX300 | hX300
   ·obtain ⟨p302, rfl, hX300⟩ := hX300
    obtain ⟨rfl, hq304⟩ := hX300
    exact qr_block (qr_then ((by have e := os q207; subst e; exact hq304)))
   ·obtain ⟨p305, rfl, hX300⟩ := hX300
    obtain ⟨rfl, hs306, hm307⟩ := hX300
    refine qx_same (qn_then ?_)
    refine cw_sub hs306 ?_
    refine cw_sr (t_as rfl rfl (rwt_n ?_))
    refine cw_ret ?_
    obtain rfl := os q207
    exact ret1 rfl rfl ⟨rfl, (hm307.pick [] (by decide) rfl)⟩

theorem planner_Check_ok {N : Nat} {a0_Job_Items : List T_Item} {a0_Job_Weight : Int} {a0_Proof_Plan_Steps : Int} {a0_Proof_Plan_Codes : List Int} {a0_Proof_Chain : List Int} {a0_Tracks : List Int} {a1 : List Int} {res : Int} (h : planner_Check N a0_Job_Items a0_Job_Weight a0_Proof_Plan_Steps a0_Proof_Plan_Codes a0_Proof_Chain a0_Tracks a1 = some res) {w : World} {v0_Job_Items : Value} {v0_Proof_Plan_Codes : Value} {v0_Proof_Chain : Value} {v0_Tracks : Value} {v1 : Value} (hv0_Job_Items : Sl (Old w No) w v0_Job_Items a0_Job_Items) (hv0_Proof_Plan_Codes : Sl (Old w No) w v0_Proof_Plan_Codes a0_Proof_Plan_Codes) (hv0_Proof_Chain : Sl (Old w No) w v0_Proof_Chain a0_Proof_Chain) (hv0_Tracks : Sl (Old w No) w v0_Tracks a0_Tracks) (hv1 : Sl (Old w No) w v1 a1) :
  CallsR Tryz.prog 25 [(Value.agg #[v0_Job_Items, (Value.int .i64 a0_Job_Weight), (Value.int .i64 a0_Proof_Plan_Steps), v0_Proof_Plan_Codes, v0_Proof_Chain, v0_Tracks]), v1] w (fun u w' => u = (Value.int .i64 res) ∧ Mem w No [] w') := by
 unfold planner_Check at h
 refine fn_ok Tryz.func25 rfl rfl rfl ?_
 have hm0 := Mem.nil w
 refine cw_sr ?_
 refine t_ef rfl (ef_box hm0 rfl rfl) ?_
 rintro _ w3 ⟨g1, rfl, hm2⟩
 refine t_as rfl rfl (rwt_n (cw_seq (cw_sr (t_rd rfl (rd_fld tF74_0 rfl) ?_))))
 refine t_rd rfl (rd_ldp (cs' := [v0_Job_Items, (Value.int .i64 a0_Job_Weight)]) tA27 rfl (hm2.blk 0 rfl) (off := 0) rfl rfl) ?_
 refine t_rd rfl (rd_fld tF74_1 rfl) ?_
 refine t_rd rfl (rd_ldp (cs' := [(Value.int .i64 a0_Proof_Plan_Steps), v0_Proof_Plan_Codes, v0_Proof_Chain]) tA32 rfl (hm2.blk 0 rfl) (off := 2) rfl rfl) ?_
 obtain ⟨r4, h5, q6⟩ := ob h; clear h
 refine t_ef rfl (ef_call tf10 rfl (certificate_Check_ok h5 (hv0_Job_Items.to_call hm2) (hv0_Proof_Plan_Codes.to_call hm2) (hv0_Proof_Chain.to_call hm2))) ?_
 rintro _ w8 ⟨e_, hm7⟩
 obtain rfl := e_.symm
 have hm9 := hm2.call hm7
 refine t_as rfl rfl (rwt_n (cw_sr (t_mv rfl rfl ?_)))
 refine t_rd rfl (rd_neq rfl rfl) ?_
 refine rwt_n ?_
 obtain ⟨hb10, q11⟩ | ⟨hb10, q11⟩ := oi q6 <;> clear q6
 ·refine cw_t rfl hb10 (cw_sr (t_mv rfl rfl (t_as rfl rfl (rwt_n ?_))))
  refine cw_ret ?_
  refine qr_then ?_
  obtain rfl := os q11
  exact ret1 rfl rfl ⟨rfl, (hm9.pick [] (by decide) rfl)⟩
 ·refine cw_f rfl hb10 (cw_skip (qn_then (cw_sr (t_rd rfl (rd_fld tF74_0 rfl) ?_))))
  refine t_rd rfl (rd_ldp (cs' := [v0_Job_Items, (Value.int .i64 a0_Job_Weight)]) tA27 rfl (hm9.blk 0 rfl) (off := 0) rfl rfl) ?_
  refine t_rd rfl (rd_fld tF74_1 rfl) (t_rd rfl (rd_fld tF32_0 rfl) ?_)
  refine t_rd rfl (rd_ldp (cs' := [(Value.int .i64 a0_Proof_Plan_Steps), v0_Proof_Plan_Codes]) tA30 rfl (hm9.blk 0 rfl) (off := 2) rfl rfl) ?_
  obtain ⟨r12, h13, q14⟩ := ob q11; clear q11
  refine t_ef rfl (ef_call tf56 rfl (rollin_Loads_ok h13 (hv0_Job_Items.to_call hm9) (hv0_Proof_Plan_Codes.to_call hm9))) ?_
  rintro _ w17 ⟨v15, e_, hm16⟩
  obtain rfl := e_.symm
  have hm18 := hm9.call hm16
  refine t_mv rfl rfl ?_
  refine t_rd rfl (rd_extract rfl rfl) ?_
  refine t_rd rfl (rd_extract rfl rfl) ?_
  refine t_as rfl rfl (t_as rfl rfl (rwt_n (cw_seq (cw_sr (t_mv rfl rfl ?_)))))
  refine t_rd rfl (rd_neq rfl rfl) ?_
  refine rwt_n ?_
  obtain ⟨hb19, q20⟩ | ⟨hb19, q20⟩ := oi q14 <;> clear q14
  ·refine cw_t rfl hb19 (cw_sr (t_mv rfl rfl (t_as rfl rfl (rwt_n ?_))))
   refine cw_ret ?_
   refine qr_then ?_
   obtain rfl := os q20
   exact ret1 rfl rfl ⟨rfl, (hm18.pick [] (by decide) rfl)⟩
  ·refine cw_f rfl hb19 (cw_skip (qn_then (cw_seq (cw_sr (t_mv rfl rfl ?_)))))
   refine t_mv rfl rfl (t_rd rfl (rd_fld tF74_2 rfl) ?_)
   refine t_rd rfl (rd_ld1 tO22 rfl (hm18.blk 1 rfl) (off := 5) rfl) ?_
   obtain ⟨r21, h22, q23⟩ := ob q20; clear q20
   refine t_ef rfl (ef_call tf57 rfl (assign_Fits_ok h22 (hm18.sl_call 0 rfl) (hv1.to_call hm18) (hv0_Tracks.to_call hm18))) ?_
   rintro _ w25 ⟨e_, hm24⟩
   obtain rfl := e_.symm
   have hm26 := hm18.call hm24
   refine t_rd rfl (rd_not rfl) ?_
   refine rwt_n ?_
   obtain ⟨hb27, q28⟩ | ⟨hb27, q28⟩ := oi q23 <;> clear q23
   ·refine cw_t rfl hb27 (cw_sr (t_as rfl rfl (rwt_n ?_)))
    refine cw_ret ?_
    refine qr_then ?_
    obtain rfl := os q28
    exact ret1 rfl rfl ⟨rfl, (hm26.pick [] (by decide) rfl)⟩
   ·refine cw_f rfl hb27 (cw_skip (qn_then (cw_sr (t_as rfl rfl (rwt_n ?_)))))
    refine cw_ret ?_
    obtain rfl := os q28
    exact ret1 rfl rfl ⟨rfl, (hm26.pick [] (by decide) rfl)⟩

theorem humpyardtop_TopSheet_ok {N : Nat} {a0 : List Int} {res : Bool} (h : humpyardtop_TopSheet N a0 = some res) {w : World} {v0 : Value} (hv0 : Sl (Old w No) w v0 a0) :
  CallsR Tryz.prog 5 [v0] w (fun u w' => u = (Value.bool res) ∧ Mem w No [] w') := by
 unfold humpyardtop_TopSheet at h
 refine fn_ok Tryz.func5 rfl rfl rfl ?_
 have hm0 := Mem.nil w
 refine cw_sr (t_as rfl rfl (rwt_n (cw_sr (t_mv rfl rfl ?_))))
 obtain ⟨r1, h2, q3⟩ := ob h; clear h
 refine t_ef rfl (ef_call tf6 rfl (humpgen_New_ok h2 (hv0.to_call hm0))) ?_
 rintro _ w6 ⟨g4, e_, hm5⟩
 obtain rfl := e_.symm
 have hm7 := hm0.call hm5
 refine t_as rfl rfl (rwt_n (cw_sr (t_mv rfl rfl ?_)))
 obtain ⟨r8, h9, q10⟩ := ob q3; clear q3
 refine t_ef rfl (ef_call tf14 rfl (Maker_Wagons_ok h9 (hv0.to_callT (k := 0) hm7 rfl) (hm7.get (k := 0) rfl))) ?_
 rintro _ w13 ⟨v11, e_, hm12⟩
 obtain rfl := e_.symm
 have hm14 := hm7.callT (k := 0) rfl (fun _ h => h) hm12 (fun _ => Iff.rfl)
 refine t_as rfl rfl (rwt_n (cw_sr (t_mv rfl rfl ?_)))
 obtain ⟨r15, h16, q17⟩ := ob q10; clear q10
 refine t_ef rfl (ef_call tf19 rfl (consist_Encode_ok h16 (hm14.sl_call 0 rfl))) ?_
 rintro _ w20 ⟨v18, e_, hm19⟩
 obtain rfl := e_.symm
 have hm21 := hm14.call hm19
 refine t_mv rfl rfl ?_
 refine t_rd rfl (rd_extract rfl rfl) ?_
 refine t_rd rfl (rd_extract rfl rfl) ?_
 refine t_as rfl rfl (t_as rfl rfl (rwt_n (cw_sr (t_mv rfl rfl ?_))))
 obtain ⟨r22, h23, q24⟩ := ob q17; clear q17
 refine t_ef rfl (ef_call tf20 rfl (consist_Decode_ok h23 (hm21.sl_call 0 rfl))) ?_
 rintro _ w27 ⟨v25, e_, hm26⟩
 obtain rfl := e_.symm
 have hm28 := hm21.call hm26
 refine t_mv rfl rfl ?_
 refine t_rd rfl (rd_extract rfl rfl) ?_
 refine t_rd rfl (rd_extract rfl rfl) ?_
 refine t_as rfl rfl (t_as rfl rfl (rwt_n (cw_seq (cw_sr (t_mv rfl rfl ?_)))))
 refine t_rd rfl (rd_neq rfl rfl) ?_
 refine t_mv rfl rfl ?_
 refine t_rdg rfl rfl rfl rfl (gv_f _) (fun hg29 => (rd_move rfl)) ?_
 refine t_rdg rfl rfl rfl rfl (gv_f _) (fun hg30 => (rd_neq (gvx rfl hg30) rfl)) ?_
 refine t_rd rfl (rd_or rfl (fun hc31 => (gvx rfl (bnotIt hc31)))) ?_
 refine rwt_n ?_
 obtain ⟨hb32, q33⟩ | ⟨hb32, q33⟩ := oi q24 <;> clear q24
 ·refine cw_t rfl hb32 (cw_sr (t_as rfl rfl (rwt_n ?_)))
  refine cw_ret ?_
  refine qr_then ?_
  obtain rfl := os q33
  exact ret1 rfl rfl ⟨rfl, (hm28.pick [] (by decide) rfl)⟩
 ·refine cw_f rfl hb32 (cw_skip (qn_then (cw_sr ?_)))
  refine t_ef rfl (ef_bslice (l := ([(Str.mk ([98] : List UInt8)), (Str.mk ([97] : List UInt8)), (Str.mk ([110, 111, 114, 116, 104] : List UInt8))] : List Str)) hm28 tS65 rfl (cs := #[(Value.string (bs ([98] : List UInt8))), (Value.string (bs ([97] : List UInt8))), (Value.string (bs ([110, 111, 114, 116, 104] : List UInt8)))]) (by unfold bsl; kernel_rfl) rfl rfl) ?_
  intro v34 w36 hm35
  refine t_rd rfl (rd_build (cs := #[v34]) rfl (by obtain ⟨_, _, e⟩ := ((hm35.sl 0 rfl)).val; rw [e]; clear e; kernel_rfl)) ?_
  refine t_ef rfl (ef_bslice (l := ([(Str.mk ([120, 57] : List UInt8)), (Str.mk ([99] : List UInt8)), (Str.mk ([97, 98, 99, 100, 101, 102, 103, 104, 105, 106, 107, 108] : List UInt8)), (Str.mk ([100] : List UInt8))] : List Str)) hm35 tS65 rfl (cs := #[(Value.string (bs ([120, 57] : List UInt8))), (Value.string (bs ([99] : List UInt8))), (Value.string (bs ([97, 98, 99, 100, 101, 102, 103, 104, 105, 106, 107, 108] : List UInt8))), (Value.string (bs ([100] : List UInt8)))]) (by unfold bsl; kernel_rfl) rfl rfl) ?_
  intro v37 w39 hm38
  refine t_rd rfl (rd_build (cs := #[v37]) rfl (by obtain ⟨_, _, e⟩ := ((hm38.sl 0 rfl)).val; rw [e]; clear e; kernel_rfl)) ?_
  refine t_ef rfl (ef_bslice (l := ([(Str.mk ([115, 111, 117, 116, 104] : List UInt8)), (Str.mk ([112, 111, 114, 116, 49] : List UInt8)), (Str.mk ([101] : List UInt8))] : List Str)) hm38 tS65 rfl (cs := #[(Value.string (bs ([115, 111, 117, 116, 104] : List UInt8))), (Value.string (bs ([112, 111, 114, 116, 49] : List UInt8))), (Value.string (bs ([101] : List UInt8)))]) (by unfold bsl; kernel_rfl) rfl rfl) ?_
  intro v40 w42 hm41
  refine t_rd rfl (rd_build (cs := #[v40]) rfl (by obtain ⟨_, _, e⟩ := ((hm41.sl 0 rfl)).val; rw [e]; clear e; kernel_rfl)) ?_
  obtain ⟨zd43, ez44⟩ : ∃ z : Hdr, z.1 = v34 := ⟨⟨v34, sl_one (hm41.sl 2 rfl)⟩, rfl⟩
  obtain ⟨zd45, ez46⟩ : ∃ z : Hdr, z.1 = v37 := ⟨⟨v37, sl_one (hm41.sl 1 rfl)⟩, rfl⟩
  obtain ⟨zd47, ez48⟩ : ∃ z : Hdr, z.1 = v40 := ⟨⟨v40, sl_one (hm41.sl 0 rfl)⟩, rfl⟩
  refine t_ef rfl (ef_bslice (l := ([zd43, zd45, zd47] : List Hdr)) hm41 tS68 rfl (cs := #[v34, v37, v40]) (by obtain ⟨_, _, e⟩ : ∃ A c, v34 = Value.slice A (List.length [(Str.mk ([98] : List UInt8)), (Str.mk ([97] : List UInt8)), (Str.mk ([110, 111, 114, 116, 104] : List UInt8))]) c := ((hm41.sl 2 rfl)).val; rw [e]; clear e; obtain ⟨_, _, e⟩ : ∃ A c, v37 = Value.slice A (List.length [(Str.mk ([120, 57] : List UInt8)), (Str.mk ([99] : List UInt8)), (Str.mk ([97, 98, 99, 100, 101, 102, 103, 104, 105, 106, 107, 108] : List UInt8)), (Str.mk ([100] : List UInt8))]) c := ((hm41.sl 1 rfl)).val; rw [e]; clear e; obtain ⟨_, _, e⟩ : ∃ A c, v40 = Value.slice A (List.length [(Str.mk ([115, 111, 117, 116, 104] : List UInt8)), (Str.mk ([112, 111, 114, 116, 49] : List UInt8)), (Str.mk ([101] : List UInt8))]) c := ((hm41.sl 0 rfl)).val; rw [e]; clear e; unfold bsl; kernel_rfl) (by show [zd43.1, zd45.1, zd47.1] = [v34, v37, v40]; rw [ez44, ez46, ez48]) rfl) ?_
  intro v49 w51 hm50
  refine t_as rfl rfl (rwt_n (cw_sr (t_mv rfl rfl (t_mv rfl rfl ?_))))
  obtain ⟨r52, h53, q54⟩ := ob q33; clear q33
  refine t_ef rfl (ef_call tf21 rfl (planner_Items_ok h53 ((Nl.mk (hm50.sl_call 0 rfl) (Rows.cons (hm50.sl_call 3 rfl) ez44 (Rows.cons (hm50.sl_call 2 rfl) ez46 (Rows.cons (hm50.sl_call 1 rfl) ez48 Rows.nil)))).sl) (hm50.sl_call 4 rfl))) ?_
  rintro _ w57 ⟨v55, e_, hm56⟩
  obtain rfl := e_.symm
  have hm58 := hm50.call hm56
  refine t_mv rfl rfl ?_
  refine t_rd rfl (rd_extract rfl rfl) ?_
  refine t_rd rfl (rd_extract rfl rfl) ?_
  refine t_as rfl rfl (t_as rfl rfl (rwt_n (cw_seq (cw_sr (t_mv rfl rfl ?_)))))
  refine t_rd rfl (rd_neq rfl rfl) ?_
  refine t_mv rfl rfl ?_
  refine t_rdg rfl rfl rfl rfl (gv_f _) (fun hg59 => (rd_move rfl)) ?_
  refine t_rdg rfl rfl rfl rfl (gv_f _) (fun hg60 => (rd_lenS tS25 (gvx rfl hg60) (hm58.sl 0 rfl))) ?_
  refine t_rdg rfl rfl rfl rfl (gv_f _) (fun hg61 => (rd_move rfl)) ?_
  refine t_rdg rfl rfl rfl rfl (gv_f _) (fun hg62 => (rd_lenS tS48 (gvx rfl hg62) (hm58.sl 7 rfl))) ?_
  refine t_rdg rfl rfl rfl rfl (gv_f _) (fun hg63 => (rd_neq (gvx rfl hg63) (gvx rfl hg63))) ?_
  refine t_rd rfl (rd_or rfl (fun hc64 => (gvx rfl (bnotIt hc64)))) ?_
  refine rwt_n ?_
  obtain ⟨hb65, q66⟩ | ⟨hb65, q66⟩ := oi q54 <;> clear q54
  ·refine cw_t rfl hb65 (cw_sr (t_as rfl rfl (rwt_n ?_)))
   refine cw_ret ?_
   refine qr_then ?_
   obtain rfl := os q66
   exact ret1 rfl rfl ⟨rfl, (hm58.pick [] (by decide) rfl)⟩
  ·refine cw_f rfl hb65 (cw_skip (qn_then (cw_sr (t_as rfl rfl (rwt_n ?_)))))
   refine cw_seq (cw_sr (t_mv rfl rfl ?_))
   obtain ⟨r67, h68, q69⟩ := ob q66; clear q66
   refine t_ef rfl (ef_call tf22 rfl (Maker_From_ok h68 (hv0.to_callT (k := 8) hm58 rfl) (hm58.get (k := 8) rfl))) ?_
   rintro _ w71 ⟨e_, hm70⟩
   obtain rfl := e_.symm
   have hm72 := hm58.callT (k := 8) rfl (fun _ h => h) hm70 (fun _ => Iff.rfl)
   refine t_as rfl rfl (rwt_n (cw_block ?_))
   have hm97 := hm72.addNil (α := Int) 3
   obtain ⟨r162, hit163, q164⟩ := ob q69; clear q69
   refine cw_loop2 (I := fun q envq wq => ∃ (v155 : Value), Sub [(3, (Value.pointer (some ⟨g4, 0, none⟩))), (4, v11), (9, v49), (10, v55), (12, v155), (13, (Value.int .i64 q.1))] envq ∧ Mem w No [ownL 3 v155 (q.2.2 : List Int), ownL 40 v55 (r52.1 : List T_Item), ownL 67 v49 ([zd43, zd45, zd47] : List Hdr), ownL 9 v40 ([(Str.mk ([115, 111, 117, 116, 104] : List UInt8)), (Str.mk ([112, 111, 114, 116, 49] : List UInt8)), (Str.mk ([101] : List UInt8))] : List Str), ownL 9 v37 ([(Str.mk ([120, 57] : List UInt8)), (Str.mk ([99] : List UInt8)), (Str.mk ([97, 98, 99, 100, 101, 102, 103, 104, 105, 106, 107, 108] : List UInt8)), (Str.mk ([100] : List UInt8))] : List Str), ownL 9 v34 ([(Str.mk ([98] : List UInt8)), (Str.mk ([97] : List UInt8)), (Str.mk ([110, 111, 114, 116, 104] : List UInt8))] : List Str), ownL 51 v11 (r8.2 : List T_Wagon), blk g4 83 [v0, (Value.int .i64 q.2.1)]] wq) (X := fun eq envq wq => eq = .exit 0 ∧ ∃ (v151 : Value), Sub [(4, v11), (9, v49), (10, v55), (12, v151)] envq ∧ Mem w No [ownL 3 v151 (r162 : List Int), ownL 40 v55 (r52.1 : List T_Item), ownL 67 v49 ([zd43, zd45, zd47] : List Hdr), ownL 9 v40 ([(Str.mk ([115, 111, 117, 116, 104] : List UInt8)), (Str.mk ([112, 111, 114, 116, 49] : List UInt8)), (Str.mk ([101] : List UInt8))] : List Str), ownL 9 v37 ([(Str.mk ([120, 57] : List UInt8)), (Str.mk ([99] : List UInt8)), (Str.mk ([97, 98, 99, 100, 101, 102, 103, 104, 105, 106, 107, 108] : List UInt8)), (Str.mk ([100] : List UInt8))] : List Str), ownL 9 v34 ([(Str.mk ([98] : List UInt8)), (Str.mk ([97] : List UInt8)), (Str.mk ([110, 111, 114, 116, 104] : List UInt8))] : List Str), ownL 51 v11 (r8.2 : List T_Wagon)] wq) hit163 ⟨(Value.slice none 0 0), (by repeat (first | exact Sub.nil _ | refine Sub.cons rfl ?_)), (hm97.pick [0, 1, 2, 3, 4, 5, 8, 9] (by decide) rfl)⟩ ?_ ?_
   ·rintro ⟨i152, i153, l154⟩ x157 env158 w159 hf160 hr161 ⟨v155, hs_, hm_⟩
    have hs_ : Sub [(3, (Value.pointer (some ⟨g4, 0, none⟩))), (4, v11), (9, v49), (10, v55), (12, v155), (13, (Value.int .i64 i152))] env158 := hs_
    have hm165 : Mem w No [ownL 3 v155 (l154 : List Int), ownL 40 v55 (r52.1 : List T_Item), ownL 67 v49 ([zd43, zd45, zd47] : List Hdr), ownL 9 v40 ([(Str.mk ([115, 111, 117, 116, 104] : List UInt8)), (Str.mk ([112, 111, 114, 116, 49] : List UInt8)), (Str.mk ([101] : List UInt8))] : List Str), ownL 9 v37 ([(Str.mk ([120, 57] : List UInt8)), (Str.mk ([99] : List UInt8)), (Str.mk ([97, 98, 99, 100, 101, 102, 103, 104, 105, 106, 107, 108] : List UInt8)), (Str.mk ([100] : List UInt8))] : List Str), ownL 9 v34 ([(Str.mk ([98] : List UInt8)), (Str.mk ([97] : List UInt8)), (Str.mk ([110, 111, 114, 116, 104] : List UInt8))] : List Str), ownL 51 v11 (r8.2 : List T_Wagon), blk g4 83 [v0, (Value.int .i64 i153)]] w159 := hm_
    refine cw_sub hs_ ?_
    clear hs_ hm_ q164
    have h : humpyardtop_TopSheet_l1 N a0 i152 i153 l154 = some x157 := hf160
    clear hf160
    refine cw_seq (cw_sr (t_mv rfl rfl ?_))
    refine t_rd rfl (rd_gtr rfl rfl) ?_
    refine rwt_n ?_
    obtain ⟨hb166, q167⟩ | ⟨hb166, q167⟩ := oi h <;> clear h
    ·refine cw_t rfl hb166 (cw_skip (qn_then (cw_seq (cw_block ?_))))
     refine cw_region ?_
     refine t_mv rfl rfl (t_mv rfl rfl ?_)
     refine t_ef rfl (ef_bslice (l := ([900, 2000, 5000] : List Int)) hm165 tS22 rfl (cs := #[(Value.int .i64 900), (Value.int .i64 2000), (Value.int .i64 5000)]) (by unfold bsl; kernel_rfl) rfl rfl) ?_
     intro v168 w170 hm169
     obtain ⟨r171, h172, q173⟩ := ob q167; clear q167
     refine t_ef rfl (ef_call tf23 rfl (Maker_Pick_ok h172 (hv0.to_callT (k := 8) hm169 rfl) (hm169.get (k := 8) rfl) (hm169.sl_callT 0 8 rfl rfl (by decide)))) ?_
     rintro _ w175 ⟨e_, hm174⟩
     obtain rfl := e_.symm
     have hm176 := hm169.callT (k := 8) rfl (fun _ h => h) hm174 (fun _ => Iff.rfl)
     refine t_ef rfl (ef_bslice (l := ([r171.2] : List Int)) hm176 tS22 rfl (cs := #[(Value.int .i64 r171.2)]) (by unfold bsl; kernel_rfl) rfl rfl) ?_
     intro v177 w179 hm178
     obtain ⟨l180, h181, q182⟩ := ob q173; clear q173
     refine t_ef rfl (ef_append (k := 2) hm178 tS22 tE3 rfl rfl rfl rfl (hm178.sl 0 rfl) h181) ?_
     intro v183 w185 hm184
     refine t_as rfl rfl ?_
     refine rwt_nil ?_
     refine qn_block (qn_then ?_)
     refine cw_region ?_
     refine t_mv rfl rfl ?_
     obtain ⟨x186, h187, q188⟩ := ob q182; clear q182
     refine t_rd rfl (rd_sub64 h187 rfl rfl) ?_
     refine t_as rfl rfl (rwt_n ?_)
     refine ⟨_, (os q188), v183, (by repeat (first | exact Sub.nil _ | refine Sub.cons rfl ?_)), (hm184.pick [2, 3, 4, 5, 6, 7, 8, 9] (by decide) rfl)⟩
    ·refine cw_f rfl hb166 ?_
     refine cw_exit ?_
     refine qx_then (qx_then ?_)
     obtain rfl := hr161 _ (os q167)
     exact ⟨rfl, v155, (by repeat (first | exact Sub.nil _ | refine Sub.cons rfl ?_)), (hm165.pick [0, 1, 2, 3, 4, 5, 6] (by decide) rfl)⟩
   ·skip
    intro e env189 w190 hX191
    obtain ⟨rfl, v151, hs192, hm193⟩ := hX191
    refine qx_same (qn_then ?_)
    refine cw_sub hs192 ?_
    refine cw_sr (t_mv rfl rfl (t_mv rfl rfl ?_))
    obtain ⟨r194, h195, q196⟩ := ob q164; clear q164
    refine t_ef rfl (ef_call tf24 rfl (planner_Plan_ok h195 (hm193.sl_call 1 rfl) (hm193.sl_call 0 rfl))) ?_
    rintro _ w203 ⟨v197, v198, v199, v200, v201, e_, hm202⟩
    obtain rfl := e_.symm
    have hm204 := hm193.call hm202
    refine t_mv rfl rfl ?_
    refine t_rd rfl (rd_extract rfl rfl) ?_
    refine t_rd rfl (rd_extract rfl rfl) ?_
    refine t_rd rfl (rd_extract rfl rfl) ?_
    refine t_ef rfl (ef_alloc hm204 tZ74 rfl) ?_
    rintro _ w207 ⟨g205, rfl, hm206⟩
    refine t_ef0 (ef_stw (k := 0) hm206 tA74 rfl rfl (oc_cons (sl_one (hm206.sl 1 rfl)) (oc_cons rfl (oc_cons rfl (oc_cons (sl_one (hm206.sl 2 rfl)) (oc_cons (sl_one (hm206.sl 3 rfl)) (oc_cons (sl_one (hm206.sl 4 rfl)) oc_nil)))))) rfl rfl rfl) ?_
    intro _ w209 hm208
    refine t_as rfl rfl (t_as rfl rfl (rwt_n (cw_seq (cw_sr (t_mv rfl rfl ?_)))))
    refine t_rd rfl (rd_eql rfl rfl) ?_
    refine rwt_n ?_
    obtain ⟨hb210, q211⟩ | ⟨hb210, q211⟩ := oi q196 <;> clear q196
    ·refine cw_t rfl hb210 (cw_sr (t_mv rfl rfl ?_))
     refine t_rd rfl (rd_lenS tS22 rfl (hm208.sl 5 rfl)) ?_
     refine t_rd rfl (rd_gtr rfl rfl) ?_
     refine t_mv rfl rfl ?_
     obtain ⟨r213, h214, q215⟩ := ob q211; clear q211
     refine t_efg rfl rfl rfl rfl (R := (fun v w' => v = gV (decide (0 < (List.length r194.2.2.2.2.2.2.1 : Int))) (Value.bool r213) ∧ Mem w209 No [] w')) (gv_t _) (fun hg212 => (ef_call tf9 rfl (humpyardtop_awake_ok (gO_t h214 hg212))).mono (by rintro _ _ ⟨rfl, q⟩; exact ⟨(gV_t hg212).symm, q⟩)) (fun q => ⟨(gV_f q).symm, Mem.nil _⟩) ?_
     rintro _ w217 ⟨rfl, hm216⟩
     have hm218 := hm208.call hm216
     refine t_rd rfl (rd_and rfl (fun hc219 => (gvx rfl hc219))) ?_
     refine t_as rfl rfl (rwt_n ?_)
     refine cw_ret ?_
     refine qr_then ?_
     obtain rfl := os q215
     exact ret1 rfl rfl ⟨rfl, (hm218.pick [] (by decide) rfl)⟩
    ·refine cw_f rfl hb210 (cw_skip (qn_then (cw_seq (cw_sr (t_mv rfl rfl ?_)))))
     refine t_rd rfl (rd_neq rfl rfl) ?_
     refine t_mv rfl rfl ?_
     refine t_rdg rfl rfl rfl rfl (gv_f _) (fun hg220 => (rd_ld tA74 rfl (hm208.blk 0 rfl) rfl)) ?_
     refine t_rdg rfl rfl rfl rfl (gv_f _) (fun hg221 => (rd_move rfl)) ?_
     obtain ⟨r223, h224, q225⟩ := ob q211; clear q211
     refine t_efg rfl rfl rfl rfl (R := (fun v w' => v = gV (!(!decide (r194.2.2.2.2.2.2.2 = 0))) (Value.int .i64 r223) ∧ Mem w209 No [] w')) (gv_f _) (fun hg222 => (ef_call tf25 (evc (gvx rfl hg222) (evc (gvx rfl hg222) evn)) (planner_Check_ok (gO_t h224 hg222) (hm208.sl_call 1 rfl) (hm208.sl_call 2 rfl) (hm208.sl_call 3 rfl) (hm208.sl_call 4 rfl) (hm208.sl_call 6 rfl))).mono (by rintro _ _ ⟨rfl, q⟩; exact ⟨(gV_t hg222).symm, q⟩)) (fun q => ⟨(gV_f q).symm, Mem.nil _⟩) ?_
     rintro _ w227 ⟨rfl, hm226⟩
     have hm228 := hm208.call hm226
     refine t_rdg rfl rfl rfl rfl (gv_f _) (fun hg229 => (rd_neq (gvx rfl hg229) rfl)) ?_
     refine t_rd rfl (rd_or rfl (fun hc230 => (gvx rfl (bnotIt hc230)))) ?_
     refine rwt_n ?_
     obtain ⟨hb231, q232⟩ | ⟨hb231, q232⟩ := oi q225 <;> clear q225
     ·refine cw_t rfl hb231 (cw_sr (t_as rfl rfl (rwt_n ?_)))
      refine cw_ret ?_
      refine qr_then ?_
      obtain rfl := os q232
      exact ret1 rfl rfl ⟨rfl, (hm228.pick [] (by decide) rfl)⟩
     ·refine cw_f rfl hb231 (cw_skip (qn_then (cw_sr (t_rd rfl (rd_fld tF74_0 rfl) ?_))))
      refine t_rd rfl (rd_ldp (cs' := [v197, (Value.int .i64 r194.2.1)]) tA27 rfl (hm228.blk 0 rfl) (off := 0) rfl rfl) ?_
      refine t_rd rfl (rd_fld tF74_1 rfl) (t_rd rfl (rd_fld tF32_0 rfl) ?_)
      refine t_rd rfl (rd_ldp (cs' := [(Value.int .i64 r194.2.2.1), v198]) tA30 rfl (hm228.blk 0 rfl) (off := 2) rfl rfl) ?_
      obtain ⟨r233, h234, q235⟩ := ob q232; clear q232
      refine t_ef rfl (ef_call tf26 rfl (rollin_Run_ok h234 (hm228.sl_call 1 rfl) (hm228.sl_call 2 rfl))) ?_
      rintro _ w239 ⟨zs237, v236, e_, hm238⟩
      obtain rfl := e_.symm
      have hm240 := hm228.call hm238
      refine t_mv rfl rfl ?_
      refine t_rd rfl (rd_extract rfl rfl) ?_
      refine t_rd rfl (rd_extract rfl rfl) ?_
      refine t_ef rfl (ef_alloc hm240 tZ79 rfl) ?_
      rintro _ w243 ⟨g241, rfl, hm242⟩
      refine t_ef0 (ef_stw (k := 0) hm242 tA79 rfl rfl (oc_cons (sl_one ((Nl.mk (hm242.sl_call 1 rfl) (hm242.rows_call 2 rfl)).sl)) (oc_cons rfl oc_nil)) rfl rfl rfl) ?_
      intro _ w245 hm244
      refine t_as rfl rfl (rwt_n (cw_seq (cw_sr (t_mv rfl rfl ?_))))
      refine t_rd rfl (rd_neq rfl rfl) ?_
      refine rwt_n ?_
      obtain ⟨hb246, q247⟩ | ⟨hb246, q247⟩ := oi q235 <;> clear q235
      ·refine cw_t rfl hb246 (cw_sr (t_as rfl rfl (rwt_n ?_)))
       refine cw_ret ?_
       refine qr_then ?_
       obtain rfl := os q247
       exact ret1 rfl rfl ⟨rfl, (hm244.pick [] (by decide) rfl)⟩
      ·refine cw_f rfl hb246 (cw_skip (qn_then (cw_sr (t_as rfl rfl (rwt_n ?_)))))
       refine cw_seq (cw_sr (t_rd rfl (rd_fld tF79_0 rfl) ?_))
       refine t_rd rfl (rd_ld1 tO41 rfl (hm244.blk 0 rfl) (off := 0) rfl) ?_
       refine t_rd rfl (rd_lenS tS41 rfl ((Nl.mk (hm244.sl_call 1 rfl) (hm244.rows_call 2 rfl)).sl)) ?_
       refine t_mv rfl rfl (rwt_n (cw_block ?_))
       obtain ⟨r1900, hit1901, q1902⟩ := ob q247; clear q247
       refine cw_loop2 (I := fun q envq wq => Sub [(4, v11), (9, v49), (18, (Value.int .i64 q.1)), (113, v236), (114, (Value.int .i64 (List.length r233.1 : Int))), (115, (Value.int .i64 q.2))] envq ∧ Mem w No [ownL 22 v236 (zs237 : List Hdr), rowsC 3 zs237 (r233.1 : List (List Int)) none, ownL 67 v49 ([zd43, zd45, zd47] : List Hdr), ownL 9 v40 ([(Str.mk ([115, 111, 117, 116, 104] : List UInt8)), (Str.mk ([112, 111, 114, 116, 49] : List UInt8)), (Str.mk ([101] : List UInt8))] : List Str), ownL 9 v37 ([(Str.mk ([120, 57] : List UInt8)), (Str.mk ([99] : List UInt8)), (Str.mk ([97, 98, 99, 100, 101, 102, 103, 104, 105, 106, 107, 108] : List UInt8)), (Str.mk ([100] : List UInt8))] : List Str), ownL 9 v34 ([(Str.mk ([98] : List UInt8)), (Str.mk ([97] : List UInt8)), (Str.mk ([110, 111, 114, 116, 104] : List UInt8))] : List Str), ownL 51 v11 (r8.2 : List T_Wagon)] wq) (X := fun eq envq wq => (∃ p1903, r1900 = (Sum.inl p1903) ∧ eq = .ret ∧ retQ Tryz.prog 185 Tryz.f5 (fun u w' => u = (Value.bool p1903) ∧ Mem w No [] w') .ret envq wq) ∨ (∃ p1904, r1900 = (Sum.inr p1904) ∧ eq = .exit 2 ∧ Sub [(4, v11), (18, (Value.int .i64 p1904))] envq ∧ Mem w No [ownL 51 v11 (r8.2 : List T_Wagon)] wq)) hit1901 ⟨(by repeat (first | exact Sub.nil _ | refine Sub.cons rfl ?_)), (hm244.pick [1, 2, 11, 12, 13, 14, 15] (by decide) rfl)⟩ ?_ ?_
       ·rintro ⟨i1892, i1893⟩ x1895 env1896 w1897 hf1898 hr1899 ⟨hs_, hm_⟩
        have hs_ : Sub [(4, v11), (9, v49), (18, (Value.int .i64 i1892)), (113, v236), (114, (Value.int .i64 (List.length r233.1 : Int))), (115, (Value.int .i64 i1893))] env1896 := hs_
        have hm1905 : Mem w No [ownL 22 v236 (zs237 : List Hdr), rowsC 3 zs237 (r233.1 : List (List Int)) none, ownL 67 v49 ([zd43, zd45, zd47] : List Hdr), ownL 9 v40 ([(Str.mk ([115, 111, 117, 116, 104] : List UInt8)), (Str.mk ([112, 111, 114, 116, 49] : List UInt8)), (Str.mk ([101] : List UInt8))] : List Str), ownL 9 v37 ([(Str.mk ([120, 57] : List UInt8)), (Str.mk ([99] : List UInt8)), (Str.mk ([97, 98, 99, 100, 101, 102, 103, 104, 105, 106, 107, 108] : List UInt8)), (Str.mk ([100] : List UInt8))] : List Str), ownL 9 v34 ([(Str.mk ([98] : List UInt8)), (Str.mk ([97] : List UInt8)), (Str.mk ([110, 111, 114, 116, 104] : List UInt8))] : List Str), ownL 51 v11 (r8.2 : List T_Wagon)] w1897 := hm_
        refine cw_sub hs_ ?_
        clear hs_ hm_ q1902
        have h : humpyardtop_TopSheet_l10 N r8 r233 i1892 i1893 = some x1895 := hf1898
        clear hf1898
        refine cw_sr (t_rd rfl (rd_lss rfl rfl) (rwt_n (cw_seq ?_)))
        obtain ⟨hb1906, q1907⟩ | ⟨hb1906, q1907⟩ := oi h <;> clear h
        ·refine cw_t rfl hb1906 (cw_skip (qn_then (cw_seq (cw_block (cw_sr ?_)))))
         refine t_mv rfl rfl ?_
         obtain ⟨x1908, h1909, q1910⟩ := ob q1907; clear q1907
         refine t_rd rfl (rd_index tS41 rfl rfl ((Nl.mk (hm1905.sl_call 0 rfl) (hm1905.rows_call 1 rfl)).sl) h1909) ?_
         obtain ⟨zd1911, hz1912⟩ := (Nl.mk (hm1905.sl_call 0 rfl) (hm1905.rows_call 1 rfl)).row h1909
         refine t_rd rfl (rd_ld1 tO22 rfl ((Nl.mk (hm1905.sl_call 0 rfl) (hm1905.rows_call 1 rfl)).cells hz1912) (off := 0) rfl) ?_
         refine t_as rfl rfl (t_as rfl rfl (rwt_n (cw_sr (t_as rfl rfl (rwt_n (cw_sr (t_mv rfl rfl ?_)))))))
         refine t_rd rfl (rd_lenS tS22 rfl ((Nl.mk (hm1905.sl_call 0 rfl) (hm1905.rows_call 1 rfl)).get hz1912 h1909)) ?_
         refine t_mv rfl rfl (rwt_n (cw_block ?_))
         obtain ⟨r2448, hit2449, q2450⟩ := ob q1910; clear q1910
         refine cw_loop2 (I := fun q envq wq => Sub [(4, v11), (9, v49), (18, (Value.int .i64 q.1)), (19, (Value.int .i64 i1893)), (21, (Value.int .i64 q.2.1)), (113, v236), (114, (Value.int .i64 (List.length r233.1 : Int))), (115, (Value.int .i64 i1893)), (120, zd1911.1), (121, (Value.int .i64 (List.length x1908 : Int))), (122, (Value.int .i64 q.2.2))] envq ∧ Mem w No [ownL 22 v236 (zs237 : List Hdr), rowsC 3 zs237 (r233.1 : List (List Int)) none, ownL 67 v49 ([zd43, zd45, zd47] : List Hdr), ownL 9 v40 ([(Str.mk ([115, 111, 117, 116, 104] : List UInt8)), (Str.mk ([112, 111, 114, 116, 49] : List UInt8)), (Str.mk ([101] : List UInt8))] : List Str), ownL 9 v37 ([(Str.mk ([120, 57] : List UInt8)), (Str.mk ([99] : List UInt8)), (Str.mk ([97, 98, 99, 100, 101, 102, 103, 104, 105, 106, 107, 108] : List UInt8)), (Str.mk ([100] : List UInt8))] : List Str), ownL 9 v34 ([(Str.mk ([98] : List UInt8)), (Str.mk ([97] : List UInt8)), (Str.mk ([110, 111, 114, 116, 104] : List UInt8))] : List Str), ownL 51 v11 (r8.2 : List T_Wagon)] wq) (X := fun eq envq wq => (∃ p2451, r2448 = (Sum.inl p2451) ∧ eq = .ret ∧ retQ Tryz.prog 185 Tryz.f5 (fun u w' => u = (Value.bool p2451) ∧ Mem w No [] w') .ret envq wq) ∨ (∃ p2452, r2448 = (Sum.inr p2452) ∧ eq = .exit 4 ∧ Sub [(4, v11), (9, v49), (18, (Value.int .i64 p2452)), (113, v236), (114, (Value.int .i64 (List.length r233.1 : Int))), (115, (Value.int .i64 i1893))] envq ∧ Mem w No [ownL 22 v236 (zs237 : List Hdr), rowsC 3 zs237 (r233.1 : List (List Int)) none, ownL 67 v49 ([zd43, zd45, zd47] : List Hdr), ownL 9 v40 ([(Str.mk ([115, 111, 117, 116, 104] : List UInt8)), (Str.mk ([112, 111, 114, 116, 49] : List UInt8)), (Str.mk ([101] : List UInt8))] : List Str), ownL 9 v37 ([(Str.mk ([120, 57] : List UInt8)), (Str.mk ([99] : List UInt8)), (Str.mk ([97, 98, 99, 100, 101, 102, 103, 104, 105, 106, 107, 108] : List UInt8)), (Str.mk ([100] : List UInt8))] : List Str), ownL 9 v34 ([(Str.mk ([98] : List UInt8)), (Str.mk ([97] : List UInt8)), (Str.mk ([110, 111, 114, 116, 104] : List UInt8))] : List Str), ownL 51 v11 (r8.2 : List T_Wagon)] wq)) hit2449 ⟨(by repeat (first | exact Sub.nil _ | refine Sub.cons rfl ?_)), (hm1905.pick [0, 1, 2, 3, 4, 5, 6] (by decide) rfl)⟩ ?_ ?_
         ·rintro ⟨i2439, i2440, i2441⟩ x2443 env2444 w2445 hf2446 hr2447 ⟨hs_, hm_⟩
          have hs_ : Sub [(4, v11), (9, v49), (18, (Value.int .i64 i2439)), (19, (Value.int .i64 i1893)), (21, (Value.int .i64 i2440)), (113, v236), (114, (Value.int .i64 (List.length r233.1 : Int))), (115, (Value.int .i64 i1893)), (120, zd1911.1), (121, (Value.int .i64 (List.length x1908 : Int))), (122, (Value.int .i64 i2441))] env2444 := hs_
          have hm2453 : Mem w No [ownL 22 v236 (zs237 : List Hdr), rowsC 3 zs237 (r233.1 : List (List Int)) none, ownL 67 v49 ([zd43, zd45, zd47] : List Hdr), ownL 9 v40 ([(Str.mk ([115, 111, 117, 116, 104] : List UInt8)), (Str.mk ([112, 111, 114, 116, 49] : List UInt8)), (Str.mk ([101] : List UInt8))] : List Str), ownL 9 v37 ([(Str.mk ([120, 57] : List UInt8)), (Str.mk ([99] : List UInt8)), (Str.mk ([97, 98, 99, 100, 101, 102, 103, 104, 105, 106, 107, 108] : List UInt8)), (Str.mk ([100] : List UInt8))] : List Str), ownL 9 v34 ([(Str.mk ([98] : List UInt8)), (Str.mk ([97] : List UInt8)), (Str.mk ([110, 111, 114, 116, 104] : List UInt8))] : List Str), ownL 51 v11 (r8.2 : List T_Wagon)] w2445 := hm_
          refine cw_sub hs_ ?_
          clear hs_ hm_ q2450
          have h : humpyardtop_TopSheet_l13 N r8 i1893 x1908 i2439 i2440 i2441 = some x2443 := hf2446
          clear hf2446
          refine cw_sr (t_rd rfl (rd_lss rfl rfl) (rwt_n (cw_seq ?_)))
          obtain ⟨hb2454, q2455⟩ | ⟨hb2454, q2455⟩ := oi h <;> clear h
          ·refine cw_t rfl hb2454 (cw_skip (qn_then (cw_seq (cw_block (cw_sr ?_)))))
           obtain ⟨x2456, h2457, q2458⟩ := ob q2455; clear q2455
           refine t_rd rfl (rd_index tS22 rfl rfl ((Nl.mk (hm2453.sl_call 0 rfl) (hm2453.rows_call 1 rfl)).get hz1912 h1909) h2457) ?_
           refine t_rd rfl (rd_ld1 tO3 rfl (((Nl.mk (hm2453.sl_call 0 rfl) (hm2453.rows_call 1 rfl)).get hz1912 h1909).cells h2457) (off := 0) rfl) ?_
           refine t_as rfl rfl (rwt_n (cw_seq (cw_sr (t_mv rfl rfl (t_rd rfl (rd_lss rfl rfl) ?_)))))
           refine t_mv rfl rfl ?_
           refine t_rdg rfl rfl rfl rfl (gv_f _) (fun hg2459 => (rd_move rfl)) ?_
           refine t_rdg rfl rfl rfl rfl (gv_f _) (fun hg2460 => (rd_move rfl)) ?_
           refine t_rdg rfl rfl rfl rfl (gv_f _) (fun hg2461 => (rd_lenS tS48 (gvx rfl hg2461) (hm2453.sl 6 rfl))) ?_
           refine t_rdg rfl rfl rfl rfl (gv_f _) (fun hg2462 => (rd_geq (gvx rfl hg2462) (gvx rfl hg2462))) ?_
           refine t_rd rfl (rd_or rfl (fun hc2463 => (gvx rfl (bnotIt hc2463)))) ?_
           refine t_mv rfl rfl ?_
           refine t_rdg rfl rfl rfl rfl (gv_f _) (fun hg2464 => (rd_move rfl)) ?_
           refine t_rdg rfl rfl rfl rfl (gv_f _) (fun hg2465 => (rd_move rfl)) ?_
           refine t_rdg rfl rfl rfl rfl (gv_f _) (fun hg2466 => (rd_lenS tS68 (gvx rfl hg2466) ((Nl.mk (hm2453.sl_call 2 rfl) (Rows.cons (hm2453.sl_call 5 rfl) ez44 (Rows.cons (hm2453.sl_call 4 rfl) ez46 (Rows.cons (hm2453.sl_call 3 rfl) ez48 Rows.nil)))).sl))) ?_
           refine t_rdg rfl rfl rfl rfl (gv_f _) (fun hg2467 => (rd_geq (gvx rfl hg2467) (gvx rfl hg2467))) ?_
           refine t_rd rfl (rd_or rfl (fun hc2468 => (gvx rfl (bnotIt hc2468)))) ?_
           refine rwt_n ?_
           obtain ⟨hb2469, q2470⟩ | ⟨hb2469, q2470⟩ := oi q2458 <;> clear q2458
           ·refine cw_t rfl hb2469 (cw_sr (t_as rfl rfl (rwt_n ?_)))
            refine cw_ret ?_
            refine qr_then (qr_block (qr_then (qr_then ?_)))
            obtain rfl := hr2447 _ (os q2470)
            refine .inl (⟨_, rfl, ⟨rfl, ?_⟩⟩)
            exact ret1 rfl rfl ⟨rfl, (hm2453.pick [] (by decide) rfl)⟩
           ·refine cw_f rfl hb2469 (cw_skip (qn_then (cw_seq (cw_block ?_))))
            obtain ⟨r2622, hit2623, q2624⟩ := ob q2470; clear q2470
            refine cw_loop2 (I := fun q envq wq => Sub [(4, v11), (9, v49), (18, (Value.int .i64 i2439)), (19, (Value.int .i64 i1893)), (21, (Value.int .i64 q)), (23, (Value.int .i64 x2456)), (113, v236), (114, (Value.int .i64 (List.length r233.1 : Int))), (115, (Value.int .i64 i1893)), (120, zd1911.1), (121, (Value.int .i64 (List.length x1908 : Int))), (122, (Value.int .i64 i2441))] envq ∧ Mem w No [ownL 22 v236 (zs237 : List Hdr), rowsC 3 zs237 (r233.1 : List (List Int)) none, ownL 67 v49 ([zd43, zd45, zd47] : List Hdr), ownL 9 v40 ([(Str.mk ([115, 111, 117, 116, 104] : List UInt8)), (Str.mk ([112, 111, 114, 116, 49] : List UInt8)), (Str.mk ([101] : List UInt8))] : List Str), ownL 9 v37 ([(Str.mk ([120, 57] : List UInt8)), (Str.mk ([99] : List UInt8)), (Str.mk ([97, 98, 99, 100, 101, 102, 103, 104, 105, 106, 107, 108] : List UInt8)), (Str.mk ([100] : List UInt8))] : List Str), ownL 9 v34 ([(Str.mk ([98] : List UInt8)), (Str.mk ([97] : List UInt8)), (Str.mk ([110, 111, 114, 116, 104] : List UInt8))] : List Str), ownL 51 v11 (r8.2 : List T_Wagon)] wq) (X := fun eq envq wq => eq = .exit 6 ∧ Sub [(4, v11), (9, v49), (18, (Value.int .i64 i2439)), (19, (Value.int .i64 i1893)), (21, (Value.int .i64 r2622)), (113, v236), (114, (Value.int .i64 (List.length r233.1 : Int))), (115, (Value.int .i64 i1893)), (120, zd1911.1), (121, (Value.int .i64 (List.length x1908 : Int))), (122, (Value.int .i64 i2441))] envq ∧ Mem w No [ownL 22 v236 (zs237 : List Hdr), rowsC 3 zs237 (r233.1 : List (List Int)) none, ownL 67 v49 ([zd43, zd45, zd47] : List Hdr), ownL 9 v40 ([(Str.mk ([115, 111, 117, 116, 104] : List UInt8)), (Str.mk ([112, 111, 114, 116, 49] : List UInt8)), (Str.mk ([101] : List UInt8))] : List Str), ownL 9 v37 ([(Str.mk ([120, 57] : List UInt8)), (Str.mk ([99] : List UInt8)), (Str.mk ([97, 98, 99, 100, 101, 102, 103, 104, 105, 106, 107, 108] : List UInt8)), (Str.mk ([100] : List UInt8))] : List Str), ownL 9 v34 ([(Str.mk ([98] : List UInt8)), (Str.mk ([97] : List UInt8)), (Str.mk ([110, 111, 114, 116, 104] : List UInt8))] : List Str), ownL 51 v11 (r8.2 : List T_Wagon)] wq) hit2623 ⟨(by repeat (first | exact Sub.nil _ | refine Sub.cons rfl ?_)), (hm2453.pick [0, 1, 2, 3, 4, 5, 6] (by decide) rfl)⟩ ?_ ?_
            ·rintro i2615 x2617 env2618 w2619 hf2620 hr2621 ⟨hs_, hm_⟩
             have hs_ : Sub [(4, v11), (9, v49), (18, (Value.int .i64 i2439)), (19, (Value.int .i64 i1893)), (21, (Value.int .i64 i2615)), (23, (Value.int .i64 x2456)), (113, v236), (114, (Value.int .i64 (List.length r233.1 : Int))), (115, (Value.int .i64 i1893)), (120, zd1911.1), (121, (Value.int .i64 (List.length x1908 : Int))), (122, (Value.int .i64 i2441))] env2618 := hs_
             have hm2625 : Mem w No [ownL 22 v236 (zs237 : List Hdr), rowsC 3 zs237 (r233.1 : List (List Int)) none, ownL 67 v49 ([zd43, zd45, zd47] : List Hdr), ownL 9 v40 ([(Str.mk ([115, 111, 117, 116, 104] : List UInt8)), (Str.mk ([112, 111, 114, 116, 49] : List UInt8)), (Str.mk ([101] : List UInt8))] : List Str), ownL 9 v37 ([(Str.mk ([120, 57] : List UInt8)), (Str.mk ([99] : List UInt8)), (Str.mk ([97, 98, 99, 100, 101, 102, 103, 104, 105, 106, 107, 108] : List UInt8)), (Str.mk ([100] : List UInt8))] : List Str), ownL 9 v34 ([(Str.mk ([98] : List UInt8)), (Str.mk ([97] : List UInt8)), (Str.mk ([110, 111, 114, 116, 104] : List UInt8))] : List Str), ownL 51 v11 (r8.2 : List T_Wagon)] w2619 := hm_
             refine cw_sub hs_ ?_
             clear hs_ hm_ q2624
             have h : humpyardtop_TopSheet_l14 N r8 i1893 x2456 i2615 = some x2617 := hf2620
             clear hf2620
             refine cw_seq (cw_seq ?_)
             obtain ⟨w2658, he2660⟩ : ∃ q, q = w2619.drew := ⟨_, rfl⟩
             have hm2659 := hm2625.drew; rw [← he2660] at hm2659
             refine cw_region_s (fun q => q = w2658) (cls [] []) mixed ?_
             rintro _ rfl; rw [← he2660]
             refine s_rp (i := 0) rfl (by kernel_rfl) rfl (fun _ => (rd_move rfl)) ?_
             refine s_rp (i := 1) rfl (by kernel_rfl) rfl (fun _ => (rd_move rfl)) ?_
             refine s_rp (i := 2) rfl (by kernel_rfl) rfl (fun _ => (rd_move rfl)) ?_
             obtain ⟨x2661, h2662, q2663⟩ := ob h; clear h
             refine s_rp (i := 3) rfl (by kernel_rfl) rfl (fun _ => (rd_index tS68 rfl rfl ((Nl.mk (hm2659.sl_call 2 rfl) (Rows.cons (hm2659.sl_call 5 rfl) ez44 (Rows.cons (hm2659.sl_call 4 rfl) ez46 (Rows.cons (hm2659.sl_call 3 rfl) ez48 Rows.nil)))).sl) h2662)) ?_
             refine s_rp (i := 4) rfl (by kernel_rfl) rfl (fun _ => (rd_fld tF67_0 rfl)) ?_
             obtain ⟨zd2664, hz2665⟩ := (Nl.mk (hm2659.sl_call 2 rfl) (Rows.cons (hm2659.sl_call 5 rfl) ez44 (Rows.cons (hm2659.sl_call 4 rfl) ez46 (Rows.cons (hm2659.sl_call 3 rfl) ez48 Rows.nil)))).row h2662
             refine s_rd (i := 5) rfl (by kernel_rfl) rfl (fun _ hS => by rw [hS]; exact (rd_ld1 tO65 rfl ((Nl.mk (hm2659.sl_call 2 rfl) (Rows.cons (hm2659.sl_call 5 rfl) ez44 (Rows.cons (hm2659.sl_call 4 rfl) ez46 (Rows.cons (hm2659.sl_call 3 rfl) ez48 Rows.nil)))).cells hz2665) (off := 0) rfl)) rfl ?_
             refine s_rp (i := 6) rfl (by kernel_rfl) rfl (fun _ => (rd_lenS tS65 rfl ((Nl.mk (hm2659.sl_call 2 rfl) (Rows.cons (hm2659.sl_call 5 rfl) ez44 (Rows.cons (hm2659.sl_call 4 rfl) ez46 (Rows.cons (hm2659.sl_call 3 rfl) ez48 Rows.nil)))).get hz2665 h2662))) ?_
             refine s_rp (i := 7) rfl (by kernel_rfl) rfl (fun _ => (rd_lss rfl rfl)) ?_
             refine s_rp (i := 8) rfl (by kernel_rfl) rfl (fun _ => (rd_move rfl)) ?_
             refine s_rpg (i := 9) rfl (by kernel_rfl) rfl rfl rfl rfl (gv_t _) (fun hg2666 _ => (rd_move rfl)) ?_
             refine s_rpg (i := 10) rfl (by kernel_rfl) rfl rfl rfl rfl (gv_t _) (fun hg2667 _ => (rd_move rfl)) ?_
             obtain ⟨x2669, h2670, q2671⟩ := ob q2663; clear q2663
             refine s_rpg (i := 11) rfl (by kernel_rfl) rfl rfl rfl rfl (gv_t _) (fun hg2668 _ => (rd_index tS68 (gvx rfl hg2668) (gvx rfl hg2668) ((Nl.mk (hm2659.sl_call 2 rfl) (Rows.cons (hm2659.sl_call 5 rfl) ez44 (Rows.cons (hm2659.sl_call 4 rfl) ez46 (Rows.cons (hm2659.sl_call 3 rfl) ez48 Rows.nil)))).sl) (gO_t h2670 hg2668))) ?_
             refine s_rpg (i := 12) rfl (by kernel_rfl) rfl rfl rfl rfl (gv_t _) (fun hg2672 _ => (rd_fld tF67_0 (gvx rfl hg2672))) ?_
             obtain ⟨zd2674, hz2675⟩ := (Nl.mk (hm2659.sl_call 2 rfl) (Rows.cons (hm2659.sl_call 5 rfl) ez44 (Rows.cons (hm2659.sl_call 4 rfl) ez46 (Rows.cons (hm2659.sl_call 3 rfl) ez48 Rows.nil)))).rowg (g := decide (i2615 < (List.length x2661 : Int))) (fun q => gO_t h2670 q)
             refine s_rdg (i := 13) rfl (by kernel_rfl) rfl rfl rfl rfl (gv_t _) (fun hg2673 => (fun _ hS => by rw [hS]; exact (rd_ld1 tO65 (gvx rfl hg2673) ((Nl.mk (hm2659.sl_call 2 rfl) (Rows.cons (hm2659.sl_call 5 rfl) ez44 (Rows.cons (hm2659.sl_call 4 rfl) ez46 (Rows.cons (hm2659.sl_call 3 rfl) ez48 Rows.nil)))).cells (hz2675 hg2673)) (off := 0) rfl))) rfl ?_
             refine s_rpg (i := 14) rfl (by kernel_rfl) rfl rfl rfl rfl (gv_t _) (fun hg2676 _ => (rd_move rfl)) ?_
             obtain ⟨x2678, h2679, q2680⟩ := ob q2671; clear q2671
             refine s_rpg (i := 15) rfl (by kernel_rfl) rfl rfl rfl rfl (gv_t _) (fun hg2677 _ => (rd_index tS65 (gvx rfl hg2677) (gvx rfl hg2677) ((Nl.mk (hm2659.sl_call 2 rfl) (Rows.cons (hm2659.sl_call 5 rfl) ez44 (Rows.cons (hm2659.sl_call 4 rfl) ez46 (Rows.cons (hm2659.sl_call 3 rfl) ez48 Rows.nil)))).get (hz2675 hg2677) (gO_t h2670 hg2677)) (gO_t h2679 hg2677))) ?_
             refine s_rdg (i := 16) rfl (by kernel_rfl) rfl rfl rfl rfl (gv_t _) (fun hg2681 => (fun _ hS => by rw [hS]; exact (rd_ld1 tO9 (gvx rfl hg2681) (((Nl.mk (hm2659.sl_call 2 rfl) (Rows.cons (hm2659.sl_call 5 rfl) ez44 (Rows.cons (hm2659.sl_call 4 rfl) ez46 (Rows.cons (hm2659.sl_call 3 rfl) ez48 Rows.nil)))).get (hz2675 hg2681) (gO_t h2670 hg2681)).cells (gO_t h2679 hg2681)) (off := 0) rfl))) rfl ?_
             refine s_rpg (i := 17) rfl (by kernel_rfl) rfl rfl rfl rfl (gv_t _) (fun hg2682 _ => (rd_move rfl)) ?_
             refine s_rpg (i := 18) rfl (by kernel_rfl) rfl rfl rfl rfl (gv_t _) (fun hg2683 _ => (rd_move rfl)) ?_
             obtain ⟨x2685, h2686, q2687⟩ := ob q2680; clear q2680
             refine s_rpg (i := 19) rfl (by kernel_rfl) rfl rfl rfl rfl (gv_t _) (fun hg2684 _ => (rd_index tS48 (gvx rfl hg2684) (gvx rfl hg2684) (hm2659.sl 6 rfl) (gO_t h2686 hg2684))) ?_
             refine s_rpg (i := 20) rfl (by kernel_rfl) rfl rfl rfl rfl (gv_t _) (fun hg2688 _ => (rd_fld tF51_7 (gvx rfl hg2688))) ?_
             refine s_rdg (i := 21) rfl (by kernel_rfl) rfl rfl rfl rfl (gv_t _) (fun hg2689 => (fun _ hS => by rw [hS]; exact (rd_ld1 tO9 (gvx rfl hg2689) ((hm2659.sl 6 rfl).cells (gO_t h2686 hg2689)) (off := 7) rfl))) rfl ?_
             refine s_rpg (i := 22) rfl (by kernel_rfl) rfl rfl rfl rfl (gv_t _) (fun hg2690 _ => (rd_neqst (a := x2678.s) (b := x2685.Dest) (gvx rfl hg2690) (gvx rfl hg2690))) ?_
             refine s_rp (i := 23) rfl (by kernel_rfl) rfl (fun _ => (rd_and rfl (fun hc2691 => (gvx rfl hc2691)))) ?_
             refine s_nil (by kernel_rfl) ?_
             refine qn_then ?_
             obtain ⟨hb2692, q2693⟩ | ⟨hb2692, q2693⟩ := oi q2687 <;> clear q2687
             ·refine cw_t rfl hb2692 (cw_skip (qn_then (cw_block ?_)))
              refine cw_region ?_
              refine t_mv rfl rfl ?_
              obtain ⟨x2694, h2695, q2696⟩ := ob q2693; clear q2693
              refine t_rd rfl (rd_add64 h2695 rfl rfl) (t_as rfl rfl ?_)
              refine rwt_nil ?_
              refine qn_block (qn_then ?_)
              refine ⟨_, (os q2696), (by repeat (first | exact Sub.nil _ | refine Sub.cons rfl ?_)), (hm2659.pick [0, 1, 2, 3, 4, 5, 6] (by decide) rfl)⟩
             ·refine cw_f rfl hb2692 ?_
              refine cw_exit ?_
              refine qx_then (qx_then ?_)
              obtain rfl := hr2621 _ (os q2693)
              exact ⟨rfl, (by repeat (first | exact Sub.nil _ | refine Sub.cons rfl ?_)), (hm2659.pick [0, 1, 2, 3, 4, 5, 6] (by decide) rfl)⟩
            ·skip
             intro e env2697 w2698 hX2699
             obtain ⟨rfl, hs2700, hm2701⟩ := hX2699
             refine qx_same (qn_then ?_)
             refine cw_sub hs2700 ?_
             refine cw_seq (cw_sr (t_mv rfl rfl (t_mv rfl rfl (t_mv rfl rfl ?_))))
             obtain ⟨x2702, h2703, q2704⟩ := ob q2624; clear q2624
             refine t_rd rfl (rd_index tS68 rfl rfl ((Nl.mk (hm2701.sl_call 2 rfl) (Rows.cons (hm2701.sl_call 5 rfl) ez44 (Rows.cons (hm2701.sl_call 4 rfl) ez46 (Rows.cons (hm2701.sl_call 3 rfl) ez48 Rows.nil)))).sl) h2703) ?_
             refine t_rd rfl (rd_fld tF67_0 rfl) ?_
             obtain ⟨zd2705, hz2706⟩ := (Nl.mk (hm2701.sl_call 2 rfl) (Rows.cons (hm2701.sl_call 5 rfl) ez44 (Rows.cons (hm2701.sl_call 4 rfl) ez46 (Rows.cons (hm2701.sl_call 3 rfl) ez48 Rows.nil)))).row h2703
             refine t_rd rfl (rd_ld1 tO65 rfl ((Nl.mk (hm2701.sl_call 2 rfl) (Rows.cons (hm2701.sl_call 5 rfl) ez44 (Rows.cons (hm2701.sl_call 4 rfl) ez46 (Rows.cons (hm2701.sl_call 3 rfl) ez48 Rows.nil)))).cells hz2706) (off := 0) rfl) ?_
             refine t_rd rfl (rd_lenS tS65 rfl ((Nl.mk (hm2701.sl_call 2 rfl) (Rows.cons (hm2701.sl_call 5 rfl) ez44 (Rows.cons (hm2701.sl_call 4 rfl) ez46 (Rows.cons (hm2701.sl_call 3 rfl) ez48 Rows.nil)))).get hz2706 h2703)) ?_
             refine t_rd rfl (rd_eql rfl rfl) ?_
             refine rwt_n ?_
             obtain ⟨hb2707, q2708⟩ | ⟨hb2707, q2708⟩ := oi q2704 <;> clear q2704
             ·refine cw_t rfl hb2707 (cw_sr (t_as rfl rfl (rwt_n ?_)))
              refine cw_ret ?_
              refine qr_then (qr_block (qr_then (qr_then ?_)))
              obtain rfl := hr2447 _ (os q2708)
              refine .inl (⟨_, rfl, ⟨rfl, ?_⟩⟩)
              exact ret1 rfl rfl ⟨rfl, (hm2701.pick [] (by decide) rfl)⟩
             ·refine cw_f rfl hb2707 (cw_skip (qn_then ?_))
              refine cw_region ?_
              refine t_mv rfl rfl ?_
              obtain ⟨x2709, h2710, q2711⟩ := ob q2708; clear q2708
              refine t_rd rfl (rd_add64 h2710 rfl rfl) (t_as rfl rfl ?_)
              refine rwt_nil ?_
              refine qn_block (qn_then ?_)
              refine cw_region ?_
              obtain ⟨x2712, h2713, q2714⟩ := ob q2711; clear q2711
              refine t_rd rfl (rd_add64 h2713 rfl rfl) (t_mv rfl rfl (rwt_n ?_))
              refine ⟨_, (os q2714), (by repeat (first | exact Sub.nil _ | refine Sub.cons rfl ?_)), (hm2701.pick [0, 1, 2, 3, 4, 5, 6] (by decide) rfl)⟩
          ·refine cw_f rfl hb2454 ?_
           refine cw_exit ?_
           refine qx_then (qx_then ?_)
           obtain rfl := hr2447 _ (os q2455)
           exact .inr (⟨_, rfl, ⟨rfl, (by repeat (first | exact Sub.nil _ | refine Sub.cons rfl ?_)), (hm2453.pick [0, 1, 2, 3, 4, 5, 6] (by decide) rfl)⟩⟩)
         ·skip
          intro e env2715 w2716 hX2717
          rcases hX2717 with hX2717 | hX2717
          ·obtain ⟨p2719, rfl, hX2717⟩ := hX2717
           obtain ⟨rfl, hq2721⟩ := hX2717
           obtain rfl := hr1899 _ (os q2450)
           exact qr_block (qr_block (qr_then (qr_then (.inl (⟨_, rfl, ⟨rfl, hq2721⟩⟩)))))
          ·obtain ⟨p2722, rfl, hX2717⟩ := hX2717
           obtain ⟨rfl, hs2723, hm2724⟩ := hX2717
           refine qx_same (qn_block (qn_then ?_))
           refine cw_sub hs2723 ?_
           refine cw_region ?_
           obtain ⟨x2725, h2726, q2727⟩ := ob q2450; clear q2450
           refine t_rd rfl (rd_add64 h2726 rfl rfl) (t_mv rfl rfl (rwt_n ?_))
           refine ⟨_, (os q2727), (by repeat (first | exact Sub.nil _ | refine Sub.cons rfl ?_)), (hm2724.pick [0, 1, 2, 3, 4, 5, 6] (by decide) rfl)⟩
        ·refine cw_f rfl hb1906 ?_
         refine cw_exit ?_
         refine qx_then (qx_then ?_)
         obtain rfl := hr1899 _ (os q1907)
         exact .inr (⟨_, rfl, ⟨rfl, (by repeat (first | exact Sub.nil _ | refine Sub.cons rfl ?_)), (hm1905.pick [6] (by decide) rfl)⟩⟩)
       ·skip
        intro e env2728 w2729 hX2730
        rcases hX2730 with hX2730 | hX2730
        ·obtain ⟨p2732, rfl, hX2730⟩ := hX2730
         obtain ⟨rfl, hq2734⟩ := hX2730
         exact qr_block (qr_then ((by have e := os q1902; subst e; exact hq2734)))
        ·obtain ⟨p2735, rfl, hX2730⟩ := hX2730
         obtain ⟨rfl, hs2736, hm2737⟩ := hX2730
         refine qx_same (qn_then ?_)
         refine cw_sub hs2736 ?_
         refine cw_sr (t_mv rfl rfl (t_mv rfl rfl ?_))
         refine t_rd rfl (rd_lenS tS48 rfl (hm2737.sl 0 rfl)) ?_
         refine t_rd rfl (rd_eql rfl rfl) ?_
         refine t_mv rfl rfl ?_
         obtain ⟨r2739, h2740, q2741⟩ := ob q1902; clear q1902
         refine t_efg rfl rfl rfl rfl (R := (fun v w' => v = gV (decide (p2735 = (List.length r8.2 : Int))) (Value.bool r2739) ∧ Mem w2729 No [] w')) (gv_t _) (fun hg2738 => (ef_call tf9 rfl (humpyardtop_awake_ok (gO_t h2740 hg2738))).mono (by rintro _ _ ⟨rfl, q⟩; exact ⟨(gV_t hg2738).symm, q⟩)) (fun q => ⟨(gV_f q).symm, Mem.nil _⟩) ?_
         rintro _ w2743 ⟨rfl, hm2742⟩
         have hm2744 := hm2737.call hm2742
         refine t_rd rfl (rd_and rfl (fun hc2745 => (gvx rfl hc2745))) ?_
         refine t_as rfl rfl (rwt_n ?_)
         refine cw_ret ?_
         obtain rfl := os q2741
         exact ret1 rfl rfl ⟨rfl, (hm2744.pick [] (by decide) rfl)⟩

end Go.Proofs.YtlpkbkbjohhleaaGreat
