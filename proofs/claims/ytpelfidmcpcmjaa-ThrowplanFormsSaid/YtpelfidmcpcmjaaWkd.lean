/- Each call computes what its mirror does; written by a program of mine (gowalk.py). -/
import Derived.Test.YtpelfidmcpcmjaaWkc
namespace Go.Proofs.Ytpelfidmcpcmjaa
open Go.Gv Go.RowKit
set_option linter.unusedVariables false
set_option maxRecDepth 100000

theorem law24_ThrowplanForms_ok {N : Nat} {a0 : List Int} {res : Bool} (h : law24_ThrowplanForms N a0 = some res) {w : World} {v0 : Value} (hv0 : Sl (Old w No) w v0 a0) :
    CallsR Try.prog 7 [v0] w (fun u w' => u = (Value.bool res) ∧ Mem w No [] w') := by
  unfold law24_ThrowplanForms at h
  refine fn_ok Try.func7 rfl rfl rfl ?_
  have hm0 := Mem.nil w
  refine cw_seq ?_
  refine cw_region ?_
  refine t_rd rfl (rd_assign rfl) ?_
  refine rwt_nil ?_
  refine qn_then ?_
  refine cw_seq ?_
  refine cw_region ?_
  refine t_rd rfl (rd_move rfl) ?_
  obtain ⟨r1, h2, q3⟩ := ob h; clear h
  refine t_ef rfl (ef_call tf8 rfl (humpgen_New_ok h2 (hv0.to_call hm0))) ?_
  rintro _ w6 ⟨g4, e_, hm5⟩
  obtain rfl := e_.symm
  have hm7 := hm0.call hm5
  refine t_rd rfl (rd_assign rfl) ?_
  refine rwt_nil ?_
  refine qn_then ?_
  refine cw_seq ?_
  refine cw_region ?_
  refine t_rd rfl (rd_move rfl) ?_
  obtain ⟨r8, h9, q10⟩ := ob q3; clear q3
  refine t_ef rfl (ef_call tf9 rfl (law24_planned_ok h9 (hv0.to_callT (k := 0) hm7 rfl) (hm7.get (k := 0) rfl))) ?_
  rintro _ w16 ⟨zs12, v11, v13, v14, e_, hm15⟩
  obtain rfl := e_.symm
  have hm17 := hm7.callT (k := 0) rfl (fun _ h => h) hm15 (fun _ => Iff.rfl)
  refine t_rd rfl (rd_move rfl) ?_
  refine t_rd rfl (rd_extract rfl rfl) ?_
  refine t_rd rfl (rd_extract rfl rfl) ?_
  refine t_rd rfl (rd_extract rfl rfl) ?_
  refine t_rd rfl (rd_extract rfl rfl) ?_
  refine t_rd rfl (rd_assign rfl) ?_
  refine t_rd rfl (rd_assign rfl) ?_
  refine t_rd rfl (rd_assign rfl) ?_
  refine t_rd rfl (rd_assign rfl) ?_
  refine rwt_nil ?_
  refine qn_then ?_
  refine cw_seq ?_
  refine cw_region ?_
  refine t_rd rfl (rd_move rfl) ?_
  refine t_rd rfl (rd_move rfl) ?_
  refine t_rd rfl (rd_move rfl) ?_
  refine t_rd rfl (rd_move rfl) ?_
  obtain ⟨r18, h19, q20⟩ := ob q10; clear q10
  refine t_ef rfl (ef_call tf16 rfl (throwplan_Commands_ok h19 ((Nl.mk (hm17.sl_call 0 rfl) (hm17.rows_call 1 rfl)).sl) (hm17.sl_call 2 rfl) (hm17.sl_call 3 rfl))) ?_
  rintro _ w23 ⟨v21, e_, hm22⟩
  obtain rfl := e_.symm
  have hm24 := hm17.call hm22
  refine t_rd rfl (rd_move rfl) ?_
  refine t_rd rfl (rd_extract rfl rfl) ?_
  refine t_rd rfl (rd_extract rfl rfl) ?_
  refine t_rd rfl (rd_assign rfl) ?_
  refine t_rd rfl (rd_assign rfl) ?_
  refine rwt_nil ?_
  refine qn_then ?_
  refine cw_seq ?_
  refine cw_seq ?_
  refine cw_region ?_
  refine t_rd rfl (rd_move rfl) ?_
  refine t_rd rfl (rd_neq rfl rfl) ?_
  refine rwt_nil ?_
  refine qn_then ?_
  obtain ⟨hb25, q26⟩ | ⟨hb25, q26⟩ := oi q20 <;> clear q20
  · refine cw_t rfl hb25 ?_
    refine cw_seq ?_
    refine cw_region ?_
    refine t_rd rfl (rd_assign rfl) ?_
    refine rwt_nil ?_
    refine qn_then ?_
    refine cw_ret ?_
    refine qr_then ?_
    obtain rfl := os q26
    exact ret1 rfl rfl ⟨rfl, (hm24.pick [] (by decide) rfl)⟩
  · refine cw_f rfl hb25 ?_
    refine cw_skip ?_
    refine qn_then ?_
    refine cw_seq ?_
    refine cw_seq ?_
    refine cw_region ?_
    refine t_rd rfl (rd_assign rfl) ?_
    refine rwt_nil ?_
    refine qn_then ?_
    refine cw_block ?_
    obtain ⟨r587, hit588, q589⟩ := ob q26; clear q26
    refine cw_loop2 (I := fun q envq wq => Sub [(4, v11), (5, v13), (6, (Value.int .i64 r8.2.2.2.1)), (7, v14), (8, v21), (10, (Value.int .i64 q))] envq ∧ Mem w No [ownL 41 v21 (r18.1 : List T_Command), ownL 34 v11 (zs12 : List Hdr), rowsC 52 zs12 (r8.2.1 : List (List T_Span)) none, ownL 3 v13 (r8.2.2.1 : List Int), ownL 38 v14 (r8.2.2.2.2 : List T_Throw)] wq) (X := fun eq envq wq => (∃ p590, r587 = (Sum.inl p590) ∧ eq = .ret ∧ retQ Try.prog 176 Try.f7 (fun u w' => u = (Value.bool p590) ∧ Mem w No [] w') .ret envq wq) ∨ (∃ p591, r587 = (Sum.inr p591) ∧ eq = .exit 0 ∧ Sub [] envq ∧ Mem w No [] wq)) hit588 ⟨(by repeat (first | exact Sub.nil _ | refine Sub.cons rfl ?_)), (hm24.pick [0, 1, 2, 3, 4] (by decide) rfl)⟩ ?_ ?_
    · rintro i580 x582 env583 w584 hf585 hr586 ⟨hs_, hm_⟩
      have hs_ : Sub [(4, v11), (5, v13), (6, (Value.int .i64 r8.2.2.2.1)), (7, v14), (8, v21), (10, (Value.int .i64 i580))] env583 := hs_
      have hm592 : Mem w No [ownL 41 v21 (r18.1 : List T_Command), ownL 34 v11 (zs12 : List Hdr), rowsC 52 zs12 (r8.2.1 : List (List T_Span)) none, ownL 3 v13 (r8.2.2.1 : List Int), ownL 38 v14 (r8.2.2.2.2 : List T_Throw)] w584 := hm_
      refine cw_sub hs_ ?_
      clear hs_ hm_ q589
      have h : law24_ThrowplanForms_l3 N r8 r18 i580 = some x582 := hf585
      clear hf585
      refine cw_seq ?_
      refine cw_seq ?_
      refine cw_region ?_
      refine t_rd rfl (rd_move rfl) ?_
      refine t_rd rfl (rd_move rfl) ?_
      refine t_rd rfl (rd_lenS tS25 rfl (hm592.sl 0 rfl)) ?_
      refine t_rd rfl (rd_lss rfl rfl) ?_
      refine rwt_nil ?_
      refine qn_then ?_
      obtain ⟨hb593, q594⟩ | ⟨hb593, q594⟩ := oi h <;> clear h
      · refine cw_t rfl hb593 ?_
        refine cw_skip ?_
        refine qn_then ?_
        refine cw_seq ?_
        refine cw_block ?_
        refine cw_seq ?_
        refine cw_seq ?_
        obtain ⟨w596, he598⟩ : ∃ q, q = w584.drew := ⟨_, rfl⟩
        have hm597 := hm592.drew; rw [← he598] at hm597
        refine cw_region_s (fun q => q = w596) (cls [] []) mixed ?_
        rintro _ rfl; rw [← he598]
        refine s_rp (i := 0) rfl (by kernel_rfl) rfl (fun _ => (rd_move rfl)) ?_
        refine s_rp (i := 1) rfl (by kernel_rfl) rfl (fun _ => (rd_move rfl)) ?_
        obtain ⟨x599, h600, q601⟩ := ob q594; clear q594
        refine s_rp (i := 2) rfl (by kernel_rfl) rfl (fun _ => (rd_index tS25 rfl rfl (hm597.sl 0 rfl) h600)) ?_
        refine s_rp (i := 3) rfl (by kernel_rfl) rfl (fun _ => (rd_fld tF41_3 rfl)) ?_
        refine s_rd (i := 4) rfl (by kernel_rfl) rfl (fun _ hS => by rw [hS]; exact (rd_ld1 tO3 rfl ((hm597.sl 0 rfl).cells h600) (off := 3) rfl)) rfl ?_
        refine s_rp (i := 5) rfl (by kernel_rfl) rfl (fun _ => (rd_lss rfl rfl)) ?_
        refine s_rp (i := 6) rfl (by kernel_rfl) rfl (fun _ => (rd_move rfl)) ?_
        refine s_rpg (i := 7) rfl (by kernel_rfl) rfl rfl rfl rfl (gv_f _) (fun hg602 _ => (rd_move rfl)) ?_
        refine s_rpg (i := 8) rfl (by kernel_rfl) rfl rfl rfl rfl (gv_f _) (fun hg603 _ => (rd_move rfl)) ?_
        obtain ⟨x605, h606, q607⟩ := ob q601; clear q601
        refine s_rpg (i := 9) rfl (by kernel_rfl) rfl rfl rfl rfl (gv_f _) (fun hg604 _ => (rd_index tS25 (gvx rfl hg604) (gvx rfl hg604) (hm597.sl 0 rfl) (gO_t h606 hg604))) ?_
        refine s_rpg (i := 10) rfl (by kernel_rfl) rfl rfl rfl rfl (gv_f _) (fun hg608 _ => (rd_fld tF41_3 (gvx rfl hg608))) ?_
        refine s_rdg (i := 11) rfl (by kernel_rfl) rfl rfl rfl rfl (gv_f _) (fun hg609 => (fun _ hS => by rw [hS]; exact (rd_ld1 tO3 (gvx rfl hg609) ((hm597.sl 0 rfl).cells (gO_t h606 hg609)) (off := 3) rfl))) rfl ?_
        refine s_rpg (i := 12) rfl (by kernel_rfl) rfl rfl rfl rfl (gv_f _) (fun hg610 _ => (rd_move rfl)) ?_
        refine s_rpg (i := 13) rfl (by kernel_rfl) rfl rfl rfl rfl (gv_f _) (fun hg611 _ => (rd_lenS tS23 (gvx rfl hg611) ((Nl.mk (hm597.sl_call 1 rfl) (hm597.rows_call 2 rfl)).sl))) ?_
        refine s_rpg (i := 14) rfl (by kernel_rfl) rfl rfl rfl rfl (gv_f _) (fun hg612 _ => (rd_geq (gvx rfl hg612) (gvx rfl hg612))) ?_
        refine s_rp (i := 15) rfl (by kernel_rfl) rfl (fun _ => (rd_or rfl (fun hc613 => (gvx rfl (bnotIt hc613))))) ?_
        refine s_rp (i := 16) rfl (by kernel_rfl) rfl (fun _ => (rd_move rfl)) ?_
        refine s_rpg (i := 17) rfl (by kernel_rfl) rfl rfl rfl rfl (gv_f _) (fun hg614 _ => (rd_move rfl)) ?_
        refine s_rpg (i := 18) rfl (by kernel_rfl) rfl rfl rfl rfl (gv_f _) (fun hg615 _ => (rd_gtr (gvx rfl hg615) rfl)) ?_
        refine s_rpg (i := 19) rfl (by kernel_rfl) rfl rfl rfl rfl (gv_f _) (fun hg616 _ => (rd_move (gvx rfl hg616))) ?_
        refine s_rpg (i := 20) rfl (by kernel_rfl) rfl rfl rfl rfl (gv_nt _ _) (fun hg617 _ => (rd_move rfl)) ?_
        refine s_rpg (i := 21) rfl (by kernel_rfl) rfl rfl rfl rfl (gv_nt _ _) (fun hg618 _ => (rd_move rfl)) ?_
        obtain ⟨x620, h621, q622⟩ := ob q607; clear q607
        refine s_rpg (i := 22) rfl (by kernel_rfl) rfl rfl rfl rfl (gv_nt _ _) (fun hg619 _ => (rd_index tS25 (gvx rfl hg619) (gvx rfl hg619) (hm597.sl 0 rfl) (gO_t h621 hg619))) ?_
        refine s_rpg (i := 23) rfl (by kernel_rfl) rfl rfl rfl rfl (gv_nt _ _) (fun hg623 _ => (rd_fld tF41_0 (gvx rfl hg623))) ?_
        refine s_rdg (i := 24) rfl (by kernel_rfl) rfl rfl rfl rfl (gv_nt _ _) (fun hg624 => (fun _ hS => by rw [hS]; exact (rd_ld1 tO3 (gvx rfl hg624) ((hm597.sl 0 rfl).cells (gO_t h621 hg624)) (off := 0) rfl))) rfl ?_
        refine s_rpg (i := 25) rfl (by kernel_rfl) rfl rfl rfl rfl (gv_nt _ _) (fun hg625 _ => (rd_move rfl)) ?_
        refine s_rpg (i := 26) rfl (by kernel_rfl) rfl rfl rfl rfl (gv_nt _ _) (fun hg626 _ => (rd_move rfl)) ?_
        obtain ⟨x628, h629, q630⟩ := ob q622; clear q622
        refine s_rpg (i := 27) rfl (by kernel_rfl) rfl rfl rfl rfl (gv_nt _ _) (fun hg627 _ => (rd_sub64 (gO_t h629 hg627) (gvx rfl hg627) rfl)) ?_
        obtain ⟨x632, h633, q634⟩ := ob q630; clear q630
        refine s_rpg (i := 28) rfl (by kernel_rfl) rfl rfl rfl rfl (gv_nt _ _) (fun hg631 _ => (rd_index tS25 (gvx rfl hg631) (gvx rfl hg631) (hm597.sl 0 rfl) (gO_t h633 hg631))) ?_
        refine s_rpg (i := 29) rfl (by kernel_rfl) rfl rfl rfl rfl (gv_nt _ _) (fun hg635 _ => (rd_fld tF41_0 (gvx rfl hg635))) ?_
        refine s_rdg (i := 30) rfl (by kernel_rfl) rfl rfl rfl rfl (gv_nt _ _) (fun hg636 => (fun _ hS => by rw [hS]; exact (rd_ld1 tO3 (gvx rfl hg636) ((hm597.sl 0 rfl).cells (gO_t h633 hg636)) (off := 0) rfl))) rfl ?_
        refine s_rpg (i := 31) rfl (by kernel_rfl) rfl rfl rfl rfl (gv_nt _ _) (fun hg637 _ => (rd_lss (gvx rfl hg637) (gvx rfl hg637))) ?_
        refine s_rpg (i := 32) rfl (by kernel_rfl) rfl rfl rfl rfl (gv_f _) (fun hg638 _ => (rd_and (gvx rfl hg638) (fun hc639 => (gvx rfl (band hg638 hc639))))) ?_
        refine s_rp (i := 33) rfl (by kernel_rfl) rfl (fun _ => (rd_or rfl (fun hc640 => (gvx rfl (bnotIt hc640))))) ?_
        refine s_nil (by kernel_rfl) ?_
        refine qn_then ?_
        obtain ⟨hb641, q642⟩ | ⟨hb641, q642⟩ := oi q634 <;> clear q634
        · refine cw_t rfl hb641 ?_
          refine cw_seq ?_
          refine cw_region ?_
          refine t_rd rfl (rd_assign rfl) ?_
          refine rwt_nil ?_
          refine qn_then ?_
          refine cw_ret ?_
          refine qr_then (qr_block (qr_then (qr_then ?_)))
          obtain rfl := hr586 _ (os q642)
          refine .inl (⟨_, rfl, ⟨rfl, ?_⟩⟩)
          exact ret1 rfl rfl ⟨rfl, (hm597.pick [] (by decide) rfl)⟩
        · refine cw_f rfl hb641 ?_
          refine cw_skip ?_
          refine qn_then ?_
          refine cw_seq ?_
          obtain ⟨w644, he646⟩ : ∃ q, q = w596.drew := ⟨_, rfl⟩
          have hm645 := hm597.drew; rw [← he646] at hm645
          refine cw_region_s (fun q => q = w644) (cls [] [13]) mixed ?_
          rintro _ rfl; rw [← he646]
          refine s_rp (i := 0) rfl (by kernel_rfl) rfl (fun _ => (rd_move rfl)) ?_
          refine s_rp (i := 1) rfl (by kernel_rfl) rfl (fun _ => (rd_move rfl)) ?_
          refine s_rp (i := 2) rfl (by kernel_rfl) rfl (fun _ => (rd_move rfl)) ?_
          obtain ⟨x647, h648, q649⟩ := ob q642; clear q642
          refine s_rp (i := 3) rfl (by kernel_rfl) rfl (fun _ => (rd_index tS25 rfl rfl (hm645.sl 0 rfl) h648)) ?_
          refine s_rp (i := 4) rfl (by kernel_rfl) rfl (fun _ => (rd_fld tF41_3 rfl)) ?_
          refine s_rd (i := 5) rfl (by kernel_rfl) rfl (fun _ hS => by rw [hS]; exact (rd_ld1 tO3 rfl ((hm645.sl 0 rfl).cells h648) (off := 3) rfl)) rfl ?_
          obtain ⟨x650, h651, q652⟩ := ob q649; clear q649
          refine s_rp (i := 6) rfl (by kernel_rfl) rfl (fun _ => (rd_index tS23 rfl rfl ((Nl.mk (hm645.sl_call 1 rfl) (hm645.rows_call 2 rfl)).sl) h651)) ?_
          obtain ⟨zd653, hz654⟩ := (Nl.mk (hm645.sl_call 1 rfl) (hm645.rows_call 2 rfl)).row h651
          refine s_rd (i := 7) rfl (by kernel_rfl) rfl (fun _ hS => by rw [hS]; exact (rd_ld1 tO34 rfl ((Nl.mk (hm645.sl_call 1 rfl) (hm645.rows_call 2 rfl)).cells hz654) (off := 0) rfl)) rfl ?_
          refine s_rp (i := 8) rfl (by kernel_rfl) rfl (fun _ => (rd_move rfl)) ?_
          refine s_rp (i := 9) rfl (by kernel_rfl) rfl (fun _ => (rd_move rfl)) ?_
          obtain ⟨x655, h656, q657⟩ := ob q652; clear q652
          refine s_rp (i := 10) rfl (by kernel_rfl) rfl (fun _ => (rd_index tS25 rfl rfl (hm645.sl 0 rfl) h656)) ?_
          refine s_rp (i := 11) rfl (by kernel_rfl) rfl (fun _ => (rd_fld tF41_1 rfl)) ?_
          refine s_rd (i := 12) rfl (by kernel_rfl) rfl (fun _ hS => by rw [hS]; exact (rd_ld1 tO3 rfl ((hm645.sl 0 rfl).cells h656) (off := 1) rfl)) rfl ?_
          obtain ⟨r658, h659, q660⟩ := ob q657; clear q657
          refine s_ef (i := 13) rfl (by kernel_rfl) rfl (ef_call tf20 rfl (r23_Find_ok h659 ((Nl.mk (hm645.sl_call 1 rfl) (hm645.rows_call 2 rfl)).get hz654 h651))) (by decide) (fun _ _ _ q => absurd q (by decide)) ?_
          rintro _ w662 ⟨e_, hm661⟩
          obtain rfl := e_.symm
          have hm663 := hm645.call hm661
          refine s_rp (i := 14) rfl (by kernel_rfl) rfl (fun _ => (rd_assign rfl)) ?_
          refine s_nil (by kernel_rfl) ?_
          refine qn_then ?_
          refine cw_seq ?_
          refine cw_seq ?_
          obtain ⟨w665, he667⟩ : ∃ q, q = w662.drew := ⟨_, rfl⟩
          have hm666 := hm663.drew; rw [← he667] at hm666
          refine cw_region_s (fun q => q = w665) (cls [] []) mixed ?_
          rintro _ rfl; rw [← he667]
          refine s_rp (i := 0) rfl (by kernel_rfl) rfl (fun _ => (rd_move rfl)) ?_
          refine s_rp (i := 1) rfl (by kernel_rfl) rfl (fun _ => (rd_lss rfl rfl)) ?_
          refine s_rp (i := 2) rfl (by kernel_rfl) rfl (fun _ => (rd_move rfl)) ?_
          refine s_rpg (i := 3) rfl (by kernel_rfl) rfl rfl rfl rfl (gv_f _) (fun hg668 _ => (rd_move rfl)) ?_
          refine s_rpg (i := 4) rfl (by kernel_rfl) rfl rfl rfl rfl (gv_f _) (fun hg669 _ => (rd_move rfl)) ?_
          refine s_rpg (i := 5) rfl (by kernel_rfl) rfl rfl rfl rfl (gv_f _) (fun hg670 _ => (rd_move rfl)) ?_
          obtain ⟨x672, h673, q674⟩ := ob q660; clear q660
          refine s_rpg (i := 6) rfl (by kernel_rfl) rfl rfl rfl rfl (gv_f _) (fun hg671 _ => (rd_index tS25 (gvx rfl hg671) (gvx rfl hg671) (hm666.sl 0 rfl) (gO_t h673 hg671))) ?_
          refine s_rpg (i := 7) rfl (by kernel_rfl) rfl rfl rfl rfl (gv_f _) (fun hg675 _ => (rd_fld tF41_3 (gvx rfl hg675))) ?_
          refine s_rdg (i := 8) rfl (by kernel_rfl) rfl rfl rfl rfl (gv_f _) (fun hg676 => (fun _ hS => by rw [hS]; exact (rd_ld1 tO3 (gvx rfl hg676) ((hm666.sl 0 rfl).cells (gO_t h673 hg676)) (off := 3) rfl))) rfl ?_
          obtain ⟨x678, h679, q680⟩ := ob q674; clear q674
          refine s_rpg (i := 9) rfl (by kernel_rfl) rfl rfl rfl rfl (gv_f _) (fun hg677 _ => (rd_index tS23 (gvx rfl hg677) (gvx rfl hg677) ((Nl.mk (hm666.sl_call 1 rfl) (hm666.rows_call 2 rfl)).sl) (gO_t h679 hg677))) ?_
          obtain ⟨zd682, hz683⟩ := (Nl.mk (hm666.sl_call 1 rfl) (hm666.rows_call 2 rfl)).rowg (g := (!decide (r658 < 0))) (fun q => gO_t h679 q)
          refine s_rdg (i := 10) rfl (by kernel_rfl) rfl rfl rfl rfl (gv_f _) (fun hg681 => (fun _ hS => by rw [hS]; exact (rd_ld1 tO34 (gvx rfl hg681) ((Nl.mk (hm666.sl_call 1 rfl) (hm666.rows_call 2 rfl)).cells (hz683 hg681)) (off := 0) rfl))) rfl ?_
          refine s_rpg (i := 11) rfl (by kernel_rfl) rfl rfl rfl rfl (gv_f _) (fun hg684 _ => (rd_move rfl)) ?_
          obtain ⟨x686, h687, q688⟩ := ob q680; clear q680
          refine s_rpg (i := 12) rfl (by kernel_rfl) rfl rfl rfl rfl (gv_f _) (fun hg685 _ => (rd_index tS34 (gvx rfl hg685) (gvx rfl hg685) ((Nl.mk (hm666.sl_call 1 rfl) (hm666.rows_call 2 rfl)).get (hz683 hg685) (gO_t h679 hg685)) (gO_t h687 hg685))) ?_
          refine s_rpg (i := 13) rfl (by kernel_rfl) rfl rfl rfl rfl (gv_f _) (fun hg689 _ => (rd_fld tF52_1 (gvx rfl hg689))) ?_
          refine s_rdg (i := 14) rfl (by kernel_rfl) rfl rfl rfl rfl (gv_f _) (fun hg690 => (fun _ hS => by rw [hS]; exact (rd_ld1 tO3 (gvx rfl hg690) (((Nl.mk (hm666.sl_call 1 rfl) (hm666.rows_call 2 rfl)).get (hz683 hg690) (gO_t h679 hg690)).cells (gO_t h687 hg690)) (off := 1) rfl))) rfl ?_
          refine s_rpg (i := 15) rfl (by kernel_rfl) rfl rfl rfl rfl (gv_f _) (fun hg691 _ => (rd_move rfl)) ?_
          refine s_rpg (i := 16) rfl (by kernel_rfl) rfl rfl rfl rfl (gv_f _) (fun hg692 _ => (rd_move rfl)) ?_
          obtain ⟨x694, h695, q696⟩ := ob q688; clear q688
          refine s_rpg (i := 17) rfl (by kernel_rfl) rfl rfl rfl rfl (gv_f _) (fun hg693 _ => (rd_index tS25 (gvx rfl hg693) (gvx rfl hg693) (hm666.sl 0 rfl) (gO_t h695 hg693))) ?_
          refine s_rpg (i := 18) rfl (by kernel_rfl) rfl rfl rfl rfl (gv_f _) (fun hg697 _ => (rd_fld tF41_2 (gvx rfl hg697))) ?_
          refine s_rdg (i := 19) rfl (by kernel_rfl) rfl rfl rfl rfl (gv_f _) (fun hg698 => (fun _ hS => by rw [hS]; exact (rd_ld1 tO3 (gvx rfl hg698) ((hm666.sl 0 rfl).cells (gO_t h695 hg698)) (off := 2) rfl))) rfl ?_
          refine s_rpg (i := 20) rfl (by kernel_rfl) rfl rfl rfl rfl (gv_f _) (fun hg699 _ => (rd_neq (gvx rfl hg699) (gvx rfl hg699))) ?_
          refine s_rp (i := 21) rfl (by kernel_rfl) rfl (fun _ => (rd_or rfl (fun hc700 => (gvx rfl (bnotIt hc700))))) ?_
          refine s_nil (by kernel_rfl) ?_
          refine qn_then ?_
          obtain ⟨hb701, q702⟩ | ⟨hb701, q702⟩ := oi q696 <;> clear q696
          · refine cw_t rfl hb701 ?_
            refine cw_seq ?_
            refine cw_region ?_
            refine t_rd rfl (rd_assign rfl) ?_
            refine rwt_nil ?_
            refine qn_then ?_
            refine cw_ret ?_
            refine qr_then (qr_block (qr_then (qr_then ?_)))
            obtain rfl := hr586 _ (os q702)
            refine .inl (⟨_, rfl, ⟨rfl, ?_⟩⟩)
            exact ret1 rfl rfl ⟨rfl, (hm666.pick [] (by decide) rfl)⟩
          · refine cw_f rfl hb701 ?_
            refine cw_skip ?_
            refine qn_then ?_
            refine cw_seq ?_
            refine cw_region ?_
            refine t_rd rfl (rd_move rfl) ?_
            refine t_rd rfl (rd_move rfl) ?_
            refine t_rd rfl (rd_move rfl) ?_
            obtain ⟨x703, h704, q705⟩ := ob q702; clear q702
            refine t_rd rfl (rd_index tS25 rfl rfl (hm666.sl 0 rfl) h704) ?_
            refine t_rd rfl (rd_fld tF41_1 rfl) ?_
            refine t_rd rfl (rd_ld1 tO3 rfl ((hm666.sl 0 rfl).cells h704) (off := 1) rfl) ?_
            obtain ⟨r706, h707, q708⟩ := ob q705; clear q705
            refine t_ef rfl (ef_call tf21 rfl (r24_First_ok h707 (hm666.sl_call 4 rfl))) ?_
            rintro _ w710 ⟨e_, hm709⟩
            obtain rfl := e_.symm
            have hm711 := hm666.call hm709
            refine t_rd rfl (rd_assign rfl) ?_
            refine rwt_nil ?_
            refine qn_then ?_
            refine cw_seq ?_
            refine cw_seq ?_
            refine cw_region ?_
            refine t_rd rfl (rd_assign rfl) ?_
            refine rwt_nil ?_
            refine qn_then ?_
            refine cw_block ?_
            obtain ⟨r769, hit770, q771⟩ := ob q708; clear q708
            refine cw_loop2 (I := fun q envq wq => Sub [(4, v11), (5, v13), (6, (Value.int .i64 r8.2.2.2.1)), (7, v14), (8, v21), (10, (Value.int .i64 i580)), (11, (Value.int .i64 r658)), (12, (Value.int .i64 q.1)), (13, (Value.int .i64 q.2))] envq ∧ Mem w No [ownL 41 v21 (r18.1 : List T_Command), ownL 34 v11 (zs12 : List Hdr), rowsC 52 zs12 (r8.2.1 : List (List T_Span)) none, ownL 3 v13 (r8.2.2.1 : List Int), ownL 38 v14 (r8.2.2.2.2 : List T_Throw)] wq) (X := fun eq envq wq => eq = .exit 2 ∧ Sub [(4, v11), (5, v13), (6, (Value.int .i64 r8.2.2.2.1)), (7, v14), (8, v21), (10, (Value.int .i64 i580)), (11, (Value.int .i64 r658)), (12, (Value.int .i64 r769))] envq ∧ Mem w No [ownL 41 v21 (r18.1 : List T_Command), ownL 34 v11 (zs12 : List Hdr), rowsC 52 zs12 (r8.2.1 : List (List T_Span)) none, ownL 3 v13 (r8.2.2.1 : List Int), ownL 38 v14 (r8.2.2.2.2 : List T_Throw)] wq) hit770 ⟨(by repeat (first | exact Sub.nil _ | refine Sub.cons rfl ?_)), (hm711.pick [0, 1, 2, 3, 4] (by decide) rfl)⟩ ?_ ?_
            · rintro ⟨i761, i762⟩ x764 env765 w766 hf767 hr768 ⟨hs_, hm_⟩
              have hs_ : Sub [(4, v11), (5, v13), (6, (Value.int .i64 r8.2.2.2.1)), (7, v14), (8, v21), (10, (Value.int .i64 i580)), (11, (Value.int .i64 r658)), (12, (Value.int .i64 i761)), (13, (Value.int .i64 i762))] env765 := hs_
              have hm772 : Mem w No [ownL 41 v21 (r18.1 : List T_Command), ownL 34 v11 (zs12 : List Hdr), rowsC 52 zs12 (r8.2.1 : List (List T_Span)) none, ownL 3 v13 (r8.2.2.1 : List Int), ownL 38 v14 (r8.2.2.2.2 : List T_Throw)] w766 := hm_
              refine cw_sub hs_ ?_
              clear hs_ hm_ q771
              have h : law24_ThrowplanForms_l4 N r18 i580 i761 i762 = some x764 := hf767
              clear hf767
              refine cw_seq ?_
              refine cw_seq ?_
              refine cw_region ?_
              refine t_rd rfl (rd_move rfl) ?_
              refine t_rd rfl (rd_move rfl) ?_
              refine t_rd rfl (rd_lss rfl rfl) ?_
              refine rwt_nil ?_
              refine qn_then ?_
              obtain ⟨hb773, q774⟩ | ⟨hb773, q774⟩ := oi h <;> clear h
              · refine cw_t rfl hb773 ?_
                refine cw_skip ?_
                refine qn_then ?_
                refine cw_seq ?_
                refine cw_block ?_
                refine cw_seq ?_
                obtain ⟨w776, he778⟩ : ∃ q, q = w766.drew := ⟨_, rfl⟩
                have hm777 := hm772.drew; rw [← he778] at hm777
                refine cw_region_s (fun q => q = w776) (cls [] []) mixed ?_
                rintro _ rfl; rw [← he778]
                refine s_rp (i := 0) rfl (by kernel_rfl) rfl (fun _ => (rd_move rfl)) ?_
                refine s_rp (i := 1) rfl (by kernel_rfl) rfl (fun _ => (rd_move rfl)) ?_
                obtain ⟨x779, h780, q781⟩ := ob q774; clear q774
                refine s_rp (i := 2) rfl (by kernel_rfl) rfl (fun _ => (rd_index tS25 rfl rfl (hm777.sl 0 rfl) h780)) ?_
                refine s_rp (i := 3) rfl (by kernel_rfl) rfl (fun _ => (rd_fld tF41_1 rfl)) ?_
                refine s_rd (i := 4) rfl (by kernel_rfl) rfl (fun _ hS => by rw [hS]; exact (rd_ld1 tO3 rfl ((hm777.sl 0 rfl).cells h780) (off := 1) rfl)) rfl ?_
                refine s_rp (i := 5) rfl (by kernel_rfl) rfl (fun _ => (rd_move rfl)) ?_
                refine s_rp (i := 6) rfl (by kernel_rfl) rfl (fun _ => (rd_move rfl)) ?_
                obtain ⟨x782, h783, q784⟩ := ob q781; clear q781
                refine s_rp (i := 7) rfl (by kernel_rfl) rfl (fun _ => (rd_index tS25 rfl rfl (hm777.sl 0 rfl) h783)) ?_
                refine s_rp (i := 8) rfl (by kernel_rfl) rfl (fun _ => (rd_fld tF41_1 rfl)) ?_
                refine s_rd (i := 9) rfl (by kernel_rfl) rfl (fun _ hS => by rw [hS]; exact (rd_ld1 tO3 rfl ((hm777.sl 0 rfl).cells h783) (off := 1) rfl)) rfl ?_
                refine s_rp (i := 10) rfl (by kernel_rfl) rfl (fun _ => (rd_eql rfl rfl)) ?_
                refine s_nil (by kernel_rfl) ?_
                refine qn_then ?_
                obtain ⟨hb785, q786⟩ | ⟨hb785, q786⟩ := oi q784 <;> clear q784
                · refine cw_t rfl hb785 ?_
                  refine cw_region ?_
                  refine t_rd rfl (rd_move rfl) ?_
                  refine t_rd rfl (rd_move rfl) ?_
                  obtain ⟨x787, h788, q789⟩ := ob q786; clear q786
                  refine t_rd rfl (rd_index tS25 rfl rfl (hm777.sl 0 rfl) h788) ?_
                  refine t_rd rfl (rd_fld tF41_2 rfl) ?_
                  refine t_rd rfl (rd_ld1 tO3 rfl ((hm777.sl 0 rfl).cells h788) (off := 2) rfl) ?_
                  refine t_rd rfl (rd_assign rfl) ?_
                  refine rwt_nil ?_
                  refine qn_block (qn_then ?_)
                  refine cw_region ?_
                  refine t_rd rfl (rd_move rfl) ?_
                  obtain ⟨x790, h791, q792⟩ := ob q789; clear q789
                  refine t_rd rfl (rd_add64 h791 rfl rfl) ?_
                  refine t_rd rfl (rd_assign rfl) ?_
                  refine rwt_nil ?_
                  refine qn_then ?_
                  refine ⟨_, (os q792), (by repeat (first | exact Sub.nil _ | refine Sub.cons rfl ?_)), (hm777.pick [0, 1, 2, 3, 4] (by decide) rfl)⟩
                · refine cw_f rfl hb785 ?_
                  refine cw_skip ?_
                  refine qn_block (qn_then ?_)
                  refine cw_region ?_
                  refine t_rd rfl (rd_move rfl) ?_
                  obtain ⟨x793, h794, q795⟩ := ob q786; clear q786
                  refine t_rd rfl (rd_add64 h794 rfl rfl) ?_
                  refine t_rd rfl (rd_assign rfl) ?_
                  refine rwt_nil ?_
                  refine qn_then ?_
                  refine ⟨_, (os q795), (by repeat (first | exact Sub.nil _ | refine Sub.cons rfl ?_)), (hm777.pick [0, 1, 2, 3, 4] (by decide) rfl)⟩
              · refine cw_f rfl hb773 ?_
                refine cw_exit ?_
                refine qx_then (qx_then ?_)
                obtain rfl := hr768 _ (os q774)
                exact ⟨rfl, (by repeat (first | exact Sub.nil _ | refine Sub.cons rfl ?_)), (hm772.pick [0, 1, 2, 3, 4] (by decide) rfl)⟩
            · skip
              intro e env796 w797 hX798
              obtain ⟨rfl, hs799, hm800⟩ := hX798
              refine qx_same (qn_then ?_)
              refine cw_sub hs799 ?_
              refine cw_seq ?_
              obtain ⟨w802, he804⟩ : ∃ q, q = w797.drew := ⟨_, rfl⟩
              have hm803 := hm800.drew; rw [← he804] at hm803
              refine cw_region_s (fun q => q = w802) (cls [] []) mixed ?_
              rintro _ rfl; rw [← he804]
              refine s_rp (i := 0) rfl (by kernel_rfl) rfl (fun _ => (rd_move rfl)) ?_
              refine s_rp (i := 1) rfl (by kernel_rfl) rfl (fun _ => (rd_move rfl)) ?_
              refine s_rp (i := 2) rfl (by kernel_rfl) rfl (fun _ => (rd_move rfl)) ?_
              obtain ⟨x805, h806, q807⟩ := ob q771; clear q771
              refine s_rp (i := 3) rfl (by kernel_rfl) rfl (fun _ => (rd_index tS25 rfl rfl (hm803.sl 0 rfl) h806)) ?_
              refine s_rp (i := 4) rfl (by kernel_rfl) rfl (fun _ => (rd_fld tF41_2 rfl)) ?_
              refine s_rd (i := 5) rfl (by kernel_rfl) rfl (fun _ hS => by rw [hS]; exact (rd_ld1 tO3 rfl ((hm803.sl 0 rfl).cells h806) (off := 2) rfl)) rfl ?_
              refine s_rp (i := 6) rfl (by kernel_rfl) rfl (fun _ => (rd_eql rfl rfl)) ?_
              refine s_rp (i := 7) rfl (by kernel_rfl) rfl (fun _ => (rd_move rfl)) ?_
              refine s_rpg (i := 8) rfl (by kernel_rfl) rfl rfl rfl rfl (gv_f _) (fun hg808 _ => (rd_move rfl)) ?_
              refine s_rpg (i := 9) rfl (by kernel_rfl) rfl rfl rfl rfl (gv_f _) (fun hg809 _ => (rd_move rfl)) ?_
              obtain ⟨x811, h812, q813⟩ := ob q807; clear q807
              refine s_rpg (i := 10) rfl (by kernel_rfl) rfl rfl rfl rfl (gv_f _) (fun hg810 _ => (rd_index tS25 (gvx rfl hg810) (gvx rfl hg810) (hm803.sl 0 rfl) (gO_t h812 hg810))) ?_
              refine s_rpg (i := 11) rfl (by kernel_rfl) rfl rfl rfl rfl (gv_f _) (fun hg814 _ => (rd_fld tF41_0 (gvx rfl hg814))) ?_
              refine s_rdg (i := 12) rfl (by kernel_rfl) rfl rfl rfl rfl (gv_f _) (fun hg815 => (fun _ hS => by rw [hS]; exact (rd_ld1 tO3 (gvx rfl hg815) ((hm803.sl 0 rfl).cells (gO_t h812 hg815)) (off := 0) rfl))) rfl ?_
              refine s_rpg (i := 13) rfl (by kernel_rfl) rfl rfl rfl rfl (gv_f _) (fun hg816 _ => (rd_move rfl)) ?_
              obtain ⟨x818, h819, q820⟩ := ob q813; clear q813
              refine s_rpg (i := 14) rfl (by kernel_rfl) rfl rfl rfl rfl (gv_f _) (fun hg817 _ => (rd_add64 (gO_t h819 hg817) (gvx rfl hg817) (gvx rfl hg817))) ?_
              refine s_rpg (i := 15) rfl (by kernel_rfl) rfl rfl rfl rfl (gv_f _) (fun hg821 _ => (rd_move rfl)) ?_
              refine s_rpg (i := 16) rfl (by kernel_rfl) rfl rfl rfl rfl (gv_f _) (fun hg822 _ => (rd_move rfl)) ?_
              refine s_rpg (i := 17) rfl (by kernel_rfl) rfl rfl rfl rfl (gv_f _) (fun hg823 _ => (rd_move rfl)) ?_
              obtain ⟨x825, h826, q827⟩ := ob q820; clear q820
              refine s_rpg (i := 18) rfl (by kernel_rfl) rfl rfl rfl rfl (gv_f _) (fun hg824 _ => (rd_index tS25 (gvx rfl hg824) (gvx rfl hg824) (hm803.sl 0 rfl) (gO_t h826 hg824))) ?_
              refine s_rpg (i := 19) rfl (by kernel_rfl) rfl rfl rfl rfl (gv_f _) (fun hg828 _ => (rd_fld tF41_3 (gvx rfl hg828))) ?_
              refine s_rdg (i := 20) rfl (by kernel_rfl) rfl rfl rfl rfl (gv_f _) (fun hg829 => (fun _ hS => by rw [hS]; exact (rd_ld1 tO3 (gvx rfl hg829) ((hm803.sl 0 rfl).cells (gO_t h826 hg829)) (off := 3) rfl))) rfl ?_
              obtain ⟨x831, h832, q833⟩ := ob q827; clear q827
              refine s_rpg (i := 21) rfl (by kernel_rfl) rfl rfl rfl rfl (gv_f _) (fun hg830 _ => (rd_index tS22 (gvx rfl hg830) (gvx rfl hg830) (hm803.sl 3 rfl) (gO_t h832 hg830))) ?_
              refine s_rdg (i := 22) rfl (by kernel_rfl) rfl rfl rfl rfl (gv_f _) (fun hg834 => (fun _ hS => by rw [hS]; exact (rd_ld1 tO3 (gvx rfl hg834) ((hm803.sl 3 rfl).cells (gO_t h832 hg834)) (off := 0) rfl))) rfl ?_
              refine s_rpg (i := 23) rfl (by kernel_rfl) rfl rfl rfl rfl (gv_f _) (fun hg835 _ => (rd_move rfl)) ?_
              refine s_rpg (i := 24) rfl (by kernel_rfl) rfl rfl rfl rfl (gv_f _) (fun hg836 _ => (rd_move rfl)) ?_
              refine s_rpg (i := 25) rfl (by kernel_rfl) rfl rfl rfl rfl (gv_f _) (fun hg837 _ => (rd_move rfl)) ?_
              obtain ⟨x839, h840, q841⟩ := ob q833; clear q833
              refine s_rpg (i := 26) rfl (by kernel_rfl) rfl rfl rfl rfl (gv_f _) (fun hg838 _ => (rd_index tS25 (gvx rfl hg838) (gvx rfl hg838) (hm803.sl 0 rfl) (gO_t h840 hg838))) ?_
              refine s_rpg (i := 27) rfl (by kernel_rfl) rfl rfl rfl rfl (gv_f _) (fun hg842 _ => (rd_fld tF41_3 (gvx rfl hg842))) ?_
              refine s_rdg (i := 28) rfl (by kernel_rfl) rfl rfl rfl rfl (gv_f _) (fun hg843 => (fun _ hS => by rw [hS]; exact (rd_ld1 tO3 (gvx rfl hg843) ((hm803.sl 0 rfl).cells (gO_t h840 hg843)) (off := 3) rfl))) rfl ?_
              obtain ⟨x845, h846, q847⟩ := ob q841; clear q841
              refine s_rpg (i := 29) rfl (by kernel_rfl) rfl rfl rfl rfl (gv_f _) (fun hg844 _ => (rd_index tS23 (gvx rfl hg844) (gvx rfl hg844) ((Nl.mk (hm803.sl_call 1 rfl) (hm803.rows_call 2 rfl)).sl) (gO_t h846 hg844))) ?_
              obtain ⟨zd849, hz850⟩ := (Nl.mk (hm803.sl_call 1 rfl) (hm803.rows_call 2 rfl)).rowg (g := (!decide (r769 = x805.Side))) (fun q => gO_t h846 q)
              refine s_rdg (i := 30) rfl (by kernel_rfl) rfl rfl rfl rfl (gv_f _) (fun hg848 => (fun _ hS => by rw [hS]; exact (rd_ld1 tO34 (gvx rfl hg848) ((Nl.mk (hm803.sl_call 1 rfl) (hm803.rows_call 2 rfl)).cells (hz850 hg848)) (off := 0) rfl))) rfl ?_
              refine s_rpg (i := 31) rfl (by kernel_rfl) rfl rfl rfl rfl (gv_f _) (fun hg851 _ => (rd_move rfl)) ?_
              obtain ⟨x853, h854, q855⟩ := ob q847; clear q847
              refine s_rpg (i := 32) rfl (by kernel_rfl) rfl rfl rfl rfl (gv_f _) (fun hg852 _ => (rd_index tS34 (gvx rfl hg852) (gvx rfl hg852) ((Nl.mk (hm803.sl_call 1 rfl) (hm803.rows_call 2 rfl)).get (hz850 hg852) (gO_t h846 hg852)) (gO_t h854 hg852))) ?_
              refine s_rpg (i := 33) rfl (by kernel_rfl) rfl rfl rfl rfl (gv_f _) (fun hg856 _ => (rd_fld tF52_2 (gvx rfl hg856))) ?_
              refine s_rdg (i := 34) rfl (by kernel_rfl) rfl rfl rfl rfl (gv_f _) (fun hg857 => (fun _ hS => by rw [hS]; exact (rd_ld1 tO3 (gvx rfl hg857) (((Nl.mk (hm803.sl_call 1 rfl) (hm803.rows_call 2 rfl)).get (hz850 hg857) (gO_t h846 hg857)).cells (gO_t h854 hg857)) (off := 2) rfl))) rfl ?_
              obtain ⟨x859, h860, q861⟩ := ob q855; clear q855
              refine s_rpg (i := 35) rfl (by kernel_rfl) rfl rfl rfl rfl (gv_f _) (fun hg858 _ => (rd_add64 (gO_t h860 hg858) (gvx rfl hg858) (gvx rfl hg858))) ?_
              refine s_rpg (i := 36) rfl (by kernel_rfl) rfl rfl rfl rfl (gv_f _) (fun hg862 _ => (rd_gtr (gvx rfl hg862) (gvx rfl hg862))) ?_
              refine s_rp (i := 37) rfl (by kernel_rfl) rfl (fun _ => (rd_or rfl (fun hc863 => (gvx rfl (bnotIt hc863))))) ?_
              refine s_nil (by kernel_rfl) ?_
              refine qn_then ?_
              obtain ⟨hb864, q865⟩ | ⟨hb864, q865⟩ := oi q861 <;> clear q861
              · refine cw_t rfl hb864 ?_
                refine cw_seq ?_
                refine cw_region ?_
                refine t_rd rfl (rd_assign rfl) ?_
                refine rwt_nil ?_
                refine qn_then ?_
                refine cw_ret ?_
                refine qr_block (qr_then (qr_then ?_))
                obtain rfl := hr586 _ (os q865)
                refine .inl (⟨_, rfl, ⟨rfl, ?_⟩⟩)
                exact ret1 rfl rfl ⟨rfl, (hm803.pick [] (by decide) rfl)⟩
              · refine cw_f rfl hb864 ?_
                refine cw_skip ?_
                refine qn_block (qn_then ?_)
                refine cw_region ?_
                refine t_rd rfl (rd_move rfl) ?_
                obtain ⟨x866, h867, q868⟩ := ob q865; clear q865
                refine t_rd rfl (rd_add64 h867 rfl rfl) ?_
                refine t_rd rfl (rd_assign rfl) ?_
                refine rwt_nil ?_
                refine qn_then ?_
                refine ⟨_, (os q868), (by repeat (first | exact Sub.nil _ | refine Sub.cons rfl ?_)), (hm803.pick [0, 1, 2, 3, 4] (by decide) rfl)⟩
      · refine cw_f rfl hb593 ?_
        refine cw_exit ?_
        refine qx_then (qx_then ?_)
        obtain rfl := hr586 _ (os q594)
        exact .inr (⟨_, rfl, ⟨rfl, (by repeat (first | exact Sub.nil _ | refine Sub.cons rfl ?_)), (hm592.pick [] (by decide) rfl)⟩⟩)
    · skip
      intro e env869 w870 hX871
      rcases hX871 with hX871 | hX871
      · obtain ⟨p873, rfl, hX871⟩ := hX871
        obtain ⟨rfl, hq875⟩ := hX871
        exact qr_block (qr_then ((by have e := os q589; subst e; exact hq875)))
      · obtain ⟨p876, rfl, hX871⟩ := hX871
        obtain ⟨rfl, hs877, hm878⟩ := hX871
        refine qx_same (qn_then ?_)
        refine cw_sub hs877 ?_
        refine cw_seq ?_
        refine cw_region ?_
        obtain ⟨r879, h880, q881⟩ := ob q589; clear q589
        refine t_ef rfl (ef_call tf15 rfl (law24_sane_ok h880)) ?_
        rintro _ w883 ⟨e_, hm882⟩
        obtain rfl := e_.symm
        have hm884 := hm878.call hm882
        refine t_rd rfl (rd_assign rfl) ?_
        refine rwt_nil ?_
        refine qn_then ?_
        refine cw_ret ?_
        obtain rfl := os q881
        exact ret1 rfl rfl ⟨rfl, (hm884.pick [] (by decide) rfl)⟩

end Go.Proofs.Ytpelfidmcpcmjaa
