/- Each call computes what its mirror does; written by a program of mine (gowalk.py). -/
import Derived.Test.YtlpkbkbjohhleaaGreatWkc
namespace Go.Proofs.YtlpkbkbjohhleaaGreat
open Go.Gv Go.RowKit
set_option linter.unusedVariables false
set_option maxRecDepth 100000

theorem humpgen_Lists_ok {N : Nat} {a0 : List (List Int)} {a1 : List (List Int)} {res : Bool} (h : humpgen_Lists N a0 a1 = some res) {w : World} {v0 : Value} {v1 : Value} (hv0 : Sl (Old w No) w v0 a0) (hv1 : Sl (Old w No) w v1 a1) :
    CallsR Tryz.prog 30 [v0, v1] w (fun u w' => u = (Value.bool res) ∧ Mem w No [] w') := by
  unfold humpgen_Lists at h
  refine fn_ok Tryz.func30 rfl rfl rfl ?_
  obtain ⟨zs_a0, hn0⟩ := hv0.nest
  obtain ⟨zs_a1, hn1⟩ := hv1.nest
  have hm0 := Mem.nil w
  refine cw_seq ?_
  refine cw_region ?_
  refine t_rd rfl (rd_assign rfl) ?_
  refine rwt_nil ?_
  refine qn_then ?_
  refine cw_seq ?_
  refine cw_seq ?_
  refine cw_region ?_
  refine t_rd rfl (rd_move rfl) ?_
  refine t_rd rfl (rd_lenS tS41 rfl ((hn0.of_old hm0).sl)) ?_
  refine t_rd rfl (rd_move rfl) ?_
  refine t_rd rfl (rd_lenS tS41 rfl ((hn1.of_old hm0).sl)) ?_
  refine t_rd rfl (rd_neq rfl rfl) ?_
  refine rwt_nil ?_
  refine qn_then ?_
  obtain ⟨hb1, q2⟩ | ⟨hb1, q2⟩ := oi h <;> clear h
  · refine cw_t rfl hb1 ?_
    refine cw_seq ?_
    refine cw_region ?_
    refine t_rd rfl (rd_assign rfl) ?_
    refine rwt_nil ?_
    refine qn_then ?_
    refine cw_ret ?_
    refine qr_then ?_
    obtain rfl := os q2
    exact ret1 rfl rfl ⟨rfl, (hm0.pick [] (by decide) rfl)⟩
  · refine cw_f rfl hb1 ?_
    refine cw_skip ?_
    refine qn_then ?_
    refine cw_seq ?_
    refine cw_seq ?_
    refine cw_region ?_
    refine t_rd rfl (rd_assign rfl) ?_
    refine rwt_nil ?_
    refine qn_then ?_
    refine cw_block ?_
    obtain ⟨r97, hit98, q99⟩ := ob q2; clear q2
    refine cw_loop2 (I := fun q envq wq => Sub [(0, v0), (1, v1), (5, (Value.int .i64 q))] envq ∧ Mem w No [] wq) (X := fun eq envq wq => (∃ p100, r97 = (Sum.inl p100) ∧ eq = .ret ∧ retQ Tryz.prog 27 Tryz.f30 (fun u w' => u = (Value.bool p100) ∧ Mem w No [] w') .ret envq wq) ∨ (∃ p101, r97 = (Sum.inr p101) ∧ eq = .exit 0 ∧ Sub [] envq ∧ Mem w No [] wq)) hit98 ⟨(by repeat (first | exact Sub.nil _ | refine Sub.cons rfl ?_)), (hm0.pick [] (by decide) rfl)⟩ ?_ ?_
    · rintro i90 x92 env93 w94 hf95 hr96 ⟨hs_, hm_⟩
      have hs_ : Sub [(0, v0), (1, v1), (5, (Value.int .i64 i90))] env93 := hs_
      have hm102 : Mem w No [] w94 := hm_
      refine cw_sub hs_ ?_
      clear hs_ hm_ q99
      have h : humpgen_Lists_l1 N a0 a1 i90 = some x92 := hf95
      clear hf95
      refine cw_seq ?_
      refine cw_seq ?_
      refine cw_region ?_
      refine t_rd rfl (rd_move rfl) ?_
      refine t_rd rfl (rd_move rfl) ?_
      refine t_rd rfl (rd_lenS tS41 rfl ((hn0.of_old hm102).sl)) ?_
      refine t_rd rfl (rd_lss rfl rfl) ?_
      refine rwt_nil ?_
      refine qn_then ?_
      obtain ⟨hb103, q104⟩ | ⟨hb103, q104⟩ := oi h <;> clear h
      · refine cw_t rfl hb103 ?_
        refine cw_skip ?_
        refine qn_then ?_
        refine cw_seq ?_
        refine cw_block ?_
        refine cw_seq ?_
        obtain ⟨w122, he124⟩ : ∃ q, q = w94.drew := ⟨_, rfl⟩
        have hm123 := hm102.drew; rw [← he124] at hm123
        refine cw_region_s (fun q => q = w122) (cls [] [8]) mixed ?_
        rintro _ rfl; rw [← he124]
        refine s_rp (i := 0) rfl (by kernel_rfl) rfl (fun _ => (rd_move rfl)) ?_
        refine s_rp (i := 1) rfl (by kernel_rfl) rfl (fun _ => (rd_move rfl)) ?_
        obtain ⟨x125, h126, q127⟩ := ob q104; clear q104
        refine s_rp (i := 2) rfl (by kernel_rfl) rfl (fun _ => (rd_index tS41 rfl rfl ((hn0.of_old hm123).sl) h126)) ?_
        obtain ⟨zd128, hz129⟩ := (hn0.of_old hm123).row h126
        refine s_rd (i := 3) rfl (by kernel_rfl) rfl (fun _ hS => by rw [hS]; exact (rd_ld1 tO22 rfl ((hn0.of_old hm123).cells hz129) (off := 0) rfl)) rfl ?_
        refine s_rp (i := 4) rfl (by kernel_rfl) rfl (fun _ => (rd_move rfl)) ?_
        refine s_rp (i := 5) rfl (by kernel_rfl) rfl (fun _ => (rd_move rfl)) ?_
        obtain ⟨x130, h131, q132⟩ := ob q127; clear q127
        refine s_rp (i := 6) rfl (by kernel_rfl) rfl (fun _ => (rd_index tS41 rfl rfl ((hn1.of_old hm123).sl) h131)) ?_
        obtain ⟨zd133, hz134⟩ := (hn1.of_old hm123).row h131
        refine s_rd (i := 7) rfl (by kernel_rfl) rfl (fun _ hS => by rw [hS]; exact (rd_ld1 tO22 rfl ((hn1.of_old hm123).cells hz134) (off := 0) rfl)) rfl ?_
        obtain ⟨r135, h136, q137⟩ := ob q132; clear q132
        refine s_ef (i := 8) rfl (by kernel_rfl) rfl (ef_call tf65 rfl (humpgen_Ints_ok h136 ((hn0.to_call hm123).get hz129 h126) ((hn1.to_call hm123).get hz134 h131))) (by decide) (fun _ _ _ q => absurd q (by decide)) ?_
        rintro _ w139 ⟨e_, hm138⟩
        obtain rfl := e_.symm
        have hm140 := hm123.call hm138
        refine s_rp (i := 9) rfl (by kernel_rfl) rfl (fun _ => (rd_not rfl)) ?_
        refine s_nil (by kernel_rfl) ?_
        refine qn_then ?_
        obtain ⟨hb141, q142⟩ | ⟨hb141, q142⟩ := oi q137 <;> clear q137
        · refine cw_t rfl hb141 ?_
          refine cw_seq ?_
          refine cw_region ?_
          refine t_rd rfl (rd_assign rfl) ?_
          refine rwt_nil ?_
          refine qn_then ?_
          refine cw_ret ?_
          refine qr_block (qr_then (qr_then ?_))
          obtain rfl := hr96 _ (os q142)
          refine .inl (⟨_, rfl, ⟨rfl, ?_⟩⟩)
          exact ret1 rfl rfl ⟨rfl, (hm140.pick [] (by decide) rfl)⟩
        · refine cw_f rfl hb141 ?_
          refine cw_skip ?_
          refine qn_block (qn_then ?_)
          refine cw_region ?_
          refine t_rd rfl (rd_move rfl) ?_
          obtain ⟨x143, h144, q145⟩ := ob q142; clear q142
          refine t_rd rfl (rd_add64 h144 rfl rfl) ?_
          refine t_rd rfl (rd_assign rfl) ?_
          refine rwt_nil ?_
          refine qn_then ?_
          refine ⟨_, (os q145), (by repeat (first | exact Sub.nil _ | refine Sub.cons rfl ?_)), (hm140.pick [] (by decide) rfl)⟩
      · refine cw_f rfl hb103 ?_
        refine cw_exit ?_
        refine qx_then (qx_then ?_)
        obtain rfl := hr96 _ (os q104)
        exact .inr (⟨_, rfl, ⟨rfl, (by repeat (first | exact Sub.nil _ | refine Sub.cons rfl ?_)), (hm102.pick [] (by decide) rfl)⟩⟩)
    · skip
      intro e env146 w147 hX148
      rcases hX148 with hX148 | hX148
      · obtain ⟨p150, rfl, hX148⟩ := hX148
        obtain ⟨rfl, hq152⟩ := hX148
        exact qr_block (qr_then ((by have e := os q99; subst e; exact hq152)))
      · obtain ⟨p153, rfl, hX148⟩ := hX148
        obtain ⟨rfl, hs154, hm155⟩ := hX148
        refine qx_same (qn_then ?_)
        refine cw_sub hs154 ?_
        refine cw_seq ?_
        refine cw_region ?_
        refine t_rd rfl (rd_assign rfl) ?_
        refine rwt_nil ?_
        refine qn_then ?_
        refine cw_ret ?_
        obtain rfl := os q99
        exact ret1 rfl rfl ⟨rfl, (hm155.pick [] (by decide) rfl)⟩

theorem humpyardtop_awake_ok {N : Nat} {res : Bool} (h : humpyardtop_awake N = some res) {w : World}   :
    CallsR Tryz.prog 9 [] w (fun u w' => u = (Value.bool res) ∧ Mem w No [] w') := by
  unfold humpyardtop_awake at h
  refine fn_ok Tryz.func9 rfl rfl rfl ?_
  have hm0 := Mem.nil w
  refine cw_seq ?_
  refine cw_region ?_
  refine t_rd rfl (rd_assign rfl) ?_
  refine rwt_nil ?_
  refine qn_then ?_
  refine cw_seq ?_
  refine cw_region ?_
  refine t_rd rfl (rd_build (cs := #[(Value.int .i64 0), (Value.int .i64 1), (Value.int .i64 0), (Value.int .i64 100)]) rfl (by kernel_rfl)) ?_
  refine t_rd rfl (rd_build (cs := #[(Value.int .i64 0), (Value.int .i64 0), (Value.int .i64 0), (Value.int .i64 100)]) rfl (by kernel_rfl)) ?_
  refine t_ef rfl (ef_bslice (l := ([(T_Item.mk 0 1 0 100), (T_Item.mk 0 0 0 100)] : List T_Item)) hm0 tS25 rfl (cs := #[(Value.int .i64 0), (Value.int .i64 1), (Value.int .i64 0), (Value.int .i64 100), (Value.int .i64 0), (Value.int .i64 0), (Value.int .i64 0), (Value.int .i64 100)]) (by unfold bsl; kernel_rfl) rfl rfl) ?_
  intro v1 w3 hm2
  refine t_ef rfl (ef_bslice (l := ([300, 300] : List Int)) hm2 tS22 rfl (cs := #[(Value.int .i64 300), (Value.int .i64 300)]) (by unfold bsl; kernel_rfl) rfl rfl) ?_
  intro v4 w6 hm5
  obtain ⟨r7, h8, q9⟩ := ob h; clear h
  refine t_ef rfl (ef_call tf24 rfl (planner_Plan_ok h8 (hm5.sl_call 1 rfl) (hm5.sl_call 0 rfl))) ?_
  rintro _ w16 ⟨v10, v11, v12, v13, v14, e_, hm15⟩
  obtain rfl := e_.symm
  have hm17 := hm5.call hm15
  refine t_rd rfl (rd_move rfl) ?_
  refine t_rd rfl (rd_extract rfl rfl) ?_
  refine t_rd rfl (rd_extract rfl rfl) ?_
  refine t_rd rfl (rd_extract rfl rfl) ?_
  refine t_ef rfl (ef_alloc hm17 tZ74 rfl) ?_
  rintro _ w20 ⟨g18, rfl, hm19⟩
  refine t_ef0 (ef_stw (k := 0) hm19 tA74 rfl rfl (oc_cons (sl_one (hm19.sl 1 rfl)) (oc_cons rfl (oc_cons rfl (oc_cons (sl_one (hm19.sl 2 rfl)) (oc_cons (sl_one (hm19.sl 3 rfl)) (oc_cons (sl_one (hm19.sl 4 rfl)) oc_nil)))))) rfl rfl rfl) ?_
  intro _ w22 hm21
  refine t_rd rfl (rd_assign rfl) ?_
  refine t_rd rfl (rd_assign rfl) ?_
  refine rwt_nil ?_
  refine qn_then ?_
  refine cw_seq ?_
  refine cw_region ?_
  refine t_rd rfl (rd_fld tF74_0 rfl) ?_
  refine t_rd rfl (rd_ldp (cs' := [v10, (Value.int .i64 r7.2.1)]) tA27 rfl (hm21.blk 0 rfl) (off := 0) rfl rfl) ?_
  refine t_rd rfl (rd_fld tF74_1 rfl) ?_
  refine t_rd rfl (rd_fld tF32_0 rfl) ?_
  refine t_rd rfl (rd_ldp (cs' := [(Value.int .i64 r7.2.2.1), v11]) tA30 rfl (hm21.blk 0 rfl) (off := 2) rfl rfl) ?_
  obtain ⟨r23, h24, q25⟩ := ob q9; clear q9
  refine t_ef rfl (ef_call tf26 rfl (rollin_Run_ok h24 (hm21.sl_call 1 rfl) (hm21.sl_call 2 rfl))) ?_
  rintro _ w29 ⟨zs27, v26, e_, hm28⟩
  obtain rfl := e_.symm
  have hm30 := hm21.call hm28
  refine t_rd rfl (rd_move rfl) ?_
  refine t_rd rfl (rd_extract rfl rfl) ?_
  refine t_rd rfl (rd_extract rfl rfl) ?_
  refine t_ef rfl (ef_alloc hm30 tZ79 rfl) ?_
  rintro _ w33 ⟨g31, rfl, hm32⟩
  refine t_ef0 (ef_stw (k := 0) hm32 tA79 rfl rfl (oc_cons (sl_one ((Nl.mk (hm32.sl_call 1 rfl) (hm32.rows_call 2 rfl)).sl)) (oc_cons rfl oc_nil)) rfl rfl rfl) ?_
  intro _ w35 hm34
  refine t_rd rfl (rd_assign rfl) ?_
  refine rwt_nil ?_
  refine qn_then ?_
  refine cw_seq ?_
  refine cw_region ?_
  refine t_rd rfl (rd_move rfl) ?_
  refine t_rd rfl (rd_eql rfl rfl) ?_
  refine t_rd rfl (rd_move rfl) ?_
  refine t_rdg rfl rfl rfl rfl (gv_t _) (fun hg36 => (rd_move rfl)) ?_
  refine t_rdg rfl rfl rfl rfl (gv_t _) (fun hg37 => (rd_eql (gvx rfl hg37) rfl)) ?_
  refine t_rd rfl (rd_and rfl (fun hc38 => (gvx rfl hc38))) ?_
  refine t_rd rfl (rd_move rfl) ?_
  refine t_rdg rfl rfl rfl rfl (gv_t _) (fun hg39 => (rd_fld tF74_1 rfl)) ?_
  refine t_rdg rfl rfl rfl rfl (gv_t _) (fun hg40 => (rd_fld tF32_0 (gvx rfl hg40))) ?_
  refine t_rdg rfl rfl rfl rfl (gv_t _) (fun hg41 => (rd_fld tF30_0 (gvx rfl hg41))) ?_
  refine t_rdg rfl rfl rfl rfl (gv_t _) (fun hg42 => (rd_ld1 tO3 (gvx rfl hg42) (hm34.blk 3 rfl) (off := 2) rfl)) ?_
  refine t_rdg rfl rfl rfl rfl (gv_t _) (fun hg43 => (rd_eql (gvx rfl hg43) rfl)) ?_
  refine t_rd rfl (rd_and rfl (fun hc44 => (gvx rfl hc44))) ?_
  refine t_rd rfl (rd_move rfl) ?_
  refine t_rdg rfl rfl rfl rfl (gv_t _) (fun hg45 => (rd_fld tF79_0 rfl)) ?_
  refine t_rdg rfl rfl rfl rfl (gv_t _) (fun hg46 => (rd_ld1 tO41 (gvx rfl hg46) (hm34.blk 0 rfl) (off := 0) rfl)) ?_
  obtain ⟨hb48, q49⟩ | ⟨hb48, q49⟩ := oi q25 <;> clear q25
  · skip
    refine t_efg rfl rfl rfl rfl (gv_t _) (fun _ => (ef_bslice (l := ([1, 0] : List Int)) hm34 tS22 rfl (cs := #[(Value.int .i64 1), (Value.int .i64 0)]) (by unfold bsl; kernel_rfl) rfl rfl)) (fun q => bcontra q hb48) ?_
    intro v51 w53 hm52
    obtain ⟨zd55, ez56⟩ : ∃ z : Hdr, z.1 = v51 := ⟨⟨v51, sl_one (hm52.sl 0 rfl)⟩, rfl⟩
    refine t_efg rfl rfl rfl rfl (gv_t _) (fun _ => (ef_bslice (l := ([zd55] : List Hdr)) hm52 tS41 rfl (cs := #[v51]) (by obtain ⟨_, _, e⟩ : ∃ A c, v51 = Value.slice A (List.length [1, 0]) c := ((hm52.sl 0 rfl)).val; rw [e]; clear e; unfold bsl; kernel_rfl) (by show [zd55.1] = [v51]; rw [ez56]) rfl)) (fun q => bcontra q hb48) ?_
    intro v57 w59 hm58
    obtain ⟨r61, h62, q63⟩ := ob q49; clear q49
    refine t_efg rfl rfl rfl rfl (gv_t _) (fun _ => (ef_call tf30 (evc (gvx rfl hb48) (evc rfl evn)) (humpgen_Lists_ok h62 ((Nl.mk (hm58.sl_call 3 rfl) (hm58.rows_call 4 rfl)).sl) ((Nl.mk (hm58.sl_call 0 rfl) (Rows.cons (hm58.sl_call 1 rfl) ez56 Rows.nil)).sl)))) (fun q => bcontra q hb48) ?_
    rintro _ w65 ⟨e_, hm64⟩
    obtain rfl := e_.symm
    have hm66 := hm58.call hm64
    refine t_rd rfl (rd_and rfl (fun hc67 => rfl)) ?_
    refine t_rd rfl (rd_assign rfl) ?_
    refine rwt_nil ?_
    refine qn_then ?_
    refine cw_ret ?_
    obtain rfl := os q63
    exact ret1 rfl rfl ⟨rfl, (hm66.pick [] (by decide) rfl)⟩
  · skip
    refine t_efg rfl rfl rfl rfl (R := fun v w' => v = undef ∧ w' = w35) (gv_t _) (fun hg68 => bcontra hb48 hg68) (fun _ => ⟨rfl, rfl⟩) ?_
    rintro v_ w_ ⟨e1_, e2_⟩; rw [e1_, e2_]; clear e1_ e2_ v_ w_
    refine t_efg rfl rfl rfl rfl (R := fun v w' => v = undef ∧ w' = w35) (gv_t _) (fun hg69 => bcontra hb48 hg69) (fun _ => ⟨rfl, rfl⟩) ?_
    rintro v_ w_ ⟨e1_, e2_⟩; rw [e1_, e2_]; clear e1_ e2_ v_ w_
    refine t_efg rfl rfl rfl rfl (R := fun v w' => v = undef ∧ w' = w35) (gv_t _) (fun hg70 => bcontra hb48 hg70) (fun _ => ⟨rfl, rfl⟩) ?_
    rintro v_ w_ ⟨e1_, e2_⟩; rw [e1_, e2_]; clear e1_ e2_ v_ w_
    refine t_rd rfl (rd_and (b := false) rfl (fun hc71 => bcontra hb48 hc71)) ?_
    refine t_rd rfl (rd_assign rfl) ?_
    refine rwt_nil ?_
    refine qn_then ?_
    refine cw_ret ?_
    obtain rfl := os q49
    exact ret1 rfl rfl ⟨rfl, (hm34.pick [] (by decide) rfl)⟩

theorem wagonnumber_digits_ok {N : Nat} {a0 : List UInt8} {a1 : Int} {res : Bool} (h : wagonnumber_digits N a0 a1 = some res) {w : World}   :
    CallsR Tryz.prog 73 [(Value.string (bs a0)), (Value.int .i64 a1)] w (fun u w' => u = (Value.bool res) ∧ Mem w No [] w') := by
  unfold wagonnumber_digits at h
  refine fn_ok Tryz.func73 rfl rfl rfl ?_
  have hm0 := Mem.nil w
  refine cw_seq ?_
  refine cw_region ?_
  refine t_rd rfl (rd_assign rfl) ?_
  refine rwt_nil ?_
  refine qn_then ?_
  refine cw_seq ?_
  refine cw_seq ?_
  refine cw_region ?_
  refine t_rd rfl (rd_assign rfl) ?_
  refine rwt_nil ?_
  refine qn_then ?_
  refine cw_block ?_
  obtain ⟨r45, hit46, q47⟩ := ob h; clear h
  refine cw_loop2 (I := fun q envq wq => Sub [(0, (Value.string (bs a0))), (1, (Value.int .i64 a1)), (5, (Value.int .i64 q))] envq ∧ Mem w No [] wq) (X := fun eq envq wq => (∃ p48, r45 = (Sum.inl p48) ∧ eq = .ret ∧ retQ Tryz.prog 26 Tryz.f73 (fun u w' => u = (Value.bool p48) ∧ Mem w No [] w') .ret envq wq) ∨ (∃ p49, r45 = (Sum.inr p49) ∧ eq = .exit 0 ∧ Sub [(0, (Value.string (bs a0))), (1, (Value.int .i64 a1))] envq ∧ Mem w No [] wq)) hit46 ⟨(by repeat (first | exact Sub.nil _ | refine Sub.cons rfl ?_)), (hm0.pick [] (by decide) rfl)⟩ ?_ ?_
  · rintro i38 x40 env41 w42 hf43 hr44 ⟨hs_, hm_⟩
    have hs_ : Sub [(0, (Value.string (bs a0))), (1, (Value.int .i64 a1)), (5, (Value.int .i64 i38))] env41 := hs_
    have hm50 : Mem w No [] w42 := hm_
    refine cw_sub hs_ ?_
    clear hs_ hm_ q47
    have h : wagonnumber_digits_l1 N a0 i38 = some x40 := hf43
    clear hf43
    refine cw_seq ?_
    refine cw_seq ?_
    refine cw_region ?_
    refine t_rd rfl (rd_move rfl) ?_
    refine t_rd rfl (rd_move rfl) ?_
    refine t_rd rfl (rd_lenst tStr9 rfl) ?_
    refine t_rd rfl (rd_lss rfl rfl) ?_
    refine rwt_nil ?_
    refine qn_then ?_
    obtain ⟨hb51, q52⟩ | ⟨hb51, q52⟩ := oi h <;> clear h
    · refine cw_t rfl hb51 ?_
      refine cw_skip ?_
      refine qn_then ?_
      refine cw_seq ?_
      refine cw_block ?_
      refine cw_seq ?_
      refine cw_region ?_
      refine t_rd rfl (rd_move rfl) ?_
      refine t_rd rfl (rd_move rfl) ?_
      obtain ⟨x53, h54, q55⟩ := ob q52; clear q52
      refine t_rd rfl (rd_sidx tStr9 rfl rfl h54) ?_
      refine t_rd rfl (rd_lss rfl rfl) ?_
      refine t_rd rfl (rd_move rfl) ?_
      refine t_rdg rfl rfl rfl rfl (gv_f _) (fun hg56 => (rd_move rfl)) ?_
      refine t_rdg rfl rfl rfl rfl (gv_f _) (fun hg57 => (rd_move rfl)) ?_
      obtain ⟨x59, h60, q61⟩ := ob q55; clear q55
      refine t_rdg rfl rfl rfl rfl (gv_f _) (fun hg58 => (rd_sidx tStr9 (gvx rfl hg58) (gvx rfl hg58) (gO_t h60 hg58))) ?_
      refine t_rdg rfl rfl rfl rfl (gv_f _) (fun hg62 => (rd_gtr (gvx rfl hg62) rfl)) ?_
      refine t_rd rfl (rd_or rfl (fun hc63 => (gvx rfl (bnotIt hc63)))) ?_
      refine rwt_nil ?_
      refine qn_then ?_
      obtain ⟨hb64, q65⟩ | ⟨hb64, q65⟩ := oi q61 <;> clear q61
      · refine cw_t rfl hb64 ?_
        refine cw_seq ?_
        refine cw_region ?_
        refine t_rd rfl (rd_assign rfl) ?_
        refine rwt_nil ?_
        refine qn_then ?_
        refine cw_ret ?_
        refine qr_block (qr_then (qr_then ?_))
        obtain rfl := hr44 _ (os q65)
        refine .inl (⟨_, rfl, ⟨rfl, ?_⟩⟩)
        exact ret1 rfl rfl ⟨rfl, (hm50.pick [] (by decide) rfl)⟩
      · refine cw_f rfl hb64 ?_
        refine cw_skip ?_
        refine qn_block (qn_then ?_)
        refine cw_region ?_
        refine t_rd rfl (rd_move rfl) ?_
        obtain ⟨x66, h67, q68⟩ := ob q65; clear q65
        refine t_rd rfl (rd_add64 h67 rfl rfl) ?_
        refine t_rd rfl (rd_assign rfl) ?_
        refine rwt_nil ?_
        refine qn_then ?_
        refine ⟨_, (os q68), (by repeat (first | exact Sub.nil _ | refine Sub.cons rfl ?_)), (hm50.pick [] (by decide) rfl)⟩
    · refine cw_f rfl hb51 ?_
      refine cw_exit ?_
      refine qx_then (qx_then ?_)
      obtain rfl := hr44 _ (os q52)
      exact .inr (⟨_, rfl, ⟨rfl, (by repeat (first | exact Sub.nil _ | refine Sub.cons rfl ?_)), (hm50.pick [] (by decide) rfl)⟩⟩)
  · skip
    intro e env69 w70 hX71
    rcases hX71 with hX71 | hX71
    · obtain ⟨p73, rfl, hX71⟩ := hX71
      obtain ⟨rfl, hq75⟩ := hX71
      exact qr_block (qr_then ((by have e := os q47; subst e; exact hq75)))
    · obtain ⟨p76, rfl, hX71⟩ := hX71
      obtain ⟨rfl, hs77, hm78⟩ := hX71
      refine qx_same (qn_then ?_)
      refine cw_sub hs77 ?_
      refine cw_seq ?_
      refine cw_region ?_
      refine t_rd rfl (rd_move rfl) ?_
      refine t_rd rfl (rd_lenst tStr9 rfl) ?_
      refine t_rd rfl (rd_move rfl) ?_
      refine t_rd rfl (rd_eql rfl rfl) ?_
      refine t_rd rfl (rd_assign rfl) ?_
      refine rwt_nil ?_
      refine qn_then ?_
      refine cw_ret ?_
      obtain rfl := os q47
      exact ret1 rfl rfl ⟨rfl, (hm78.pick [] (by decide) rfl)⟩

theorem wagonnumber_sum_ok {N : Nat} {a0 : List UInt8} {res : Int} (h : wagonnumber_sum N a0 = some res) {w : World}   :
    CallsR Tryz.prog 95 [(Value.string (bs a0))] w (fun u w' => u = (Value.int .i64 res) ∧ Mem w No [] w') := by
  unfold wagonnumber_sum at h
  refine fn_ok Tryz.func95 rfl rfl rfl ?_
  have hm0 := Mem.nil w
  refine cw_seq ?_
  refine cw_region ?_
  refine t_rd rfl (rd_assign rfl) ?_
  refine rwt_nil ?_
  refine qn_then ?_
  refine cw_seq ?_
  refine cw_region ?_
  refine t_rd rfl (rd_assign rfl) ?_
  refine rwt_nil ?_
  refine qn_then ?_
  refine cw_seq ?_
  refine cw_seq ?_
  refine cw_region ?_
  refine t_rd rfl (rd_assign rfl) ?_
  refine rwt_nil ?_
  refine qn_then ?_
  refine cw_block ?_
  obtain ⟨r84, hit85, q86⟩ := ob h; clear h
  refine cw_loop2 (I := fun q envq wq => Sub [(0, (Value.string (bs a0))), (3, (Value.int .i64 q.1)), (4, (Value.int .i64 q.2))] envq ∧ Mem w No [] wq) (X := fun eq envq wq => eq = .exit 0 ∧ Sub [(3, (Value.int .i64 r84))] envq ∧ Mem w No [] wq) hit85 ⟨(by repeat (first | exact Sub.nil _ | refine Sub.cons rfl ?_)), (hm0.pick [] (by decide) rfl)⟩ ?_ ?_
  · rintro ⟨i76, i77⟩ x79 env80 w81 hf82 hr83 ⟨hs_, hm_⟩
    have hs_ : Sub [(0, (Value.string (bs a0))), (3, (Value.int .i64 i76)), (4, (Value.int .i64 i77))] env80 := hs_
    have hm87 : Mem w No [] w81 := hm_
    refine cw_sub hs_ ?_
    clear hs_ hm_ q86
    have h : wagonnumber_sum_l1 N a0 i76 i77 = some x79 := hf82
    clear hf82
    refine cw_seq ?_
    refine cw_seq ?_
    refine cw_region ?_
    refine t_rd rfl (rd_move rfl) ?_
    refine t_rd rfl (rd_move rfl) ?_
    refine t_rd rfl (rd_lenst tStr9 rfl) ?_
    refine t_rd rfl (rd_lss rfl rfl) ?_
    refine rwt_nil ?_
    refine qn_then ?_
    obtain ⟨hb88, q89⟩ | ⟨hb88, q89⟩ := oi h <;> clear h
    · refine cw_t rfl hb88 ?_
      refine cw_skip ?_
      refine qn_then ?_
      refine cw_seq ?_
      refine cw_block ?_
      refine cw_seq ?_
      refine cw_region ?_
      refine t_rd rfl (rd_move rfl) ?_
      refine t_rd rfl (rd_move rfl) ?_
      obtain ⟨x90, h91, q92⟩ := ob q89; clear q89
      refine t_rd rfl (rd_sidx tStr9 rfl rfl h91) ?_
      refine t_rd rfl (rd_sub_u8 rfl rfl) ?_
      obtain ⟨x93, h94, q95⟩ := ob q92; clear q92
      refine t_rd rfl (rd_cv64 tH5 tI3 h94 rfl) ?_
      refine t_rd rfl (rd_assign rfl) ?_
      refine rwt_nil ?_
      refine qn_then ?_
      refine cw_seq ?_
      refine cw_seq ?_
      refine cw_region ?_
      refine t_rd rfl (rd_move rfl) ?_
      refine t_rd rfl (rd_rem rfl rfl (by decide)) ?_
      refine t_rd rfl (rd_eql rfl rfl) ?_
      refine rwt_nil ?_
      refine qn_then ?_
      obtain ⟨hb96, q97⟩ | ⟨hb96, q97⟩ := oi q95 <;> clear q95
      · refine cw_t rfl hb96 ?_
        refine cw_seq ?_
        refine cw_region ?_
        refine t_rd rfl (rd_move rfl) ?_
        obtain ⟨x98, h99, q100⟩ := ob q97; clear q97
        refine t_rd rfl (rd_mul64 h99 rfl rfl) ?_
        refine t_rd rfl (rd_assign rfl) ?_
        refine rwt_nil ?_
        refine qn_then ?_
        refine cw_seq ?_
        refine cw_region ?_
        refine t_rd rfl (rd_move rfl) ?_
        refine t_rd rfl (rd_gtr rfl rfl) ?_
        refine rwt_nil ?_
        refine qn_then ?_
        obtain ⟨hb101, q102⟩ | ⟨hb101, q102⟩ := oi q100 <;> clear q100
        · refine cw_t rfl hb101 ?_
          refine cw_region ?_
          refine t_rd rfl (rd_move rfl) ?_
          obtain ⟨x103, h104, q105⟩ := ob q102; clear q102
          refine t_rd rfl (rd_sub64 h104 rfl rfl) ?_
          refine t_rd rfl (rd_assign rfl) ?_
          refine rwt_nil ?_
          refine qn_then ?_
          refine cw_region ?_
          refine t_rd rfl (rd_move rfl) ?_
          refine t_rd rfl (rd_move rfl) ?_
          obtain ⟨x106, h107, q108⟩ := ob q105; clear q105
          refine t_rd rfl (rd_add64 h107 rfl rfl) ?_
          refine t_rd rfl (rd_assign rfl) ?_
          refine rwt_nil ?_
          refine qn_block (qn_then ?_)
          refine cw_region ?_
          refine t_rd rfl (rd_move rfl) ?_
          obtain ⟨x109, h110, q111⟩ := ob q108; clear q108
          refine t_rd rfl (rd_add64 h110 rfl rfl) ?_
          refine t_rd rfl (rd_assign rfl) ?_
          refine rwt_nil ?_
          refine qn_then ?_
          refine ⟨_, (os q111), (by repeat (first | exact Sub.nil _ | refine Sub.cons rfl ?_)), (hm87.pick [] (by decide) rfl)⟩
        · refine cw_f rfl hb101 ?_
          refine cw_skip ?_
          refine qn_then ?_
          refine cw_region ?_
          refine t_rd rfl (rd_move rfl) ?_
          refine t_rd rfl (rd_move rfl) ?_
          obtain ⟨x112, h113, q114⟩ := ob q102; clear q102
          refine t_rd rfl (rd_add64 h113 rfl rfl) ?_
          refine t_rd rfl (rd_assign rfl) ?_
          refine rwt_nil ?_
          refine qn_block (qn_then ?_)
          refine cw_region ?_
          refine t_rd rfl (rd_move rfl) ?_
          obtain ⟨x115, h116, q117⟩ := ob q114; clear q114
          refine t_rd rfl (rd_add64 h116 rfl rfl) ?_
          refine t_rd rfl (rd_assign rfl) ?_
          refine rwt_nil ?_
          refine qn_then ?_
          refine ⟨_, (os q117), (by repeat (first | exact Sub.nil _ | refine Sub.cons rfl ?_)), (hm87.pick [] (by decide) rfl)⟩
      · refine cw_f rfl hb96 ?_
        refine cw_skip ?_
        refine qn_then ?_
        refine cw_region ?_
        refine t_rd rfl (rd_move rfl) ?_
        refine t_rd rfl (rd_move rfl) ?_
        obtain ⟨x118, h119, q120⟩ := ob q97; clear q97
        refine t_rd rfl (rd_add64 h119 rfl rfl) ?_
        refine t_rd rfl (rd_assign rfl) ?_
        refine rwt_nil ?_
        refine qn_block (qn_then ?_)
        refine cw_region ?_
        refine t_rd rfl (rd_move rfl) ?_
        obtain ⟨x121, h122, q123⟩ := ob q120; clear q120
        refine t_rd rfl (rd_add64 h122 rfl rfl) ?_
        refine t_rd rfl (rd_assign rfl) ?_
        refine rwt_nil ?_
        refine qn_then ?_
        refine ⟨_, (os q123), (by repeat (first | exact Sub.nil _ | refine Sub.cons rfl ?_)), (hm87.pick [] (by decide) rfl)⟩
    · refine cw_f rfl hb88 ?_
      refine cw_exit ?_
      refine qx_then (qx_then ?_)
      obtain rfl := hr83 _ (os q89)
      exact ⟨rfl, (by repeat (first | exact Sub.nil _ | refine Sub.cons rfl ?_)), (hm87.pick [] (by decide) rfl)⟩
  · skip
    intro e env124 w125 hX126
    obtain ⟨rfl, hs127, hm128⟩ := hX126
    refine qx_same (qn_then ?_)
    refine cw_sub hs127 ?_
    refine cw_seq ?_
    refine cw_region ?_
    refine t_rd rfl (rd_move rfl) ?_
    refine t_rd rfl (rd_assign rfl) ?_
    refine rwt_nil ?_
    refine qn_then ?_
    refine cw_ret ?_
    obtain rfl := os q86
    exact ret1 rfl rfl ⟨rfl, (hm128.pick [] (by decide) rfl)⟩

theorem wagonnumber_check_ok {N : Nat} {a0 : List UInt8} {res : Int} (h : wagonnumber_check N a0 = some res) {w : World}   :
    CallsR Tryz.prog 74 [(Value.string (bs a0))] w (fun u w' => u = (Value.int .i64 res) ∧ Mem w No [] w') := by
  unfold wagonnumber_check at h
  refine fn_ok Tryz.func74 rfl rfl rfl ?_
  have hm0 := Mem.nil w
  refine cw_seq ?_
  refine cw_region ?_
  refine t_rd rfl (rd_assign rfl) ?_
  refine rwt_nil ?_
  refine qn_then ?_
  refine cw_seq ?_
  refine cw_region ?_
  refine t_rd rfl (rd_move rfl) ?_
  obtain ⟨r1, h2, q3⟩ := ob h; clear h
  refine t_ef rfl (ef_call tf95 rfl (wagonnumber_sum_ok h2)) ?_
  rintro _ w5 ⟨e_, hm4⟩
  obtain rfl := e_.symm
  have hm6 := hm0.call hm4
  refine t_rd rfl (rd_rem rfl rfl (by decide)) ?_
  obtain ⟨x7, h8, q9⟩ := ob q3; clear q3
  refine t_rd rfl (rd_sub64 h8 rfl rfl) ?_
  refine t_rd rfl (rd_rem rfl rfl (by decide)) ?_
  refine t_rd rfl (rd_assign rfl) ?_
  refine rwt_nil ?_
  refine qn_then ?_
  refine cw_ret ?_
  obtain rfl := os q9
  exact ret1 rfl rfl ⟨rfl, (hm6.pick [] (by decide) rfl)⟩

theorem wagonnumber_Valid_ok {N : Nat} {a0 : List UInt8} {res : Int} (h : wagonnumber_Valid N a0 = some res) {w : World}   :
    CallsR Tryz.prog 41 [(Value.string (bs a0))] w (fun u w' => u = (Value.int .i64 res) ∧ Mem w No [] w') := by
  unfold wagonnumber_Valid at h
  refine fn_ok Tryz.func41 rfl rfl rfl ?_
  have hm0 := Mem.nil w
  refine cw_seq ?_
  refine cw_region ?_
  refine t_rd rfl (rd_assign rfl) ?_
  refine rwt_nil ?_
  refine qn_then ?_
  refine cw_seq ?_
  refine cw_seq ?_
  refine cw_region ?_
  refine t_rd rfl (rd_move rfl) ?_
  obtain ⟨r1, h2, q3⟩ := ob h; clear h
  refine t_ef rfl (ef_call tf73 rfl (wagonnumber_digits_ok h2)) ?_
  rintro _ w5 ⟨e_, hm4⟩
  obtain rfl := e_.symm
  have hm6 := hm0.call hm4
  refine t_rd rfl (rd_not rfl) ?_
  refine rwt_nil ?_
  refine qn_then ?_
  obtain ⟨hb7, q8⟩ | ⟨hb7, q8⟩ := oi q3 <;> clear q3
  · refine cw_t rfl hb7 ?_
    refine cw_seq ?_
    refine cw_region ?_
    refine t_rd rfl (rd_assign rfl) ?_
    refine rwt_nil ?_
    refine qn_then ?_
    refine cw_ret ?_
    refine qr_then ?_
    obtain rfl := os q8
    exact ret1 rfl rfl ⟨rfl, (hm6.pick [] (by decide) rfl)⟩
  · refine cw_f rfl hb7 ?_
    refine cw_skip ?_
    refine qn_then ?_
    refine cw_seq ?_
    refine cw_seq ?_
    obtain ⟨w25, he27⟩ : ∃ q, q = w5.drew := ⟨_, rfl⟩
    have hm26 := hm6.drew; rw [← he27] at hm26
    refine cw_region_s (fun q => q = w25) (cls [] [6]) mixed ?_
    rintro _ rfl; rw [← he27]
    refine s_rp (i := 0) rfl (by kernel_rfl) rfl (fun _ => (rd_move rfl)) ?_
    obtain ⟨x28, h29, q30⟩ := ob q8; clear q8
    refine s_rp (i := 1) rfl (by kernel_rfl) rfl (fun _ => (rd_sidx tStr9 rfl rfl h29)) ?_
    refine s_rp (i := 2) rfl (by kernel_rfl) rfl (fun _ => (rd_sub_u8 rfl rfl)) ?_
    obtain ⟨x31, h32, q33⟩ := ob q30; clear q30
    refine s_rp (i := 3) rfl (by kernel_rfl) rfl (fun _ => (rd_cv64 tH5 tI3 h32 rfl)) ?_
    refine s_rp (i := 4) rfl (by kernel_rfl) rfl (fun _ => (rd_move rfl)) ?_
    obtain ⟨l34, h35, q36⟩ := ob q33; clear q33
    refine s_rp (i := 5) rfl (by kernel_rfl) rfl (fun _ => (rd_sstH tStr9 rfl rfl h35)) ?_
    obtain ⟨r37, h38, q39⟩ := ob q36; clear q36
    refine s_ef (i := 6) rfl (by kernel_rfl) rfl (ef_call tf74 rfl (wagonnumber_check_ok h38)) (by decide) (fun _ _ _ q => absurd q (by decide)) ?_
    rintro _ w41 ⟨e_, hm40⟩
    obtain rfl := e_.symm
    have hm42 := hm26.call hm40
    refine s_rp (i := 7) rfl (by kernel_rfl) rfl (fun _ => (rd_neq rfl rfl)) ?_
    refine s_nil (by kernel_rfl) ?_
    refine qn_then ?_
    obtain ⟨hb43, q44⟩ | ⟨hb43, q44⟩ := oi q39 <;> clear q39
    · refine cw_t rfl hb43 ?_
      refine cw_seq ?_
      refine cw_region ?_
      refine t_rd rfl (rd_assign rfl) ?_
      refine rwt_nil ?_
      refine qn_then ?_
      refine cw_ret ?_
      refine qr_then ?_
      obtain rfl := os q44
      exact ret1 rfl rfl ⟨rfl, (hm42.pick [] (by decide) rfl)⟩
    · refine cw_f rfl hb43 ?_
      refine cw_skip ?_
      refine qn_then ?_
      refine cw_seq ?_
      refine cw_region ?_
      refine t_rd rfl (rd_assign rfl) ?_
      refine rwt_nil ?_
      refine qn_then ?_
      refine cw_ret ?_
      obtain rfl := os q44
      exact ret1 rfl rfl ⟨rfl, (hm42.pick [] (by decide) rfl)⟩

theorem wagonnumber_Kind_ok {N : Nat} {a0 : List UInt8} {res : Int × Int} (h : wagonnumber_Kind N a0 = some res) {w : World}   :
    CallsR Tryz.prog 15 [(Value.string (bs a0))] w (fun u w' => u = (Value.tuple #[(Value.int .i64 res.1), (Value.int .i64 res.2)]) ∧ Mem w No [] w') := by
  unfold wagonnumber_Kind at h
  refine fn_ok Tryz.func15 rfl rfl rfl ?_
  have hm0 := Mem.nil w
  refine cw_seq ?_
  refine cw_region ?_
  refine t_rd rfl (rd_assign rfl) ?_
  refine t_rd rfl (rd_assign rfl) ?_
  refine rwt_nil ?_
  refine qn_then ?_
  refine cw_seq ?_
  refine cw_seq ?_
  refine cw_region ?_
  refine t_rd rfl (rd_move rfl) ?_
  obtain ⟨r1, h2, q3⟩ := ob h; clear h
  refine t_ef rfl (ef_call tf41 rfl (wagonnumber_Valid_ok h2)) ?_
  rintro _ w5 ⟨e_, hm4⟩
  obtain rfl := e_.symm
  have hm6 := hm0.call hm4
  refine t_rd rfl (rd_assign rfl) ?_
  refine rwt_nil ?_
  refine qn_then ?_
  refine cw_seq ?_
  refine cw_region ?_
  refine t_rd rfl (rd_move rfl) ?_
  refine t_rd rfl (rd_neq rfl rfl) ?_
  refine rwt_nil ?_
  refine qn_then ?_
  obtain ⟨hb7, q8⟩ | ⟨hb7, q8⟩ := oi q3 <;> clear q3
  · refine cw_t rfl hb7 ?_
    refine cw_seq ?_
    refine cw_region ?_
    refine t_rd rfl (rd_move rfl) ?_
    refine t_rd rfl (rd_assign rfl) ?_
    refine t_rd rfl (rd_assign rfl) ?_
    refine rwt_nil ?_
    refine qn_then ?_
    refine cw_ret ?_
    refine qr_then ?_
    obtain rfl := os q8
    exact ret2 rfl rfl rfl ⟨rfl, (hm6.pick [] (by decide) rfl)⟩
  · refine cw_f rfl hb7 ?_
    refine cw_skip ?_
    refine qn_then ?_
    refine cw_seq ?_
    refine cw_seq ?_
    refine cw_region ?_
    refine t_rd rfl (rd_move rfl) ?_
    obtain ⟨x9, h10, q11⟩ := ob q8; clear q8
    refine t_rd rfl (rd_sidx tStr9 rfl rfl h10) ?_
    refine rwt_nil ?_
    refine qn_then ?_
    refine cw_block ?_
    refine cw_seq ?_
    refine cw_seq ?_
    refine cw_region ?_
    refine t_rd rfl (rd_eql rfl rfl) ?_
    refine t_rd rfl (rd_assign rfl) ?_
    refine rwt_nil ?_
    refine qn_then ?_
    obtain ⟨j15, hit16, q17⟩ := ob q11; clear q11
    refine cw_join (X := fun eq envq wq => eq = .normal ∧ Sub [(11, (Value.int .u8 (x9.toNat : Int))), (12, (Value.bool j15))] envq ∧ Mem w No [] wq) ?_ ?_
    · clear q17
      obtain ⟨hb18, q19⟩ | ⟨hb18, q19⟩ := oi hit16 <;> clear hit16
      · refine cw_t rfl hb18 ?_
        refine cw_skip ?_
        obtain rfl := os q19
        exact ⟨rfl, (by repeat (first | exact Sub.nil _ | refine Sub.cons rfl ?_)), (hm6.pick [] (by decide) rfl)⟩
      · refine cw_f rfl hb18 ?_
        refine cw_region ?_
        refine t_rd rfl (rd_eql rfl rfl) ?_
        refine t_rd rfl (rd_assign rfl) ?_
        refine rwt_nil ?_
        obtain rfl := os q19
        exact ⟨rfl, (by repeat (first | exact Sub.nil _ | refine Sub.cons rfl ?_)), (hm6.pick [] (by decide) rfl)⟩
    · clear hit16
      intro e env20 w21 hX22
      obtain ⟨rfl, hs23, hm24⟩ := hX22
      refine qn_then ?_
      refine cw_sub hs23 ?_
      obtain ⟨hb25, q26⟩ | ⟨hb25, q26⟩ := oi q17 <;> clear q17
      · refine cw_t rfl hb25 ?_
        refine cw_seq ?_
        refine cw_region ?_
        refine t_rd rfl (rd_assign rfl) ?_
        refine t_rd rfl (rd_assign rfl) ?_
        refine rwt_nil ?_
        refine qn_then ?_
        refine cw_ret ?_
        refine qr_block (qr_then ?_)
        obtain rfl := os q26
        exact ret2 rfl rfl rfl ⟨rfl, (hm24.pick [] (by decide) rfl)⟩
      · refine cw_f rfl hb25 ?_
        refine cw_seq ?_
        refine cw_seq ?_
        refine cw_region ?_
        refine t_rd rfl (rd_eql rfl rfl) ?_
        refine t_rd rfl (rd_assign rfl) ?_
        refine rwt_nil ?_
        refine qn_then ?_
        obtain ⟨j30, hit31, q32⟩ := ob q26; clear q26
        refine cw_join (X := fun eq envq wq => eq = .normal ∧ Sub [(11, (Value.int .u8 (x9.toNat : Int))), (15, (Value.bool j30))] envq ∧ Mem w No [] wq) ?_ ?_
        · clear q32
          obtain ⟨hb33, q34⟩ | ⟨hb33, q34⟩ := oi hit31 <;> clear hit31
          · refine cw_t rfl hb33 ?_
            refine cw_skip ?_
            obtain rfl := os q34
            exact ⟨rfl, (by repeat (first | exact Sub.nil _ | refine Sub.cons rfl ?_)), (hm24.pick [] (by decide) rfl)⟩
          · refine cw_f rfl hb33 ?_
            refine cw_region ?_
            refine t_rd rfl (rd_eql rfl rfl) ?_
            refine t_rd rfl (rd_assign rfl) ?_
            refine rwt_nil ?_
            obtain rfl := os q34
            exact ⟨rfl, (by repeat (first | exact Sub.nil _ | refine Sub.cons rfl ?_)), (hm24.pick [] (by decide) rfl)⟩
        · clear hit31
          intro e env35 w36 hX37
          obtain ⟨rfl, hs38, hm39⟩ := hX37
          refine qn_then ?_
          refine cw_sub hs38 ?_
          obtain ⟨hb40, q41⟩ | ⟨hb40, q41⟩ := oi q32 <;> clear q32
          · refine cw_t rfl hb40 ?_
            refine cw_seq ?_
            refine cw_region ?_
            refine t_rd rfl (rd_assign rfl) ?_
            refine t_rd rfl (rd_assign rfl) ?_
            refine rwt_nil ?_
            refine qn_then ?_
            refine cw_ret ?_
            refine qr_block (qr_then ?_)
            obtain rfl := os q41
            exact ret2 rfl rfl rfl ⟨rfl, (hm39.pick [] (by decide) rfl)⟩
          · refine cw_f rfl hb40 ?_
            refine cw_seq ?_
            refine cw_region ?_
            refine t_rd rfl (rd_eql rfl rfl) ?_
            refine t_rd rfl (rd_assign rfl) ?_
            refine rwt_nil ?_
            refine qn_then ?_
            obtain ⟨hb42, q43⟩ | ⟨hb42, q43⟩ := oi q41 <;> clear q41
            · refine cw_t rfl hb42 ?_
              refine cw_seq ?_
              refine cw_region ?_
              refine t_rd rfl (rd_assign rfl) ?_
              refine t_rd rfl (rd_assign rfl) ?_
              refine rwt_nil ?_
              refine qn_then ?_
              refine cw_ret ?_
              refine qr_block (qr_then ?_)
              obtain rfl := os q43
              exact ret2 rfl rfl rfl ⟨rfl, (hm39.pick [] (by decide) rfl)⟩
            · refine cw_f rfl hb42 ?_
              refine cw_skip ?_
              refine qn_block (qn_then ?_)
              refine cw_seq ?_
              refine cw_region ?_
              refine t_rd rfl (rd_assign rfl) ?_
              refine t_rd rfl (rd_assign rfl) ?_
              refine rwt_nil ?_
              refine qn_then ?_
              refine cw_ret ?_
              obtain rfl := os q43
              exact ret2 rfl rfl rfl ⟨rfl, (hm39.pick [] (by decide) rfl)⟩

theorem reconcile_long_ok {N : Nat} {a0 : List Int} {a1 : List Int} {res : Bool} (h : reconcile_long N a0 a1 = some res) {w : World} {v0 : Value} {v1 : Value} (hv0 : Sl (Old w No) w v0 a0) (hv1 : Sl (Old w No) w v1 a1) :
    CallsR Tryz.prog 42 [v0, v1] w (fun u w' => u = (Value.bool res) ∧ Mem w No [] w') := by
  unfold reconcile_long at h
  refine fn_ok Tryz.func42 rfl rfl rfl ?_
  have hm0 := Mem.nil w
  refine cw_seq ?_
  refine cw_region ?_
  refine t_rd rfl (rd_assign rfl) ?_
  refine rwt_nil ?_
  refine qn_then ?_
  refine cw_seq ?_
  refine cw_region ?_
  refine t_rd rfl (rd_move rfl) ?_
  refine t_rd rfl (rd_lenS tS22 rfl (hv0.of_old hm0)) ?_
  refine t_rd rfl (rd_gtr rfl rfl) ?_
  refine t_rd rfl (rd_move rfl) ?_
  refine t_rdg rfl rfl rfl rfl (gv_f _) (fun hg1 => (rd_move rfl)) ?_
  refine t_rdg rfl rfl rfl rfl (gv_f _) (fun hg2 => (rd_lenS tS22 (gvx rfl hg2) (hv1.of_old hm0))) ?_
  refine t_rdg rfl rfl rfl rfl (gv_f _) (fun hg3 => (rd_gtr (gvx rfl hg3) rfl)) ?_
  refine t_rd rfl (rd_or rfl (fun hc4 => (gvx rfl (bnotIt hc4)))) ?_
  refine t_rd rfl (rd_assign rfl) ?_
  refine rwt_nil ?_
  refine qn_then ?_
  refine cw_ret ?_
  obtain rfl := os h
  exact ret1 rfl rfl ⟨rfl, (hm0.pick [] (by decide) rfl)⟩

theorem reconcile_table_ok {N : Nat} {a0 : List Int} {a1 : List Int} {a2 : Int} {res : List (List Int)} (h : reconcile_table N a0 a1 a2 = some res) {w : World} {v0 : Value} {v1 : Value} (hv0 : Sl (Old w No) w v0 a0) (hv1 : Sl (Old w No) w v1 a1) :
    CallsR Tryz.prog 43 [v0, v1, (Value.int .i64 a2)] w (fun u w' => ∃ (zy0 : List Hdr) (y1 : Value), u = y1 ∧ Mem w No [ownL 22 y1 (zy0 : List Hdr), rowsC 3 zy0 (res : List (List Int)) none] w') := by
  unfold reconcile_table at h
  refine fn_ok Tryz.func43 rfl rfl rfl ?_
  have hm0 := Mem.nil w
  refine cw_seq ?_
  refine cw_region ?_
  refine t_rd rfl (rd_assign rfl) ?_
  refine rwt_nil ?_
  refine qn_then ?_
  refine cw_seq ?_
  refine cw_region ?_
  refine t_rd rfl (rd_move rfl) ?_
  refine t_rd rfl (rd_lenS tS22 rfl (hv0.of_old hm0)) ?_
  obtain ⟨x1, h2, q3⟩ := ob h; clear h
  refine t_rd rfl (rd_add64 h2 rfl rfl) ?_
  obtain ⟨l4, h5, q6⟩ := ob q3; clear q3
  refine t_ef rfl (ef_make (z := nilH) hm0 tS41 tE22 rfl rfl rfl (mkL_h h5)) ?_
  intro v7 w9 hm8
  have hm10 := hm8.rowsRep (α := Int) 3 h5
  refine t_rd rfl (rd_assign rfl) ?_
  refine rwt_nil ?_
  refine qn_then ?_
  refine cw_seq ?_
  refine cw_seq ?_
  refine cw_region ?_
  refine t_rd rfl (rd_move rfl) ?_
  refine t_rd rfl (rd_lenS tS41 rfl ((Nl.mk (hm10.sl_call 1 rfl) (hm10.rows_call 0 rfl)).sl)) ?_
  refine t_rd rfl (rd_move rfl) ?_
  refine rwt_nil ?_
  refine qn_then ?_
  refine cw_block ?_
  obtain ⟨r232, hit233, q234⟩ := ob q6; clear q6
  refine cw_loop2 (I := fun q envq wq => ∃ (v224 : Value) (zs225 : List Hdr), Sub [(1, v1), (2, (Value.int .i64 a2)), (7, v224), (15, (Value.int .i64 (List.length l4 : Int))), (16, (Value.int .i64 q.1))] envq ∧ Mem w No [rowsC 3 zs225 (q.2 : List (List Int)) none, ownL 22 v224 (zs225 : List Hdr)] wq) (X := fun eq envq wq => eq = .exit 0 ∧ ∃ (v220 : Value) (zs221 : List Hdr), Sub [(7, v220)] envq ∧ Mem w No [rowsC 3 zs221 (r232 : List (List Int)) none, ownL 22 v220 (zs221 : List Hdr)] wq) hit233 ⟨v7, (List.replicate (Int.toNat x1) nilH), (by repeat (first | exact Sub.nil _ | refine Sub.cons rfl ?_)), (hm10.pick [0, 1] (by decide) rfl)⟩ ?_ ?_
  · rintro ⟨i222, l223⟩ x227 env228 w229 hf230 hr231 ⟨v224, zs225, hs_, hm_⟩
    have hs_ : Sub [(1, v1), (2, (Value.int .i64 a2)), (7, v224), (15, (Value.int .i64 (List.length l4 : Int))), (16, (Value.int .i64 i222))] env228 := hs_
    have hm235 : Mem w No [rowsC 3 zs225 (l223 : List (List Int)) none, ownL 22 v224 (zs225 : List Hdr)] w229 := hm_
    refine cw_sub hs_ ?_
    clear hs_ hm_ q234
    have h : reconcile_table_l3 N a1 a2 l4 i222 l223 = some x227 := hf230
    clear hf230
    refine cw_seq ?_
    refine cw_region ?_
    refine t_rd rfl (rd_lss rfl rfl) ?_
    refine rwt_nil ?_
    refine qn_then ?_
    refine cw_seq ?_
    obtain ⟨hb236, q237⟩ | ⟨hb236, q237⟩ := oi h <;> clear h
    · refine cw_t rfl hb236 ?_
      refine cw_skip ?_
      refine qn_then ?_
      refine cw_seq ?_
      refine cw_block ?_
      refine cw_seq ?_
      refine cw_region ?_
      refine t_rd rfl (rd_move rfl) ?_
      refine t_rd rfl (rd_assign rfl) ?_
      refine rwt_nil ?_
      refine qn_then ?_
      refine cw_seq ?_
      refine cw_region ?_
      refine t_rd rfl (rd_move rfl) ?_
      refine t_rd rfl (rd_move rfl) ?_
      refine t_rd rfl (rd_move rfl) ?_
      refine t_rd rfl (rd_lenS tS22 rfl (hv1.of_old hm235)) ?_
      obtain ⟨x238, h239, q240⟩ := ob q237; clear q237
      refine t_rd rfl (rd_add64 h239 rfl rfl) ?_
      obtain ⟨l241, h242, q243⟩ := ob q240; clear q240
      refine t_ef rfl (ef_make hm235 tS22 tE3 rfl rfl rfl h242) ?_
      intro v244 w246 hm245
      obtain ⟨x247, h248, q249⟩ := ob q243; clear q243
      refine t_rd rfl (rd_index tS41 rfl rfl ((Nl.mk (hm245.sl_call 2 rfl) (hm245.rows_call 1 rfl)).sl) h248) ?_
      obtain ⟨zd250, ez251⟩ : ∃ z : Hdr, z.1 = v244 := ⟨⟨v244, sl_one (hm245.sl 0 rfl)⟩, rfl⟩
      obtain ⟨zd252, hz253⟩ := (Nl.mk (hm245.sl_call 2 rfl) (hm245.rows_call 1 rfl)).row h248
      have hm254 := hm245.pick [1, 0, 2] (L' := [rowsC 3 zs225 (l223 : List (List Int)) none, ownL 3 v244 (l241 : List Int), ownL 22 v224 (zs225 : List Hdr)]) (by decide) rfl
      have hm255 := hm254.hole (Int.toNat i222)
      refine t_ef0 (ef_stl (k := 2) (off := 0) (x' := zd250) hm255 tO22 rfl rfl (sl_one (hm255.sl 1 rfl)) rfl hz253 (by show [v244] = [zd250.1]; rw [ez251]) rfl) ?_
      intro _ w257 hm256
      have hm258 := hm256.fill ez251
      refine rwt_nil ?_
      refine qn_then ?_
      refine cw_seq ?_
      refine cw_region ?_
      refine t_rd rfl (rd_move rfl) ?_
      refine t_rd rfl (rd_move rfl) ?_
      obtain ⟨x259, h260, q261⟩ := ob q249; clear q249
      refine t_rd rfl (rd_index tS41 rfl rfl ((Nl.mk (hm258.sl_call 1 rfl) (hm258.rows_call 0 rfl)).sl) h260) ?_
      obtain ⟨zd262, hz263⟩ := (Nl.mk (hm258.sl_call 1 rfl) (hm258.rows_call 0 rfl)).row h260
      refine t_rd rfl (rd_ld1 tO22 rfl ((Nl.mk (hm258.sl_call 1 rfl) (hm258.rows_call 0 rfl)).cells hz263) (off := 0) rfl) ?_
      refine t_rd rfl (rd_lenS tS22 rfl ((Nl.mk (hm258.sl_call 1 rfl) (hm258.rows_call 0 rfl)).get hz263 h260)) ?_
      refine t_rd rfl (rd_move rfl) ?_
      refine rwt_nil ?_
      refine qn_then ?_
      refine cw_block ?_
      obtain ⟨r311, hit312, q313⟩ := ob q261; clear q261
      refine cw_loop2 (I := fun q envq wq => ∃ (v303 : Value) (zs304 : List Hdr), Sub [(1, v1), (2, (Value.int .i64 a2)), (7, v303), (8, (Value.int .i64 i222)), (15, (Value.int .i64 (List.length l4 : Int))), (16, (Value.int .i64 i222)), (30, (Value.int .i64 (List.length x259 : Int))), (31, (Value.int .i64 q.1))] envq ∧ Mem w No [rowsC 3 zs304 (q.2 : List (List Int)) none, ownL 22 v303 (zs304 : List Hdr)] wq) (X := fun eq envq wq => eq = .exit 2 ∧ ∃ (v299 : Value) (zs300 : List Hdr), Sub [(1, v1), (2, (Value.int .i64 a2)), (7, v299), (15, (Value.int .i64 (List.length l4 : Int))), (16, (Value.int .i64 i222))] envq ∧ Mem w No [rowsC 3 zs300 (r311 : List (List Int)) none, ownL 22 v299 (zs300 : List Hdr)] wq) hit312 ⟨v224, (List.set zs225 (Int.toNat i222) zd250), (by repeat (first | exact Sub.nil _ | refine Sub.cons rfl ?_)), (hm258.pick [0, 1] (by decide) rfl)⟩ ?_ ?_
      · rintro ⟨i301, l302⟩ x306 env307 w308 hf309 hr310 ⟨v303, zs304, hs_, hm_⟩
        have hs_ : Sub [(1, v1), (2, (Value.int .i64 a2)), (7, v303), (8, (Value.int .i64 i222)), (15, (Value.int .i64 (List.length l4 : Int))), (16, (Value.int .i64 i222)), (30, (Value.int .i64 (List.length x259 : Int))), (31, (Value.int .i64 i301))] env307 := hs_
        have hm314 : Mem w No [rowsC 3 zs304 (l302 : List (List Int)) none, ownL 22 v303 (zs304 : List Hdr)] w308 := hm_
        refine cw_sub hs_ ?_
        clear hs_ hm_ q313
        have h : reconcile_table_l4 N a2 i222 x259 i301 l302 = some x306 := hf309
        clear hf309
        refine cw_seq ?_
        refine cw_region ?_
        refine t_rd rfl (rd_lss rfl rfl) ?_
        refine rwt_nil ?_
        refine qn_then ?_
        refine cw_seq ?_
        obtain ⟨hb315, q316⟩ | ⟨hb315, q316⟩ := oi h <;> clear h
        · refine cw_t rfl hb315 ?_
          refine cw_skip ?_
          refine qn_then ?_
          refine cw_seq ?_
          refine cw_block ?_
          refine cw_seq ?_
          refine cw_region ?_
          refine t_rd rfl (rd_move rfl) ?_
          refine t_rd rfl (rd_assign rfl) ?_
          refine rwt_nil ?_
          refine qn_then ?_
          refine cw_region ?_
          refine t_rd rfl (rd_move rfl) ?_
          refine t_rd rfl (rd_move rfl) ?_
          obtain ⟨x317, h318, q319⟩ := ob q316; clear q316
          refine t_rd rfl (rd_index tS41 rfl rfl ((Nl.mk (hm314.sl_call 1 rfl) (hm314.rows_call 0 rfl)).sl) h318) ?_
          obtain ⟨zd320, hz321⟩ := (Nl.mk (hm314.sl_call 1 rfl) (hm314.rows_call 0 rfl)).row h318
          refine t_rd rfl (rd_ld1 tO22 rfl ((Nl.mk (hm314.sl_call 1 rfl) (hm314.rows_call 0 rfl)).cells hz321) (off := 0) rfl) ?_
          refine t_rd rfl (rd_move rfl) ?_
          refine t_rd rfl (rd_move rfl) ?_
          obtain ⟨x322, h323, q324⟩ := ob q319; clear q319
          refine t_rd rfl (rd_index tS22 rfl rfl ((Nl.mk (hm314.sl_call 1 rfl) (hm314.rows_call 0 rfl)).get hz321 h318) h323) ?_
          refine t_ef0 (ef_strow (off := 0) (x' := a2) hm314 tO3 hz321 h318 rfl rfl rfl h323 rfl rfl) ?_
          intro _ w326 hm325
          refine rwt_nil ?_
          refine qn_block (qn_then ?_)
          refine cw_region ?_
          obtain ⟨x327, h328, q329⟩ := ob q324; clear q324
          refine t_rd rfl (rd_add64 h328 rfl rfl) ?_
          refine t_rd rfl (rd_move rfl) ?_
          refine rwt_nil ?_
          refine qn_then ?_
          refine ⟨_, (os q329), v303, zs304, (by repeat (first | exact Sub.nil _ | refine Sub.cons rfl ?_)), (hm325.pick [0, 1] (by decide) rfl)⟩
        · refine cw_f rfl hb315 ?_
          refine cw_exit ?_
          refine qx_then (qx_then ?_)
          obtain rfl := hr310 _ (os q316)
          exact ⟨rfl, v303, zs304, (by repeat (first | exact Sub.nil _ | refine Sub.cons rfl ?_)), (hm314.pick [0, 1] (by decide) rfl)⟩
      · skip
        intro e env330 w331 hX332
        obtain ⟨rfl, v299, zs300, hs333, hm334⟩ := hX332
        refine qx_same (qn_block (qn_then ?_))
        refine cw_sub hs333 ?_
        refine cw_region ?_
        obtain ⟨x335, h336, q337⟩ := ob q313; clear q313
        refine t_rd rfl (rd_add64 h336 rfl rfl) ?_
        refine t_rd rfl (rd_move rfl) ?_
        refine rwt_nil ?_
        refine qn_then ?_
        refine ⟨_, (os q337), v299, zs300, (by repeat (first | exact Sub.nil _ | refine Sub.cons rfl ?_)), (hm334.pick [0, 1] (by decide) rfl)⟩
    · refine cw_f rfl hb236 ?_
      refine cw_exit ?_
      refine qx_then (qx_then ?_)
      obtain rfl := hr231 _ (os q237)
      exact ⟨rfl, v224, zs225, (by repeat (first | exact Sub.nil _ | refine Sub.cons rfl ?_)), (hm235.pick [0, 1] (by decide) rfl)⟩
  · skip
    intro e env338 w339 hX340
    obtain ⟨rfl, v220, zs221, hs341, hm342⟩ := hX340
    refine qx_same (qn_then ?_)
    refine cw_sub hs341 ?_
    refine cw_seq ?_
    refine cw_region ?_
    refine t_rd rfl (rd_move rfl) ?_
    refine t_rd rfl (rd_assign rfl) ?_
    refine rwt_nil ?_
    refine qn_then ?_
    refine cw_ret ?_
    obtain rfl := os q234
    exact ret1 rfl rfl ⟨zs221, v220, rfl, (hm342.pick [1, 0] (by decide) rfl)⟩

theorem reconcile_step_ok {N : Nat} {a0 : List Int} {a1 : List Int} {a2 : Int} {a3 : Int} {a4 : Int} {res : Int × Int × Bool} (h : reconcile_step N a0 a1 a2 a3 a4 = some res) {w : World} {v0 : Value} {v1 : Value} (hv0 : Sl (Old w No) w v0 a0) (hv1 : Sl (Old w No) w v1 a1) :
    CallsR Tryz.prog 44 [v0, v1, (Value.int .i64 a2), (Value.int .i64 a3), (Value.int .i64 a4)] w (fun u w' => u = (Value.tuple #[(Value.int .i64 res.1), (Value.int .i64 res.2.1), (Value.bool res.2.2)]) ∧ Mem w No [] w') := by
  unfold reconcile_step at h
  refine fn_ok Tryz.func44 rfl rfl rfl ?_
  have hm0 := Mem.nil w
  refine cw_seq ?_
  refine cw_region ?_
  refine t_rd rfl (rd_assign rfl) ?_
  refine t_rd rfl (rd_assign rfl) ?_
  refine t_rd rfl (rd_assign rfl) ?_
  refine rwt_nil ?_
  refine qn_then ?_
  refine cw_seq ?_
  refine cw_region ?_
  refine t_rd rfl (rd_move rfl) ?_
  refine t_rd rfl (rd_move rfl) ?_
  refine t_rd rfl (rd_lenS tS22 rfl (hv0.of_old hm0)) ?_
  refine t_rd rfl (rd_lss rfl rfl) ?_
  refine t_rd rfl (rd_move rfl) ?_
  refine t_rdg rfl rfl rfl rfl (gv_t _) (fun hg1 => (rd_move rfl)) ?_
  refine t_rdg rfl rfl rfl rfl (gv_t _) (fun hg2 => (rd_move rfl)) ?_
  refine t_rdg rfl rfl rfl rfl (gv_t _) (fun hg3 => (rd_lenS tS22 (gvx rfl hg3) (hv1.of_old hm0))) ?_
  refine t_rdg rfl rfl rfl rfl (gv_t _) (fun hg4 => (rd_lss (gvx rfl hg4) (gvx rfl hg4))) ?_
  refine t_rd rfl (rd_and rfl (fun hc5 => (gvx rfl hc5))) ?_
  refine t_rd rfl (rd_assign rfl) ?_
  refine rwt_nil ?_
  refine qn_then ?_
  refine cw_seq ?_
  refine cw_seq ?_
  refine cw_region ?_
  refine t_rd rfl (rd_move rfl) ?_
  refine rwt_nil ?_
  refine qn_then ?_
  refine cw_block ?_
  refine cw_seq ?_
  refine cw_region ?_
  refine t_rd rfl (rd_eql rfl rfl) ?_
  refine t_rd rfl (rd_assign rfl) ?_
  refine rwt_nil ?_
  refine qn_then ?_
  obtain ⟨hb6, q7⟩ | ⟨hb6, q7⟩ := oi h <;> clear h
  · refine cw_t rfl hb6 ?_
    refine cw_seq ?_
    obtain ⟨w31, he33⟩ : ∃ q, q = w.drew := ⟨_, rfl⟩
    have hm32 := hm0.drew; rw [← he33] at hm32
    refine cw_region_s (fun q => q = w31) (cls [] []) mixed ?_
    rintro _ rfl; rw [← he33]
    refine s_rp (i := 0) rfl (by kernel_rfl) rfl (fun _ => (rd_move rfl)) ?_
    obtain ⟨x34, h35, q36⟩ := ob q7; clear q7
    refine s_rp (i := 1) rfl (by kernel_rfl) rfl (fun _ => (rd_add64 h35 rfl rfl)) ?_
    refine s_rp (i := 2) rfl (by kernel_rfl) rfl (fun _ => (rd_move rfl)) ?_
    obtain ⟨x37, h38, q39⟩ := ob q36; clear q36
    refine s_rp (i := 3) rfl (by kernel_rfl) rfl (fun _ => (rd_add64 h38 rfl rfl)) ?_
    refine s_rp (i := 4) rfl (by kernel_rfl) rfl (fun _ => (rd_move rfl)) ?_
    refine s_rp (i := 5) rfl (by kernel_rfl) rfl (fun _ => (rd_move rfl)) ?_
    refine s_rpg (i := 6) rfl (by kernel_rfl) rfl rfl rfl rfl (gv_t _) (fun hg40 _ => (rd_move rfl)) ?_
    refine s_rpg (i := 7) rfl (by kernel_rfl) rfl rfl rfl rfl (gv_t _) (fun hg41 _ => (rd_move rfl)) ?_
    obtain ⟨x43, h44, q45⟩ := ob q39; clear q39
    refine s_rpg (i := 8) rfl (by kernel_rfl) rfl rfl rfl rfl (gv_t _) (fun hg42 _ => (rd_index tS22 (gvx rfl hg42) (gvx rfl hg42) (hv0.of_old hm32) (gO_t h44 hg42))) ?_
    refine s_rdg (i := 9) rfl (by kernel_rfl) rfl rfl rfl rfl (gv_t _) (fun hg46 => (fun _ hS => by rw [hS]; exact (rd_ld1 tO3 (gvx rfl hg46) ((hv0.of_old hm32).cells (gO_t h44 hg46)) (off := 0) rfl))) rfl ?_
    refine s_rpg (i := 10) rfl (by kernel_rfl) rfl rfl rfl rfl (gv_t _) (fun hg47 _ => (rd_move rfl)) ?_
    refine s_rpg (i := 11) rfl (by kernel_rfl) rfl rfl rfl rfl (gv_t _) (fun hg48 _ => (rd_move rfl)) ?_
    obtain ⟨x50, h51, q52⟩ := ob q45; clear q45
    refine s_rpg (i := 12) rfl (by kernel_rfl) rfl rfl rfl rfl (gv_t _) (fun hg49 _ => (rd_index tS22 (gvx rfl hg49) (gvx rfl hg49) (hv1.of_old hm32) (gO_t h51 hg49))) ?_
    refine s_rdg (i := 13) rfl (by kernel_rfl) rfl rfl rfl rfl (gv_t _) (fun hg53 => (fun _ hS => by rw [hS]; exact (rd_ld1 tO3 (gvx rfl hg53) ((hv1.of_old hm32).cells (gO_t h51 hg53)) (off := 0) rfl))) rfl ?_
    refine s_rpg (i := 14) rfl (by kernel_rfl) rfl rfl rfl rfl (gv_t _) (fun hg54 _ => (rd_eql (gvx rfl hg54) (gvx rfl hg54))) ?_
    refine s_rp (i := 15) rfl (by kernel_rfl) rfl (fun _ => (rd_and rfl (fun hc55 => (gvx rfl hc55)))) ?_
    refine s_rp (i := 16) rfl (by kernel_rfl) rfl (fun _ => (rd_assign rfl)) ?_
    refine s_rp (i := 17) rfl (by kernel_rfl) rfl (fun _ => (rd_assign rfl)) ?_
    refine s_rp (i := 18) rfl (by kernel_rfl) rfl (fun _ => (rd_assign rfl)) ?_
    refine s_nil (by kernel_rfl) ?_
    refine qn_then ?_
    refine cw_ret ?_
    refine qr_block (qr_then ?_)
    obtain rfl := os q52
    exact ret3 rfl rfl rfl rfl ⟨rfl, (hm32.pick [] (by decide) rfl)⟩
  · refine cw_f rfl hb6 ?_
    refine cw_seq ?_
    refine cw_region ?_
    refine t_rd rfl (rd_eql rfl rfl) ?_
    refine t_rd rfl (rd_assign rfl) ?_
    refine rwt_nil ?_
    refine qn_then ?_
    obtain ⟨hb56, q57⟩ | ⟨hb56, q57⟩ := oi q7 <;> clear q7
    · refine cw_t rfl hb56 ?_
      refine cw_seq ?_
      obtain ⟨w81, he83⟩ : ∃ q, q = w.drew := ⟨_, rfl⟩
      have hm82 := hm0.drew; rw [← he83] at hm82
      refine cw_region_s (fun q => q = w81) (cls [] []) mixed ?_
      rintro _ rfl; rw [← he83]
      refine s_rp (i := 0) rfl (by kernel_rfl) rfl (fun _ => (rd_move rfl)) ?_
      obtain ⟨x84, h85, q86⟩ := ob q57; clear q57
      refine s_rp (i := 1) rfl (by kernel_rfl) rfl (fun _ => (rd_add64 h85 rfl rfl)) ?_
      refine s_rp (i := 2) rfl (by kernel_rfl) rfl (fun _ => (rd_move rfl)) ?_
      obtain ⟨x87, h88, q89⟩ := ob q86; clear q86
      refine s_rp (i := 3) rfl (by kernel_rfl) rfl (fun _ => (rd_add64 h88 rfl rfl)) ?_
      refine s_rp (i := 4) rfl (by kernel_rfl) rfl (fun _ => (rd_move rfl)) ?_
      refine s_rp (i := 5) rfl (by kernel_rfl) rfl (fun _ => (rd_move rfl)) ?_
      refine s_rpg (i := 6) rfl (by kernel_rfl) rfl rfl rfl rfl (gv_t _) (fun hg90 _ => (rd_move rfl)) ?_
      refine s_rpg (i := 7) rfl (by kernel_rfl) rfl rfl rfl rfl (gv_t _) (fun hg91 _ => (rd_move rfl)) ?_
      obtain ⟨x93, h94, q95⟩ := ob q89; clear q89
      refine s_rpg (i := 8) rfl (by kernel_rfl) rfl rfl rfl rfl (gv_t _) (fun hg92 _ => (rd_index tS22 (gvx rfl hg92) (gvx rfl hg92) (hv0.of_old hm82) (gO_t h94 hg92))) ?_
      refine s_rdg (i := 9) rfl (by kernel_rfl) rfl rfl rfl rfl (gv_t _) (fun hg96 => (fun _ hS => by rw [hS]; exact (rd_ld1 tO3 (gvx rfl hg96) ((hv0.of_old hm82).cells (gO_t h94 hg96)) (off := 0) rfl))) rfl ?_
      refine s_rpg (i := 10) rfl (by kernel_rfl) rfl rfl rfl rfl (gv_t _) (fun hg97 _ => (rd_move rfl)) ?_
      refine s_rpg (i := 11) rfl (by kernel_rfl) rfl rfl rfl rfl (gv_t _) (fun hg98 _ => (rd_move rfl)) ?_
      obtain ⟨x100, h101, q102⟩ := ob q95; clear q95
      refine s_rpg (i := 12) rfl (by kernel_rfl) rfl rfl rfl rfl (gv_t _) (fun hg99 _ => (rd_index tS22 (gvx rfl hg99) (gvx rfl hg99) (hv1.of_old hm82) (gO_t h101 hg99))) ?_
      refine s_rdg (i := 13) rfl (by kernel_rfl) rfl rfl rfl rfl (gv_t _) (fun hg103 => (fun _ hS => by rw [hS]; exact (rd_ld1 tO3 (gvx rfl hg103) ((hv1.of_old hm82).cells (gO_t h101 hg103)) (off := 0) rfl))) rfl ?_
      refine s_rpg (i := 14) rfl (by kernel_rfl) rfl rfl rfl rfl (gv_t _) (fun hg104 _ => (rd_neq (gvx rfl hg104) (gvx rfl hg104))) ?_
      refine s_rp (i := 15) rfl (by kernel_rfl) rfl (fun _ => (rd_and rfl (fun hc105 => (gvx rfl hc105)))) ?_
      refine s_rp (i := 16) rfl (by kernel_rfl) rfl (fun _ => (rd_assign rfl)) ?_
      refine s_rp (i := 17) rfl (by kernel_rfl) rfl (fun _ => (rd_assign rfl)) ?_
      refine s_rp (i := 18) rfl (by kernel_rfl) rfl (fun _ => (rd_assign rfl)) ?_
      refine s_nil (by kernel_rfl) ?_
      refine qn_then ?_
      refine cw_ret ?_
      refine qr_block (qr_then ?_)
      obtain rfl := os q102
      exact ret3 rfl rfl rfl rfl ⟨rfl, (hm82.pick [] (by decide) rfl)⟩
    · refine cw_f rfl hb56 ?_
      refine cw_seq ?_
      refine cw_region ?_
      refine t_rd rfl (rd_eql rfl rfl) ?_
      refine t_rd rfl (rd_assign rfl) ?_
      refine rwt_nil ?_
      refine qn_then ?_
      obtain ⟨hb106, q107⟩ | ⟨hb106, q107⟩ := oi q57 <;> clear q57
      · refine cw_t rfl hb106 ?_
        refine cw_seq ?_
        refine cw_region ?_
        refine t_rd rfl (rd_move rfl) ?_
        obtain ⟨x108, h109, q110⟩ := ob q107; clear q107
        refine t_rd rfl (rd_add64 h109 rfl rfl) ?_
        refine t_rd rfl (rd_move rfl) ?_
        refine t_rd rfl (rd_move rfl) ?_
        refine t_rd rfl (rd_move rfl) ?_
        refine t_rd rfl (rd_lenS tS22 rfl (hv0.of_old hm0)) ?_
        refine t_rd rfl (rd_lss rfl rfl) ?_
        refine t_rd rfl (rd_assign rfl) ?_
        refine t_rd rfl (rd_assign rfl) ?_
        refine t_rd rfl (rd_assign rfl) ?_
        refine rwt_nil ?_
        refine qn_then ?_
        refine cw_ret ?_
        refine qr_block (qr_then ?_)
        obtain rfl := os q110
        exact ret3 rfl rfl rfl rfl ⟨rfl, (hm0.pick [] (by decide) rfl)⟩
      · refine cw_f rfl hb106 ?_
        refine cw_seq ?_
        refine cw_region ?_
        refine t_rd rfl (rd_eql rfl rfl) ?_
        refine t_rd rfl (rd_assign rfl) ?_
        refine rwt_nil ?_
        refine qn_then ?_
        obtain ⟨hb111, q112⟩ | ⟨hb111, q112⟩ := oi q107 <;> clear q107
        · refine cw_t rfl hb111 ?_
          refine cw_seq ?_
          refine cw_region ?_
          refine t_rd rfl (rd_move rfl) ?_
          refine t_rd rfl (rd_move rfl) ?_
          obtain ⟨x113, h114, q115⟩ := ob q112; clear q112
          refine t_rd rfl (rd_add64 h114 rfl rfl) ?_
          refine t_rd rfl (rd_move rfl) ?_
          refine t_rd rfl (rd_move rfl) ?_
          refine t_rd rfl (rd_lenS tS22 rfl (hv1.of_old hm0)) ?_
          refine t_rd rfl (rd_lss rfl rfl) ?_
          refine t_rd rfl (rd_assign rfl) ?_
          refine t_rd rfl (rd_assign rfl) ?_
          refine t_rd rfl (rd_assign rfl) ?_
          refine rwt_nil ?_
          refine qn_then ?_
          refine cw_ret ?_
          refine qr_block (qr_then ?_)
          obtain rfl := os q115
          exact ret3 rfl rfl rfl rfl ⟨rfl, (hm0.pick [] (by decide) rfl)⟩
        · refine cw_f rfl hb111 ?_
          refine cw_seq ?_
          refine cw_region ?_
          refine t_rd rfl (rd_eql rfl rfl) ?_
          refine t_rd rfl (rd_assign rfl) ?_
          refine rwt_nil ?_
          refine qn_then ?_
          obtain ⟨hb116, q117⟩ | ⟨hb116, q117⟩ := oi q112 <;> clear q112
          · refine cw_t rfl hb116 ?_
            refine cw_seq ?_
            obtain ⟨w191, he193⟩ : ∃ q, q = w.drew := ⟨_, rfl⟩
            have hm192 := hm0.drew; rw [← he193] at hm192
            refine cw_region_s (fun q => q = w191) (cls [] []) mixed ?_
            rintro _ rfl; rw [← he193]
            refine s_rp (i := 0) rfl (by kernel_rfl) rfl (fun _ => (rd_move rfl)) ?_
            obtain ⟨x194, h195, q196⟩ := ob q117; clear q117
            refine s_rp (i := 1) rfl (by kernel_rfl) rfl (fun _ => (rd_add64 h195 rfl rfl)) ?_
            refine s_rp (i := 2) rfl (by kernel_rfl) rfl (fun _ => (rd_move rfl)) ?_
            refine s_rp (i := 3) rfl (by kernel_rfl) rfl (fun _ => (rd_lenS tS22 rfl (hv0.of_old hm192))) ?_
            refine s_rp (i := 4) rfl (by kernel_rfl) rfl (fun _ => (rd_lss rfl rfl)) ?_
            refine s_rp (i := 5) rfl (by kernel_rfl) rfl (fun _ => (rd_move rfl)) ?_
            refine s_rpg (i := 6) rfl (by kernel_rfl) rfl rfl rfl rfl (gv_t _) (fun hg197 _ => (rd_move rfl)) ?_
            obtain ⟨x199, h200, q201⟩ := ob q196; clear q196
            refine s_rpg (i := 7) rfl (by kernel_rfl) rfl rfl rfl rfl (gv_t _) (fun hg198 _ => (rd_add64 (gO_t h200 hg198) (gvx rfl hg198) rfl)) ?_
            refine s_rpg (i := 8) rfl (by kernel_rfl) rfl rfl rfl rfl (gv_t _) (fun hg202 _ => (rd_move rfl)) ?_
            refine s_rpg (i := 9) rfl (by kernel_rfl) rfl rfl rfl rfl (gv_t _) (fun hg203 _ => (rd_lenS tS22 (gvx rfl hg203) (hv1.of_old hm192))) ?_
            refine s_rpg (i := 10) rfl (by kernel_rfl) rfl rfl rfl rfl (gv_t _) (fun hg204 _ => (rd_lss (gvx rfl hg204) (gvx rfl hg204))) ?_
            refine s_rp (i := 11) rfl (by kernel_rfl) rfl (fun _ => (rd_and rfl (fun hc205 => (gvx rfl hc205)))) ?_
            refine s_rp (i := 12) rfl (by kernel_rfl) rfl (fun _ => (rd_move rfl)) ?_
            refine s_rpg (i := 13) rfl (by kernel_rfl) rfl rfl rfl rfl (gv_t _) (fun hg206 _ => (rd_move rfl)) ?_
            refine s_rpg (i := 14) rfl (by kernel_rfl) rfl rfl rfl rfl (gv_t _) (fun hg207 _ => (rd_move rfl)) ?_
            obtain ⟨x209, h210, q211⟩ := ob q201; clear q201
            refine s_rpg (i := 15) rfl (by kernel_rfl) rfl rfl rfl rfl (gv_t _) (fun hg208 _ => (rd_index tS22 (gvx rfl hg208) (gvx rfl hg208) (hv0.of_old hm192) (gO_t h210 hg208))) ?_
            refine s_rdg (i := 16) rfl (by kernel_rfl) rfl rfl rfl rfl (gv_t _) (fun hg212 => (fun _ hS => by rw [hS]; exact (rd_ld1 tO3 (gvx rfl hg212) ((hv0.of_old hm192).cells (gO_t h210 hg212)) (off := 0) rfl))) rfl ?_
            refine s_rpg (i := 17) rfl (by kernel_rfl) rfl rfl rfl rfl (gv_t _) (fun hg213 _ => (rd_move rfl)) ?_
            refine s_rpg (i := 18) rfl (by kernel_rfl) rfl rfl rfl rfl (gv_t _) (fun hg214 _ => (rd_move rfl)) ?_
            obtain ⟨x216, h217, q218⟩ := ob q211; clear q211
            refine s_rpg (i := 19) rfl (by kernel_rfl) rfl rfl rfl rfl (gv_t _) (fun hg215 _ => (rd_add64 (gO_t h217 hg215) (gvx rfl hg215) rfl)) ?_
            obtain ⟨x220, h221, q222⟩ := ob q218; clear q218
            refine s_rpg (i := 20) rfl (by kernel_rfl) rfl rfl rfl rfl (gv_t _) (fun hg219 _ => (rd_index tS22 (gvx rfl hg219) (gvx rfl hg219) (hv1.of_old hm192) (gO_t h221 hg219))) ?_
            refine s_rdg (i := 21) rfl (by kernel_rfl) rfl rfl rfl rfl (gv_t _) (fun hg223 => (fun _ hS => by rw [hS]; exact (rd_ld1 tO3 (gvx rfl hg223) ((hv1.of_old hm192).cells (gO_t h221 hg223)) (off := 0) rfl))) rfl ?_
            refine s_rpg (i := 22) rfl (by kernel_rfl) rfl rfl rfl rfl (gv_t _) (fun hg224 _ => (rd_eql (gvx rfl hg224) (gvx rfl hg224))) ?_
            refine s_rp (i := 23) rfl (by kernel_rfl) rfl (fun _ => (rd_and rfl (fun hc225 => (gvx rfl hc225)))) ?_
            refine s_rp (i := 24) rfl (by kernel_rfl) rfl (fun _ => (rd_move rfl)) ?_
            refine s_rpg (i := 25) rfl (by kernel_rfl) rfl rfl rfl rfl (gv_t _) (fun hg226 _ => (rd_move rfl)) ?_
            refine s_rpg (i := 26) rfl (by kernel_rfl) rfl rfl rfl rfl (gv_t _) (fun hg227 _ => (rd_move rfl)) ?_
            obtain ⟨x229, h230, q231⟩ := ob q222; clear q222
            refine s_rpg (i := 27) rfl (by kernel_rfl) rfl rfl rfl rfl (gv_t _) (fun hg228 _ => (rd_add64 (gO_t h230 hg228) (gvx rfl hg228) rfl)) ?_
            obtain ⟨x233, h234, q235⟩ := ob q231; clear q231
            refine s_rpg (i := 28) rfl (by kernel_rfl) rfl rfl rfl rfl (gv_t _) (fun hg232 _ => (rd_index tS22 (gvx rfl hg232) (gvx rfl hg232) (hv0.of_old hm192) (gO_t h234 hg232))) ?_
            refine s_rdg (i := 29) rfl (by kernel_rfl) rfl rfl rfl rfl (gv_t _) (fun hg236 => (fun _ hS => by rw [hS]; exact (rd_ld1 tO3 (gvx rfl hg236) ((hv0.of_old hm192).cells (gO_t h234 hg236)) (off := 0) rfl))) rfl ?_
            refine s_rpg (i := 30) rfl (by kernel_rfl) rfl rfl rfl rfl (gv_t _) (fun hg237 _ => (rd_move rfl)) ?_
            refine s_rpg (i := 31) rfl (by kernel_rfl) rfl rfl rfl rfl (gv_t _) (fun hg238 _ => (rd_move rfl)) ?_
            obtain ⟨x240, h241, q242⟩ := ob q235; clear q235
            refine s_rpg (i := 32) rfl (by kernel_rfl) rfl rfl rfl rfl (gv_t _) (fun hg239 _ => (rd_index tS22 (gvx rfl hg239) (gvx rfl hg239) (hv1.of_old hm192) (gO_t h241 hg239))) ?_
            refine s_rdg (i := 33) rfl (by kernel_rfl) rfl rfl rfl rfl (gv_t _) (fun hg243 => (fun _ hS => by rw [hS]; exact (rd_ld1 tO3 (gvx rfl hg243) ((hv1.of_old hm192).cells (gO_t h241 hg243)) (off := 0) rfl))) rfl ?_
            refine s_rpg (i := 34) rfl (by kernel_rfl) rfl rfl rfl rfl (gv_t _) (fun hg244 _ => (rd_eql (gvx rfl hg244) (gvx rfl hg244))) ?_
            refine s_rp (i := 35) rfl (by kernel_rfl) rfl (fun _ => (rd_and rfl (fun hc245 => (gvx rfl hc245)))) ?_
            refine s_rp (i := 36) rfl (by kernel_rfl) rfl (fun _ => (rd_move rfl)) ?_
            refine s_rpg (i := 37) rfl (by kernel_rfl) rfl rfl rfl rfl (gv_t _) (fun hg246 _ => (rd_move rfl)) ?_
            refine s_rpg (i := 38) rfl (by kernel_rfl) rfl rfl rfl rfl (gv_t _) (fun hg247 _ => (rd_move rfl)) ?_
            obtain ⟨x249, h250, q251⟩ := ob q242; clear q242
            refine s_rpg (i := 39) rfl (by kernel_rfl) rfl rfl rfl rfl (gv_t _) (fun hg248 _ => (rd_index tS22 (gvx rfl hg248) (gvx rfl hg248) (hv0.of_old hm192) (gO_t h250 hg248))) ?_
            refine s_rdg (i := 40) rfl (by kernel_rfl) rfl rfl rfl rfl (gv_t _) (fun hg252 => (fun _ hS => by rw [hS]; exact (rd_ld1 tO3 (gvx rfl hg252) ((hv0.of_old hm192).cells (gO_t h250 hg252)) (off := 0) rfl))) rfl ?_
            refine s_rpg (i := 41) rfl (by kernel_rfl) rfl rfl rfl rfl (gv_t _) (fun hg253 _ => (rd_move rfl)) ?_
            refine s_rpg (i := 42) rfl (by kernel_rfl) rfl rfl rfl rfl (gv_t _) (fun hg254 _ => (rd_move rfl)) ?_
            obtain ⟨x256, h257, q258⟩ := ob q251; clear q251
            refine s_rpg (i := 43) rfl (by kernel_rfl) rfl rfl rfl rfl (gv_t _) (fun hg255 _ => (rd_add64 (gO_t h257 hg255) (gvx rfl hg255) rfl)) ?_
            obtain ⟨x260, h261, q262⟩ := ob q258; clear q258
            refine s_rpg (i := 44) rfl (by kernel_rfl) rfl rfl rfl rfl (gv_t _) (fun hg259 _ => (rd_index tS22 (gvx rfl hg259) (gvx rfl hg259) (hv0.of_old hm192) (gO_t h261 hg259))) ?_
            refine s_rdg (i := 45) rfl (by kernel_rfl) rfl rfl rfl rfl (gv_t _) (fun hg263 => (fun _ hS => by rw [hS]; exact (rd_ld1 tO3 (gvx rfl hg263) ((hv0.of_old hm192).cells (gO_t h261 hg263)) (off := 0) rfl))) rfl ?_
            refine s_rpg (i := 46) rfl (by kernel_rfl) rfl rfl rfl rfl (gv_t _) (fun hg264 _ => (rd_neq (gvx rfl hg264) (gvx rfl hg264))) ?_
            refine s_rp (i := 47) rfl (by kernel_rfl) rfl (fun _ => (rd_and rfl (fun hc265 => (gvx rfl hc265)))) ?_
            refine s_rp (i := 48) rfl (by kernel_rfl) rfl (fun _ => (rd_assign rfl)) ?_
            refine s_nil (by kernel_rfl) ?_
            refine qn_then ?_
            refine cw_seq ?_
            refine cw_region ?_
            refine t_rd rfl (rd_move rfl) ?_
            obtain ⟨x266, h267, q268⟩ := ob q262; clear q262
            refine t_rd rfl (rd_add64 h267 rfl rfl) ?_
            refine t_rd rfl (rd_move rfl) ?_
            obtain ⟨x269, h270, q271⟩ := ob q268; clear q268
            refine t_rd rfl (rd_add64 h270 rfl rfl) ?_
            refine t_rd rfl (rd_move rfl) ?_
            refine t_rd rfl (rd_assign rfl) ?_
            refine t_rd rfl (rd_assign rfl) ?_
            refine t_rd rfl (rd_assign rfl) ?_
            refine rwt_nil ?_
            refine qn_then ?_
            refine cw_ret ?_
            refine qr_block (qr_then ?_)
            obtain rfl := os q271
            exact ret3 rfl rfl rfl rfl ⟨rfl, (hm192.pick [] (by decide) rfl)⟩
          · refine cw_f rfl hb116 ?_
            refine cw_skip ?_
            refine qn_block (qn_then ?_)
            refine cw_seq ?_
            refine cw_region ?_
            refine t_rd rfl (rd_assign rfl) ?_
            refine t_rd rfl (rd_assign rfl) ?_
            refine t_rd rfl (rd_assign rfl) ?_
            refine rwt_nil ?_
            refine qn_then ?_
            refine cw_ret ?_
            obtain rfl := os q117
            exact ret3 rfl rfl rfl rfl ⟨rfl, (hm0.pick [] (by decide) rfl)⟩

theorem reconcile_cost_ok {N : Nat} {a0 : Int} {res : Int} (h : reconcile_cost N a0 = some res) {w : World}   :
    CallsR Tryz.prog 45 [(Value.int .i64 a0)] w (fun u w' => u = (Value.int .i64 res) ∧ Mem w No [] w') := by
  unfold reconcile_cost at h
  refine fn_ok Tryz.func45 rfl rfl rfl ?_
  have hm0 := Mem.nil w
  refine cw_seq ?_
  refine cw_region ?_
  refine t_rd rfl (rd_assign rfl) ?_
  refine rwt_nil ?_
  refine qn_then ?_
  refine cw_seq ?_
  refine cw_region ?_
  refine t_rd rfl (rd_build (cs := #[(Value.int .i64 0), (Value.int .i64 3), (Value.int .i64 4), (Value.int .i64 4), (Value.int .i64 4)]) rfl (by kernel_rfl)) ?_
  refine t_rd rfl (rd_move rfl) ?_
  obtain ⟨x1, h2, q3⟩ := ob h; clear h
  refine t_rd rfl (rd_idxa (l := [0, 3, 4, 4, 4]) tAr145 tO3 rfl rfl rfl h2) ?_
  refine t_rd rfl (rd_assign rfl) ?_
  refine rwt_nil ?_
  refine qn_then ?_
  refine cw_ret ?_
  obtain rfl := os q3
  exact ret1 rfl rfl ⟨rfl, (hm0.pick [] (by decide) rfl)⟩

theorem reconcile_Align_ok {N : Nat} {a0 : List Int} {a1 : List Int} {res : List Int × Int × Int} (h : reconcile_Align N a0 a1 = some res) {w : World} {v0 : Value} {v1 : Value} (hv0 : Sl (Old w No) w v0 a0) (hv1 : Sl (Old w No) w v1 a1) :
    CallsR Tryz.prog 16 [v0, v1] w (fun u w' => ∃ (y0 : Value), u = (Value.tuple #[y0, (Value.int .i64 res.2.1), (Value.int .i64 res.2.2)]) ∧ Mem w No [ownL 3 y0 (res.1 : List Int)] w') := by
  unfold reconcile_Align at h
  refine fn_ok Tryz.func16 rfl rfl rfl ?_
  have hm0 := Mem.nil w
  refine cw_seq ?_
  refine cw_region ?_
  refine t_rd rfl (rd_assign rfl) ?_
  refine t_rd rfl (rd_assign rfl) ?_
  refine t_rd rfl (rd_assign rfl) ?_
  refine rwt_nil ?_
  refine qn_then ?_
  refine cw_seq ?_
  refine cw_seq ?_
  refine cw_region ?_
  refine t_rd rfl (rd_move rfl) ?_
  refine t_rd rfl (rd_move rfl) ?_
  obtain ⟨r1, h2, q3⟩ := ob h; clear h
  refine t_ef rfl (ef_call tf42 rfl (reconcile_long_ok h2 (hv0.to_call hm0) (hv1.to_call hm0))) ?_
  rintro _ w5 ⟨e_, hm4⟩
  obtain rfl := e_.symm
  have hm6 := hm0.call hm4
  refine rwt_nil ?_
  refine qn_then ?_
  obtain ⟨hb7, q8⟩ | ⟨hb7, q8⟩ := oi q3 <;> clear q3
  · refine cw_t rfl hb7 ?_
    refine cw_seq ?_
    refine cw_region ?_
    refine t_rd rfl (rd_assign rfl) ?_
    refine t_rd rfl (rd_assign rfl) ?_
    refine t_rd rfl (rd_assign rfl) ?_
    refine rwt_nil ?_
    refine qn_then ?_
    refine cw_ret ?_
    refine qr_then ?_
    obtain rfl := os q8
    have hm9 := hm6.addNil (α := Int) 3
    exact ret3 rfl rfl rfl rfl ⟨(Value.slice none 0 0), rfl, (hm9.pick [0] (by decide) rfl)⟩
  · refine cw_f rfl hb7 ?_
    refine cw_skip ?_
    refine qn_then ?_
    refine cw_seq ?_
    refine cw_region ?_
    refine t_rd rfl (rd_move rfl) ?_
    refine t_rd rfl (rd_move rfl) ?_
    obtain ⟨r10, h11, q12⟩ := ob q8; clear q8
    refine t_ef rfl (ef_call tf43 rfl (reconcile_table_ok h11 (hv0.to_call hm6) (hv1.to_call hm6))) ?_
    rintro _ w16 ⟨zs14, v13, e_, hm15⟩
    obtain rfl := e_.symm
    have hm17 := hm6.call hm15
    refine t_rd rfl (rd_assign rfl) ?_
    refine rwt_nil ?_
    refine qn_then ?_
    refine cw_seq ?_
    refine cw_region ?_
    refine t_rd rfl (rd_move rfl) ?_
    refine t_rd rfl (rd_move rfl) ?_
    obtain ⟨r18, h19, q20⟩ := ob q12; clear q12
    refine t_ef rfl (ef_call tf43 rfl (reconcile_table_ok h19 (hv0.to_call hm17) (hv1.to_call hm17))) ?_
    rintro _ w24 ⟨zs22, v21, e_, hm23⟩
    obtain rfl := e_.symm
    have hm25 := hm17.call hm23
    refine t_rd rfl (rd_assign rfl) ?_
    refine rwt_nil ?_
    refine qn_then ?_
    refine cw_seq ?_
    refine cw_seq ?_
    refine cw_region ?_
    refine t_rd rfl (rd_move rfl) ?_
    refine t_rd rfl (rd_lenS tS22 rfl (hv0.of_old hm25)) ?_
    refine t_rd rfl (rd_assign rfl) ?_
    refine rwt_nil ?_
    refine qn_then ?_
    refine cw_block ?_
    obtain ⟨r2838, hit2839, q2840⟩ := ob q20; clear q20
    refine cw_loop2 (I := fun q envq wq => ∃ (v2830 : Value) (zs2831 : List Hdr) (v2827 : Value) (zs2828 : List Hdr), Sub [(0, v0), (1, v1), (7, v2827), (8, v2830), (9, (Value.int .i64 q.1))] envq ∧ Mem w No [ownL 22 v2830 (zs2831 : List Hdr), rowsC 3 zs2831 (q.2.2 : List (List Int)) none, ownL 22 v2827 (zs2828 : List Hdr), rowsC 3 zs2828 (q.2.1 : List (List Int)) none] wq) (X := fun eq envq wq => eq = .exit 0 ∧ ∃ (v2823 : Value) (zs2824 : List Hdr) (v2820 : Value) (zs2821 : List Hdr), Sub [(0, v0), (1, v1), (7, v2820), (8, v2823)] envq ∧ Mem w No [ownL 22 v2823 (zs2824 : List Hdr), rowsC 3 zs2824 (r2838.2 : List (List Int)) none, ownL 22 v2820 (zs2821 : List Hdr), rowsC 3 zs2821 (r2838.1 : List (List Int)) none] wq) hit2839 ⟨v21, zs22, v13, zs14, (by repeat (first | exact Sub.nil _ | refine Sub.cons rfl ?_)), (hm25.pick [0, 1, 2, 3] (by decide) rfl)⟩ ?_ ?_
    · rintro ⟨i2825, l2826, l2829⟩ x2833 env2834 w2835 hf2836 hr2837 ⟨v2830, zs2831, v2827, zs2828, hs_, hm_⟩
      have hs_ : Sub [(0, v0), (1, v1), (7, v2827), (8, v2830), (9, (Value.int .i64 i2825))] env2834 := hs_
      have hm2841 : Mem w No [ownL 22 v2830 (zs2831 : List Hdr), rowsC 3 zs2831 (l2829 : List (List Int)) none, ownL 22 v2827 (zs2828 : List Hdr), rowsC 3 zs2828 (l2826 : List (List Int)) none] w2835 := hm_
      refine cw_sub hs_ ?_
      clear hs_ hm_ q2840
      have h : reconcile_Align_l9 N a0 a1 i2825 l2826 l2829 = some x2833 := hf2836
      clear hf2836
      refine cw_seq ?_
      refine cw_seq ?_
      refine cw_region ?_
      refine t_rd rfl (rd_move rfl) ?_
      refine t_rd rfl (rd_geq rfl rfl) ?_
      refine rwt_nil ?_
      refine qn_then ?_
      obtain ⟨hb2842, q2843⟩ | ⟨hb2842, q2843⟩ := oi h <;> clear h
      · refine cw_t rfl hb2842 ?_
        refine cw_skip ?_
        refine qn_then ?_
        refine cw_seq ?_
        refine cw_block ?_
        refine cw_seq ?_
        refine cw_region ?_
        refine t_rd rfl (rd_move rfl) ?_
        refine t_rd rfl (rd_lenS tS22 rfl (hv1.of_old hm2841)) ?_
        refine t_rd rfl (rd_assign rfl) ?_
        refine rwt_nil ?_
        refine qn_then ?_
        refine cw_block ?_
        obtain ⟨r3772, hit3773, q3774⟩ := ob q2843; clear q2843
        refine cw_loop2 (I := fun q envq wq => ∃ (v3764 : Value) (zs3765 : List Hdr) (v3761 : Value) (zs3762 : List Hdr), Sub [(0, v0), (1, v1), (7, v3761), (8, v3764), (9, (Value.int .i64 i2825)), (10, (Value.int .i64 q.1))] envq ∧ Mem w No [ownL 22 v3764 (zs3765 : List Hdr), rowsC 3 zs3765 (q.2.2 : List (List Int)) none, ownL 22 v3761 (zs3762 : List Hdr), rowsC 3 zs3762 (q.2.1 : List (List Int)) none] wq) (X := fun eq envq wq => eq = .exit 2 ∧ ∃ (v3757 : Value) (zs3758 : List Hdr) (v3754 : Value) (zs3755 : List Hdr), Sub [(0, v0), (1, v1), (7, v3754), (8, v3757), (9, (Value.int .i64 i2825))] envq ∧ Mem w No [ownL 22 v3757 (zs3758 : List Hdr), rowsC 3 zs3758 (r3772.2 : List (List Int)) none, ownL 22 v3754 (zs3755 : List Hdr), rowsC 3 zs3755 (r3772.1 : List (List Int)) none] wq) hit3773 ⟨v2830, zs2831, v2827, zs2828, (by repeat (first | exact Sub.nil _ | refine Sub.cons rfl ?_)), (hm2841.pick [0, 1, 2, 3] (by decide) rfl)⟩ ?_ ?_
        · rintro ⟨i3759, l3760, l3763⟩ x3767 env3768 w3769 hf3770 hr3771 ⟨v3764, zs3765, v3761, zs3762, hs_, hm_⟩
          have hs_ : Sub [(0, v0), (1, v1), (7, v3761), (8, v3764), (9, (Value.int .i64 i2825)), (10, (Value.int .i64 i3759))] env3768 := hs_
          have hm3775 : Mem w No [ownL 22 v3764 (zs3765 : List Hdr), rowsC 3 zs3765 (l3763 : List (List Int)) none, ownL 22 v3761 (zs3762 : List Hdr), rowsC 3 zs3762 (l3760 : List (List Int)) none] w3769 := hm_
          refine cw_sub hs_ ?_
          clear hs_ hm_ q3774
          have h : reconcile_Align_l12 N a0 a1 i2825 i3759 l3760 l3763 = some x3767 := hf3770
          clear hf3770
          refine cw_seq ?_
          refine cw_seq ?_
          refine cw_region ?_
          refine t_rd rfl (rd_move rfl) ?_
          refine t_rd rfl (rd_geq rfl rfl) ?_
          refine rwt_nil ?_
          refine qn_then ?_
          obtain ⟨hb3776, q3777⟩ | ⟨hb3776, q3777⟩ := oi h <;> clear h
          · refine cw_t rfl hb3776 ?_
            refine cw_skip ?_
            refine qn_then ?_
            refine cw_seq ?_
            refine cw_block ?_
            refine cw_seq ?_
            refine cw_seq ?_
            refine cw_region ?_
            refine t_rd rfl (rd_move rfl) ?_
            refine t_rd rfl (rd_move rfl) ?_
            refine t_rd rfl (rd_lenS tS22 rfl (hv0.of_old hm3775)) ?_
            refine t_rd rfl (rd_eql rfl rfl) ?_
            refine t_rd rfl (rd_move rfl) ?_
            refine t_rdg rfl rfl rfl rfl (gv_t _) (fun hg3778 => (rd_move rfl)) ?_
            refine t_rdg rfl rfl rfl rfl (gv_t _) (fun hg3779 => (rd_move rfl)) ?_
            refine t_rdg rfl rfl rfl rfl (gv_t _) (fun hg3780 => (rd_lenS tS22 (gvx rfl hg3780) (hv1.of_old hm3775))) ?_
            refine t_rdg rfl rfl rfl rfl (gv_t _) (fun hg3781 => (rd_eql (gvx rfl hg3781) (gvx rfl hg3781))) ?_
            refine t_rd rfl (rd_and rfl (fun hc3782 => (gvx rfl hc3782))) ?_
            refine rwt_nil ?_
            refine qn_then ?_
            obtain ⟨hb3783, q3784⟩ | ⟨hb3783, q3784⟩ := oi q3777 <;> clear q3777
            · refine cw_t rfl hb3783 ?_
              refine cw_exit ?_
              refine qx_then (qx_same (qn_then ?_))
              refine cw_region ?_
              refine t_rd rfl (rd_move rfl) ?_
              obtain ⟨x3785, h3786, q3787⟩ := ob q3784; clear q3784
              refine t_rd rfl (rd_sub64 h3786 rfl rfl) ?_
              refine t_rd rfl (rd_assign rfl) ?_
              refine rwt_nil ?_
              refine qn_then ?_
              refine ⟨_, (os q3787), v3764, zs3765, v3761, zs3762, (by repeat (first | exact Sub.nil _ | refine Sub.cons rfl ?_)), (hm3775.pick [0, 1, 2, 3] (by decide) rfl)⟩
            · refine cw_f rfl hb3783 ?_
              refine cw_skip ?_
              refine qn_then ?_
              refine cw_seq ?_
              refine cw_region ?_
              refine t_rd rfl (rd_move rfl) ?_
              refine t_rd rfl (rd_move rfl) ?_
              obtain ⟨x3788, h3789, q3790⟩ := ob q3784; clear q3784
              refine t_rd rfl (rd_index tS41 rfl rfl ((Nl.mk (hm3775.sl_call 2 rfl) (hm3775.rows_call 3 rfl)).sl) h3789) ?_
              obtain ⟨zd3791, hz3792⟩ := (Nl.mk (hm3775.sl_call 2 rfl) (hm3775.rows_call 3 rfl)).row h3789
              refine t_rd rfl (rd_ld1 tO22 rfl ((Nl.mk (hm3775.sl_call 2 rfl) (hm3775.rows_call 3 rfl)).cells hz3792) (off := 0) rfl) ?_
              refine t_rd rfl (rd_move rfl) ?_
              obtain ⟨x3793, h3794, q3795⟩ := ob q3790; clear q3790
              refine t_rd rfl (rd_index tS22 rfl rfl ((Nl.mk (hm3775.sl_call 2 rfl) (hm3775.rows_call 3 rfl)).get hz3792 h3789) h3794) ?_
              have hm3796 := hm3775.pick [3, 0, 1, 2] (L' := [rowsC 3 zs3762 (l3760 : List (List Int)) none, ownL 22 v3764 (zs3765 : List Hdr), rowsC 3 zs3765 (l3763 : List (List Int)) none, ownL 22 v3761 (zs3762 : List Hdr)]) (by decide) rfl
              refine t_ef0 (ef_strow (off := 0) (x' := 9223372036854775807) hm3796 tO3 hz3792 h3789 rfl rfl rfl h3794 rfl rfl) ?_
              intro _ w3798 hm3797
              refine rwt_nil ?_
              refine qn_then ?_
              refine cw_seq ?_
              refine cw_region ?_
              refine t_rd rfl (rd_move rfl) ?_
              refine rwt_nil ?_
              refine qn_then ?_
              refine cw_block ?_
              obtain ⟨r4085, hit4086, q4087⟩ := ob q3795; clear q3795
              refine cw_loop2 (I := fun q envq wq => ∃ (v4077 : Value) (zs4078 : List Hdr) (v4074 : Value) (zs4075 : List Hdr), Sub [(0, v0), (1, v1), (7, v4074), (8, v4077), (9, (Value.int .i64 i2825)), (10, (Value.int .i64 i3759)), (57, (Value.int .i64 q.1))] envq ∧ Mem w No [rowsC 3 zs4075 (q.2.1 : List (List Int)) none, ownL 22 v4077 (zs4078 : List Hdr), rowsC 3 zs4078 (q.2.2 : List (List Int)) none, ownL 22 v4074 (zs4075 : List Hdr)] wq) (X := fun eq envq wq => eq = .exit 4 ∧ ∃ (v4070 : Value) (zs4071 : List Hdr) (v4067 : Value) (zs4068 : List Hdr), Sub [(0, v0), (1, v1), (7, v4067), (8, v4070), (9, (Value.int .i64 i2825)), (10, (Value.int .i64 i3759))] envq ∧ Mem w No [rowsC 3 zs4068 (r4085.1 : List (List Int)) none, ownL 22 v4070 (zs4071 : List Hdr), rowsC 3 zs4071 (r4085.2 : List (List Int)) none, ownL 22 v4067 (zs4068 : List Hdr)] wq) hit4086 ⟨v3764, zs3765, v3761, zs3762, (by repeat (first | exact Sub.nil _ | refine Sub.cons rfl ?_)), (hm3797.pick [0, 1, 2, 3] (by decide) rfl)⟩ ?_ ?_
              · rintro ⟨i4072, l4073, l4076⟩ x4080 env4081 w4082 hf4083 hr4084 ⟨v4077, zs4078, v4074, zs4075, hs_, hm_⟩
                have hs_ : Sub [(0, v0), (1, v1), (7, v4074), (8, v4077), (9, (Value.int .i64 i2825)), (10, (Value.int .i64 i3759)), (57, (Value.int .i64 i4072))] env4081 := hs_
                have hm4088 : Mem w No [rowsC 3 zs4075 (l4073 : List (List Int)) none, ownL 22 v4077 (zs4078 : List Hdr), rowsC 3 zs4078 (l4076 : List (List Int)) none, ownL 22 v4074 (zs4075 : List Hdr)] w4082 := hm_
                refine cw_sub hs_ ?_
                clear hs_ hm_ q4087
                have h : reconcile_Align_l13 N a0 a1 i2825 i3759 i4072 l4073 l4076 = some x4080 := hf4083
                clear hf4083
                refine cw_seq ?_
                refine cw_region ?_
                refine t_rd rfl (rd_lss rfl rfl) ?_
                refine rwt_nil ?_
                refine qn_then ?_
                refine cw_seq ?_
                obtain ⟨hb4089, q4090⟩ | ⟨hb4089, q4090⟩ := oi h <;> clear h
                · refine cw_t rfl hb4089 ?_
                  refine cw_skip ?_
                  refine qn_then ?_
                  refine cw_seq ?_
                  refine cw_block ?_
                  refine cw_seq ?_
                  refine cw_region ?_
                  refine t_rd rfl (rd_move rfl) ?_
                  refine t_rd rfl (rd_assign rfl) ?_
                  refine rwt_nil ?_
                  refine qn_then ?_
                  refine cw_seq ?_
                  refine cw_region ?_
                  refine t_rd rfl (rd_move rfl) ?_
                  refine t_rd rfl (rd_move rfl) ?_
                  refine t_rd rfl (rd_move rfl) ?_
                  refine t_rd rfl (rd_move rfl) ?_
                  refine t_rd rfl (rd_move rfl) ?_
                  obtain ⟨r4091, h4092, q4093⟩ := ob q4090; clear q4090
                  refine t_ef rfl (ef_call tf44 rfl (reconcile_step_ok h4092 (hv0.to_call hm4088) (hv1.to_call hm4088))) ?_
                  rintro _ w4095 ⟨e_, hm4094⟩
                  obtain rfl := e_.symm
                  have hm4096 := hm4088.call hm4094
                  refine t_rd rfl (rd_move rfl) ?_
                  refine t_rd rfl (rd_extract rfl rfl) ?_
                  refine t_rd rfl (rd_extract rfl rfl) ?_
                  refine t_rd rfl (rd_extract rfl rfl) ?_
                  refine t_rd rfl (rd_assign rfl) ?_
                  refine t_rd rfl (rd_assign rfl) ?_
                  refine t_rd rfl (rd_assign rfl) ?_
                  refine rwt_nil ?_
                  refine qn_then ?_
                  refine cw_seq ?_
                  refine cw_seq ?_
                  refine cw_region ?_
                  refine t_rd rfl (rd_move rfl) ?_
                  refine t_rd rfl (rd_not rfl) ?_
                  refine rwt_nil ?_
                  refine qn_then ?_
                  obtain ⟨hb4097, q4098⟩ | ⟨hb4097, q4098⟩ := oi q4093 <;> clear q4093
                  · refine cw_t rfl hb4097 ?_
                    refine cw_exit ?_
                    refine qx_then (qx_same (qn_then ?_))
                    refine cw_region ?_
                    obtain ⟨x4099, h4100, q4101⟩ := ob q4098; clear q4098
                    refine t_rd rfl (rd_add64 h4100 rfl rfl) ?_
                    refine t_rd rfl (rd_move rfl) ?_
                    refine rwt_nil ?_
                    refine qn_then ?_
                    refine ⟨_, (os q4101), v4077, zs4078, v4074, zs4075, (by repeat (first | exact Sub.nil _ | refine Sub.cons rfl ?_)), (hm4096.pick [0, 1, 2, 3] (by decide) rfl)⟩
                  · refine cw_f rfl hb4097 ?_
                    refine cw_skip ?_
                    refine qn_then ?_
                    refine cw_seq ?_
                    obtain ⟨w4120, he4122⟩ : ∃ q, q = w4095.drew := ⟨_, rfl⟩
                    have hm4121 := hm4096.drew; rw [← he4122] at hm4121
                    refine cw_region_s (fun q => (ownL 22 v4074 (zs4075 : List Hdr)).φ q ∧ (rowsC 3 zs4075 (l4073 : List (List Int)) none).φ q) (cls [1] []) mixed ?_
                    rintro _ rfl; rw [← he4122]
                    refine s_rp (i := 0) rfl (by kernel_rfl) rfl (fun _ => (rd_move rfl)) ?_
                    refine s_rp (i := 2) rfl (by kernel_rfl) rfl (fun _ => (rd_move rfl)) ?_
                    refine s_rp (i := 3) rfl (by kernel_rfl) rfl (fun _ => (rd_move rfl)) ?_
                    obtain ⟨x4140, h4141, q4142⟩ := ob q4098; clear q4098
                    refine s_rp (i := 4) rfl (by kernel_rfl) rfl (fun _ => (rd_index tS41 rfl rfl ((Nl.mk (hm4121.sl_call 3 rfl) (hm4121.rows_call 0 rfl)).sl) h4141)) ?_
                    obtain ⟨zd4143, hz4144⟩ := (Nl.mk (hm4121.sl_call 3 rfl) (hm4121.rows_call 0 rfl)).row h4141
                    refine s_rd (i := 5) rfl (by kernel_rfl) rfl (fun w4119 hS => (rd_ld1 tO22 rfl ((sl_of_own hS.1).cells hz4144) (off := 0) rfl)) ⟨(hm4121.get (k := 3) rfl), (hm4121.get (k := 0) rfl)⟩ ?_
                    refine s_rp (i := 6) rfl (by kernel_rfl) rfl (fun _ => (rd_move rfl)) ?_
                    obtain ⟨x4145, h4146, q4147⟩ := ob q4142; clear q4142
                    refine s_rp (i := 7) rfl (by kernel_rfl) rfl (fun _ => (rd_index tS22 rfl rfl ((Nl.mk (hm4121.sl_call 3 rfl) (hm4121.rows_call 0 rfl)).get hz4144 h4141) h4146)) ?_
                    refine s_rd (i := 8) rfl (by kernel_rfl) rfl (fun w4119 hS => (rd_ld1 tO3 rfl (((nl_φ hS.1 hS.2).get hz4144 h4141).cells h4146) (off := 0) rfl)) ⟨(hm4121.get (k := 3) rfl), (hm4121.get (k := 0) rfl)⟩ ?_
                    obtain ⟨r4148, h4149, q4150⟩ := ob q4147; clear q4147
                    refine s_ef (i := 1) rfl (by kernel_rfl) rfl (ef_call tf45 rfl (reconcile_cost_ok h4149)) (by decide) ?_ ?_
                    · rintro _ w4152 ⟨e_, hm4151⟩
                      obtain rfl := e_.symm
                      have hm4153 := hm4121.call hm4151
                      intro _
                      exact ⟨(hm4153.get (k := 3) rfl), (hm4153.get (k := 0) rfl)⟩
                    rintro _ w4152 ⟨e_, hm4151⟩
                    obtain rfl := e_.symm
                    have hm4153 := hm4121.call hm4151
                    obtain ⟨x4154, h4155, q4156⟩ := ob q4150; clear q4150
                    refine s_rp (i := 9) rfl (by kernel_rfl) rfl (fun _ => (rd_add64 h4155 rfl rfl)) ?_
                    refine s_rp (i := 10) rfl (by kernel_rfl) rfl (fun _ => (rd_assign rfl)) ?_
                    refine s_nil (by kernel_rfl) ?_
                    refine qn_then ?_
                    refine cw_seq ?_
                    refine cw_region ?_
                    refine t_rd rfl (rd_move rfl) ?_
                    refine t_rd rfl (rd_move rfl) ?_
                    refine t_rd rfl (rd_move rfl) ?_
                    obtain ⟨x4157, h4158, q4159⟩ := ob q4156; clear q4156
                    refine t_rd rfl (rd_index tS41 rfl rfl ((Nl.mk (hm4153.sl_call 3 rfl) (hm4153.rows_call 0 rfl)).sl) h4158) ?_
                    obtain ⟨zd4160, hz4161⟩ := (Nl.mk (hm4153.sl_call 3 rfl) (hm4153.rows_call 0 rfl)).row h4158
                    refine t_rd rfl (rd_ld1 tO22 rfl ((Nl.mk (hm4153.sl_call 3 rfl) (hm4153.rows_call 0 rfl)).cells hz4161) (off := 0) rfl) ?_
                    refine t_rd rfl (rd_move rfl) ?_
                    obtain ⟨x4162, h4163, q4164⟩ := ob q4159; clear q4159
                    refine t_rd rfl (rd_index tS22 rfl rfl ((Nl.mk (hm4153.sl_call 3 rfl) (hm4153.rows_call 0 rfl)).get hz4161 h4158) h4163) ?_
                    refine t_rd rfl (rd_ld1 tO3 rfl (((Nl.mk (hm4153.sl_call 3 rfl) (hm4153.rows_call 0 rfl)).get hz4161 h4158).cells h4163) (off := 0) rfl) ?_
                    refine t_rd rfl (rd_lss rfl rfl) ?_
                    refine rwt_nil ?_
                    refine qn_then ?_
                    obtain ⟨hb4165, q4166⟩ | ⟨hb4165, q4166⟩ := oi q4164 <;> clear q4164
                    · refine cw_t rfl hb4165 ?_
                      obtain ⟨w4189, he4191⟩ : ∃ q, q = w4152.drew := ⟨_, rfl⟩
                      have hm4190 := hm4153.drew; rw [← he4191] at hm4190
                      refine cw_region_s (fun q => q = w4189) (cls [] [13, 15]) mixed ?_
                      rintro _ rfl; rw [← he4191]
                      refine s_rp (i := 0) rfl (by kernel_rfl) rfl (fun _ => (rd_move rfl)) ?_
                      refine s_rp (i := 1) rfl (by kernel_rfl) rfl (fun _ => (rd_move rfl)) ?_
                      obtain ⟨x4192, h4193, q4194⟩ := ob q4166; clear q4166
                      refine s_rp (i := 2) rfl (by kernel_rfl) rfl (fun _ => (rd_index tS41 rfl rfl ((Nl.mk (hm4190.sl_call 3 rfl) (hm4190.rows_call 0 rfl)).sl) h4193)) ?_
                      obtain ⟨zd4195, hz4196⟩ := (Nl.mk (hm4190.sl_call 3 rfl) (hm4190.rows_call 0 rfl)).row h4193
                      refine s_rd (i := 3) rfl (by kernel_rfl) rfl (fun _ hS => by rw [hS]; exact (rd_ld1 tO22 rfl ((Nl.mk (hm4190.sl_call 3 rfl) (hm4190.rows_call 0 rfl)).cells hz4196) (off := 0) rfl)) rfl ?_
                      refine s_rp (i := 4) rfl (by kernel_rfl) rfl (fun _ => (rd_move rfl)) ?_
                      refine s_rp (i := 5) rfl (by kernel_rfl) rfl (fun _ => (rd_move rfl)) ?_
                      refine s_rp (i := 6) rfl (by kernel_rfl) rfl (fun _ => (rd_move rfl)) ?_
                      obtain ⟨x4197, h4198, q4199⟩ := ob q4194; clear q4194
                      refine s_rp (i := 7) rfl (by kernel_rfl) rfl (fun _ => (rd_index tS41 rfl rfl ((Nl.mk (hm4190.sl_call 1 rfl) (hm4190.rows_call 2 rfl)).sl) h4198)) ?_
                      obtain ⟨zd4200, hz4201⟩ := (Nl.mk (hm4190.sl_call 1 rfl) (hm4190.rows_call 2 rfl)).row h4198
                      refine s_rd (i := 8) rfl (by kernel_rfl) rfl (fun _ hS => by rw [hS]; exact (rd_ld1 tO22 rfl ((Nl.mk (hm4190.sl_call 1 rfl) (hm4190.rows_call 2 rfl)).cells hz4201) (off := 0) rfl)) rfl ?_
                      refine s_rp (i := 9) rfl (by kernel_rfl) rfl (fun _ => (rd_move rfl)) ?_
                      refine s_rp (i := 10) rfl (by kernel_rfl) rfl (fun _ => (rd_move rfl)) ?_
                      refine s_rp (i := 11) rfl (by kernel_rfl) rfl (fun _ => (rd_move rfl)) ?_
                      obtain ⟨x4202, h4203, q4204⟩ := ob q4199; clear q4199
                      refine s_rp (i := 12) rfl (by kernel_rfl) rfl (fun _ => (rd_index tS22 rfl rfl ((Nl.mk (hm4190.sl_call 3 rfl) (hm4190.rows_call 0 rfl)).get hz4196 h4193) h4203)) ?_
                      refine s_ef0 (i := 13) rfl (by kernel_rfl) (ef_strow (off := 0) (x' := x4154) hm4190 tO3 hz4196 h4193 rfl rfl rfl h4203 rfl rfl) (by decide) (fun _ _ _ q => absurd q (by decide)) ?_
                      intro _ w4206 hm4205
                      obtain ⟨x4207, h4208, q4209⟩ := ob q4204; clear q4204
                      refine s_rp (i := 14) rfl (by kernel_rfl) rfl (fun _ => (rd_index tS22 rfl rfl ((Nl.mk (hm4205.sl_call 1 rfl) (hm4205.rows_call 2 rfl)).get hz4201 h4198) h4208)) ?_
                      have hm4210 := hm4205.pick [2, 0, 1, 3] (L' := [rowsC 3 zs4078 (l4076 : List (List Int)) none, rowsC 3 zs4075 ((List.set l4073 (Int.toNat i2825) (List.set x4192 (Int.toNat i3759) x4154)) : List (List Int)) none, ownL 22 v4077 (zs4078 : List Hdr), ownL 22 v4074 (zs4075 : List Hdr)]) (by decide) rfl
                      refine s_ef0 (i := 15) rfl (by kernel_rfl) (ef_strow (off := 0) (x' := i4072) hm4210 tO3 hz4201 h4198 rfl rfl rfl h4208 rfl rfl) (by decide) (fun _ _ _ q => absurd q (by decide)) ?_
                      intro _ w4212 hm4211
                      refine s_nil (by kernel_rfl) ?_
                      refine qn_block (qn_then ?_)
                      refine cw_region ?_
                      obtain ⟨x4213, h4214, q4215⟩ := ob q4209; clear q4209
                      refine t_rd rfl (rd_add64 h4214 rfl rfl) ?_
                      refine t_rd rfl (rd_move rfl) ?_
                      refine rwt_nil ?_
                      refine qn_then ?_
                      refine ⟨_, (os q4215), v4077, zs4078, v4074, zs4075, (by repeat (first | exact Sub.nil _ | refine Sub.cons rfl ?_)), (hm4211.pick [1, 2, 0, 3] (by decide) rfl)⟩
                    · refine cw_f rfl hb4165 ?_
                      refine cw_skip ?_
                      refine qn_block (qn_then ?_)
                      refine cw_region ?_
                      obtain ⟨x4216, h4217, q4218⟩ := ob q4166; clear q4166
                      refine t_rd rfl (rd_add64 h4217 rfl rfl) ?_
                      refine t_rd rfl (rd_move rfl) ?_
                      refine rwt_nil ?_
                      refine qn_then ?_
                      refine ⟨_, (os q4218), v4077, zs4078, v4074, zs4075, (by repeat (first | exact Sub.nil _ | refine Sub.cons rfl ?_)), (hm4153.pick [0, 1, 2, 3] (by decide) rfl)⟩
                · refine cw_f rfl hb4089 ?_
                  refine cw_exit ?_
                  refine qx_then (qx_then ?_)
                  obtain rfl := hr4084 _ (os q4090)
                  exact ⟨rfl, v4077, zs4078, v4074, zs4075, (by repeat (first | exact Sub.nil _ | refine Sub.cons rfl ?_)), (hm4088.pick [0, 1, 2, 3] (by decide) rfl)⟩
              · skip
                intro e env4219 w4220 hX4221
                obtain ⟨rfl, v4070, zs4071, v4067, zs4068, hs4222, hm4223⟩ := hX4221
                refine qx_same (qn_block (qn_then ?_))
                refine cw_sub hs4222 ?_
                refine cw_region ?_
                refine t_rd rfl (rd_move rfl) ?_
                obtain ⟨x4224, h4225, q4226⟩ := ob q4087; clear q4087
                refine t_rd rfl (rd_sub64 h4225 rfl rfl) ?_
                refine t_rd rfl (rd_assign rfl) ?_
                refine rwt_nil ?_
                refine qn_then ?_
                refine ⟨_, (os q4226), v4070, zs4071, v4067, zs4068, (by repeat (first | exact Sub.nil _ | refine Sub.cons rfl ?_)), (hm4223.pick [1, 2, 3, 0] (by decide) rfl)⟩
          · refine cw_f rfl hb3776 ?_
            refine cw_exit ?_
            refine qx_then (qx_then ?_)
            obtain rfl := hr3771 _ (os q3777)
            exact ⟨rfl, v3764, zs3765, v3761, zs3762, (by repeat (first | exact Sub.nil _ | refine Sub.cons rfl ?_)), (hm3775.pick [0, 1, 2, 3] (by decide) rfl)⟩
        · skip
          intro e env4227 w4228 hX4229
          obtain ⟨rfl, v3757, zs3758, v3754, zs3755, hs4230, hm4231⟩ := hX4229
          refine qx_same (qn_block (qn_then ?_))
          refine cw_sub hs4230 ?_
          refine cw_region ?_
          refine t_rd rfl (rd_move rfl) ?_
          obtain ⟨x4232, h4233, q4234⟩ := ob q3774; clear q3774
          refine t_rd rfl (rd_sub64 h4233 rfl rfl) ?_
          refine t_rd rfl (rd_assign rfl) ?_
          refine rwt_nil ?_
          refine qn_then ?_
          refine ⟨_, (os q4234), v3757, zs3758, v3754, zs3755, (by repeat (first | exact Sub.nil _ | refine Sub.cons rfl ?_)), (hm4231.pick [0, 1, 2, 3] (by decide) rfl)⟩
      · refine cw_f rfl hb2842 ?_
        refine cw_exit ?_
        refine qx_then (qx_then ?_)
        obtain rfl := hr2837 _ (os q2843)
        exact ⟨rfl, v2830, zs2831, v2827, zs2828, (by repeat (first | exact Sub.nil _ | refine Sub.cons rfl ?_)), (hm2841.pick [0, 1, 2, 3] (by decide) rfl)⟩
    · skip
      intro e env4235 w4236 hX4237
      obtain ⟨rfl, v2823, zs2824, v2820, zs2821, hs4238, hm4239⟩ := hX4237
      refine qx_same (qn_then ?_)
      refine cw_sub hs4238 ?_
      refine cw_seq ?_
      refine cw_region ?_
      refine t_rd rfl (rd_assign rfl) ?_
      refine rwt_nil ?_
      refine qn_then ?_
      refine cw_seq ?_
      refine cw_seq ?_
      refine cw_region ?_
      refine t_rd rfl (rd_assign rfl) ?_
      refine t_rd rfl (rd_assign rfl) ?_
      refine rwt_nil ?_
      refine qn_then ?_
      refine cw_block ?_
      have hm4271 := hm4239.addNil (α := Int) 3
      obtain ⟨r4350, hit4351, q4352⟩ := ob q2840; clear q2840
      refine cw_loop2 (I := fun q envq wq => ∃ (v4343 : Value), Sub [(0, v0), (1, v1), (7, v2820), (8, v2823), (16, v4343), (17, (Value.int .i64 q.1)), (18, (Value.int .i64 q.2.1))] envq ∧ Mem w No [ownL 3 v4343 (q.2.2 : List Int), ownL 22 v2823 (zs2824 : List Hdr), rowsC 3 zs2824 (r2838.2 : List (List Int)) none, ownL 22 v2820 (zs2821 : List Hdr), rowsC 3 zs2821 (r2838.1 : List (List Int)) none] wq) (X := fun eq envq wq => eq = .exit 6 ∧ ∃ (v4339 : Value), Sub [(7, v2820), (16, v4339)] envq ∧ Mem w No [ownL 3 v4339 (r4350 : List Int), ownL 22 v2820 (zs2821 : List Hdr), rowsC 3 zs2821 (r2838.1 : List (List Int)) none] wq) hit4351 ⟨(Value.slice none 0 0), (by repeat (first | exact Sub.nil _ | refine Sub.cons rfl ?_)), (hm4271.pick [0, 1, 2, 3, 4] (by decide) rfl)⟩ ?_ ?_
      · rintro ⟨i4340, i4341, l4342⟩ x4345 env4346 w4347 hf4348 hr4349 ⟨v4343, hs_, hm_⟩
        have hs_ : Sub [(0, v0), (1, v1), (7, v2820), (8, v2823), (16, v4343), (17, (Value.int .i64 i4340)), (18, (Value.int .i64 i4341))] env4346 := hs_
        have hm4353 : Mem w No [ownL 3 v4343 (l4342 : List Int), ownL 22 v2823 (zs2824 : List Hdr), rowsC 3 zs2824 (r2838.2 : List (List Int)) none, ownL 22 v2820 (zs2821 : List Hdr), rowsC 3 zs2821 (r2838.1 : List (List Int)) none] w4347 := hm_
        refine cw_sub hs_ ?_
        clear hs_ hm_ q4352
        have h : reconcile_Align_l14 N a0 a1 r2838 i4340 i4341 l4342 = some x4345 := hf4348
        clear hf4348
        refine cw_seq ?_
        refine cw_seq ?_
        refine cw_region ?_
        refine t_rd rfl (rd_move rfl) ?_
        refine t_rd rfl (rd_move rfl) ?_
        refine t_rd rfl (rd_lenS tS22 rfl (hv0.of_old hm4353)) ?_
        refine t_rd rfl (rd_lss rfl rfl) ?_
        refine t_rd rfl (rd_move rfl) ?_
        refine t_rdg rfl rfl rfl rfl (gv_f _) (fun hg4354 => (rd_move rfl)) ?_
        refine t_rdg rfl rfl rfl rfl (gv_f _) (fun hg4355 => (rd_move rfl)) ?_
        refine t_rdg rfl rfl rfl rfl (gv_f _) (fun hg4356 => (rd_lenS tS22 (gvx rfl hg4356) (hv1.of_old hm4353))) ?_
        refine t_rdg rfl rfl rfl rfl (gv_f _) (fun hg4357 => (rd_lss (gvx rfl hg4357) (gvx rfl hg4357))) ?_
        refine t_rd rfl (rd_or rfl (fun hc4358 => (gvx rfl (bnotIt hc4358)))) ?_
        refine rwt_nil ?_
        refine qn_then ?_
        obtain ⟨hb4359, q4360⟩ | ⟨hb4359, q4360⟩ := oi h <;> clear h
        · refine cw_t rfl hb4359 ?_
          refine cw_skip ?_
          refine qn_then ?_
          refine cw_block ?_
          refine cw_seq ?_
          refine cw_region ?_
          refine t_rd rfl (rd_move rfl) ?_
          refine t_rd rfl (rd_move rfl) ?_
          obtain ⟨x4361, h4362, q4363⟩ := ob q4360; clear q4360
          refine t_rd rfl (rd_index tS41 rfl rfl ((Nl.mk (hm4353.sl_call 1 rfl) (hm4353.rows_call 2 rfl)).sl) h4362) ?_
          obtain ⟨zd4364, hz4365⟩ := (Nl.mk (hm4353.sl_call 1 rfl) (hm4353.rows_call 2 rfl)).row h4362
          refine t_rd rfl (rd_ld1 tO22 rfl ((Nl.mk (hm4353.sl_call 1 rfl) (hm4353.rows_call 2 rfl)).cells hz4365) (off := 0) rfl) ?_
          refine t_rd rfl (rd_move rfl) ?_
          obtain ⟨x4366, h4367, q4368⟩ := ob q4363; clear q4363
          refine t_rd rfl (rd_index tS22 rfl rfl ((Nl.mk (hm4353.sl_call 1 rfl) (hm4353.rows_call 2 rfl)).get hz4365 h4362) h4367) ?_
          refine t_rd rfl (rd_ld1 tO3 rfl (((Nl.mk (hm4353.sl_call 1 rfl) (hm4353.rows_call 2 rfl)).get hz4365 h4362).cells h4367) (off := 0) rfl) ?_
          refine t_rd rfl (rd_assign rfl) ?_
          refine rwt_nil ?_
          refine qn_then ?_
          refine cw_seq ?_
          refine cw_region ?_
          refine t_rd rfl (rd_move rfl) ?_
          refine t_rd rfl (rd_move rfl) ?_
          refine t_ef rfl (ef_bslice (l := ([x4366] : List Int)) hm4353 tS22 rfl (cs := #[(Value.int .i64 x4366)]) (by unfold bsl; kernel_rfl) rfl rfl) ?_
          intro v4369 w4371 hm4370
          obtain ⟨l4372, h4373, q4374⟩ := ob q4368; clear q4368
          refine t_ef rfl (ef_append (k := 1) hm4370 tS22 tE3 rfl rfl rfl rfl (hm4370.sl 0 rfl) h4373) ?_
          intro v4375 w4377 hm4376
          refine t_rd rfl (rd_assign rfl) ?_
          refine rwt_nil ?_
          refine qn_then ?_
          refine cw_region ?_
          refine t_rd rfl (rd_move rfl) ?_
          refine t_rd rfl (rd_move rfl) ?_
          refine t_rd rfl (rd_move rfl) ?_
          refine t_rd rfl (rd_move rfl) ?_
          refine t_rd rfl (rd_move rfl) ?_
          obtain ⟨r4378, h4379, q4380⟩ := ob q4374; clear q4374
          refine t_ef rfl (ef_call tf44 rfl (reconcile_step_ok h4379 (hv0.to_call hm4376) (hv1.to_call hm4376))) ?_
          rintro _ w4382 ⟨e_, hm4381⟩
          obtain rfl := e_.symm
          have hm4383 := hm4376.call hm4381
          refine t_rd rfl (rd_move rfl) ?_
          refine t_rd rfl (rd_extract rfl rfl) ?_
          refine t_rd rfl (rd_extract rfl rfl) ?_
          refine t_rd rfl (rd_extract rfl rfl) ?_
          refine t_rd rfl (rd_assign rfl) ?_
          refine t_rd rfl (rd_assign rfl) ?_
          refine rwt_nil ?_
          refine qn_block (qn_then ?_)
          refine ⟨_, (os q4380), v4375, (by repeat (first | exact Sub.nil _ | refine Sub.cons rfl ?_)), (hm4383.pick [1, 2, 3, 4, 5] (by decide) rfl)⟩
        · refine cw_f rfl hb4359 ?_
          refine cw_exit ?_
          refine qx_then (qx_then ?_)
          obtain rfl := hr4349 _ (os q4360)
          exact ⟨rfl, v4343, (by repeat (first | exact Sub.nil _ | refine Sub.cons rfl ?_)), (hm4353.pick [0, 3, 4] (by decide) rfl)⟩
      · skip
        intro e env4384 w4385 hX4386
        obtain ⟨rfl, v4339, hs4387, hm4388⟩ := hX4386
        refine qx_same (qn_then ?_)
        refine cw_sub hs4387 ?_
        refine cw_seq ?_
        obtain ⟨w4398, he4400⟩ : ∃ q, q = w4385.drew := ⟨_, rfl⟩
        have hm4399 := hm4388.drew; rw [← he4400] at hm4399
        refine cw_region_s (fun q => q = w4398) (cls [] []) mixed ?_
        rintro _ rfl; rw [← he4400]
        refine s_rp (i := 0) rfl (by kernel_rfl) rfl (fun _ => (rd_move rfl)) ?_
        refine s_rp (i := 1) rfl (by kernel_rfl) rfl (fun _ => (rd_move rfl)) ?_
        obtain ⟨x4401, h4402, q4403⟩ := ob q4352; clear q4352
        refine s_rp (i := 2) rfl (by kernel_rfl) rfl (fun _ => (rd_index tS41 rfl rfl ((Nl.mk (hm4399.sl_call 1 rfl) (hm4399.rows_call 2 rfl)).sl) h4402)) ?_
        obtain ⟨zd4404, hz4405⟩ := (Nl.mk (hm4399.sl_call 1 rfl) (hm4399.rows_call 2 rfl)).row h4402
        refine s_rd (i := 3) rfl (by kernel_rfl) rfl (fun _ hS => by rw [hS]; exact (rd_ld1 tO22 rfl ((Nl.mk (hm4399.sl_call 1 rfl) (hm4399.rows_call 2 rfl)).cells hz4405) (off := 0) rfl)) rfl ?_
        obtain ⟨x4406, h4407, q4408⟩ := ob q4403; clear q4403
        refine s_rp (i := 4) rfl (by kernel_rfl) rfl (fun _ => (rd_index tS22 rfl rfl ((Nl.mk (hm4399.sl_call 1 rfl) (hm4399.rows_call 2 rfl)).get hz4405 h4402) h4407)) ?_
        refine s_rd (i := 5) rfl (by kernel_rfl) rfl (fun _ hS => by rw [hS]; exact (rd_ld1 tO3 rfl (((Nl.mk (hm4399.sl_call 1 rfl) (hm4399.rows_call 2 rfl)).get hz4405 h4402).cells h4407) (off := 0) rfl)) rfl ?_
        refine s_rp (i := 6) rfl (by kernel_rfl) rfl (fun _ => (rd_assign rfl)) ?_
        refine s_rp (i := 7) rfl (by kernel_rfl) rfl (fun _ => (rd_assign rfl)) ?_
        refine s_rp (i := 8) rfl (by kernel_rfl) rfl (fun _ => (rd_assign rfl)) ?_
        refine s_nil (by kernel_rfl) ?_
        refine qn_then ?_
        refine cw_ret ?_
        obtain rfl := os q4408
        exact ret3 rfl rfl rfl rfl ⟨v4339, rfl, (hm4399.pick [0] (by decide) rfl)⟩

theorem reconcile_Potential_ok {N : Nat} {a0 : List Int} {a1 : List Int} {res : List (List Int) × Int} (h : reconcile_Potential N a0 a1 = some res) {w : World} {v0 : Value} {v1 : Value} (hv0 : Sl (Old w No) w v0 a0) (hv1 : Sl (Old w No) w v1 a1) :
    CallsR Tryz.prog 17 [v0, v1] w (fun u w' => ∃ (zy0 : List Hdr) (y1 : Value), u = (Value.tuple #[y1, (Value.int .i64 res.2)]) ∧ Mem w No [ownL 22 y1 (zy0 : List Hdr), rowsC 3 zy0 (res.1 : List (List Int)) none] w') := by
  unfold reconcile_Potential at h
  refine fn_ok Tryz.func17 rfl rfl rfl ?_
  have hm0 := Mem.nil w
  refine cw_seq ?_
  refine cw_region ?_
  refine t_rd rfl (rd_assign rfl) ?_
  refine t_rd rfl (rd_assign rfl) ?_
  refine rwt_nil ?_
  refine qn_then ?_
  refine cw_seq ?_
  refine cw_seq ?_
  refine cw_region ?_
  refine t_rd rfl (rd_move rfl) ?_
  refine t_rd rfl (rd_move rfl) ?_
  obtain ⟨r1, h2, q3⟩ := ob h; clear h
  refine t_ef rfl (ef_call tf42 rfl (reconcile_long_ok h2 (hv0.to_call hm0) (hv1.to_call hm0))) ?_
  rintro _ w5 ⟨e_, hm4⟩
  obtain rfl := e_.symm
  have hm6 := hm0.call hm4
  refine rwt_nil ?_
  refine qn_then ?_
  obtain ⟨hb7, q8⟩ | ⟨hb7, q8⟩ := oi q3 <;> clear q3
  · refine cw_t rfl hb7 ?_
    refine cw_seq ?_
    refine cw_region ?_
    refine t_rd rfl (rd_assign rfl) ?_
    refine t_rd rfl (rd_assign rfl) ?_
    refine rwt_nil ?_
    refine qn_then ?_
    refine cw_ret ?_
    refine qr_then ?_
    obtain rfl := os q8
    have hm9 := hm6.addNil (α := Hdr) 22
    have hm10 := hm9.rowsNil (α := Int) 3
    exact ret2 rfl rfl rfl ⟨[], (Value.slice none 0 0), rfl, (hm10.pick [1, 0] (by decide) rfl)⟩
  · refine cw_f rfl hb7 ?_
    refine cw_skip ?_
    refine qn_then ?_
    refine cw_seq ?_
    refine cw_region ?_
    refine t_rd rfl (rd_move rfl) ?_
    refine t_rd rfl (rd_move rfl) ?_
    obtain ⟨r11, h12, q13⟩ := ob q8; clear q8
    refine t_ef rfl (ef_call tf43 rfl (reconcile_table_ok h12 (hv0.to_call hm6) (hv1.to_call hm6))) ?_
    rintro _ w17 ⟨zs15, v14, e_, hm16⟩
    obtain rfl := e_.symm
    have hm18 := hm6.call hm16
    refine t_rd rfl (rd_assign rfl) ?_
    refine rwt_nil ?_
    refine qn_then ?_
    refine cw_seq ?_
    refine cw_region ?_
    refine t_rd rfl (rd_move rfl) ?_
    obtain ⟨x19, h20, q21⟩ := ob q13; clear q13
    refine t_rd rfl (rd_index tS41 rfl rfl ((Nl.mk (hm18.sl_call 0 rfl) (hm18.rows_call 1 rfl)).sl) h20) ?_
    obtain ⟨zd22, hz23⟩ := (Nl.mk (hm18.sl_call 0 rfl) (hm18.rows_call 1 rfl)).row h20
    refine t_rd rfl (rd_ld1 tO22 rfl ((Nl.mk (hm18.sl_call 0 rfl) (hm18.rows_call 1 rfl)).cells hz23) (off := 0) rfl) ?_
    obtain ⟨x24, h25, q26⟩ := ob q21; clear q21
    refine t_rd rfl (rd_index tS22 rfl rfl ((Nl.mk (hm18.sl_call 0 rfl) (hm18.rows_call 1 rfl)).get hz23 h20) h25) ?_
    have hm27 := hm18.pick [1, 0] (L' := [rowsC 3 zs15 (r11 : List (List Int)) none, ownL 22 v14 (zs15 : List Hdr)]) (by decide) rfl
    refine t_ef0 (ef_strow (off := 0) (x' := 0) hm27 tO3 hz23 h20 rfl rfl rfl h25 rfl rfl) ?_
    intro _ w29 hm28
    refine rwt_nil ?_
    refine qn_then ?_
    refine cw_seq ?_
    refine cw_seq ?_
    refine cw_region ?_
    refine t_rd rfl (rd_move rfl) ?_
    refine t_rd rfl (rd_lenS tS41 rfl ((Nl.mk (hm28.sl_call 1 rfl) (hm28.rows_call 0 rfl)).sl)) ?_
    refine t_rd rfl (rd_move rfl) ?_
    refine rwt_nil ?_
    refine qn_then ?_
    refine cw_block ?_
    obtain ⟨r2555, hit2556, q2557⟩ := ob q26; clear q26
    refine cw_loop2 (I := fun q envq wq => ∃ (v2547 : Value) (zs2548 : List Hdr), Sub [(0, v0), (1, v1), (6, v2547), (24, (Value.int .i64 (List.length (List.set r11 (Int.toNat 0) (List.set x19 (Int.toNat 0) 0)) : Int))), (25, (Value.int .i64 q.1))] envq ∧ Mem w No [rowsC 3 zs2548 (q.2 : List (List Int)) none, ownL 22 v2547 (zs2548 : List Hdr)] wq) (X := fun eq envq wq => eq = .exit 0 ∧ ∃ (v2543 : Value) (zs2544 : List Hdr), Sub [(6, v2543)] envq ∧ Mem w No [rowsC 3 zs2544 (r2555 : List (List Int)) none, ownL 22 v2543 (zs2544 : List Hdr)] wq) hit2556 ⟨v14, zs15, (by repeat (first | exact Sub.nil _ | refine Sub.cons rfl ?_)), (hm28.pick [0, 1] (by decide) rfl)⟩ ?_ ?_
    · rintro ⟨i2545, l2546⟩ x2550 env2551 w2552 hf2553 hr2554 ⟨v2547, zs2548, hs_, hm_⟩
      have hs_ : Sub [(0, v0), (1, v1), (6, v2547), (24, (Value.int .i64 (List.length (List.set r11 (Int.toNat 0) (List.set x19 (Int.toNat 0) 0)) : Int))), (25, (Value.int .i64 i2545))] env2551 := hs_
      have hm2558 : Mem w No [rowsC 3 zs2548 (l2546 : List (List Int)) none, ownL 22 v2547 (zs2548 : List Hdr)] w2552 := hm_
      refine cw_sub hs_ ?_
      clear hs_ hm_ q2557
      have h : reconcile_Potential_l9 N a0 a1 r11 x19 i2545 l2546 = some x2550 := hf2553
      clear hf2553
      refine cw_seq ?_
      refine cw_region ?_
      refine t_rd rfl (rd_lss rfl rfl) ?_
      refine rwt_nil ?_
      refine qn_then ?_
      refine cw_seq ?_
      obtain ⟨hb2559, q2560⟩ | ⟨hb2559, q2560⟩ := oi h <;> clear h
      · refine cw_t rfl hb2559 ?_
        refine cw_skip ?_
        refine qn_then ?_
        refine cw_seq ?_
        refine cw_block ?_
        refine cw_seq ?_
        refine cw_region ?_
        refine t_rd rfl (rd_move rfl) ?_
        refine t_rd rfl (rd_assign rfl) ?_
        refine rwt_nil ?_
        refine qn_then ?_
        refine cw_seq ?_
        refine cw_region ?_
        refine t_rd rfl (rd_move rfl) ?_
        refine t_rd rfl (rd_move rfl) ?_
        obtain ⟨x2561, h2562, q2563⟩ := ob q2560; clear q2560
        refine t_rd rfl (rd_index tS41 rfl rfl ((Nl.mk (hm2558.sl_call 1 rfl) (hm2558.rows_call 0 rfl)).sl) h2562) ?_
        obtain ⟨zd2564, hz2565⟩ := (Nl.mk (hm2558.sl_call 1 rfl) (hm2558.rows_call 0 rfl)).row h2562
        refine t_rd rfl (rd_ld1 tO22 rfl ((Nl.mk (hm2558.sl_call 1 rfl) (hm2558.rows_call 0 rfl)).cells hz2565) (off := 0) rfl) ?_
        refine t_rd rfl (rd_lenS tS22 rfl ((Nl.mk (hm2558.sl_call 1 rfl) (hm2558.rows_call 0 rfl)).get hz2565 h2562)) ?_
        refine t_rd rfl (rd_move rfl) ?_
        refine rwt_nil ?_
        refine qn_then ?_
        refine cw_block ?_
        obtain ⟨r3395, hit3396, q3397⟩ := ob q2563; clear q2563
        refine cw_loop2 (I := fun q envq wq => ∃ (v3387 : Value) (zs3388 : List Hdr), Sub [(0, v0), (1, v1), (6, v3387), (7, (Value.int .i64 i2545)), (24, (Value.int .i64 (List.length (List.set r11 (Int.toNat 0) (List.set x19 (Int.toNat 0) 0)) : Int))), (25, (Value.int .i64 i2545)), (32, (Value.int .i64 (List.length x2561 : Int))), (33, (Value.int .i64 q.1))] envq ∧ Mem w No [rowsC 3 zs3388 (q.2 : List (List Int)) none, ownL 22 v3387 (zs3388 : List Hdr)] wq) (X := fun eq envq wq => eq = .exit 2 ∧ ∃ (v3383 : Value) (zs3384 : List Hdr), Sub [(0, v0), (1, v1), (6, v3383), (24, (Value.int .i64 (List.length (List.set r11 (Int.toNat 0) (List.set x19 (Int.toNat 0) 0)) : Int))), (25, (Value.int .i64 i2545))] envq ∧ Mem w No [rowsC 3 zs3384 (r3395 : List (List Int)) none, ownL 22 v3383 (zs3384 : List Hdr)] wq) hit3396 ⟨v2547, zs2548, (by repeat (first | exact Sub.nil _ | refine Sub.cons rfl ?_)), (hm2558.pick [0, 1] (by decide) rfl)⟩ ?_ ?_
        · rintro ⟨i3385, l3386⟩ x3390 env3391 w3392 hf3393 hr3394 ⟨v3387, zs3388, hs_, hm_⟩
          have hs_ : Sub [(0, v0), (1, v1), (6, v3387), (7, (Value.int .i64 i2545)), (24, (Value.int .i64 (List.length (List.set r11 (Int.toNat 0) (List.set x19 (Int.toNat 0) 0)) : Int))), (25, (Value.int .i64 i2545)), (32, (Value.int .i64 (List.length x2561 : Int))), (33, (Value.int .i64 i3385))] env3391 := hs_
          have hm3398 : Mem w No [rowsC 3 zs3388 (l3386 : List (List Int)) none, ownL 22 v3387 (zs3388 : List Hdr)] w3392 := hm_
          refine cw_sub hs_ ?_
          clear hs_ hm_ q3397
          have h : reconcile_Potential_l12 N a0 a1 i2545 x2561 i3385 l3386 = some x3390 := hf3393
          clear hf3393
          refine cw_seq ?_
          refine cw_region ?_
          refine t_rd rfl (rd_lss rfl rfl) ?_
          refine rwt_nil ?_
          refine qn_then ?_
          refine cw_seq ?_
          obtain ⟨hb3399, q3400⟩ | ⟨hb3399, q3400⟩ := oi h <;> clear h
          · refine cw_t rfl hb3399 ?_
            refine cw_skip ?_
            refine qn_then ?_
            refine cw_seq ?_
            refine cw_block ?_
            refine cw_seq ?_
            refine cw_region ?_
            refine t_rd rfl (rd_move rfl) ?_
            refine t_rd rfl (rd_assign rfl) ?_
            refine rwt_nil ?_
            refine qn_then ?_
            refine cw_seq ?_
            refine cw_region ?_
            refine t_rd rfl (rd_move rfl) ?_
            refine rwt_nil ?_
            refine qn_then ?_
            refine cw_block ?_
            obtain ⟨r3668, hit3669, q3670⟩ := ob q3400; clear q3400
            refine cw_loop2 (I := fun q envq wq => ∃ (v3660 : Value) (zs3661 : List Hdr), Sub [(0, v0), (1, v1), (6, v3660), (7, (Value.int .i64 i2545)), (8, (Value.int .i64 i3385)), (24, (Value.int .i64 (List.length (List.set r11 (Int.toNat 0) (List.set x19 (Int.toNat 0) 0)) : Int))), (25, (Value.int .i64 i2545)), (32, (Value.int .i64 (List.length x2561 : Int))), (33, (Value.int .i64 i3385)), (36, (Value.int .i64 q.1))] envq ∧ Mem w No [rowsC 3 zs3661 (q.2 : List (List Int)) none, ownL 22 v3660 (zs3661 : List Hdr)] wq) (X := fun eq envq wq => eq = .exit 4 ∧ ∃ (v3656 : Value) (zs3657 : List Hdr), Sub [(0, v0), (1, v1), (6, v3656), (7, (Value.int .i64 i2545)), (24, (Value.int .i64 (List.length (List.set r11 (Int.toNat 0) (List.set x19 (Int.toNat 0) 0)) : Int))), (25, (Value.int .i64 i2545)), (32, (Value.int .i64 (List.length x2561 : Int))), (33, (Value.int .i64 i3385))] envq ∧ Mem w No [rowsC 3 zs3657 (r3668 : List (List Int)) none, ownL 22 v3656 (zs3657 : List Hdr)] wq) hit3669 ⟨v3387, zs3388, (by repeat (first | exact Sub.nil _ | refine Sub.cons rfl ?_)), (hm3398.pick [0, 1] (by decide) rfl)⟩ ?_ ?_
            · rintro ⟨i3658, l3659⟩ x3663 env3664 w3665 hf3666 hr3667 ⟨v3660, zs3661, hs_, hm_⟩
              have hs_ : Sub [(0, v0), (1, v1), (6, v3660), (7, (Value.int .i64 i2545)), (8, (Value.int .i64 i3385)), (24, (Value.int .i64 (List.length (List.set r11 (Int.toNat 0) (List.set x19 (Int.toNat 0) 0)) : Int))), (25, (Value.int .i64 i2545)), (32, (Value.int .i64 (List.length x2561 : Int))), (33, (Value.int .i64 i3385)), (36, (Value.int .i64 i3658))] env3664 := hs_
              have hm3671 : Mem w No [rowsC 3 zs3661 (l3659 : List (List Int)) none, ownL 22 v3660 (zs3661 : List Hdr)] w3665 := hm_
              refine cw_sub hs_ ?_
              clear hs_ hm_ q3670
              have h : reconcile_Potential_l13 N a0 a1 i2545 i3385 i3658 l3659 = some x3663 := hf3666
              clear hf3666
              refine cw_seq ?_
              refine cw_region ?_
              refine t_rd rfl (rd_lss rfl rfl) ?_
              refine rwt_nil ?_
              refine qn_then ?_
              refine cw_seq ?_
              obtain ⟨hb3672, q3673⟩ | ⟨hb3672, q3673⟩ := oi h <;> clear h
              · refine cw_t rfl hb3672 ?_
                refine cw_skip ?_
                refine qn_then ?_
                refine cw_seq ?_
                refine cw_block ?_
                refine cw_seq ?_
                refine cw_region ?_
                refine t_rd rfl (rd_move rfl) ?_
                refine t_rd rfl (rd_assign rfl) ?_
                refine rwt_nil ?_
                refine qn_then ?_
                refine cw_seq ?_
                refine cw_region ?_
                refine t_rd rfl (rd_move rfl) ?_
                refine t_rd rfl (rd_move rfl) ?_
                refine t_rd rfl (rd_move rfl) ?_
                refine t_rd rfl (rd_move rfl) ?_
                refine t_rd rfl (rd_move rfl) ?_
                obtain ⟨r3674, h3675, q3676⟩ := ob q3673; clear q3673
                refine t_ef rfl (ef_call tf44 rfl (reconcile_step_ok h3675 (hv0.to_call hm3671) (hv1.to_call hm3671))) ?_
                rintro _ w3678 ⟨e_, hm3677⟩
                obtain rfl := e_.symm
                have hm3679 := hm3671.call hm3677
                refine t_rd rfl (rd_move rfl) ?_
                refine t_rd rfl (rd_extract rfl rfl) ?_
                refine t_rd rfl (rd_extract rfl rfl) ?_
                refine t_rd rfl (rd_extract rfl rfl) ?_
                refine t_rd rfl (rd_assign rfl) ?_
                refine t_rd rfl (rd_assign rfl) ?_
                refine t_rd rfl (rd_assign rfl) ?_
                refine rwt_nil ?_
                refine qn_then ?_
                refine cw_seq ?_
                refine cw_region ?_
                refine t_rd rfl (rd_move rfl) ?_
                refine rwt_nil ?_
                refine qn_then ?_
                obtain ⟨hb3680, q3681⟩ | ⟨hb3680, q3681⟩ := oi q3676 <;> clear q3676
                · refine cw_t rfl hb3680 ?_
                  obtain ⟨w3718, he3720⟩ : ∃ q, q = w3678.drew := ⟨_, rfl⟩
                  have hm3719 := hm3679.drew; rw [← he3720] at hm3719
                  refine cw_region_s (fun q => (ownL 22 v3660 (zs3661 : List Hdr)).φ q ∧ (rowsC 3 zs3661 (l3659 : List (List Int)) none).φ q) (cls [20] [24]) mixed ?_
                  rintro _ rfl; rw [← he3720]
                  refine s_rp (i := 0) rfl (by kernel_rfl) rfl (fun _ => (rd_move rfl)) ?_
                  refine s_rp (i := 1) rfl (by kernel_rfl) rfl (fun _ => (rd_move rfl)) ?_
                  obtain ⟨x3756, h3757, q3758⟩ := ob q3681; clear q3681
                  refine s_rp (i := 2) rfl (by kernel_rfl) rfl (fun _ => (rd_index tS41 rfl rfl ((Nl.mk (hm3719.sl_call 1 rfl) (hm3719.rows_call 0 rfl)).sl) h3757)) ?_
                  obtain ⟨zd3759, hz3760⟩ := (Nl.mk (hm3719.sl_call 1 rfl) (hm3719.rows_call 0 rfl)).row h3757
                  refine s_rd (i := 3) rfl (by kernel_rfl) rfl (fun w3717 hS => (rd_ld1 tO22 rfl ((sl_of_own hS.1).cells hz3760) (off := 0) rfl)) ⟨(hm3719.get (k := 1) rfl), (hm3719.get (k := 0) rfl)⟩ ?_
                  refine s_rp (i := 4) rfl (by kernel_rfl) rfl (fun _ => (rd_move rfl)) ?_
                  refine s_rp (i := 5) rfl (by kernel_rfl) rfl (fun _ => (rd_move rfl)) ?_
                  refine s_rp (i := 6) rfl (by kernel_rfl) rfl (fun _ => (rd_move rfl)) ?_
                  obtain ⟨x3761, h3762, q3763⟩ := ob q3758; clear q3758
                  refine s_rp (i := 7) rfl (by kernel_rfl) rfl (fun _ => (rd_index tS41 rfl rfl ((Nl.mk (hm3719.sl_call 1 rfl) (hm3719.rows_call 0 rfl)).sl) h3762)) ?_
                  obtain ⟨zd3764, hz3765⟩ := (Nl.mk (hm3719.sl_call 1 rfl) (hm3719.rows_call 0 rfl)).row h3762
                  refine s_rd (i := 8) rfl (by kernel_rfl) rfl (fun w3717 hS => (rd_ld1 tO22 rfl ((sl_of_own hS.1).cells hz3765) (off := 0) rfl)) ⟨(hm3719.get (k := 1) rfl), (hm3719.get (k := 0) rfl)⟩ ?_
                  refine s_rp (i := 9) rfl (by kernel_rfl) rfl (fun _ => (rd_move rfl)) ?_
                  obtain ⟨x3766, h3767, q3768⟩ := ob q3763; clear q3763
                  refine s_rp (i := 10) rfl (by kernel_rfl) rfl (fun _ => (rd_index tS22 rfl rfl ((Nl.mk (hm3719.sl_call 1 rfl) (hm3719.rows_call 0 rfl)).get hz3765 h3762) h3767)) ?_
                  refine s_rd (i := 11) rfl (by kernel_rfl) rfl (fun w3717 hS => (rd_ld1 tO3 rfl (((nl_φ hS.1 hS.2).get hz3765 h3762).cells h3767) (off := 0) rfl)) ⟨(hm3719.get (k := 1) rfl), (hm3719.get (k := 0) rfl)⟩ ?_
                  refine s_rp (i := 12) rfl (by kernel_rfl) rfl (fun _ => (rd_move rfl)) ?_
                  refine s_rp (i := 13) rfl (by kernel_rfl) rfl (fun _ => (rd_move rfl)) ?_
                  obtain ⟨x3769, h3770, q3771⟩ := ob q3768; clear q3768
                  refine s_rp (i := 14) rfl (by kernel_rfl) rfl (fun _ => (rd_index tS41 rfl rfl ((Nl.mk (hm3719.sl_call 1 rfl) (hm3719.rows_call 0 rfl)).sl) h3770)) ?_
                  obtain ⟨zd3772, hz3773⟩ := (Nl.mk (hm3719.sl_call 1 rfl) (hm3719.rows_call 0 rfl)).row h3770
                  refine s_rd (i := 15) rfl (by kernel_rfl) rfl (fun w3717 hS => (rd_ld1 tO22 rfl ((sl_of_own hS.1).cells hz3773) (off := 0) rfl)) ⟨(hm3719.get (k := 1) rfl), (hm3719.get (k := 0) rfl)⟩ ?_
                  refine s_rp (i := 16) rfl (by kernel_rfl) rfl (fun _ => (rd_move rfl)) ?_
                  obtain ⟨x3774, h3775, q3776⟩ := ob q3771; clear q3771
                  refine s_rp (i := 17) rfl (by kernel_rfl) rfl (fun _ => (rd_index tS22 rfl rfl ((Nl.mk (hm3719.sl_call 1 rfl) (hm3719.rows_call 0 rfl)).get hz3773 h3770) h3775)) ?_
                  refine s_rd (i := 18) rfl (by kernel_rfl) rfl (fun w3717 hS => (rd_ld1 tO3 rfl (((nl_φ hS.1 hS.2).get hz3773 h3770).cells h3775) (off := 0) rfl)) ⟨(hm3719.get (k := 1) rfl), (hm3719.get (k := 0) rfl)⟩ ?_
                  refine s_rp (i := 19) rfl (by kernel_rfl) rfl (fun _ => (rd_move rfl)) ?_
                  obtain ⟨r3777, h3778, q3779⟩ := ob q3776; clear q3776
                  refine s_ef (i := 20) rfl (by kernel_rfl) rfl (ef_call tf45 rfl (reconcile_cost_ok h3778)) (by decide) ?_ ?_
                  · rintro _ w3781 ⟨e_, hm3780⟩
                    obtain rfl := e_.symm
                    have hm3782 := hm3719.call hm3780
                    intro _
                    exact ⟨(hm3782.get (k := 1) rfl), (hm3782.get (k := 0) rfl)⟩
                  rintro _ w3781 ⟨e_, hm3780⟩
                  obtain rfl := e_.symm
                  have hm3782 := hm3719.call hm3780
                  obtain ⟨x3783, h3784, q3785⟩ := ob q3779; clear q3779
                  refine s_rp (i := 21) rfl (by kernel_rfl) rfl (fun _ => (rd_add64 h3784 rfl rfl)) ?_
                  refine s_rp (i := 22) rfl (by kernel_rfl) rfl (fun _ => (rd_min rfl rfl)) ?_
                  obtain ⟨x3786, h3787, q3788⟩ := ob q3785; clear q3785
                  refine s_rp (i := 23) rfl (by kernel_rfl) rfl (fun _ => (rd_index tS22 rfl rfl ((Nl.mk (hm3782.sl_call 1 rfl) (hm3782.rows_call 0 rfl)).get hz3760 h3757) h3787)) ?_
                  refine s_ef0 (i := 24) rfl (by kernel_rfl) (ef_strow (off := 0) (x' := (min x3766 x3783)) hm3782 tO3 hz3760 h3757 rfl rfl rfl h3787 rfl rfl) (by decide) (fun _ _ _ q => absurd q (by decide)) ?_
                  intro _ w3790 hm3789
                  refine s_nil (by kernel_rfl) ?_
                  refine qn_block (qn_then ?_)
                  refine cw_region ?_
                  obtain ⟨x3791, h3792, q3793⟩ := ob q3788; clear q3788
                  refine t_rd rfl (rd_add64 h3792 rfl rfl) ?_
                  refine t_rd rfl (rd_move rfl) ?_
                  refine rwt_nil ?_
                  refine qn_then ?_
                  refine ⟨_, (os q3793), v3660, zs3661, (by repeat (first | exact Sub.nil _ | refine Sub.cons rfl ?_)), (hm3789.pick [0, 1] (by decide) rfl)⟩
                · refine cw_f rfl hb3680 ?_
                  refine cw_skip ?_
                  refine qn_block (qn_then ?_)
                  refine cw_region ?_
                  obtain ⟨x3794, h3795, q3796⟩ := ob q3681; clear q3681
                  refine t_rd rfl (rd_add64 h3795 rfl rfl) ?_
                  refine t_rd rfl (rd_move rfl) ?_
                  refine rwt_nil ?_
                  refine qn_then ?_
                  refine ⟨_, (os q3796), v3660, zs3661, (by repeat (first | exact Sub.nil _ | refine Sub.cons rfl ?_)), (hm3679.pick [0, 1] (by decide) rfl)⟩
              · refine cw_f rfl hb3672 ?_
                refine cw_exit ?_
                refine qx_then (qx_then ?_)
                obtain rfl := hr3667 _ (os q3673)
                exact ⟨rfl, v3660, zs3661, (by repeat (first | exact Sub.nil _ | refine Sub.cons rfl ?_)), (hm3671.pick [0, 1] (by decide) rfl)⟩
            · skip
              intro e env3797 w3798 hX3799
              obtain ⟨rfl, v3656, zs3657, hs3800, hm3801⟩ := hX3799
              refine qx_same (qn_block (qn_then ?_))
              refine cw_sub hs3800 ?_
              refine cw_region ?_
              obtain ⟨x3802, h3803, q3804⟩ := ob q3670; clear q3670
              refine t_rd rfl (rd_add64 h3803 rfl rfl) ?_
              refine t_rd rfl (rd_move rfl) ?_
              refine rwt_nil ?_
              refine qn_then ?_
              refine ⟨_, (os q3804), v3656, zs3657, (by repeat (first | exact Sub.nil _ | refine Sub.cons rfl ?_)), (hm3801.pick [0, 1] (by decide) rfl)⟩
          · refine cw_f rfl hb3399 ?_
            refine cw_exit ?_
            refine qx_then (qx_then ?_)
            obtain rfl := hr3394 _ (os q3400)
            exact ⟨rfl, v3387, zs3388, (by repeat (first | exact Sub.nil _ | refine Sub.cons rfl ?_)), (hm3398.pick [0, 1] (by decide) rfl)⟩
        · skip
          intro e env3805 w3806 hX3807
          obtain ⟨rfl, v3383, zs3384, hs3808, hm3809⟩ := hX3807
          refine qx_same (qn_block (qn_then ?_))
          refine cw_sub hs3808 ?_
          refine cw_region ?_
          obtain ⟨x3810, h3811, q3812⟩ := ob q3397; clear q3397
          refine t_rd rfl (rd_add64 h3811 rfl rfl) ?_
          refine t_rd rfl (rd_move rfl) ?_
          refine rwt_nil ?_
          refine qn_then ?_
          refine ⟨_, (os q3812), v3383, zs3384, (by repeat (first | exact Sub.nil _ | refine Sub.cons rfl ?_)), (hm3809.pick [0, 1] (by decide) rfl)⟩
      · refine cw_f rfl hb2559 ?_
        refine cw_exit ?_
        refine qx_then (qx_then ?_)
        obtain rfl := hr2554 _ (os q2560)
        exact ⟨rfl, v2547, zs2548, (by repeat (first | exact Sub.nil _ | refine Sub.cons rfl ?_)), (hm2558.pick [0, 1] (by decide) rfl)⟩
    · skip
      intro e env3813 w3814 hX3815
      obtain ⟨rfl, v2543, zs2544, hs3816, hm3817⟩ := hX3815
      refine qx_same (qn_then ?_)
      refine cw_sub hs3816 ?_
      refine cw_seq ?_
      refine cw_region ?_
      refine t_rd rfl (rd_move rfl) ?_
      refine t_rd rfl (rd_assign rfl) ?_
      refine t_rd rfl (rd_assign rfl) ?_
      refine rwt_nil ?_
      refine qn_then ?_
      refine cw_ret ?_
      obtain rfl := os q2557
      exact ret2 rfl rfl rfl ⟨zs2544, v2543, rfl, (hm3817.pick [1, 0] (by decide) rfl)⟩

theorem reconcile_Verify_ok {N : Nat} {a0 : List Int} {a1 : List Int} {a2 : Int} {a3 : List (List Int)} {res : Bool} (h : reconcile_Verify N a0 a1 a2 a3 = some res) {w : World} {v0 : Value} {v1 : Value} {v3 : Value} (hv0 : Sl (Old w No) w v0 a0) (hv1 : Sl (Old w No) w v1 a1) (hv3 : Sl (Old w No) w v3 a3) :
    CallsR Tryz.prog 18 [v0, v1, (Value.int .i64 a2), v3] w (fun u w' => u = (Value.bool res) ∧ Mem w No [] w') := by
  unfold reconcile_Verify at h
  refine fn_ok Tryz.func18 rfl rfl rfl ?_
  obtain ⟨zs_a3, hn3⟩ := hv3.nest
  have hm0 := Mem.nil w
  refine cw_seq ?_
  refine cw_region ?_
  refine t_rd rfl (rd_assign rfl) ?_
  refine rwt_nil ?_
  refine qn_then ?_
  refine cw_seq ?_
  refine cw_seq ?_
  refine cw_region ?_
  refine t_rd rfl (rd_move rfl) ?_
  refine t_rd rfl (rd_move rfl) ?_
  obtain ⟨r1, h2, q3⟩ := ob h; clear h
  refine t_ef rfl (ef_call tf42 rfl (reconcile_long_ok h2 (hv0.to_call hm0) (hv1.to_call hm0))) ?_
  rintro _ w5 ⟨e_, hm4⟩
  obtain rfl := e_.symm
  have hm6 := hm0.call hm4
  refine t_rd rfl (rd_move rfl) ?_
  refine t_rdg rfl rfl rfl rfl (gv_f _) (fun hg7 => (rd_move rfl)) ?_
  refine t_rdg rfl rfl rfl rfl (gv_f _) (fun hg8 => (rd_lenS tS41 (gvx rfl hg8) ((hn3.of_old hm6).sl))) ?_
  refine t_rdg rfl rfl rfl rfl (gv_f _) (fun hg9 => (rd_move rfl)) ?_
  refine t_rdg rfl rfl rfl rfl (gv_f _) (fun hg10 => (rd_lenS tS22 (gvx rfl hg10) (hv0.of_old hm6))) ?_
  obtain ⟨x12, h13, q14⟩ := ob q3; clear q3
  refine t_rdg rfl rfl rfl rfl (gv_f _) (fun hg11 => (rd_add64 (gO_t h13 hg11) (gvx rfl hg11) rfl)) ?_
  refine t_rdg rfl rfl rfl rfl (gv_f _) (fun hg15 => (rd_neq (gvx rfl hg15) (gvx rfl hg15))) ?_
  refine t_rd rfl (rd_or rfl (fun hc16 => (gvx rfl (bnotIt hc16)))) ?_
  refine rwt_nil ?_
  refine qn_then ?_
  obtain ⟨hb17, q18⟩ | ⟨hb17, q18⟩ := oi q14 <;> clear q14
  · refine cw_t rfl hb17 ?_
    refine cw_seq ?_
    refine cw_region ?_
    refine t_rd rfl (rd_assign rfl) ?_
    refine rwt_nil ?_
    refine qn_then ?_
    refine cw_ret ?_
    refine qr_then ?_
    obtain rfl := os q18
    exact ret1 rfl rfl ⟨rfl, (hm6.pick [] (by decide) rfl)⟩
  · refine cw_f rfl hb17 ?_
    refine cw_skip ?_
    refine qn_then ?_
    refine cw_seq ?_
    refine cw_seq ?_
    refine cw_region ?_
    refine t_rd rfl (rd_move rfl) ?_
    refine t_rd rfl (rd_lenS tS41 rfl ((hn3.of_old hm6).sl)) ?_
    refine t_rd rfl (rd_move rfl) ?_
    refine rwt_nil ?_
    refine qn_then ?_
    refine cw_block ?_
    obtain ⟨r57, hit58, q59⟩ := ob q18; clear q18
    refine cw_loop2 (I := fun q envq wq => Sub [(0, v0), (1, v1), (2, (Value.int .i64 a2)), (3, v3), (28, (Value.int .i64 (List.length a3 : Int))), (29, (Value.int .i64 q))] envq ∧ Mem w No [] wq) (X := fun eq envq wq => (∃ p60, r57 = (Sum.inl p60) ∧ eq = .ret ∧ retQ Tryz.prog 122 Tryz.f18 (fun u w' => u = (Value.bool p60) ∧ Mem w No [] w') .ret envq wq) ∨ (∃ p61, r57 = (Sum.inr p61) ∧ eq = .exit 0 ∧ Sub [(0, v0), (1, v1), (2, (Value.int .i64 a2)), (3, v3)] envq ∧ Mem w No [] wq)) hit58 ⟨(by repeat (first | exact Sub.nil _ | refine Sub.cons rfl ?_)), (hm6.pick [] (by decide) rfl)⟩ ?_ ?_
    · rintro i50 x52 env53 w54 hf55 hr56 ⟨hs_, hm_⟩
      have hs_ : Sub [(0, v0), (1, v1), (2, (Value.int .i64 a2)), (3, v3), (28, (Value.int .i64 (List.length a3 : Int))), (29, (Value.int .i64 i50))] env53 := hs_
      have hm62 : Mem w No [] w54 := hm_
      refine cw_sub hs_ ?_
      clear hs_ hm_ q59
      have h : reconcile_Verify_l1 N a1 a3 i50 = some x52 := hf55
      clear hf55
      refine cw_seq ?_
      refine cw_region ?_
      refine t_rd rfl (rd_lss rfl rfl) ?_
      refine rwt_nil ?_
      refine qn_then ?_
      refine cw_seq ?_
      obtain ⟨hb63, q64⟩ | ⟨hb63, q64⟩ := oi h <;> clear h
      · refine cw_t rfl hb63 ?_
        refine cw_skip ?_
        refine qn_then ?_
        refine cw_seq ?_
        refine cw_block ?_
        refine cw_seq ?_
        refine cw_region ?_
        refine t_rd rfl (rd_move rfl) ?_
        refine t_rd rfl (rd_assign rfl) ?_
        refine rwt_nil ?_
        refine qn_then ?_
        refine cw_seq ?_
        refine cw_region ?_
        refine t_rd rfl (rd_move rfl) ?_
        refine t_rd rfl (rd_move rfl) ?_
        obtain ⟨x65, h66, q67⟩ := ob q64; clear q64
        refine t_rd rfl (rd_index tS41 rfl rfl ((hn3.of_old hm62).sl) h66) ?_
        obtain ⟨zd68, hz69⟩ := (hn3.of_old hm62).row h66
        refine t_rd rfl (rd_ld1 tO22 rfl ((hn3.of_old hm62).cells hz69) (off := 0) rfl) ?_
        refine t_rd rfl (rd_lenS tS22 rfl ((hn3.of_old hm62).get hz69 h66)) ?_
        refine t_rd rfl (rd_move rfl) ?_
        refine t_rd rfl (rd_lenS tS22 rfl (hv1.of_old hm62)) ?_
        obtain ⟨x70, h71, q72⟩ := ob q67; clear q67
        refine t_rd rfl (rd_add64 h71 rfl rfl) ?_
        refine t_rd rfl (rd_neq rfl rfl) ?_
        refine rwt_nil ?_
        refine qn_then ?_
        obtain ⟨hb73, q74⟩ | ⟨hb73, q74⟩ := oi q72 <;> clear q72
        · refine cw_t rfl hb73 ?_
          refine cw_seq ?_
          refine cw_region ?_
          refine t_rd rfl (rd_assign rfl) ?_
          refine rwt_nil ?_
          refine qn_then ?_
          refine cw_ret ?_
          refine qr_block (qr_then (qr_then ?_))
          obtain rfl := hr56 _ (os q74)
          refine .inl (⟨_, rfl, ⟨rfl, ?_⟩⟩)
          exact ret1 rfl rfl ⟨rfl, (hm62.pick [] (by decide) rfl)⟩
        · refine cw_f rfl hb73 ?_
          refine cw_skip ?_
          refine qn_block (qn_then ?_)
          refine cw_region ?_
          obtain ⟨x75, h76, q77⟩ := ob q74; clear q74
          refine t_rd rfl (rd_add64 h76 rfl rfl) ?_
          refine t_rd rfl (rd_move rfl) ?_
          refine rwt_nil ?_
          refine qn_then ?_
          refine ⟨_, (os q77), (by repeat (first | exact Sub.nil _ | refine Sub.cons rfl ?_)), (hm62.pick [] (by decide) rfl)⟩
      · refine cw_f rfl hb63 ?_
        refine cw_exit ?_
        refine qx_then (qx_then ?_)
        obtain rfl := hr56 _ (os q64)
        exact .inr (⟨_, rfl, ⟨rfl, (by repeat (first | exact Sub.nil _ | refine Sub.cons rfl ?_)), (hm62.pick [] (by decide) rfl)⟩⟩)
    · skip
      intro e env78 w79 hX80
      rcases hX80 with hX80 | hX80
      · obtain ⟨p82, rfl, hX80⟩ := hX80
        obtain ⟨rfl, hq84⟩ := hX80
        exact qr_block (qr_then ((by have e := os q59; subst e; exact hq84)))
      · obtain ⟨p85, rfl, hX80⟩ := hX80
        obtain ⟨rfl, hs86, hm87⟩ := hX80
        refine qx_same (qn_then ?_)
        refine cw_sub hs86 ?_
        refine cw_seq ?_
        refine cw_seq ?_
        refine cw_region ?_
        refine t_rd rfl (rd_move rfl) ?_
        obtain ⟨x88, h89, q90⟩ := ob q59; clear q59
        refine t_rd rfl (rd_index tS41 rfl rfl ((hn3.of_old hm87).sl) h89) ?_
        obtain ⟨zd91, hz92⟩ := (hn3.of_old hm87).row h89
        refine t_rd rfl (rd_ld1 tO22 rfl ((hn3.of_old hm87).cells hz92) (off := 0) rfl) ?_
        obtain ⟨x93, h94, q95⟩ := ob q90; clear q90
        refine t_rd rfl (rd_index tS22 rfl rfl ((hn3.of_old hm87).get hz92 h89) h94) ?_
        refine t_rd rfl (rd_ld1 tO3 rfl (((hn3.of_old hm87).get hz92 h89).cells h94) (off := 0) rfl) ?_
        refine t_rd rfl (rd_neq rfl rfl) ?_
        refine rwt_nil ?_
        refine qn_then ?_
        obtain ⟨hb96, q97⟩ | ⟨hb96, q97⟩ := oi q95 <;> clear q95
        · refine cw_t rfl hb96 ?_
          refine cw_seq ?_
          refine cw_region ?_
          refine t_rd rfl (rd_assign rfl) ?_
          refine rwt_nil ?_
          refine qn_then ?_
          refine cw_ret ?_
          refine qr_then ?_
          obtain rfl := os q97
          exact ret1 rfl rfl ⟨rfl, (hm87.pick [] (by decide) rfl)⟩
        · refine cw_f rfl hb96 ?_
          refine cw_skip ?_
          refine qn_then ?_
          refine cw_seq ?_
          refine cw_seq ?_
          refine cw_region ?_
          refine t_rd rfl (rd_move rfl) ?_
          refine t_rd rfl (rd_lenS tS41 rfl ((hn3.of_old hm87).sl)) ?_
          refine t_rd rfl (rd_move rfl) ?_
          refine rwt_nil ?_
          refine qn_then ?_
          refine cw_block ?_
          obtain ⟨r4596, hit4597, q4598⟩ := ob q97; clear q97
          refine cw_loop2 (I := fun q envq wq => Sub [(0, v0), (1, v1), (2, (Value.int .i64 a2)), (3, v3), (49, (Value.int .i64 (List.length a3 : Int))), (50, (Value.int .i64 q))] envq ∧ Mem w No [] wq) (X := fun eq envq wq => (∃ p4599, r4596 = (Sum.inl p4599) ∧ eq = .ret ∧ retQ Tryz.prog 122 Tryz.f18 (fun u w' => u = (Value.bool p4599) ∧ Mem w No [] w') .ret envq wq) ∨ (∃ p4600, r4596 = (Sum.inr p4600) ∧ eq = .exit 2 ∧ Sub [(0, v0), (1, v1), (2, (Value.int .i64 a2)), (3, v3)] envq ∧ Mem w No [] wq)) hit4597 ⟨(by repeat (first | exact Sub.nil _ | refine Sub.cons rfl ?_)), (hm87.pick [] (by decide) rfl)⟩ ?_ ?_
          · rintro i4589 x4591 env4592 w4593 hf4594 hr4595 ⟨hs_, hm_⟩
            have hs_ : Sub [(0, v0), (1, v1), (2, (Value.int .i64 a2)), (3, v3), (49, (Value.int .i64 (List.length a3 : Int))), (50, (Value.int .i64 i4589))] env4592 := hs_
            have hm4601 : Mem w No [] w4593 := hm_
            refine cw_sub hs_ ?_
            clear hs_ hm_ q4598
            have h : reconcile_Verify_l10 N a0 a1 a3 i4589 = some x4591 := hf4594
            clear hf4594
            refine cw_seq ?_
            refine cw_region ?_
            refine t_rd rfl (rd_lss rfl rfl) ?_
            refine rwt_nil ?_
            refine qn_then ?_
            refine cw_seq ?_
            obtain ⟨hb4602, q4603⟩ | ⟨hb4602, q4603⟩ := oi h <;> clear h
            · refine cw_t rfl hb4602 ?_
              refine cw_skip ?_
              refine qn_then ?_
              refine cw_seq ?_
              refine cw_block ?_
              refine cw_seq ?_
              refine cw_region ?_
              refine t_rd rfl (rd_move rfl) ?_
              refine t_rd rfl (rd_assign rfl) ?_
              refine rwt_nil ?_
              refine qn_then ?_
              refine cw_seq ?_
              refine cw_region ?_
              refine t_rd rfl (rd_move rfl) ?_
              refine t_rd rfl (rd_move rfl) ?_
              obtain ⟨x4604, h4605, q4606⟩ := ob q4603; clear q4603
              refine t_rd rfl (rd_index tS41 rfl rfl ((hn3.of_old hm4601).sl) h4605) ?_
              obtain ⟨zd4607, hz4608⟩ := (hn3.of_old hm4601).row h4605
              refine t_rd rfl (rd_ld1 tO22 rfl ((hn3.of_old hm4601).cells hz4608) (off := 0) rfl) ?_
              refine t_rd rfl (rd_lenS tS22 rfl ((hn3.of_old hm4601).get hz4608 h4605)) ?_
              refine t_rd rfl (rd_move rfl) ?_
              refine rwt_nil ?_
              refine qn_then ?_
              refine cw_block ?_
              obtain ⟨r6091, hit6092, q6093⟩ := ob q4606; clear q4606
              refine cw_loop2 (I := fun q envq wq => Sub [(0, v0), (1, v1), (2, (Value.int .i64 a2)), (3, v3), (10, (Value.int .i64 i4589)), (49, (Value.int .i64 (List.length a3 : Int))), (50, (Value.int .i64 i4589)), (57, (Value.int .i64 (List.length x4604 : Int))), (58, (Value.int .i64 q))] envq ∧ Mem w No [] wq) (X := fun eq envq wq => (∃ p6094, r6091 = (Sum.inl p6094) ∧ eq = .ret ∧ retQ Tryz.prog 122 Tryz.f18 (fun u w' => u = (Value.bool p6094) ∧ Mem w No [] w') .ret envq wq) ∨ (∃ p6095, r6091 = (Sum.inr p6095) ∧ eq = .exit 4 ∧ Sub [(0, v0), (1, v1), (2, (Value.int .i64 a2)), (3, v3), (49, (Value.int .i64 (List.length a3 : Int))), (50, (Value.int .i64 i4589))] envq ∧ Mem w No [] wq)) hit6092 ⟨(by repeat (first | exact Sub.nil _ | refine Sub.cons rfl ?_)), (hm4601.pick [] (by decide) rfl)⟩ ?_ ?_
              · rintro i6084 x6086 env6087 w6088 hf6089 hr6090 ⟨hs_, hm_⟩
                have hs_ : Sub [(0, v0), (1, v1), (2, (Value.int .i64 a2)), (3, v3), (10, (Value.int .i64 i4589)), (49, (Value.int .i64 (List.length a3 : Int))), (50, (Value.int .i64 i4589)), (57, (Value.int .i64 (List.length x4604 : Int))), (58, (Value.int .i64 i6084))] env6087 := hs_
                have hm6096 : Mem w No [] w6088 := hm_
                refine cw_sub hs_ ?_
                clear hs_ hm_ q6093
                have h : reconcile_Verify_l13 N a0 a1 a3 i4589 x4604 i6084 = some x6086 := hf6089
                clear hf6089
                refine cw_seq ?_
                refine cw_region ?_
                refine t_rd rfl (rd_lss rfl rfl) ?_
                refine rwt_nil ?_
                refine qn_then ?_
                refine cw_seq ?_
                obtain ⟨hb6097, q6098⟩ | ⟨hb6097, q6098⟩ := oi h <;> clear h
                · refine cw_t rfl hb6097 ?_
                  refine cw_skip ?_
                  refine qn_then ?_
                  refine cw_seq ?_
                  refine cw_block ?_
                  refine cw_seq ?_
                  refine cw_region ?_
                  refine t_rd rfl (rd_move rfl) ?_
                  refine t_rd rfl (rd_assign rfl) ?_
                  refine rwt_nil ?_
                  refine qn_then ?_
                  refine cw_seq ?_
                  refine cw_region ?_
                  refine t_rd rfl (rd_move rfl) ?_
                  refine rwt_nil ?_
                  refine qn_then ?_
                  refine cw_block ?_
                  obtain ⟨r6579, hit6580, q6581⟩ := ob q6098; clear q6098
                  refine cw_loop2 (I := fun q envq wq => Sub [(0, v0), (1, v1), (2, (Value.int .i64 a2)), (3, v3), (10, (Value.int .i64 i4589)), (11, (Value.int .i64 i6084)), (49, (Value.int .i64 (List.length a3 : Int))), (50, (Value.int .i64 i4589)), (57, (Value.int .i64 (List.length x4604 : Int))), (58, (Value.int .i64 i6084)), (61, (Value.int .i64 q))] envq ∧ Mem w No [] wq) (X := fun eq envq wq => (∃ p6582, r6579 = (Sum.inl p6582) ∧ eq = .ret ∧ retQ Tryz.prog 122 Tryz.f18 (fun u w' => u = (Value.bool p6582) ∧ Mem w No [] w') .ret envq wq) ∨ (∃ p6583, r6579 = (Sum.inr p6583) ∧ eq = .exit 6 ∧ Sub [(0, v0), (1, v1), (2, (Value.int .i64 a2)), (3, v3), (10, (Value.int .i64 i4589)), (49, (Value.int .i64 (List.length a3 : Int))), (50, (Value.int .i64 i4589)), (57, (Value.int .i64 (List.length x4604 : Int))), (58, (Value.int .i64 i6084))] envq ∧ Mem w No [] wq)) hit6580 ⟨(by repeat (first | exact Sub.nil _ | refine Sub.cons rfl ?_)), (hm6096.pick [] (by decide) rfl)⟩ ?_ ?_
                  · rintro i6572 x6574 env6575 w6576 hf6577 hr6578 ⟨hs_, hm_⟩
                    have hs_ : Sub [(0, v0), (1, v1), (2, (Value.int .i64 a2)), (3, v3), (10, (Value.int .i64 i4589)), (11, (Value.int .i64 i6084)), (49, (Value.int .i64 (List.length a3 : Int))), (50, (Value.int .i64 i4589)), (57, (Value.int .i64 (List.length x4604 : Int))), (58, (Value.int .i64 i6084)), (61, (Value.int .i64 i6572))] env6575 := hs_
                    have hm6584 : Mem w No [] w6576 := hm_
                    refine cw_sub hs_ ?_
                    clear hs_ hm_ q6581
                    have h : reconcile_Verify_l14 N a0 a1 a3 i4589 i6084 i6572 = some x6574 := hf6577
                    clear hf6577
                    refine cw_seq ?_
                    refine cw_region ?_
                    refine t_rd rfl (rd_lss rfl rfl) ?_
                    refine rwt_nil ?_
                    refine qn_then ?_
                    refine cw_seq ?_
                    obtain ⟨hb6585, q6586⟩ | ⟨hb6585, q6586⟩ := oi h <;> clear h
                    · refine cw_t rfl hb6585 ?_
                      refine cw_skip ?_
                      refine qn_then ?_
                      refine cw_seq ?_
                      refine cw_block ?_
                      refine cw_seq ?_
                      refine cw_region ?_
                      refine t_rd rfl (rd_move rfl) ?_
                      refine t_rd rfl (rd_assign rfl) ?_
                      refine rwt_nil ?_
                      refine qn_then ?_
                      refine cw_seq ?_
                      refine cw_region ?_
                      refine t_rd rfl (rd_move rfl) ?_
                      refine t_rd rfl (rd_move rfl) ?_
                      refine t_rd rfl (rd_move rfl) ?_
                      refine t_rd rfl (rd_move rfl) ?_
                      refine t_rd rfl (rd_move rfl) ?_
                      obtain ⟨r6587, h6588, q6589⟩ := ob q6586; clear q6586
                      refine t_ef rfl (ef_call tf44 rfl (reconcile_step_ok h6588 (hv0.to_call hm6584) (hv1.to_call hm6584))) ?_
                      rintro _ w6591 ⟨e_, hm6590⟩
                      obtain rfl := e_.symm
                      have hm6592 := hm6584.call hm6590
                      refine t_rd rfl (rd_move rfl) ?_
                      refine t_rd rfl (rd_extract rfl rfl) ?_
                      refine t_rd rfl (rd_extract rfl rfl) ?_
                      refine t_rd rfl (rd_extract rfl rfl) ?_
                      refine t_rd rfl (rd_assign rfl) ?_
                      refine t_rd rfl (rd_assign rfl) ?_
                      refine t_rd rfl (rd_assign rfl) ?_
                      refine rwt_nil ?_
                      refine qn_then ?_
                      refine cw_seq ?_
                      obtain ⟨w6667, he6669⟩ : ∃ q, q = w6591.drew := ⟨_, rfl⟩
                      have hm6668 := hm6592.drew; rw [← he6669] at hm6668
                      refine cw_region_s (fun q => Nl (Old w No) q v3 zs_a3 a3) (cls [10, 30] []) mixed ?_
                      rintro _ rfl; rw [← he6669]
                      refine s_rp (i := 0) rfl (by kernel_rfl) rfl (fun _ => (rd_move rfl)) ?_
                      refine s_rp (i := 1) rfl (by kernel_rfl) rfl (fun _ => (rd_move rfl)) ?_
                      refine s_rpg (i := 2) rfl (by kernel_rfl) rfl rfl rfl rfl (gv_t _) (fun hg6743 _ => (rd_move rfl)) ?_
                      refine s_rpg (i := 3) rfl (by kernel_rfl) rfl rfl rfl rfl (gv_t _) (fun hg6744 _ => (rd_move rfl)) ?_
                      obtain ⟨x6746, h6747, q6748⟩ := ob q6589; clear q6589
                      refine s_rpg (i := 4) rfl (by kernel_rfl) rfl rfl rfl rfl (gv_t _) (fun hg6745 _ => (rd_index tS41 (gvx rfl hg6745) (gvx rfl hg6745) ((hn3.of_old hm6668).sl) (gO_t h6747 hg6745))) ?_
                      obtain ⟨zd6750, hz6751⟩ := (hn3.of_old hm6668).rowg (g := r6587.2.2) (fun q => gO_t h6747 q)
                      refine s_rdg (i := 5) rfl (by kernel_rfl) rfl rfl rfl rfl (gv_t _) (fun hg6749 => (fun w6666 hS => (rd_ld1 tO22 (gvx rfl hg6749) (hS.cells (hz6751 hg6749)) (off := 0) rfl))) (hn3.of_old hm6668) ?_
                      refine s_rpg (i := 6) rfl (by kernel_rfl) rfl rfl rfl rfl (gv_t _) (fun hg6752 _ => (rd_move rfl)) ?_
                      obtain ⟨x6754, h6755, q6756⟩ := ob q6748; clear q6748
                      refine s_rpg (i := 7) rfl (by kernel_rfl) rfl rfl rfl rfl (gv_t _) (fun hg6753 _ => (rd_index tS22 (gvx rfl hg6753) (gvx rfl hg6753) ((hn3.of_old hm6668).get (hz6751 hg6753) (gO_t h6747 hg6753)) (gO_t h6755 hg6753))) ?_
                      refine s_rdg (i := 8) rfl (by kernel_rfl) rfl rfl rfl rfl (gv_t _) (fun hg6757 => (fun w6666 hS => (rd_ld1 tO3 (gvx rfl hg6757) ((hS.get (hz6751 hg6757) (gO_t h6747 hg6757)).cells (gO_t h6755 hg6757)) (off := 0) rfl))) (hn3.of_old hm6668) ?_
                      refine s_rpg (i := 9) rfl (by kernel_rfl) rfl rfl rfl rfl (gv_t _) (fun hg6758 _ => (rd_move rfl)) ?_
                      obtain ⟨r6760, h6761, q6762⟩ := ob q6756; clear q6756
                      refine s_efg (i := 10) rfl (by kernel_rfl) rfl rfl rfl rfl (R := (fun v w' => v = gV r6587.2.2 (Value.int .i64 r6760) ∧ Mem w6667 No [] w')) (gv_t _) (fun hg6759 => (ef_call tf45 (evc (gvx rfl hg6759) evn) (reconcile_cost_ok (gO_t h6761 hg6759))).mono (by rintro _ _ ⟨rfl, q⟩; exact ⟨(gV_t hg6759).symm, q⟩)) (fun q => ⟨(gV_f q).symm, Mem.nil _⟩) (by decide) ?_ ?_
                      · rintro _ w6764 ⟨rfl, hm6763⟩
                        have hm6765 := hm6668.call hm6763
                        intro _
                        exact (hn3.of_old hm6765)
                      rintro _ w6764 ⟨rfl, hm6763⟩
                      have hm6765 := hm6668.call hm6763
                      obtain ⟨x6767, h6768, q6769⟩ := ob q6762; clear q6762
                      refine s_rpg (i := 11) rfl (by kernel_rfl) rfl rfl rfl rfl (gv_t _) (fun hg6766 _ => (rd_sub64 (gO_t h6768 hg6766) rfl (gvx rfl hg6766))) ?_
                      refine s_rpg (i := 12) rfl (by kernel_rfl) rfl rfl rfl rfl (gv_t _) (fun hg6770 _ => (rd_leq (gvx rfl hg6770) (gvx rfl hg6770))) ?_
                      refine s_rp (i := 13) rfl (by kernel_rfl) rfl (fun _ => (rd_and rfl (fun hc6771 => (gvx rfl hc6771)))) ?_
                      refine s_rp (i := 14) rfl (by kernel_rfl) rfl (fun _ => (rd_move rfl)) ?_
                      refine s_rpg (i := 15) rfl (by kernel_rfl) rfl rfl rfl rfl (gv_t _) (fun hg6772 _ => (rd_move rfl)) ?_
                      refine s_rpg (i := 16) rfl (by kernel_rfl) rfl rfl rfl rfl (gv_t _) (fun hg6773 _ => (rd_move rfl)) ?_
                      obtain ⟨x6775, h6776, q6777⟩ := ob q6769; clear q6769
                      refine s_rpg (i := 17) rfl (by kernel_rfl) rfl rfl rfl rfl (gv_t _) (fun hg6774 _ => (rd_index tS41 (gvx rfl hg6774) (gvx rfl hg6774) ((hn3.of_old hm6765).sl) (gO_t h6776 hg6774))) ?_
                      obtain ⟨zd6779, hz6780⟩ := (hn3.of_old hm6765).rowg (g := (r6587.2.2 && decide (x6754 ≤ x6767))) (fun q => gO_t h6776 q)
                      refine s_rdg (i := 18) rfl (by kernel_rfl) rfl rfl rfl rfl (gv_t _) (fun hg6778 => (fun w6666 hS => (rd_ld1 tO22 (gvx rfl hg6778) (hS.cells (hz6780 hg6778)) (off := 0) rfl))) (hn3.of_old hm6765) ?_
                      refine s_rpg (i := 19) rfl (by kernel_rfl) rfl rfl rfl rfl (gv_t _) (fun hg6781 _ => (rd_move rfl)) ?_
                      obtain ⟨x6783, h6784, q6785⟩ := ob q6777; clear q6777
                      refine s_rpg (i := 20) rfl (by kernel_rfl) rfl rfl rfl rfl (gv_t _) (fun hg6782 _ => (rd_index tS22 (gvx rfl hg6782) (gvx rfl hg6782) ((hn3.of_old hm6765).get (hz6780 hg6782) (gO_t h6776 hg6782)) (gO_t h6784 hg6782))) ?_
                      refine s_rdg (i := 21) rfl (by kernel_rfl) rfl rfl rfl rfl (gv_t _) (fun hg6786 => (fun w6666 hS => (rd_ld1 tO3 (gvx rfl hg6786) ((hS.get (hz6780 hg6786) (gO_t h6776 hg6786)).cells (gO_t h6784 hg6786)) (off := 0) rfl))) (hn3.of_old hm6765) ?_
                      refine s_rpg (i := 22) rfl (by kernel_rfl) rfl rfl rfl rfl (gv_t _) (fun hg6787 _ => (rd_move rfl)) ?_
                      refine s_rpg (i := 23) rfl (by kernel_rfl) rfl rfl rfl rfl (gv_t _) (fun hg6788 _ => (rd_move rfl)) ?_
                      obtain ⟨x6790, h6791, q6792⟩ := ob q6785; clear q6785
                      refine s_rpg (i := 24) rfl (by kernel_rfl) rfl rfl rfl rfl (gv_t _) (fun hg6789 _ => (rd_index tS41 (gvx rfl hg6789) (gvx rfl hg6789) ((hn3.of_old hm6765).sl) (gO_t h6791 hg6789))) ?_
                      obtain ⟨zd6794, hz6795⟩ := (hn3.of_old hm6765).rowg (g := (r6587.2.2 && decide (x6754 ≤ x6767))) (fun q => gO_t h6791 q)
                      refine s_rdg (i := 25) rfl (by kernel_rfl) rfl rfl rfl rfl (gv_t _) (fun hg6793 => (fun w6666 hS => (rd_ld1 tO22 (gvx rfl hg6793) (hS.cells (hz6795 hg6793)) (off := 0) rfl))) (hn3.of_old hm6765) ?_
                      refine s_rpg (i := 26) rfl (by kernel_rfl) rfl rfl rfl rfl (gv_t _) (fun hg6796 _ => (rd_move rfl)) ?_
                      obtain ⟨x6798, h6799, q6800⟩ := ob q6792; clear q6792
                      refine s_rpg (i := 27) rfl (by kernel_rfl) rfl rfl rfl rfl (gv_t _) (fun hg6797 _ => (rd_index tS22 (gvx rfl hg6797) (gvx rfl hg6797) ((hn3.of_old hm6765).get (hz6795 hg6797) (gO_t h6791 hg6797)) (gO_t h6799 hg6797))) ?_
                      refine s_rdg (i := 28) rfl (by kernel_rfl) rfl rfl rfl rfl (gv_t _) (fun hg6801 => (fun w6666 hS => (rd_ld1 tO3 (gvx rfl hg6801) ((hS.get (hz6795 hg6801) (gO_t h6791 hg6801)).cells (gO_t h6799 hg6801)) (off := 0) rfl))) (hn3.of_old hm6765) ?_
                      refine s_rpg (i := 29) rfl (by kernel_rfl) rfl rfl rfl rfl (gv_t _) (fun hg6802 _ => (rd_move rfl)) ?_
                      obtain ⟨r6804, h6805, q6806⟩ := ob q6800; clear q6800
                      refine s_efg (i := 30) rfl (by kernel_rfl) rfl rfl rfl rfl (R := (fun v w' => v = gV (r6587.2.2 && decide (x6754 ≤ x6767)) (Value.int .i64 r6804) ∧ Mem w6764 No [] w')) (gv_t _) (fun hg6803 => (ef_call tf45 (evc (gvx rfl hg6803) evn) (reconcile_cost_ok (gO_t h6805 hg6803))).mono (by rintro _ _ ⟨rfl, q⟩; exact ⟨(gV_t hg6803).symm, q⟩)) (fun q => ⟨(gV_f q).symm, Mem.nil _⟩) (by decide) ?_ ?_
                      · rintro _ w6808 ⟨rfl, hm6807⟩
                        have hm6809 := hm6765.call hm6807
                        intro _
                        exact (hn3.of_old hm6809)
                      rintro _ w6808 ⟨rfl, hm6807⟩
                      have hm6809 := hm6765.call hm6807
                      obtain ⟨x6811, h6812, q6813⟩ := ob q6806; clear q6806
                      refine s_rpg (i := 31) rfl (by kernel_rfl) rfl rfl rfl rfl (gv_t _) (fun hg6810 _ => (rd_add64 (gO_t h6812 hg6810) (gvx rfl hg6810) (gvx rfl hg6810))) ?_
                      refine s_rpg (i := 32) rfl (by kernel_rfl) rfl rfl rfl rfl (gv_t _) (fun hg6814 _ => (rd_gtr (gvx rfl hg6814) (gvx rfl hg6814))) ?_
                      refine s_rp (i := 33) rfl (by kernel_rfl) rfl (fun _ => (rd_and rfl (fun hc6815 => (gvx rfl hc6815)))) ?_
                      refine s_nil (by kernel_rfl) ?_
                      refine qn_then ?_
                      obtain ⟨hb6816, q6817⟩ | ⟨hb6816, q6817⟩ := oi q6813 <;> clear q6813
                      · refine cw_t rfl hb6816 ?_
                        refine cw_seq ?_
                        refine cw_region ?_
                        refine t_rd rfl (rd_assign rfl) ?_
                        refine rwt_nil ?_
                        refine qn_then ?_
                        refine cw_ret ?_
                        refine qr_block (qr_then (qr_then ?_))
                        obtain rfl := hr6578 _ (os q6817)
                        refine .inl (⟨_, rfl, ⟨rfl, ?_⟩⟩)
                        exact ret1 rfl rfl ⟨rfl, (hm6809.pick [] (by decide) rfl)⟩
                      · refine cw_f rfl hb6816 ?_
                        refine cw_skip ?_
                        refine qn_block (qn_then ?_)
                        refine cw_region ?_
                        obtain ⟨x6818, h6819, q6820⟩ := ob q6817; clear q6817
                        refine t_rd rfl (rd_add64 h6819 rfl rfl) ?_
                        refine t_rd rfl (rd_move rfl) ?_
                        refine rwt_nil ?_
                        refine qn_then ?_
                        refine ⟨_, (os q6820), (by repeat (first | exact Sub.nil _ | refine Sub.cons rfl ?_)), (hm6809.pick [] (by decide) rfl)⟩
                    · refine cw_f rfl hb6585 ?_
                      refine cw_exit ?_
                      refine qx_then (qx_then ?_)
                      obtain rfl := hr6578 _ (os q6586)
                      exact .inr (⟨_, rfl, ⟨rfl, (by repeat (first | exact Sub.nil _ | refine Sub.cons rfl ?_)), (hm6584.pick [] (by decide) rfl)⟩⟩)
                  · skip
                    intro e env6821 w6822 hX6823
                    rcases hX6823 with hX6823 | hX6823
                    · obtain ⟨p6825, rfl, hX6823⟩ := hX6823
                      obtain ⟨rfl, hq6827⟩ := hX6823
                      obtain rfl := hr6090 _ (os q6581)
                      exact qr_block (qr_block (qr_then (qr_then (.inl (⟨_, rfl, ⟨rfl, hq6827⟩⟩)))))
                    · obtain ⟨p6828, rfl, hX6823⟩ := hX6823
                      obtain ⟨rfl, hs6829, hm6830⟩ := hX6823
                      refine qx_same (qn_block (qn_then ?_))
                      refine cw_sub hs6829 ?_
                      refine cw_region ?_
                      obtain ⟨x6831, h6832, q6833⟩ := ob q6581; clear q6581
                      refine t_rd rfl (rd_add64 h6832 rfl rfl) ?_
                      refine t_rd rfl (rd_move rfl) ?_
                      refine rwt_nil ?_
                      refine qn_then ?_
                      refine ⟨_, (os q6833), (by repeat (first | exact Sub.nil _ | refine Sub.cons rfl ?_)), (hm6830.pick [] (by decide) rfl)⟩
                · refine cw_f rfl hb6097 ?_
                  refine cw_exit ?_
                  refine qx_then (qx_then ?_)
                  obtain rfl := hr6090 _ (os q6098)
                  exact .inr (⟨_, rfl, ⟨rfl, (by repeat (first | exact Sub.nil _ | refine Sub.cons rfl ?_)), (hm6096.pick [] (by decide) rfl)⟩⟩)
              · skip
                intro e env6834 w6835 hX6836
                rcases hX6836 with hX6836 | hX6836
                · obtain ⟨p6838, rfl, hX6836⟩ := hX6836
                  obtain ⟨rfl, hq6840⟩ := hX6836
                  obtain rfl := hr4595 _ (os q6093)
                  exact qr_block (qr_block (qr_then (qr_then (.inl (⟨_, rfl, ⟨rfl, hq6840⟩⟩)))))
                · obtain ⟨p6841, rfl, hX6836⟩ := hX6836
                  obtain ⟨rfl, hs6842, hm6843⟩ := hX6836
                  refine qx_same (qn_block (qn_then ?_))
                  refine cw_sub hs6842 ?_
                  refine cw_region ?_
                  obtain ⟨x6844, h6845, q6846⟩ := ob q6093; clear q6093
                  refine t_rd rfl (rd_add64 h6845 rfl rfl) ?_
                  refine t_rd rfl (rd_move rfl) ?_
                  refine rwt_nil ?_
                  refine qn_then ?_
                  refine ⟨_, (os q6846), (by repeat (first | exact Sub.nil _ | refine Sub.cons rfl ?_)), (hm6843.pick [] (by decide) rfl)⟩
            · refine cw_f rfl hb4602 ?_
              refine cw_exit ?_
              refine qx_then (qx_then ?_)
              obtain rfl := hr4595 _ (os q4603)
              exact .inr (⟨_, rfl, ⟨rfl, (by repeat (first | exact Sub.nil _ | refine Sub.cons rfl ?_)), (hm4601.pick [] (by decide) rfl)⟩⟩)
          · skip
            intro e env6847 w6848 hX6849
            rcases hX6849 with hX6849 | hX6849
            · obtain ⟨p6851, rfl, hX6849⟩ := hX6849
              obtain ⟨rfl, hq6853⟩ := hX6849
              exact qr_block (qr_then ((by have e := os q4598; subst e; exact hq6853)))
            · obtain ⟨p6854, rfl, hX6849⟩ := hX6849
              obtain ⟨rfl, hs6855, hm6856⟩ := hX6849
              refine qx_same (qn_then ?_)
              refine cw_sub hs6855 ?_
              refine cw_seq ?_
              refine cw_region ?_
              refine t_rd rfl (rd_move rfl) ?_
              refine t_rd rfl (rd_move rfl) ?_
              refine t_rd rfl (rd_lenS tS22 rfl (hv0.of_old hm6856)) ?_
              obtain ⟨x6857, h6858, q6859⟩ := ob q4598; clear q4598
              refine t_rd rfl (rd_index tS41 rfl rfl ((hn3.of_old hm6856).sl) h6858) ?_
              obtain ⟨zd6860, hz6861⟩ := (hn3.of_old hm6856).row h6858
              refine t_rd rfl (rd_ld1 tO22 rfl ((hn3.of_old hm6856).cells hz6861) (off := 0) rfl) ?_
              refine t_rd rfl (rd_move rfl) ?_
              refine t_rd rfl (rd_lenS tS22 rfl (hv1.of_old hm6856)) ?_
              obtain ⟨x6862, h6863, q6864⟩ := ob q6859; clear q6859
              refine t_rd rfl (rd_index tS22 rfl rfl ((hn3.of_old hm6856).get hz6861 h6858) h6863) ?_
              refine t_rd rfl (rd_ld1 tO3 rfl (((hn3.of_old hm6856).get hz6861 h6858).cells h6863) (off := 0) rfl) ?_
              refine t_rd rfl (rd_move rfl) ?_
              refine t_rd rfl (rd_geq rfl rfl) ?_
              refine t_rd rfl (rd_assign rfl) ?_
              refine rwt_nil ?_
              refine qn_then ?_
              refine cw_ret ?_
              obtain rfl := os q6864
              exact ret1 rfl rfl ⟨rfl, (hm6856.pick [] (by decide) rfl)⟩

theorem humpyardtop_TopLost_ok {N : Nat} {a0 : List Int} {a1 : Int} {res : Bool} (h : humpyardtop_TopLost N a0 a1 = some res) {w : World} {v0 : Value} (hv0 : Sl (Old w No) w v0 a0) :
    CallsR Tryz.prog 4 [v0, (Value.int .i64 a1)] w (fun u w' => u = (Value.bool res) ∧ Mem w No [] w') := by
  unfold humpyardtop_TopLost at h
  refine fn_ok Tryz.func4 rfl rfl rfl ?_
  have hm0 := Mem.nil w
  refine cw_seq ?_
  refine cw_region ?_
  refine t_rd rfl (rd_assign rfl) ?_
  refine rwt_nil ?_
  refine qn_then ?_
  refine cw_seq ?_
  refine cw_region ?_
  refine t_rd rfl (rd_move rfl) ?_
  obtain ⟨r1, h2, q3⟩ := ob h; clear h
  refine t_ef rfl (ef_call tf6 rfl (humpgen_New_ok h2 (hv0.to_call hm0))) ?_
  rintro _ w6 ⟨g4, e_, hm5⟩
  obtain rfl := e_.symm
  have hm7 := hm0.call hm5
  refine t_rd rfl (rd_assign rfl) ?_
  refine rwt_nil ?_
  refine qn_then ?_
  refine cw_seq ?_
  refine cw_region ?_
  refine t_rd rfl (rd_move rfl) ?_
  obtain ⟨r8, h9, q10⟩ := ob q3; clear q3
  refine t_ef rfl (ef_call tf14 rfl (Maker_Wagons_ok h9 (hv0.to_callT (k := 0) hm7 rfl) (hm7.get (k := 0) rfl))) ?_
  rintro _ w13 ⟨v11, e_, hm12⟩
  obtain rfl := e_.symm
  have hm14 := hm7.callT (k := 0) rfl (fun _ h => h) hm12 (fun _ => Iff.rfl)
  refine t_rd rfl (rd_assign rfl) ?_
  refine rwt_nil ?_
  refine qn_then ?_
  refine cw_seq ?_
  refine cw_seq ?_
  refine cw_region ?_
  refine t_rd rfl (rd_move rfl) ?_
  refine t_rd rfl (rd_lenS tS48 rfl (hm14.sl 0 rfl)) ?_
  refine t_rd rfl (rd_eql rfl rfl) ?_
  refine rwt_nil ?_
  refine qn_then ?_
  obtain ⟨hb15, q16⟩ | ⟨hb15, q16⟩ := oi q10 <;> clear q10
  · refine cw_t rfl hb15 ?_
    refine cw_seq ?_
    refine cw_region ?_
    obtain ⟨r17, h18, q19⟩ := ob q16; clear q16
    refine t_ef rfl (ef_call tf9 rfl (humpyardtop_awake_ok h18)) ?_
    rintro _ w21 ⟨e_, hm20⟩
    obtain rfl := e_.symm
    have hm22 := hm14.call hm20
    refine t_rd rfl (rd_assign rfl) ?_
    refine rwt_nil ?_
    refine qn_then ?_
    refine cw_ret ?_
    refine qr_then ?_
    obtain rfl := os q19
    exact ret1 rfl rfl ⟨rfl, (hm22.pick [] (by decide) rfl)⟩
  · refine cw_f rfl hb15 ?_
    refine cw_skip ?_
    refine qn_then ?_
    refine cw_seq ?_
    refine cw_region ?_
    refine t_rd rfl (rd_move rfl) ?_
    refine t_rd rfl (rd_move rfl) ?_
    refine t_rd rfl (rd_lenS tS48 rfl (hm14.sl 0 rfl)) ?_
    obtain ⟨x23, h24, q25⟩ := ob q16; clear q16
    refine t_rd rfl (rd_rem64 h24 rfl rfl) ?_
    refine t_rd rfl (rd_move rfl) ?_
    refine t_rd rfl (rd_lenS tS48 rfl (hm14.sl 0 rfl)) ?_
    obtain ⟨x26, h27, q28⟩ := ob q25; clear q25
    refine t_rd rfl (rd_add64 h27 rfl rfl) ?_
    refine t_rd rfl (rd_move rfl) ?_
    refine t_rd rfl (rd_lenS tS48 rfl (hm14.sl 0 rfl)) ?_
    obtain ⟨x29, h30, q31⟩ := ob q28; clear q28
    refine t_rd rfl (rd_rem64 h30 rfl rfl) ?_
    refine t_rd rfl (rd_assign rfl) ?_
    refine rwt_nil ?_
    refine qn_then ?_
    refine cw_seq ?_
    refine cw_region ?_
    refine t_rd rfl (rd_assign rfl) ?_
    refine t_rd rfl (rd_assign rfl) ?_
    refine rwt_nil ?_
    refine qn_then ?_
    refine cw_seq ?_
    refine cw_seq ?_
    refine cw_region ?_
    refine t_rd rfl (rd_move rfl) ?_
    refine t_rd rfl (rd_lenS tS48 rfl (hm14.sl 0 rfl)) ?_
    refine t_rd rfl (rd_move rfl) ?_
    refine rwt_nil ?_
    refine qn_then ?_
    refine cw_block ?_
    have hm81 := hm14.addNil (α := Int) 3
    have hm82 := hm81.addNil (α := Int) 3
    obtain ⟨r201, hit202, q203⟩ := ob q31; clear q31
    refine cw_loop2 (I := fun q envq wq => ∃ (v194 : Value) (v192 : Value), Sub [(1, (Value.int .i64 x29)), (7, v192), (8, v194), (40, v11), (41, (Value.int .i64 (List.length r8.2 : Int))), (42, (Value.int .i64 q.1))] envq ∧ Mem w No [ownL 3 v194 (q.2.2 : List Int), ownL 3 v192 (q.2.1 : List Int), ownL 51 v11 (r8.2 : List T_Wagon)] wq) (X := fun eq envq wq => (∃ p204, r201 = (Sum.inl p204) ∧ eq = .ret ∧ retQ Tryz.prog 127 Tryz.f4 (fun u w' => u = (Value.bool p204) ∧ Mem w No [] w') .ret envq wq) ∨ (∃ p205, r201 = (Sum.inr p205) ∧ eq = .exit 0 ∧ ∃ (v189 : Value) (v187 : Value), Sub [(7, v187), (8, v189)] envq ∧ Mem w No [ownL 3 v189 (p205.2 : List Int), ownL 3 v187 (p205.1 : List Int)] wq)) hit202 ⟨(Value.slice none 0 0), (Value.slice none 0 0), (by repeat (first | exact Sub.nil _ | refine Sub.cons rfl ?_)), (hm82.pick [0, 1, 2] (by decide) rfl)⟩ ?_ ?_
    · rintro ⟨i190, l191, l193⟩ x196 env197 w198 hf199 hr200 ⟨v194, v192, hs_, hm_⟩
      have hs_ : Sub [(1, (Value.int .i64 x29)), (7, v192), (8, v194), (40, v11), (41, (Value.int .i64 (List.length r8.2 : Int))), (42, (Value.int .i64 i190))] env197 := hs_
      have hm206 : Mem w No [ownL 3 v194 (l193 : List Int), ownL 3 v192 (l191 : List Int), ownL 51 v11 (r8.2 : List T_Wagon)] w198 := hm_
      refine cw_sub hs_ ?_
      clear hs_ hm_ q203
      have h : humpyardtop_TopLost_l1 N r8 x29 i190 l191 l193 = some x196 := hf199
      clear hf199
      refine cw_seq ?_
      refine cw_region ?_
      refine t_rd rfl (rd_lss rfl rfl) ?_
      refine rwt_nil ?_
      refine qn_then ?_
      refine cw_seq ?_
      obtain ⟨hb207, q208⟩ | ⟨hb207, q208⟩ := oi h <;> clear h
      · refine cw_t rfl hb207 ?_
        refine cw_skip ?_
        refine qn_then ?_
        refine cw_seq ?_
        refine cw_block ?_
        refine cw_seq ?_
        refine cw_region ?_
        refine t_rd rfl (rd_move rfl) ?_
        obtain ⟨x209, h210, q211⟩ := ob q208; clear q208
        refine t_rd rfl (rd_index tS48 rfl rfl (hm206.sl 2 rfl) h210) ?_
        refine t_rd rfl (rd_ld tA51 rfl ((hm206.sl 2 rfl).cells h210) rfl) ?_
        refine t_ef rfl (ef_alloc hm206 tZ51 rfl) ?_
        rintro _ w214 ⟨g212, rfl, hm213⟩
        refine t_rd rfl (rd_assign rfl) ?_
        refine t_ef0 (ef_stw (k := 0) hm213 tA51 rfl rfl (oc_cons rfl (oc_cons rfl (oc_cons rfl (oc_cons rfl (oc_cons rfl (oc_cons rfl (oc_cons rfl (oc_cons rfl oc_nil)))))))) rfl rfl rfl) ?_
        intro _ w216 hm215
        refine rwt_nil ?_
        refine qn_then ?_
        refine cw_seq ?_
        refine cw_region ?_
        refine t_rd rfl (rd_fld tF51_0 rfl) ?_
        refine t_rd rfl (rd_ld1 tO9 rfl (hm215.blk 0 rfl) (off := 0) rfl) ?_
        obtain ⟨r217, h218, q219⟩ := ob q211; clear q211
        refine t_ef rfl (ef_call tf15 rfl (wagonnumber_Kind_ok h218)) ?_
        rintro _ w221 ⟨e_, hm220⟩
        obtain rfl := e_.symm
        have hm222 := hm215.call hm220
        refine t_rd rfl (rd_move rfl) ?_
        refine t_rd rfl (rd_extract rfl rfl) ?_
        refine t_rd rfl (rd_extract rfl rfl) ?_
        refine t_rd rfl (rd_assign rfl) ?_
        refine t_rd rfl (rd_assign rfl) ?_
        refine rwt_nil ?_
        refine qn_then ?_
        refine cw_seq ?_
        refine cw_seq ?_
        refine cw_region ?_
        refine t_rd rfl (rd_move rfl) ?_
        refine t_rd rfl (rd_neq rfl rfl) ?_
        refine rwt_nil ?_
        refine qn_then ?_
        obtain ⟨hb223, q224⟩ | ⟨hb223, q224⟩ := oi q219 <;> clear q219
        · refine cw_t rfl hb223 ?_
          refine cw_seq ?_
          refine cw_region ?_
          refine t_rd rfl (rd_assign rfl) ?_
          refine rwt_nil ?_
          refine qn_then ?_
          refine cw_ret ?_
          refine qr_then (qr_block (qr_then (qr_then ?_)))
          obtain rfl := hr200 _ (os q224)
          refine .inl (⟨_, rfl, ⟨rfl, ?_⟩⟩)
          exact ret1 rfl rfl ⟨rfl, (hm222.pick [] (by decide) rfl)⟩
        · refine cw_f rfl hb223 ?_
          refine cw_skip ?_
          refine qn_then ?_
          refine cw_seq ?_
          refine cw_region ?_
          refine t_rd rfl (rd_move rfl) ?_
          obtain ⟨x225, h226, q227⟩ := ob q224; clear q224
          refine t_rd rfl (rd_mul64 h226 rfl rfl) ?_
          refine t_rd rfl (rd_fld tF51_1 rfl) ?_
          refine t_rd rfl (rd_ld1 tO3 rfl (hm222.blk 0 rfl) (off := 1) rfl) ?_
          obtain ⟨x228, h229, q230⟩ := ob q227; clear q227
          refine t_rd rfl (rd_add64 h229 rfl rfl) ?_
          refine t_rd rfl (rd_assign rfl) ?_
          refine rwt_nil ?_
          refine qn_then ?_
          refine cw_seq ?_
          refine cw_region ?_
          refine t_rd rfl (rd_move rfl) ?_
          refine t_rd rfl (rd_move rfl) ?_
          refine t_ef rfl (ef_bslice (l := ([x228] : List Int)) hm222 tS22 rfl (cs := #[(Value.int .i64 x228)]) (by unfold bsl; kernel_rfl) rfl rfl) ?_
          intro v231 w233 hm232
          obtain ⟨l234, h235, q236⟩ := ob q230; clear q230
          refine t_ef rfl (ef_append (k := 3) hm232 tS22 tE3 rfl rfl rfl rfl (hm232.sl 0 rfl) h235) ?_
          intro v237 w239 hm238
          refine t_rd rfl (rd_assign rfl) ?_
          refine rwt_nil ?_
          refine qn_then ?_
          refine cw_seq ?_
          refine cw_region ?_
          refine t_rd rfl (rd_move rfl) ?_
          refine t_rd rfl (rd_move rfl) ?_
          refine t_rd rfl (rd_neq rfl rfl) ?_
          refine rwt_nil ?_
          refine qn_then ?_
          obtain ⟨hb240, q241⟩ | ⟨hb240, q241⟩ := oi q236 <;> clear q236
          · refine cw_t rfl hb240 ?_
            refine cw_region ?_
            refine t_rd rfl (rd_move rfl) ?_
            refine t_rd rfl (rd_move rfl) ?_
            refine t_ef rfl (ef_bslice (l := ([x228] : List Int)) hm238 tS22 rfl (cs := #[(Value.int .i64 x228)]) (by unfold bsl; kernel_rfl) rfl rfl) ?_
            intro v242 w244 hm243
            obtain ⟨l245, h246, q247⟩ := ob q241; clear q241
            refine t_ef rfl (ef_append (k := 3) hm243 tS22 tE3 rfl rfl rfl rfl (hm243.sl 0 rfl) h246) ?_
            intro v248 w250 hm249
            refine t_rd rfl (rd_assign rfl) ?_
            refine rwt_nil ?_
            refine qn_block (qn_then ?_)
            refine cw_region ?_
            obtain ⟨x251, h252, q253⟩ := ob q247; clear q247
            refine t_rd rfl (rd_add64 h252 rfl rfl) ?_
            refine t_rd rfl (rd_move rfl) ?_
            refine rwt_nil ?_
            refine qn_then ?_
            refine ⟨_, (os q253), v248, v237, (by repeat (first | exact Sub.nil _ | refine Sub.cons rfl ?_)), (hm249.pick [3, 4, 5] (by decide) rfl)⟩
          · refine cw_f rfl hb240 ?_
            refine cw_skip ?_
            refine qn_block (qn_then ?_)
            refine cw_region ?_
            obtain ⟨x254, h255, q256⟩ := ob q241; clear q241
            refine t_rd rfl (rd_add64 h255 rfl rfl) ?_
            refine t_rd rfl (rd_move rfl) ?_
            refine rwt_nil ?_
            refine qn_then ?_
            refine ⟨_, (os q256), v194, v237, (by repeat (first | exact Sub.nil _ | refine Sub.cons rfl ?_)), (hm238.pick [2, 3, 4] (by decide) rfl)⟩
      · refine cw_f rfl hb207 ?_
        refine cw_exit ?_
        refine qx_then (qx_then ?_)
        obtain rfl := hr200 _ (os q208)
        exact .inr (⟨_, rfl, ⟨rfl, v194, v192, (by repeat (first | exact Sub.nil _ | refine Sub.cons rfl ?_)), (hm206.pick [0, 1] (by decide) rfl)⟩⟩)
    · skip
      intro e env257 w258 hX259
      rcases hX259 with hX259 | hX259
      · obtain ⟨p261, rfl, hX259⟩ := hX259
        obtain ⟨rfl, hq263⟩ := hX259
        exact qr_block (qr_then ((by have e := os q203; subst e; exact hq263)))
      · obtain ⟨p264, rfl, hX259⟩ := hX259
        obtain ⟨rfl, v189, v187, hs265, hm266⟩ := hX259
        refine qx_same (qn_then ?_)
        refine cw_sub hs265 ?_
        refine cw_seq ?_
        refine cw_region ?_
        refine t_rd rfl (rd_move rfl) ?_
        refine t_rd rfl (rd_move rfl) ?_
        obtain ⟨r267, h268, q269⟩ := ob q203; clear q203
        refine t_ef rfl (ef_call tf16 rfl (reconcile_Align_ok h268 (hm266.sl_call 1 rfl) (hm266.sl_call 0 rfl))) ?_
        rintro _ w272 ⟨v270, e_, hm271⟩
        obtain rfl := e_.symm
        have hm273 := hm266.call hm271
        refine t_rd rfl (rd_move rfl) ?_
        refine t_rd rfl (rd_extract rfl rfl) ?_
        refine t_rd rfl (rd_extract rfl rfl) ?_
        refine t_rd rfl (rd_extract rfl rfl) ?_
        refine t_rd rfl (rd_assign rfl) ?_
        refine t_rd rfl (rd_assign rfl) ?_
        refine t_rd rfl (rd_assign rfl) ?_
        refine rwt_nil ?_
        refine qn_then ?_
        refine cw_seq ?_
        refine cw_region ?_
        refine t_rd rfl (rd_move rfl) ?_
        refine t_rd rfl (rd_move rfl) ?_
        obtain ⟨r274, h275, q276⟩ := ob q269; clear q269
        refine t_ef rfl (ef_call tf17 rfl (reconcile_Potential_ok h275 (hm273.sl_call 2 rfl) (hm273.sl_call 1 rfl))) ?_
        rintro _ w280 ⟨zs278, v277, e_, hm279⟩
        obtain rfl := e_.symm
        have hm281 := hm273.call hm279
        refine t_rd rfl (rd_move rfl) ?_
        refine t_rd rfl (rd_extract rfl rfl) ?_
        refine t_rd rfl (rd_extract rfl rfl) ?_
        refine t_rd rfl (rd_assign rfl) ?_
        refine t_rd rfl (rd_assign rfl) ?_
        refine rwt_nil ?_
        refine qn_then ?_
        refine cw_seq ?_
        refine cw_region ?_
        refine t_rd rfl (rd_assign rfl) ?_
        refine rwt_nil ?_
        refine qn_then ?_
        refine cw_seq ?_
        refine cw_seq ?_
        refine cw_region ?_
        refine t_rd rfl (rd_move rfl) ?_
        refine t_rd rfl (rd_lenS tS22 rfl (hm281.sl 2 rfl)) ?_
        refine t_rd rfl (rd_move rfl) ?_
        refine rwt_nil ?_
        refine qn_then ?_
        refine cw_block ?_
        obtain ⟨r322, hit323, q324⟩ := ob q276; clear q276
        refine cw_loop2 (I := fun q envq wq => Sub [(7, v187), (8, v189), (14, v270), (15, (Value.int .i64 r267.2.1)), (16, (Value.int .i64 r267.2.2)), (17, v277), (18, (Value.int .i64 r274.2)), (19, (Value.int .i64 q.1)), (85, v270), (86, (Value.int .i64 (List.length r267.1 : Int))), (87, (Value.int .i64 q.2))] envq ∧ Mem w No [ownL 22 v277 (zs278 : List Hdr), rowsC 3 zs278 (r274.1 : List (List Int)) none, ownL 3 v270 (r267.1 : List Int), ownL 3 v189 (p264.2 : List Int), ownL 3 v187 (p264.1 : List Int)] wq) (X := fun eq envq wq => eq = .exit 2 ∧ Sub [(7, v187), (8, v189), (14, v270), (15, (Value.int .i64 r267.2.1)), (16, (Value.int .i64 r267.2.2)), (17, v277), (18, (Value.int .i64 r274.2)), (19, (Value.int .i64 r322))] envq ∧ Mem w No [ownL 22 v277 (zs278 : List Hdr), rowsC 3 zs278 (r274.1 : List (List Int)) none, ownL 3 v270 (r267.1 : List Int), ownL 3 v189 (p264.2 : List Int), ownL 3 v187 (p264.1 : List Int)] wq) hit323 ⟨(by repeat (first | exact Sub.nil _ | refine Sub.cons rfl ?_)), (hm281.pick [0, 1, 2, 3, 4] (by decide) rfl)⟩ ?_ ?_
        · rintro ⟨i314, i315⟩ x317 env318 w319 hf320 hr321 ⟨hs_, hm_⟩
          have hs_ : Sub [(7, v187), (8, v189), (14, v270), (15, (Value.int .i64 r267.2.1)), (16, (Value.int .i64 r267.2.2)), (17, v277), (18, (Value.int .i64 r274.2)), (19, (Value.int .i64 i314)), (85, v270), (86, (Value.int .i64 (List.length r267.1 : Int))), (87, (Value.int .i64 i315))] env318 := hs_
          have hm325 : Mem w No [ownL 22 v277 (zs278 : List Hdr), rowsC 3 zs278 (r274.1 : List (List Int)) none, ownL 3 v270 (r267.1 : List Int), ownL 3 v189 (p264.2 : List Int), ownL 3 v187 (p264.1 : List Int)] w319 := hm_
          refine cw_sub hs_ ?_
          clear hs_ hm_ q324
          have h : humpyardtop_TopLost_l2 N r267 i314 i315 = some x317 := hf320
          clear hf320
          refine cw_seq ?_
          refine cw_region ?_
          refine t_rd rfl (rd_lss rfl rfl) ?_
          refine rwt_nil ?_
          refine qn_then ?_
          refine cw_seq ?_
          obtain ⟨hb326, q327⟩ | ⟨hb326, q327⟩ := oi h <;> clear h
          · refine cw_t rfl hb326 ?_
            refine cw_skip ?_
            refine qn_then ?_
            refine cw_seq ?_
            refine cw_block ?_
            refine cw_seq ?_
            refine cw_region ?_
            obtain ⟨x328, h329, q330⟩ := ob q327; clear q327
            refine t_rd rfl (rd_index tS22 rfl rfl (hm325.sl 2 rfl) h329) ?_
            refine t_rd rfl (rd_ld1 tO3 rfl ((hm325.sl 2 rfl).cells h329) (off := 0) rfl) ?_
            refine t_rd rfl (rd_assign rfl) ?_
            refine rwt_nil ?_
            refine qn_then ?_
            refine cw_seq ?_
            refine cw_region ?_
            refine t_rd rfl (rd_move rfl) ?_
            refine t_rd rfl (rd_eql rfl rfl) ?_
            refine rwt_nil ?_
            refine qn_then ?_
            obtain ⟨hb331, q332⟩ | ⟨hb331, q332⟩ := oi q330 <;> clear q330
            · refine cw_t rfl hb331 ?_
              refine cw_region ?_
              refine t_rd rfl (rd_move rfl) ?_
              obtain ⟨x333, h334, q335⟩ := ob q332; clear q332
              refine t_rd rfl (rd_add64 h334 rfl rfl) ?_
              refine t_rd rfl (rd_assign rfl) ?_
              refine rwt_nil ?_
              refine qn_block (qn_then ?_)
              refine cw_region ?_
              obtain ⟨x336, h337, q338⟩ := ob q335; clear q335
              refine t_rd rfl (rd_add64 h337 rfl rfl) ?_
              refine t_rd rfl (rd_move rfl) ?_
              refine rwt_nil ?_
              refine qn_then ?_
              refine ⟨_, (os q338), (by repeat (first | exact Sub.nil _ | refine Sub.cons rfl ?_)), (hm325.pick [0, 1, 2, 3, 4] (by decide) rfl)⟩
            · refine cw_f rfl hb331 ?_
              refine cw_skip ?_
              refine qn_block (qn_then ?_)
              refine cw_region ?_
              obtain ⟨x339, h340, q341⟩ := ob q332; clear q332
              refine t_rd rfl (rd_add64 h340 rfl rfl) ?_
              refine t_rd rfl (rd_move rfl) ?_
              refine rwt_nil ?_
              refine qn_then ?_
              refine ⟨_, (os q341), (by repeat (first | exact Sub.nil _ | refine Sub.cons rfl ?_)), (hm325.pick [0, 1, 2, 3, 4] (by decide) rfl)⟩
          · refine cw_f rfl hb326 ?_
            refine cw_exit ?_
            refine qx_then (qx_then ?_)
            obtain rfl := hr321 _ (os q327)
            exact ⟨rfl, (by repeat (first | exact Sub.nil _ | refine Sub.cons rfl ?_)), (hm325.pick [0, 1, 2, 3, 4] (by decide) rfl)⟩
        · skip
          intro e env342 w343 hX344
          obtain ⟨rfl, hs345, hm346⟩ := hX344
          refine qx_same (qn_then ?_)
          refine cw_sub hs345 ?_
          refine cw_seq ?_
          refine cw_region ?_
          refine t_rd rfl (rd_move rfl) ?_
          refine t_rd rfl (rd_eql rfl rfl) ?_
          refine t_rd rfl (rd_move rfl) ?_
          refine t_rdg rfl rfl rfl rfl (gv_t _) (fun hg347 => (rd_move rfl)) ?_
          refine t_rdg rfl rfl rfl rfl (gv_t _) (fun hg348 => (rd_eql (gvx rfl hg348) rfl)) ?_
          refine t_rd rfl (rd_and rfl (fun hc349 => (gvx rfl hc349))) ?_
          refine t_rd rfl (rd_move rfl) ?_
          refine t_rdg rfl rfl rfl rfl (gv_t _) (fun hg350 => (rd_move rfl)) ?_
          refine t_rdg rfl rfl rfl rfl (gv_t _) (fun hg351 => (rd_eql (gvx rfl hg351) rfl)) ?_
          refine t_rd rfl (rd_and rfl (fun hc352 => (gvx rfl hc352))) ?_
          refine t_rd rfl (rd_move rfl) ?_
          refine t_rdg rfl rfl rfl rfl (gv_t _) (fun hg353 => (rd_move rfl)) ?_
          refine t_rdg rfl rfl rfl rfl (gv_t _) (fun hg354 => (rd_eql (gvx rfl hg354) rfl)) ?_
          refine t_rd rfl (rd_and rfl (fun hc355 => (gvx rfl hc355))) ?_
          refine t_rd rfl (rd_move rfl) ?_
          refine t_rdg rfl rfl rfl rfl (gv_t _) (fun hg356 => (rd_move rfl)) ?_
          refine t_rdg rfl rfl rfl rfl (gv_t _) (fun hg357 => (rd_lenS tS22 (gvx rfl hg357) (hm346.sl 2 rfl))) ?_
          refine t_rdg rfl rfl rfl rfl (gv_t _) (fun hg358 => (rd_move rfl)) ?_
          refine t_rdg rfl rfl rfl rfl (gv_t _) (fun hg359 => (rd_lenS tS22 (gvx rfl hg359) (hm346.sl 4 rfl))) ?_
          refine t_rdg rfl rfl rfl rfl (gv_t _) (fun hg360 => (rd_eql (gvx rfl hg360) (gvx rfl hg360))) ?_
          refine t_rd rfl (rd_and rfl (fun hc361 => (gvx rfl hc361))) ?_
          refine t_rd rfl (rd_move rfl) ?_
          refine t_rdg rfl rfl rfl rfl (gv_t _) (fun hg362 => (rd_move rfl)) ?_
          refine t_rdg rfl rfl rfl rfl (gv_t _) (fun hg363 => (rd_move rfl)) ?_
          refine t_rdg rfl rfl rfl rfl (gv_t _) (fun hg364 => (rd_move rfl)) ?_
          refine t_rdg rfl rfl rfl rfl (gv_t _) (fun hg365 => (rd_move rfl)) ?_
          obtain ⟨r367, h368, q369⟩ := ob q324; clear q324
          refine t_efg rfl rfl rfl rfl (R := (fun v w' => v = gV ((((decide (r267.2.2 = 0) && decide (r274.2 = 0)) && decide (r267.2.1 = 4)) && decide (r322 = 1)) && decide ((List.length r267.1 : Int) = (List.length p264.1 : Int))) (Value.bool r367) ∧ Mem w343 No [] w')) (gv_t _) (fun hg366 => (ef_call tf18 (evc (gvx rfl hg366) (evc (gvx rfl hg366) (evc (gvx rfl hg366) (evc (gvx rfl hg366) evn)))) (reconcile_Verify_ok (gO_t h368 hg366) (hm346.sl_call 4 rfl) (hm346.sl_call 3 rfl) ((Nl.mk (hm346.sl_call 0 rfl) (hm346.rows_call 1 rfl)).sl))).mono (by rintro _ _ ⟨rfl, q⟩; exact ⟨(gV_t hg366).symm, q⟩)) (fun q => ⟨(gV_f q).symm, Mem.nil _⟩) ?_
          rintro _ w371 ⟨rfl, hm370⟩
          have hm372 := hm346.call hm370
          refine t_rd rfl (rd_and rfl (fun hc373 => (gvx rfl hc373))) ?_
          refine t_rd rfl (rd_move rfl) ?_
          obtain ⟨r375, h376, q377⟩ := ob q369; clear q369
          refine t_efg rfl rfl rfl rfl (R := (fun v w' => v = gV (((((decide (r267.2.2 = 0) && decide (r274.2 = 0)) && decide (r267.2.1 = 4)) && decide (r322 = 1)) && decide ((List.length r267.1 : Int) = (List.length p264.1 : Int))) && r367) (Value.bool r375) ∧ Mem w371 No [] w')) (gv_t _) (fun hg374 => (ef_call tf9 rfl (humpyardtop_awake_ok (gO_t h376 hg374))).mono (by rintro _ _ ⟨rfl, q⟩; exact ⟨(gV_t hg374).symm, q⟩)) (fun q => ⟨(gV_f q).symm, Mem.nil _⟩) ?_
          rintro _ w379 ⟨rfl, hm378⟩
          have hm380 := hm372.call hm378
          refine t_rd rfl (rd_and rfl (fun hc381 => (gvx rfl hc381))) ?_
          refine t_rd rfl (rd_assign rfl) ?_
          refine rwt_nil ?_
          refine qn_then ?_
          refine cw_ret ?_
          obtain rfl := os q377
          exact ret1 rfl rfl ⟨rfl, (hm380.pick [] (by decide) rfl)⟩

end Go.Proofs.YtlpkbkbjohhleaaGreat
