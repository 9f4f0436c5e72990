/- Each call computes what its mirror does; written by a program of mine (gowalk.py). -/
import Derived.Test.YtiffggmeebajpaaWka
namespace Go.Proofs.Ytiffggmeebajpaa
open Go.Gv Go.RowKit
set_option linter.unusedVariables false
set_option maxRecDepth 100000

theorem law18_CutLimits_ok {N : Nat} {a0 : Int} {a1 : Int} {a2 : Int} {res : Bool} (h : law18_CutLimits N a0 a1 a2 = some res) {w : World}   :
    CallsR Try.prog 3 [(Value.int .i64 a0), (Value.int .i64 a1), (Value.int .i64 a2)] w (fun u w' => u = (Value.bool res) ∧ Mem w No [] w') := by
  unfold law18_CutLimits at h
  refine fn_ok Try.func3 rfl rfl rfl ?_
  have hm0 := Mem.nil w
  refine cw_seq ?_
  refine cw_region ?_
  refine t_rd rfl (rd_assign rfl) ?_
  refine rwt_nil ?_
  refine qn_then ?_
  refine cw_seq ?_
  refine cw_region ?_
  refine t_rd rfl (rd_move rfl) ?_
  refine t_rd rfl (rd_rem rfl rfl (by decide)) ?_
  obtain ⟨x1, h2, q3⟩ := ob h; clear h
  refine t_rd rfl (rd_add64 h2 rfl rfl) ?_
  refine t_rd rfl (rd_rem rfl rfl (by decide)) ?_
  obtain ⟨x4, h5, q6⟩ := ob q3; clear q3
  refine t_rd rfl (rd_add64 h5 rfl rfl) ?_
  refine t_rd rfl (rd_move rfl) ?_
  refine t_rd rfl (rd_rem rfl rfl (by decide)) ?_
  obtain ⟨x7, h8, q9⟩ := ob q6; clear q6
  refine t_rd rfl (rd_add64 h8 rfl rfl) ?_
  refine t_rd rfl (rd_rem rfl rfl (by decide)) ?_
  obtain ⟨x10, h11, q12⟩ := ob q9; clear q9
  refine t_rd rfl (rd_add64 h11 rfl rfl) ?_
  refine t_rd rfl (rd_assign rfl) ?_
  refine t_rd rfl (rd_assign rfl) ?_
  refine rwt_nil ?_
  refine qn_then ?_
  refine cw_seq ?_
  refine cw_region ?_
  refine t_rd rfl (rd_build (cs := #[(Value.int .i64 32), (Value.int .i64 128), (Value.int .i64 8000)]) rfl (by kernel_rfl)) ?_
  refine t_ef rfl (ef_alloc hm0 tZ23 rfl) ?_
  rintro _ w15 ⟨g13, rfl, hm14⟩
  refine t_ef0 (ef_stw (k := 0) hm14 tA23 rfl rfl (oc_cons rfl (oc_cons rfl (oc_cons rfl oc_nil))) rfl rfl rfl) ?_
  intro _ w17 hm16
  refine rwt_nil ?_
  refine qn_then ?_
  refine cw_seq ?_
  refine cw_seq ?_
  refine cw_region ?_
  refine t_rd rfl (rd_move rfl) ?_
  refine t_rd rfl (rd_rem rfl rfl (by decide)) ?_
  obtain ⟨x18, h19, q20⟩ := ob q12; clear q12
  refine t_rd rfl (rd_add64 h19 rfl rfl) ?_
  refine t_rd rfl (rd_rem rfl rfl (by decide)) ?_
  refine rwt_nil ?_
  refine qn_then ?_
  obtain ⟨j40, hit41, q42⟩ := ob q20; clear q20
  refine cw_join (X := fun eq envq wq => eq = .normal ∧ Sub [(0, (Value.int .i64 x4)), (2, (Value.int .i64 x10)), (7, (Value.pointer (some ⟨g13, 0, none⟩)))] envq ∧ Mem w No [blk g13 23 [(Value.int .i64 j40.1), (Value.int .i64 j40.2.1), (Value.int .i64 j40.2.2)]] wq) ?_ ?_
  · clear q42
    refine cw_block ?_
    refine cw_seq ?_
    refine cw_region ?_
    refine t_rd rfl (rd_eql rfl rfl) ?_
    refine t_rd rfl (rd_assign rfl) ?_
    refine rwt_nil ?_
    refine qn_then ?_
    obtain ⟨hb43, q44⟩ | ⟨hb43, q44⟩ := oi hit41 <;> clear hit41
    · refine cw_t rfl hb43 ?_
      refine cw_region ?_
      refine t_rd rfl (rd_move rfl) ?_
      refine t_rd rfl (rd_fld tF23_0 rfl) ?_
      refine t_ef0 (ef_st1 (k := 0) (off := 0) hm16 tO3 rfl rfl rfl rfl rfl rfl) ?_
      intro _ w46 hm45
      refine rwt_nil ?_
      refine qn_block ?_
      obtain rfl := os q44
      exact ⟨rfl, (by repeat (first | exact Sub.nil _ | refine Sub.cons rfl ?_)), (hm45.pick [0] (by decide) rfl)⟩
    · refine cw_f rfl hb43 ?_
      refine cw_seq ?_
      refine cw_region ?_
      refine t_rd rfl (rd_eql rfl rfl) ?_
      refine t_rd rfl (rd_assign rfl) ?_
      refine rwt_nil ?_
      refine qn_then ?_
      obtain ⟨hb47, q48⟩ | ⟨hb47, q48⟩ := oi q44 <;> clear q44
      · refine cw_t rfl hb47 ?_
        refine cw_region ?_
        refine t_rd rfl (rd_move rfl) ?_
        obtain ⟨x49, h50, q51⟩ := ob q48; clear q48
        refine t_rd rfl (rd_mul64 h50 rfl rfl) ?_
        refine t_rd rfl (rd_fld tF23_1 rfl) ?_
        refine t_ef0 (ef_st1 (k := 0) (off := 1) hm16 tO3 rfl rfl rfl rfl rfl rfl) ?_
        intro _ w53 hm52
        refine rwt_nil ?_
        refine qn_block ?_
        obtain rfl := os q51
        exact ⟨rfl, (by repeat (first | exact Sub.nil _ | refine Sub.cons rfl ?_)), (hm52.pick [0] (by decide) rfl)⟩
      · refine cw_f rfl hb47 ?_
        refine cw_region ?_
        refine t_rd rfl (rd_move rfl) ?_
        obtain ⟨x54, h55, q56⟩ := ob q48; clear q48
        refine t_rd rfl (rd_mul64 h55 rfl rfl) ?_
        refine t_rd rfl (rd_fld tF23_2 rfl) ?_
        refine t_ef0 (ef_st1 (k := 0) (off := 2) hm16 tO3 rfl rfl rfl rfl rfl rfl) ?_
        intro _ w58 hm57
        refine rwt_nil ?_
        refine qn_block ?_
        obtain rfl := os q56
        exact ⟨rfl, (by repeat (first | exact Sub.nil _ | refine Sub.cons rfl ?_)), (hm57.pick [0] (by decide) rfl)⟩
  · clear hit41
    intro e env59 w60 hX61
    obtain ⟨rfl, hs62, hm63⟩ := hX61
    refine qn_then ?_
    refine cw_sub hs62 ?_
    refine cw_seq ?_
    refine cw_region ?_
    refine t_rd rfl (rd_assign rfl) ?_
    refine rwt_nil ?_
    refine qn_then ?_
    refine cw_seq ?_
    refine cw_seq ?_
    refine cw_region ?_
    refine t_rd rfl (rd_assign rfl) ?_
    refine rwt_nil ?_
    refine qn_then ?_
    refine cw_block ?_
    have hm79 := hm63.addNil (α := T_Pushed) 26
    obtain ⟨r123, hit124, q125⟩ := ob q42; clear q42
    refine cw_loop2 (I := fun q envq wq => ∃ (v116 : Value), Sub [(0, (Value.int .i64 x4)), (2, (Value.int .i64 x10)), (7, (Value.pointer (some ⟨g13, 0, none⟩))), (8, v116), (9, (Value.int .i64 q.1))] envq ∧ Mem w No [ownL 26 v116 (q.2 : List T_Pushed), blk g13 23 [(Value.int .i64 j40.1), (Value.int .i64 j40.2.1), (Value.int .i64 j40.2.2)]] wq) (X := fun eq envq wq => eq = .exit 1 ∧ ∃ (v113 : Value), Sub [(0, (Value.int .i64 x4)), (2, (Value.int .i64 x10)), (7, (Value.pointer (some ⟨g13, 0, none⟩))), (8, v113)] envq ∧ Mem w No [ownL 26 v113 (r123 : List T_Pushed), blk g13 23 [(Value.int .i64 j40.1), (Value.int .i64 j40.2.1), (Value.int .i64 j40.2.2)]] wq) hit124 ⟨(Value.slice none 0 0), (by repeat (first | exact Sub.nil _ | refine Sub.cons rfl ?_)), (hm79.pick [0, 1] (by decide) rfl)⟩ ?_ ?_
    · rintro ⟨i114, l115⟩ x118 env119 w120 hf121 hr122 ⟨v116, hs_, hm_⟩
      have hs_ : Sub [(0, (Value.int .i64 x4)), (2, (Value.int .i64 x10)), (7, (Value.pointer (some ⟨g13, 0, none⟩))), (8, v116), (9, (Value.int .i64 i114))] env119 := hs_
      have hm126 : Mem w No [ownL 26 v116 (l115 : List T_Pushed), blk g13 23 [(Value.int .i64 j40.1), (Value.int .i64 j40.2.1), (Value.int .i64 j40.2.2)]] w120 := hm_
      refine cw_sub hs_ ?_
      clear hs_ hm_ q125
      have h : law18_CutLimits_l1 N x4 i114 l115 = some x118 := hf121
      clear hf121
      refine cw_seq ?_
      refine cw_seq ?_
      refine cw_region ?_
      refine t_rd rfl (rd_move rfl) ?_
      refine t_rd rfl (rd_move rfl) ?_
      refine t_rd rfl (rd_lss rfl rfl) ?_
      refine rwt_nil ?_
      refine qn_then ?_
      obtain ⟨hb127, q128⟩ | ⟨hb127, q128⟩ := oi h <;> clear h
      · refine cw_t rfl hb127 ?_
        refine cw_skip ?_
        refine qn_then ?_
        refine cw_seq ?_
        refine cw_block ?_
        refine cw_region ?_
        refine t_rd rfl (rd_move rfl) ?_
        refine t_rd rfl (rd_build (cs := #[(Value.int .i64 250), (Value.int .i64 4), (Value.int .i64 2000), (Value.bool false), (Value.int .i64 31)]) rfl (by kernel_rfl)) ?_
        refine t_ef rfl (ef_bslice (l := ([(T_Pushed.mk 250 4 2000 false 31)] : List T_Pushed)) hm126 tS24 rfl (cs := #[(Value.int .i64 250), (Value.int .i64 4), (Value.int .i64 2000), (Value.bool false), (Value.int .i64 31)]) (by unfold bsl; kernel_rfl) rfl rfl) ?_
        intro v129 w131 hm130
        obtain ⟨l132, h133, q134⟩ := ob q128; clear q128
        refine t_ef rfl (ef_append (k := 1) hm130 tS24 tE26 rfl rfl rfl rfl (hm130.sl 0 rfl) h133) ?_
        intro v135 w137 hm136
        refine t_rd rfl (rd_assign rfl) ?_
        refine rwt_nil ?_
        refine qn_block (qn_then ?_)
        refine cw_region ?_
        refine t_rd rfl (rd_move rfl) ?_
        obtain ⟨x138, h139, q140⟩ := ob q134; clear q134
        refine t_rd rfl (rd_add64 h139 rfl rfl) ?_
        refine t_rd rfl (rd_assign rfl) ?_
        refine rwt_nil ?_
        refine qn_then ?_
        refine ⟨_, (os q140), v135, (by repeat (first | exact Sub.nil _ | refine Sub.cons rfl ?_)), (hm136.pick [1, 2] (by decide) rfl)⟩
      · refine cw_f rfl hb127 ?_
        refine cw_exit ?_
        refine qx_then (qx_then ?_)
        obtain rfl := hr122 _ (os q128)
        exact ⟨rfl, v116, (by repeat (first | exact Sub.nil _ | refine Sub.cons rfl ?_)), (hm126.pick [0, 1] (by decide) rfl)⟩
    · skip
      intro e env141 w142 hX143
      obtain ⟨rfl, v113, hs144, hm145⟩ := hX143
      refine qx_same (qn_then ?_)
      refine cw_sub hs144 ?_
      refine cw_seq ?_
      refine cw_region ?_
      refine t_rd rfl (rd_move rfl) ?_
      refine t_rd rfl (rd_ld tA23 rfl (hm145.blk 1 rfl) rfl) ?_
      obtain ⟨r146, h147, q148⟩ := ob q125; clear q125
      refine t_ef rfl (ef_call tf9 rfl (cut_Form_ok h147 (hm145.sl_call 0 rfl))) ?_
      rintro _ w151 ⟨v149, rfl, hm150⟩
      have hm152 := hm145.call hm150
      refine t_rd rfl (rd_move rfl) ?_
      refine t_rd rfl (rd_extract rfl rfl) ?_
      refine t_rd rfl (rd_extract rfl rfl) ?_
      refine t_rd rfl (rd_assign rfl) ?_
      refine t_rd rfl (rd_assign rfl) ?_
      refine rwt_nil ?_
      refine qn_then ?_
      refine cw_seq ?_
      refine cw_seq ?_
      refine cw_region ?_
      refine t_rd rfl (rd_move rfl) ?_
      refine t_rd rfl (rd_gtr rfl rfl) ?_
      refine rwt_nil ?_
      refine qn_then ?_
      obtain ⟨hb153, q154⟩ | ⟨hb153, q154⟩ := oi q148 <;> clear q148
      · refine cw_t rfl hb153 ?_
        refine cw_seq ?_
        refine cw_region ?_
        refine t_rd rfl (rd_move rfl) ?_
        refine t_rd rfl (rd_eql rfl rfl) ?_
        refine t_rd rfl (rd_move rfl) ?_
        refine t_rdg rfl rfl rfl rfl (gv_t _) (fun hg155 => (rd_move rfl)) ?_
        refine t_rdg rfl rfl rfl rfl (gv_t _) (fun hg156 => (rd_lenS tS27 (gvx rfl hg156) (hm152.sl 0 rfl))) ?_
        refine t_rdg rfl rfl rfl rfl (gv_t _) (fun hg157 => (rd_eql (gvx rfl hg157) rfl)) ?_
        refine t_rd rfl (rd_and rfl (fun hc158 => (gvx rfl hc158))) ?_
        refine t_rd rfl (rd_move rfl) ?_
        obtain ⟨r160, h161, q162⟩ := ob q154; clear q154
        refine t_efg rfl rfl rfl rfl (R := (fun v w' => v = gV (decide (r146.2 = 3) && decide ((List.length r146.1 : Int) = 0)) (Value.bool r160) ∧ Mem w151 No [] w')) (gv_t _) (fun hg159 => (ef_call tf10 rfl (law18_sane_ok (gO_t h161 hg159))).mono (by rintro _ _ ⟨rfl, q⟩; exact ⟨(gV_t hg159).symm, q⟩)) (fun q => ⟨(gV_f q).symm, Mem.nil _⟩) ?_
        rintro _ w164 ⟨rfl, hm163⟩
        have hm165 := hm152.call hm163
        refine t_rd rfl (rd_and rfl (fun hc166 => (gvx rfl hc166))) ?_
        refine t_rd rfl (rd_assign rfl) ?_
        refine rwt_nil ?_
        refine qn_then ?_
        refine cw_ret ?_
        refine qr_then ?_
        obtain rfl := os q162
        exact ret1 rfl rfl ⟨rfl, (hm165.pick [] (by decide) rfl)⟩
      · refine cw_f rfl hb153 ?_
        refine cw_skip ?_
        refine qn_then ?_
        refine cw_seq ?_
        refine cw_seq ?_
        refine cw_region ?_
        refine t_rd rfl (rd_move rfl) ?_
        refine t_rd rfl (rd_neq rfl rfl) ?_
        refine t_rd rfl (rd_move rfl) ?_
        refine t_rdg rfl rfl rfl rfl (gv_f _) (fun hg167 => (rd_move rfl)) ?_
        refine t_rdg rfl rfl rfl rfl (gv_f _) (fun hg168 => (rd_lenS tS27 (gvx rfl hg168) (hm152.sl 0 rfl))) ?_
        refine t_rdg rfl rfl rfl rfl (gv_f _) (fun hg169 => (rd_move rfl)) ?_
        refine t_rdg rfl rfl rfl rfl (gv_f _) (fun hg170 => (rd_move rfl)) ?_
        obtain ⟨x172, h173, q174⟩ := ob q154; clear q154
        refine t_rdg rfl rfl rfl rfl (gv_f _) (fun hg171 => (rd_add64 (gO_t h173 hg171) (gvx rfl hg171) (gvx rfl hg171))) ?_
        obtain ⟨x176, h177, q178⟩ := ob q174; clear q174
        refine t_rdg rfl rfl rfl rfl (gv_f _) (fun hg175 => (rd_sub64 (gO_t h177 hg175) (gvx rfl hg175) rfl)) ?_
        refine t_rdg rfl rfl rfl rfl (gv_f _) (fun hg179 => (rd_move rfl)) ?_
        obtain ⟨x181, h182, q183⟩ := ob q178; clear q178
        refine t_rdg rfl rfl rfl rfl (gv_f _) (fun hg180 => (rd_quo64 (gO_t h182 hg180) (gvx rfl hg180) (gvx rfl hg180))) ?_
        refine t_rdg rfl rfl rfl rfl (gv_f _) (fun hg184 => (rd_neq (gvx rfl hg184) (gvx rfl hg184))) ?_
        refine t_rd rfl (rd_or rfl (fun hc185 => (gvx rfl (bnotIt hc185)))) ?_
        refine rwt_nil ?_
        refine qn_then ?_
        obtain ⟨hb186, q187⟩ | ⟨hb186, q187⟩ := oi q183 <;> clear q183
        · refine cw_t rfl hb186 ?_
          refine cw_seq ?_
          refine cw_region ?_
          refine t_rd rfl (rd_assign rfl) ?_
          refine rwt_nil ?_
          refine qn_then ?_
          refine cw_ret ?_
          refine qr_then ?_
          obtain rfl := os q187
          exact ret1 rfl rfl ⟨rfl, (hm152.pick [] (by decide) rfl)⟩
        · refine cw_f rfl hb186 ?_
          refine cw_skip ?_
          refine qn_then ?_
          refine cw_seq ?_
          refine cw_seq ?_
          refine cw_region ?_
          refine t_rd rfl (rd_move rfl) ?_
          refine t_rd rfl (rd_lenS tS27 rfl (hm152.sl 0 rfl)) ?_
          refine t_rd rfl (rd_move rfl) ?_
          refine rwt_nil ?_
          refine qn_then ?_
          refine cw_block ?_
          obtain ⟨r266, hit267, q268⟩ := ob q187; clear q187
          refine cw_loop2 (I := fun q envq wq => Sub [(0, (Value.int .i64 x4)), (2, (Value.int .i64 x10)), (81, v149), (82, (Value.int .i64 (List.length r146.1 : Int))), (83, (Value.int .i64 q))] envq ∧ Mem w No [ownL 33 v149 (r146.1 : List T_Cut)] wq) (X := fun eq envq wq => (∃ p269, r266 = (Sum.inl p269) ∧ eq = .ret ∧ retQ Try.prog 108 Try.f3 (fun u w' => u = (Value.bool p269) ∧ Mem w No [] w') .ret envq wq) ∨ (∃ p270, r266 = (Sum.inr p270) ∧ eq = .exit 3 ∧ Sub [] envq ∧ Mem w No [] wq)) hit267 ⟨(by repeat (first | exact Sub.nil _ | refine Sub.cons rfl ?_)), (hm152.pick [0] (by decide) rfl)⟩ ?_ ?_
          · rintro i259 x261 env262 w263 hf264 hr265 ⟨hs_, hm_⟩
            have hs_ : Sub [(0, (Value.int .i64 x4)), (2, (Value.int .i64 x10)), (81, v149), (82, (Value.int .i64 (List.length r146.1 : Int))), (83, (Value.int .i64 i259))] env262 := hs_
            have hm271 : Mem w No [ownL 33 v149 (r146.1 : List T_Cut)] w263 := hm_
            refine cw_sub hs_ ?_
            clear hs_ hm_ q268
            have h : law18_CutLimits_l2 N x4 x10 r146 i259 = some x261 := hf264
            clear hf264
            refine cw_seq ?_
            refine cw_region ?_
            refine t_rd rfl (rd_lss rfl rfl) ?_
            refine rwt_nil ?_
            refine qn_then ?_
            refine cw_seq ?_
            obtain ⟨hb272, q273⟩ | ⟨hb272, q273⟩ := oi h <;> clear h
            · refine cw_t rfl hb272 ?_
              refine cw_skip ?_
              refine qn_then ?_
              refine cw_seq ?_
              refine cw_block ?_
              refine cw_seq ?_
              refine cw_region ?_
              refine t_rd rfl (rd_move rfl) ?_
              obtain ⟨x274, h275, q276⟩ := ob q273; clear q273
              refine t_rd rfl (rd_index tS27 rfl rfl (hm271.sl 0 rfl) h275) ?_
              refine t_rd rfl (rd_ld tA33 rfl ((hm271.sl 0 rfl).cells h275) rfl) ?_
              refine t_ef rfl (ef_alloc hm271 tZ33 rfl) ?_
              rintro _ w279 ⟨g277, rfl, hm278⟩
              refine t_rd rfl (rd_assign rfl) ?_
              refine t_ef0 (ef_stw (k := 0) hm278 tA33 rfl rfl (oc_cons rfl (oc_cons rfl (oc_cons rfl (oc_cons rfl oc_nil)))) rfl rfl rfl) ?_
              intro _ w281 hm280
              refine rwt_nil ?_
              refine qn_then ?_
              refine cw_seq ?_
              refine cw_region ?_
              refine t_rd rfl (rd_fld tF33_0 rfl) ?_
              refine t_rd rfl (rd_ld1 tO3 rfl (hm280.blk 0 rfl) (off := 0) rfl) ?_
              refine t_rd rfl (rd_move rfl) ?_
              refine t_rd rfl (rd_move rfl) ?_
              obtain ⟨x282, h283, q284⟩ := ob q276; clear q276
              refine t_rd rfl (rd_mul64 h283 rfl rfl) ?_
              refine t_rd rfl (rd_neq rfl rfl) ?_
              refine t_rd rfl (rd_move rfl) ?_
              refine t_rdg rfl rfl rfl rfl (gv_f _) (fun hg285 => (rd_fld tF33_1 rfl)) ?_
              refine t_rdg rfl rfl rfl rfl (gv_f _) (fun hg286 => (rd_ld1 tO3 (gvx rfl hg286) (hm280.blk 0 rfl) (off := 1) rfl)) ?_
              refine t_rdg rfl rfl rfl rfl (gv_f _) (fun hg287 => (rd_move rfl)) ?_
              refine t_rdg rfl rfl rfl rfl (gv_f _) (fun hg288 => (rd_move rfl)) ?_
              refine t_rdg rfl rfl rfl rfl (gv_f _) (fun hg289 => (rd_move rfl)) ?_
              obtain ⟨x291, h292, q293⟩ := ob q284; clear q284
              refine t_rdg rfl rfl rfl rfl (gv_f _) (fun hg290 => (rd_mul64 (gO_t h292 hg290) (gvx rfl hg290) (gvx rfl hg290))) ?_
              refine t_rdg rfl rfl rfl rfl (gv_f _) (fun hg294 => (rd_move rfl)) ?_
              obtain ⟨x296, h297, q298⟩ := ob q293; clear q293
              refine t_rdg rfl rfl rfl rfl (gv_f _) (fun hg295 => (rd_add64 (gO_t h297 hg295) (gvx rfl hg295) (gvx rfl hg295))) ?_
              refine t_rdg rfl rfl rfl rfl (gv_f _) (fun hg299 => (rd_min (gvx rfl hg299) (gvx rfl hg299))) ?_
              refine t_rdg rfl rfl rfl rfl (gv_f _) (fun hg300 => (rd_neq (gvx rfl hg300) (gvx rfl hg300))) ?_
              refine t_rd rfl (rd_or rfl (fun hc301 => (gvx rfl (bnotIt hc301)))) ?_
              refine rwt_nil ?_
              refine qn_then ?_
              obtain ⟨hb302, q303⟩ | ⟨hb302, q303⟩ := oi q298 <;> clear q298
              · refine cw_t rfl hb302 ?_
                refine cw_seq ?_
                refine cw_region ?_
                refine t_rd rfl (rd_assign rfl) ?_
                refine rwt_nil ?_
                refine qn_then ?_
                refine cw_ret ?_
                refine qr_block (qr_then (qr_then ?_))
                obtain rfl := hr265 _ (os q303)
                refine .inl (⟨_, rfl, ⟨rfl, ?_⟩⟩)
                exact ret1 rfl rfl ⟨rfl, (hm280.pick [] (by decide) rfl)⟩
              · refine cw_f rfl hb302 ?_
                refine cw_skip ?_
                refine qn_block (qn_then ?_)
                refine cw_region ?_
                obtain ⟨x304, h305, q306⟩ := ob q303; clear q303
                refine t_rd rfl (rd_add64 h305 rfl rfl) ?_
                refine t_rd rfl (rd_move rfl) ?_
                refine rwt_nil ?_
                refine qn_then ?_
                refine ⟨_, (os q306), (by repeat (first | exact Sub.nil _ | refine Sub.cons rfl ?_)), (hm280.pick [1] (by decide) rfl)⟩
            · refine cw_f rfl hb272 ?_
              refine cw_exit ?_
              refine qx_then (qx_then ?_)
              obtain rfl := hr265 _ (os q273)
              exact .inr (⟨_, rfl, ⟨rfl, (by repeat (first | exact Sub.nil _ | refine Sub.cons rfl ?_)), (hm271.pick [] (by decide) rfl)⟩⟩)
          · skip
            intro e env307 w308 hX309
            rcases hX309 with hX309 | hX309
            · obtain ⟨p311, rfl, hX309⟩ := hX309
              obtain ⟨rfl, hq313⟩ := hX309
              exact qr_block (qr_then ((by have e := os q268; subst e; exact hq313)))
            · obtain ⟨p314, rfl, hX309⟩ := hX309
              obtain ⟨rfl, hs315, hm316⟩ := hX309
              refine qx_same (qn_then ?_)
              refine cw_sub hs315 ?_
              refine cw_seq ?_
              refine cw_region ?_
              obtain ⟨r317, h318, q319⟩ := ob q268; clear q268
              refine t_ef rfl (ef_call tf10 rfl (law18_sane_ok h318)) ?_
              rintro _ w321 ⟨rfl, hm320⟩
              have hm322 := hm316.call hm320
              refine t_rd rfl (rd_assign rfl) ?_
              refine rwt_nil ?_
              refine qn_then ?_
              refine cw_ret ?_
              obtain rfl := os q319
              exact ret1 rfl rfl ⟨rfl, (hm322.pick [] (by decide) rfl)⟩

theorem law18_CutJoins_ok {N : Nat} {a0 : List Int} {res : Bool} (h : law18_CutJoins N a0 = some res) {w : World} {v0 : Value} (hv0 : Sl (Old w No) w v0 a0) :
    CallsR Try.prog 4 [v0] w (fun u w' => u = (Value.bool res) ∧ Mem w No [] w') := by
  unfold law18_CutJoins at h
  refine fn_ok Try.func4 rfl rfl rfl ?_
  have hm0 := Mem.nil w
  refine cw_seq ?_
  refine cw_region ?_
  refine t_rd rfl (rd_assign rfl) ?_
  refine rwt_nil ?_
  refine qn_then ?_
  refine cw_seq ?_
  refine cw_region ?_
  refine t_rd rfl (rd_move rfl) ?_
  obtain ⟨r1, h2, q3⟩ := ob h; clear h
  refine t_ef rfl (ef_call tf11 rfl (humpgen_New_ok h2 (hv0.to_call hm0))) ?_
  rintro _ w6 ⟨g4, rfl, hm5⟩
  have hm7 := hm0.call hm5
  refine t_rd rfl (rd_assign rfl) ?_
  refine rwt_nil ?_
  refine qn_then ?_
  refine cw_seq ?_
  refine cw_region ?_
  refine t_rd rfl (rd_move rfl) ?_
  obtain ⟨r8, h9, q10⟩ := ob q3; clear q3
  refine t_ef rfl (ef_call tf12 rfl (Maker_Pushed_ok h9 (hv0.to_callT (k := 0) hm7 rfl) (hm7.get (k := 0) rfl))) ?_
  rintro _ w13 ⟨v11, rfl, hm12⟩
  have hm14 := hm7.callT (k := 0) rfl (fun _ h => h) hm12 (fun _ => Iff.rfl)
  refine t_rd rfl (rd_move rfl) ?_
  refine t_rd rfl (rd_extract rfl rfl) ?_
  refine t_rd rfl (rd_extract rfl rfl) ?_
  refine t_ef rfl (ef_alloc hm14 tZ23 rfl) ?_
  rintro _ w17 ⟨g15, rfl, hm16⟩
  refine t_rd rfl (rd_assign rfl) ?_
  refine t_ef0 (ef_stw (k := 0) hm16 tA23 rfl rfl (oc_cons rfl (oc_cons rfl (oc_cons rfl oc_nil))) rfl rfl rfl) ?_
  intro _ w19 hm18
  refine rwt_nil ?_
  refine qn_then ?_
  refine cw_seq ?_
  refine cw_region ?_
  refine t_rd rfl (rd_move rfl) ?_
  refine t_rd rfl (rd_ld tA23 rfl (hm18.blk 0 rfl) rfl) ?_
  obtain ⟨r20, h21, q22⟩ := ob q10; clear q10
  refine t_ef rfl (ef_call tf9 rfl (cut_Form_ok h21 (hm18.sl_call 1 rfl))) ?_
  rintro _ w25 ⟨v23, rfl, hm24⟩
  have hm26 := hm18.call hm24
  refine t_rd rfl (rd_move rfl) ?_
  refine t_rd rfl (rd_extract rfl rfl) ?_
  refine t_rd rfl (rd_extract rfl rfl) ?_
  refine t_rd rfl (rd_assign rfl) ?_
  refine t_rd rfl (rd_assign rfl) ?_
  refine rwt_nil ?_
  refine qn_then ?_
  refine cw_seq ?_
  refine cw_seq ?_
  refine cw_region ?_
  refine t_rd rfl (rd_move rfl) ?_
  refine t_rd rfl (rd_neq rfl rfl) ?_
  refine rwt_nil ?_
  refine qn_then ?_
  obtain ⟨hb27, q28⟩ | ⟨hb27, q28⟩ := oi q22 <;> clear q22
  · refine cw_t rfl hb27 ?_
    refine cw_seq ?_
    refine cw_region ?_
    refine t_rd rfl (rd_assign rfl) ?_
    refine rwt_nil ?_
    refine qn_then ?_
    refine cw_ret ?_
    refine qr_then ?_
    obtain rfl := os q28
    exact ret1 rfl rfl ⟨rfl, (hm26.pick [] (by decide) rfl)⟩
  · refine cw_f rfl hb27 ?_
    refine cw_skip ?_
    refine qn_then ?_
    refine cw_seq ?_
    refine cw_seq ?_
    refine cw_region ?_
    refine t_rd rfl (rd_move rfl) ?_
    refine t_rd rfl (rd_lenS tS27 rfl (hm26.sl 0 rfl)) ?_
    refine t_rd rfl (rd_eql rfl rfl) ?_
    refine rwt_nil ?_
    refine qn_then ?_
    obtain ⟨hb29, q30⟩ | ⟨hb29, q30⟩ := oi q28 <;> clear q28
    · refine cw_t rfl hb29 ?_
      refine cw_seq ?_
      refine cw_region ?_
      refine t_rd rfl (rd_move rfl) ?_
      refine t_rd rfl (rd_lenS tS24 rfl (hm26.sl 2 rfl)) ?_
      refine t_rd rfl (rd_eql rfl rfl) ?_
      refine t_rd rfl (rd_move rfl) ?_
      obtain ⟨r32, h33, q34⟩ := ob q30; clear q30
      refine t_efg rfl rfl rfl rfl (R := (fun v w' => v = gV (decide ((List.length r8.2.1 : Int) = 0)) (Value.bool r32) ∧ Mem w25 No [] w')) (gv_t _) (fun hg31 => (ef_call tf10 rfl (law18_sane_ok (gO_t h33 hg31))).mono (by rintro _ _ ⟨rfl, q⟩; exact ⟨(gV_t hg31).symm, q⟩)) (fun q => ⟨(gV_f q).symm, Mem.nil _⟩) ?_
      rintro _ w36 ⟨rfl, hm35⟩
      have hm37 := hm26.call hm35
      refine t_rd rfl (rd_and rfl (fun hc38 => (gvx rfl hc38))) ?_
      refine t_rd rfl (rd_assign rfl) ?_
      refine rwt_nil ?_
      refine qn_then ?_
      refine cw_ret ?_
      refine qr_then ?_
      obtain rfl := os q34
      exact ret1 rfl rfl ⟨rfl, (hm37.pick [] (by decide) rfl)⟩
    · refine cw_f rfl hb29 ?_
      refine cw_skip ?_
      refine qn_then ?_
      refine cw_seq ?_
      refine cw_region ?_
      refine t_rd rfl (rd_move rfl) ?_
      refine t_rd rfl (rd_move rfl) ?_
      refine t_rd rfl (rd_lenS tS27 rfl (hm26.sl 0 rfl)) ?_
      obtain ⟨r39, h40, q41⟩ := ob q30; clear q30
      refine t_ef rfl (ef_call tf13 rfl (Maker_Next_ok h40 (hv0.to_callT (k := 3) hm26 rfl) (hm26.get (k := 3) rfl))) ?_
      rintro _ w43 ⟨rfl, hm42⟩
      have hm44 := hm26.callT (k := 3) rfl (fun _ h => h) hm42 (fun _ => Iff.rfl)
      refine t_rd rfl (rd_assign rfl) ?_
      refine rwt_nil ?_
      refine qn_then ?_
      refine cw_seq ?_
      refine cw_region ?_
      refine t_rd rfl (rd_move rfl) ?_
      refine t_rd rfl (rd_move rfl) ?_
      obtain ⟨x45, h46, q47⟩ := ob q41; clear q41
      refine t_rd rfl (rd_index tS27 rfl rfl (hm44.sl 0 rfl) h46) ?_
      refine t_rd rfl (rd_fld tF33_0 rfl) ?_
      refine t_rd rfl (rd_ld1 tO3 rfl ((hm44.sl 0 rfl).cells h46) (off := 0) rfl) ?_
      refine t_rd rfl (rd_assign rfl) ?_
      refine rwt_nil ?_
      refine qn_then ?_
      refine cw_seq ?_
      refine cw_seq ?_
      refine cw_region ?_
      refine t_rd rfl (rd_move rfl) ?_
      refine t_rd rfl (rd_lss rfl rfl) ?_
      refine t_rd rfl (rd_move rfl) ?_
      refine t_rdg rfl rfl rfl rfl (gv_f _) (fun hg48 => (rd_move rfl)) ?_
      refine t_rdg rfl rfl rfl rfl (gv_f _) (fun hg49 => (rd_move rfl)) ?_
      refine t_rdg rfl rfl rfl rfl (gv_f _) (fun hg50 => (rd_lenS tS24 (gvx rfl hg50) (hm44.sl 2 rfl))) ?_
      refine t_rdg rfl rfl rfl rfl (gv_f _) (fun hg51 => (rd_gtr (gvx rfl hg51) (gvx rfl hg51))) ?_
      refine t_rd rfl (rd_or rfl (fun hc52 => (gvx rfl (bnotIt hc52)))) ?_
      refine rwt_nil ?_
      refine qn_then ?_
      obtain ⟨hb53, q54⟩ | ⟨hb53, q54⟩ := oi q47 <;> clear q47
      · refine cw_t rfl hb53 ?_
        refine cw_seq ?_
        refine cw_region ?_
        refine t_rd rfl (rd_assign rfl) ?_
        refine rwt_nil ?_
        refine qn_then ?_
        refine cw_ret ?_
        refine qr_then ?_
        obtain rfl := os q54
        exact ret1 rfl rfl ⟨rfl, (hm44.pick [] (by decide) rfl)⟩
      · refine cw_f rfl hb53 ?_
        refine cw_skip ?_
        refine qn_then ?_
        refine cw_seq ?_
        obtain ⟨w56, he58⟩ : ∃ q, q = w43.drew := ⟨_, rfl⟩
        have hm57 := hm44.drew; rw [← he58] at hm57
        refine cw_region_s (fun q => q = w56) (cls [] [4]) mixed ?_
        rintro _ rfl; rw [← he58]
        refine s_rp (i := 0) rfl (by kernel_rfl) rfl (fun _ => (rd_move rfl)) ?_
        refine s_rp (i := 1) rfl (by kernel_rfl) rfl (fun _ => (rd_move rfl)) ?_
        obtain ⟨l59, h60, q61⟩ := ob q54; clear q54
        refine s_rp (i := 2) rfl (by kernel_rfl) rfl (fun _ => (rd_slcH tS24 rfl rfl (hm57.sl 2 rfl) h60)) ?_
        refine s_rd (i := 3) rfl (by kernel_rfl) rfl (fun _ hS => by rw [hS]; exact (rd_ld tA23 rfl (hm57.blk 1 rfl) rfl)) rfl ?_
        obtain ⟨r62, h63, q64⟩ := ob q61; clear q61
        refine s_ef (i := 4) rfl (by kernel_rfl) rfl (ef_call tf9 rfl (cut_Form_ok h63 ((hm57.sl_call 2 rfl).sub h60))) (by decide) (fun _ _ _ q => absurd q (by decide)) ?_
        rintro _ w67 ⟨v65, rfl, hm66⟩
        have hm68 := hm57.call hm66
        refine s_rp (i := 5) rfl (by kernel_rfl) rfl (fun _ => (rd_move rfl)) ?_
        refine s_rp (i := 6) rfl (by kernel_rfl) rfl (fun _ => (rd_extract rfl rfl)) ?_
        refine s_rp (i := 7) rfl (by kernel_rfl) rfl (fun _ => (rd_extract rfl rfl)) ?_
        refine s_rp (i := 8) rfl (by kernel_rfl) rfl (fun _ => (rd_assign rfl)) ?_
        refine s_rp (i := 9) rfl (by kernel_rfl) rfl (fun _ => (rd_assign rfl)) ?_
        refine s_nil (by kernel_rfl) ?_
        refine qn_then ?_
        refine cw_seq ?_
        obtain ⟨w70, he72⟩ : ∃ q, q = w67.drew := ⟨_, rfl⟩
        have hm71 := hm68.drew; rw [← he72] at hm71
        refine cw_region_s (fun q => q = w70) (cls [] [4]) mixed ?_
        rintro _ rfl; rw [← he72]
        refine s_rp (i := 0) rfl (by kernel_rfl) rfl (fun _ => (rd_move rfl)) ?_
        refine s_rp (i := 1) rfl (by kernel_rfl) rfl (fun _ => (rd_move rfl)) ?_
        obtain ⟨l73, h74, q75⟩ := ob q64; clear q64
        refine s_rp (i := 2) rfl (by kernel_rfl) rfl (fun _ => (rd_slcL tS24 rfl rfl (hm71.sl 3 rfl) h74)) ?_
        refine s_rd (i := 3) rfl (by kernel_rfl) rfl (fun _ hS => by rw [hS]; exact (rd_ld tA23 rfl (hm71.blk 2 rfl) rfl)) rfl ?_
        obtain ⟨r76, h77, q78⟩ := ob q75; clear q75
        refine s_ef (i := 4) rfl (by kernel_rfl) rfl (ef_call tf9 rfl (cut_Form_ok h77 ((hm71.sl_call 3 rfl).sub h74))) (by decide) (fun _ _ _ q => absurd q (by decide)) ?_
        rintro _ w81 ⟨v79, rfl, hm80⟩
        have hm82 := hm71.call hm80
        refine s_rp (i := 5) rfl (by kernel_rfl) rfl (fun _ => (rd_move rfl)) ?_
        refine s_rp (i := 6) rfl (by kernel_rfl) rfl (fun _ => (rd_extract rfl rfl)) ?_
        refine s_rp (i := 7) rfl (by kernel_rfl) rfl (fun _ => (rd_extract rfl rfl)) ?_
        refine s_rp (i := 8) rfl (by kernel_rfl) rfl (fun _ => (rd_assign rfl)) ?_
        refine s_rp (i := 9) rfl (by kernel_rfl) rfl (fun _ => (rd_assign rfl)) ?_
        refine s_nil (by kernel_rfl) ?_
        refine qn_then ?_
        refine cw_seq ?_
        refine cw_seq ?_
        refine cw_region ?_
        refine t_rd rfl (rd_move rfl) ?_
        refine t_rd rfl (rd_lenS tS27 rfl (hm82.sl 0 rfl)) ?_
        refine t_rd rfl (rd_move rfl) ?_
        refine rwt_nil ?_
        refine qn_then ?_
        refine cw_block ?_
        obtain ⟨r151, hit152, q153⟩ := ob q78; clear q78
        refine cw_loop2 (I := fun q envq wq => ∃ (v144 : Value), Sub [(6, v23), (9, (Value.int .i64 x45.From)), (10, v65), (11, (Value.int .i64 r62.2)), (12, v144), (13, (Value.int .i64 r76.2)), (73, (Value.int .i64 (List.length r76.1 : Int))), (74, (Value.int .i64 q.1))] envq ∧ Mem w No [ownL 33 v144 (q.2 : List T_Cut), ownL 33 v65 (r62.1 : List T_Cut), ownL 33 v23 (r20.1 : List T_Cut)] wq) (X := fun eq envq wq => eq = .exit 0 ∧ ∃ (v141 : Value), Sub [(6, v23), (10, v65), (11, (Value.int .i64 r62.2)), (12, v141), (13, (Value.int .i64 r76.2))] envq ∧ Mem w No [ownL 33 v141 (r151 : List T_Cut), ownL 33 v65 (r62.1 : List T_Cut), ownL 33 v23 (r20.1 : List T_Cut)] wq) hit152 ⟨v79, (by repeat (first | exact Sub.nil _ | refine Sub.cons rfl ?_)), (hm82.pick [0, 1, 2] (by decide) rfl)⟩ ?_ ?_
        · rintro ⟨i142, l143⟩ x146 env147 w148 hf149 hr150 ⟨v144, hs_, hm_⟩
          have hs_ : Sub [(6, v23), (9, (Value.int .i64 x45.From)), (10, v65), (11, (Value.int .i64 r62.2)), (12, v144), (13, (Value.int .i64 r76.2)), (73, (Value.int .i64 (List.length r76.1 : Int))), (74, (Value.int .i64 i142))] env147 := hs_
          have hm154 : Mem w No [ownL 33 v144 (l143 : List T_Cut), ownL 33 v65 (r62.1 : List T_Cut), ownL 33 v23 (r20.1 : List T_Cut)] w148 := hm_
          refine cw_sub hs_ ?_
          clear hs_ hm_ q153
          have h : law18_CutJoins_l1 N x45 r76 i142 l143 = some x146 := hf149
          clear hf149
          refine cw_seq ?_
          refine cw_region ?_
          refine t_rd rfl (rd_lss rfl rfl) ?_
          refine rwt_nil ?_
          refine qn_then ?_
          refine cw_seq ?_
          obtain ⟨hb155, q156⟩ | ⟨hb155, q156⟩ := oi h <;> clear h
          · refine cw_t rfl hb155 ?_
            refine cw_skip ?_
            refine qn_then ?_
            refine cw_seq ?_
            refine cw_block ?_
            refine cw_seq ?_
            refine cw_region ?_
            refine t_rd rfl (rd_move rfl) ?_
            refine t_rd rfl (rd_assign rfl) ?_
            refine rwt_nil ?_
            refine qn_then ?_
            refine cw_seq ?_
            refine cw_region ?_
            refine t_rd rfl (rd_move rfl) ?_
            refine t_rd rfl (rd_move rfl) ?_
            obtain ⟨x157, h158, q159⟩ := ob q156; clear q156
            refine t_rd rfl (rd_index tS27 rfl rfl (hm154.sl 0 rfl) h158) ?_
            refine t_rd rfl (rd_fld tF33_0 rfl) ?_
            refine t_rd rfl (rd_ld1 tO3 rfl ((hm154.sl 0 rfl).cells h158) (off := 0) rfl) ?_
            refine t_rd rfl (rd_move rfl) ?_
            obtain ⟨x160, h161, q162⟩ := ob q159; clear q159
            refine t_rd rfl (rd_add64 h161 rfl rfl) ?_
            obtain ⟨x163, h164, q165⟩ := ob q162; clear q162
            refine t_rd rfl (rd_index tS27 rfl rfl (hm154.sl 0 rfl) h164) ?_
            refine t_rd rfl (rd_fld tF33_0 rfl) ?_
            refine t_ef0 (ef_stl (k := 0) (off := 0) (x' := (T_Cut.mk x160 x163.To x163.Track x163.Engine)) hm154 tO3 rfl rfl rfl rfl h164 rfl rfl) ?_
            intro _ w167 hm166
            refine rwt_nil ?_
            refine qn_then ?_
            refine cw_region ?_
            refine t_rd rfl (rd_move rfl) ?_
            refine t_rd rfl (rd_move rfl) ?_
            obtain ⟨x168, h169, q170⟩ := ob q165; clear q165
            refine t_rd rfl (rd_index tS27 rfl rfl (hm166.sl 0 rfl) h169) ?_
            refine t_rd rfl (rd_fld tF33_1 rfl) ?_
            refine t_rd rfl (rd_ld1 tO3 rfl ((hm166.sl 0 rfl).cells h169) (off := 1) rfl) ?_
            refine t_rd rfl (rd_move rfl) ?_
            obtain ⟨x171, h172, q173⟩ := ob q170; clear q170
            refine t_rd rfl (rd_add64 h172 rfl rfl) ?_
            obtain ⟨x174, h175, q176⟩ := ob q173; clear q173
            refine t_rd rfl (rd_index tS27 rfl rfl (hm166.sl 0 rfl) h175) ?_
            refine t_rd rfl (rd_fld tF33_1 rfl) ?_
            refine t_ef0 (ef_stl (k := 0) (off := 1) (x' := (T_Cut.mk x174.From x171 x174.Track x174.Engine)) hm166 tO3 rfl rfl rfl rfl h175 rfl rfl) ?_
            intro _ w178 hm177
            refine rwt_nil ?_
            refine qn_block (qn_then ?_)
            refine cw_region ?_
            obtain ⟨x179, h180, q181⟩ := ob q176; clear q176
            refine t_rd rfl (rd_add64 h180 rfl rfl) ?_
            refine t_rd rfl (rd_move rfl) ?_
            refine rwt_nil ?_
            refine qn_then ?_
            refine ⟨_, (os q181), v144, (by repeat (first | exact Sub.nil _ | refine Sub.cons rfl ?_)), (hm177.pick [0, 1, 2] (by decide) rfl)⟩
          · refine cw_f rfl hb155 ?_
            refine cw_exit ?_
            refine qx_then (qx_then ?_)
            obtain rfl := hr150 _ (os q156)
            exact ⟨rfl, v144, (by repeat (first | exact Sub.nil _ | refine Sub.cons rfl ?_)), (hm154.pick [0, 1, 2] (by decide) rfl)⟩
        · skip
          intro e env182 w183 hX184
          obtain ⟨rfl, v141, hs185, hm186⟩ := hX184
          refine qx_same (qn_then ?_)
          refine cw_sub hs185 ?_
          refine cw_seq ?_
          refine cw_region ?_
          refine t_rd rfl (rd_move rfl) ?_
          refine t_rd rfl (rd_eql rfl rfl) ?_
          refine t_rd rfl (rd_move rfl) ?_
          refine t_rdg rfl rfl rfl rfl (gv_t _) (fun hg187 => (rd_move rfl)) ?_
          refine t_rdg rfl rfl rfl rfl (gv_t _) (fun hg188 => (rd_eql (gvx rfl hg188) rfl)) ?_
          refine t_rd rfl (rd_and rfl (fun hc189 => (gvx rfl hc189))) ?_
          refine t_rd rfl (rd_move rfl) ?_
          obtain ⟨hb191, q192⟩ | ⟨hb191, q192⟩ := oi q153 <;> clear q153
          · skip
            refine t_efg rfl rfl rfl rfl (gv_t _) (fun _ => (ef_bslice0 (α := T_Cut) hm186 tS27)) (fun q => bcontra q hb191) ?_
            intro v194 w196 hm195
            refine t_rdg rfl rfl rfl rfl (gv_t _) (fun hg197 => (rd_move rfl)) ?_
            obtain ⟨l199, h200, q201⟩ := ob q192; clear q192
            refine t_efg rfl rfl rfl rfl (gv_t _) (fun _ => (ef_append (k := 0) hm195 tS27 tE33 rfl rfl rfl (gvx rfl hb191) (hm195.sl 2 rfl) h200)) (fun q => bcontra q hb191) ?_
            intro v202 w204 hm203
            refine t_rdg rfl rfl rfl rfl (gv_t _) (fun hg205 => (rd_move rfl)) ?_
            obtain ⟨l207, h208, q209⟩ := ob q201; clear q201
            refine t_efg rfl rfl rfl rfl (gv_t _) (fun _ => (ef_append (k := 0) hm203 tS27 tE33 rfl rfl rfl (gvx rfl hb191) (hm203.sl 1 rfl) h208)) (fun q => bcontra q hb191) ?_
            intro v210 w212 hm211
            refine t_rdg rfl rfl rfl rfl (gv_t _) (fun hg213 => (rd_move rfl)) ?_
            obtain ⟨r215, h216, q217⟩ := ob q209; clear q209
            refine t_efg rfl rfl rfl rfl (gv_t _) (fun _ => (ef_call tf14 (evc rfl (evc (gvx rfl hb191) evn)) (humpgen_Cuts_ok h216 (hm211.sl_call 0 rfl) (hm211.sl_call 3 rfl)))) (fun q => bcontra q hb191) ?_
            rintro _ w219 ⟨rfl, hm218⟩
            have hm220 := hm211.call hm218
            refine t_rd rfl (rd_and rfl (fun hc221 => rfl)) ?_
            refine t_rd rfl (rd_move rfl) ?_
            obtain ⟨r223, h224, q225⟩ := ob q217; clear q217
            refine t_efg rfl rfl rfl rfl (R := (fun v w' => v = gV ((decide (r62.2 = 0) && decide (r76.2 = 0)) && r215) (Value.bool r223) ∧ Mem w219 No [] w')) (gv_t _) (fun hg222 => (ef_call tf10 rfl (law18_sane_ok (gO_t h224 hg222))).mono (by rintro _ _ ⟨rfl, q⟩; exact ⟨(gV_t hg222).symm, q⟩)) (fun q => ⟨(gV_f q).symm, Mem.nil _⟩) ?_
            rintro _ w227 ⟨rfl, hm226⟩
            have hm228 := hm220.call hm226
            refine t_rd rfl (rd_and rfl (fun hc229 => (gvx rfl hc229))) ?_
            refine t_rd rfl (rd_assign rfl) ?_
            refine rwt_nil ?_
            refine qn_then ?_
            refine cw_ret ?_
            obtain rfl := os q225
            exact ret1 rfl rfl ⟨rfl, (hm228.pick [] (by decide) rfl)⟩
          · skip
            refine t_efg rfl rfl rfl rfl (R := fun v w' => v = undef ∧ w' = w183) (gv_t _) (fun hg230 => bcontra hb191 hg230) (fun _ => ⟨rfl, rfl⟩) ?_
            rintro v_ w_ ⟨e1_, e2_⟩; rw [e1_, e2_]; clear e1_ e2_ v_ w_
            refine t_rdg rfl rfl rfl rfl (gv_t _) (v := undef) (fun hg231 => (bcontra hb191 hg231)) ?_
            refine t_efg rfl rfl rfl rfl (R := fun v w' => v = undef ∧ w' = w183) (gv_t _) (fun hg232 => bcontra hb191 hg232) (fun _ => ⟨rfl, rfl⟩) ?_
            rintro v_ w_ ⟨e1_, e2_⟩; rw [e1_, e2_]; clear e1_ e2_ v_ w_
            refine t_rdg rfl rfl rfl rfl (gv_t _) (v := undef) (fun hg233 => (bcontra hb191 hg233)) ?_
            refine t_efg rfl rfl rfl rfl (R := fun v w' => v = undef ∧ w' = w183) (gv_t _) (fun hg234 => bcontra hb191 hg234) (fun _ => ⟨rfl, rfl⟩) ?_
            rintro v_ w_ ⟨e1_, e2_⟩; rw [e1_, e2_]; clear e1_ e2_ v_ w_
            refine t_rdg rfl rfl rfl rfl (gv_t _) (v := undef) (fun hg235 => (bcontra hb191 hg235)) ?_
            refine t_efg rfl rfl rfl rfl (R := fun v w' => v = undef ∧ w' = w183) (gv_t _) (fun hg236 => bcontra hb191 hg236) (fun _ => ⟨rfl, rfl⟩) ?_
            rintro v_ w_ ⟨e1_, e2_⟩; rw [e1_, e2_]; clear e1_ e2_ v_ w_
            refine t_rd rfl (rd_and (b := false) rfl (fun hc237 => bcontra hb191 hc237)) ?_
            refine t_rd rfl (rd_move rfl) ?_
            refine t_efg rfl rfl rfl rfl (R := fun v w' => v = undef ∧ w' = w183) (gv_t _) (fun hg238 => bcontra (bandF hb191) hg238) (fun _ => ⟨rfl, rfl⟩) ?_
            rintro v_ w_ ⟨e1_, e2_⟩; rw [e1_, e2_]; clear e1_ e2_ v_ w_
            refine t_rd rfl (rd_and (b := false) rfl (fun hc239 => bcontra (bandF hb191) hc239)) ?_
            refine t_rd rfl (rd_assign rfl) ?_
            refine rwt_nil ?_
            refine qn_then ?_
            refine cw_ret ?_
            obtain rfl := os q192
            exact ret1 rfl rfl ⟨rfl, (hm186.pick [] (by decide) rfl)⟩

theorem law18_CutParts_ok {N : Nat} {a0 : List Int} {res : Bool} (h : law18_CutParts N a0 = some res) {w : World} {v0 : Value} (hv0 : Sl (Old w No) w v0 a0) :
    CallsR Try.prog 5 [v0] w (fun u w' => u = (Value.bool res) ∧ Mem w No [] w') := by
  unfold law18_CutParts at h
  refine fn_ok Try.func5 rfl rfl rfl ?_
  have hm0 := Mem.nil w
  refine cw_seq ?_
  refine cw_region ?_
  refine t_rd rfl (rd_assign rfl) ?_
  refine rwt_nil ?_
  refine qn_then ?_
  refine cw_seq ?_
  refine cw_region ?_
  refine t_rd rfl (rd_move rfl) ?_
  obtain ⟨r1, h2, q3⟩ := ob h; clear h
  refine t_ef rfl (ef_call tf11 rfl (humpgen_New_ok h2 (hv0.to_call hm0))) ?_
  rintro _ w6 ⟨g4, rfl, hm5⟩
  have hm7 := hm0.call hm5
  refine t_rd rfl (rd_assign rfl) ?_
  refine rwt_nil ?_
  refine qn_then ?_
  refine cw_seq ?_
  refine cw_region ?_
  refine t_rd rfl (rd_move rfl) ?_
  obtain ⟨r8, h9, q10⟩ := ob q3; clear q3
  refine t_ef rfl (ef_call tf12 rfl (Maker_Pushed_ok h9 (hv0.to_callT (k := 0) hm7 rfl) (hm7.get (k := 0) rfl))) ?_
  rintro _ w13 ⟨v11, rfl, hm12⟩
  have hm14 := hm7.callT (k := 0) rfl (fun _ h => h) hm12 (fun _ => Iff.rfl)
  refine t_rd rfl (rd_move rfl) ?_
  refine t_rd rfl (rd_extract rfl rfl) ?_
  refine t_rd rfl (rd_extract rfl rfl) ?_
  refine t_ef rfl (ef_alloc hm14 tZ23 rfl) ?_
  rintro _ w17 ⟨g15, rfl, hm16⟩
  refine t_rd rfl (rd_assign rfl) ?_
  refine t_ef0 (ef_stw (k := 0) hm16 tA23 rfl rfl (oc_cons rfl (oc_cons rfl (oc_cons rfl oc_nil))) rfl rfl rfl) ?_
  intro _ w19 hm18
  refine rwt_nil ?_
  refine qn_then ?_
  refine cw_seq ?_
  refine cw_seq ?_
  refine cw_region ?_
  refine t_rd rfl (rd_assign rfl) ?_
  refine rwt_nil ?_
  refine qn_then ?_
  refine cw_block ?_
  obtain ⟨r170, hit171, q172⟩ := ob q10; clear q10
  refine cw_loop2 (I := fun q envq wq => Sub [(3, (Value.pointer (some ⟨g4, 0, none⟩))), (4, v11), (5, (Value.pointer (some ⟨g15, 0, none⟩))), (6, (Value.int .i64 q.1))] envq ∧ Mem w No [blk g15 23 [(Value.int .i64 r8.2.2.Wagons), (Value.int .i64 r8.2.2.Axles), (Value.int .i64 r8.2.2.Length)], ownL 26 v11 (r8.2.1 : List T_Pushed), blk g4 56 [v0, (Value.int .i64 q.2)]] wq) (X := fun eq envq wq => (∃ p173, r170 = (Sum.inl p173) ∧ eq = .ret ∧ retQ Try.prog 87 Try.f5 (fun u w' => u = (Value.bool p173) ∧ Mem w No [] w') .ret envq wq) ∨ (∃ p174, r170 = (Sum.inr p174) ∧ eq = .exit 0 ∧ Sub [] envq ∧ Mem w No [] wq)) hit171 ⟨(by repeat (first | exact Sub.nil _ | refine Sub.cons rfl ?_)), (hm18.pick [0, 1, 2] (by decide) rfl)⟩ ?_ ?_
  · rintro ⟨i162, i163⟩ x165 env166 w167 hf168 hr169 ⟨hs_, hm_⟩
    have hs_ : Sub [(3, (Value.pointer (some ⟨g4, 0, none⟩))), (4, v11), (5, (Value.pointer (some ⟨g15, 0, none⟩))), (6, (Value.int .i64 i162))] env166 := hs_
    have hm175 : Mem w No [blk g15 23 [(Value.int .i64 r8.2.2.Wagons), (Value.int .i64 r8.2.2.Axles), (Value.int .i64 r8.2.2.Length)], ownL 26 v11 (r8.2.1 : List T_Pushed), blk g4 56 [v0, (Value.int .i64 i163)]] w167 := hm_
    refine cw_sub hs_ ?_
    clear hs_ hm_ q172
    have h : law18_CutParts_l1 N a0 r8 i162 i163 = some x165 := hf168
    clear hf168
    refine cw_seq ?_
    refine cw_seq ?_
    refine cw_region ?_
    refine t_rd rfl (rd_move rfl) ?_
    refine t_rd rfl (rd_lss rfl rfl) ?_
    refine rwt_nil ?_
    refine qn_then ?_
    obtain ⟨hb176, q177⟩ | ⟨hb176, q177⟩ := oi h <;> clear h
    · refine cw_t rfl hb176 ?_
      refine cw_skip ?_
      refine qn_then ?_
      refine cw_seq ?_
      refine cw_block ?_
      refine cw_seq ?_
      refine cw_region ?_
      refine t_rd rfl (rd_move rfl) ?_
      refine t_rd rfl (rd_move rfl) ?_
      refine t_rd rfl (rd_lenS tS24 rfl (hm175.sl 1 rfl)) ?_
      obtain ⟨x178, h179, q180⟩ := ob q177; clear q177
      refine t_rd rfl (rd_add64 h179 rfl rfl) ?_
      obtain ⟨r181, h182, q183⟩ := ob q180; clear q180
      refine t_ef rfl (ef_call tf13 rfl (Maker_Next_ok h182 (hv0.to_callT (k := 2) hm175 rfl) (hm175.get (k := 2) rfl))) ?_
      rintro _ w185 ⟨rfl, hm184⟩
      have hm186 := hm175.callT (k := 2) rfl (fun _ h => h) hm184 (fun _ => Iff.rfl)
      refine t_rd rfl (rd_assign rfl) ?_
      refine rwt_nil ?_
      refine qn_then ?_
      refine cw_seq ?_
      refine cw_region ?_
      refine t_rd rfl (rd_move rfl) ?_
      refine t_rd rfl (rd_move rfl) ?_
      refine t_rd rfl (rd_move rfl) ?_
      refine t_rd rfl (rd_lenS tS24 rfl (hm186.sl 1 rfl)) ?_
      obtain ⟨r187, h188, q189⟩ := ob q183; clear q183
      refine t_ef rfl (ef_call tf15 rfl (Maker_From_ok h188 (hv0.to_callT (k := 2) hm186 rfl) (hm186.get (k := 2) rfl))) ?_
      rintro _ w191 ⟨rfl, hm190⟩
      have hm192 := hm186.callT (k := 2) rfl (fun _ h => h) hm190 (fun _ => Iff.rfl)
      refine t_rd rfl (rd_assign rfl) ?_
      refine rwt_nil ?_
      refine qn_then ?_
      refine cw_seq ?_
      refine cw_region ?_
      refine t_rd rfl (rd_move rfl) ?_
      refine t_rd rfl (rd_move rfl) ?_
      refine t_rd rfl (rd_move rfl) ?_
      obtain ⟨r193, h194, q195⟩ := ob q189; clear q189
      refine t_ef rfl (ef_call tf15 rfl (Maker_From_ok h194 (hv0.to_callT (k := 2) hm192 rfl) (hm192.get (k := 2) rfl))) ?_
      rintro _ w197 ⟨rfl, hm196⟩
      have hm198 := hm192.callT (k := 2) rfl (fun _ h => h) hm196 (fun _ => Iff.rfl)
      refine t_rd rfl (rd_assign rfl) ?_
      refine rwt_nil ?_
      refine qn_then ?_
      refine cw_seq ?_
      refine cw_region ?_
      refine t_rd rfl (rd_move rfl) ?_
      refine t_rd rfl (rd_move rfl) ?_
      refine t_rd rfl (rd_move rfl) ?_
      obtain ⟨r199, h200, q201⟩ := ob q195; clear q195
      refine t_ef rfl (ef_call tf15 rfl (Maker_From_ok h200 (hv0.to_callT (k := 2) hm198 rfl) (hm198.get (k := 2) rfl))) ?_
      rintro _ w203 ⟨rfl, hm202⟩
      have hm204 := hm198.callT (k := 2) rfl (fun _ h => h) hm202 (fun _ => Iff.rfl)
      refine t_rd rfl (rd_assign rfl) ?_
      refine rwt_nil ?_
      refine qn_then ?_
      refine cw_seq ?_
      refine cw_region ?_
      refine t_rd rfl (rd_move rfl) ?_
      refine t_rd rfl (rd_ld tA23 rfl (hm204.blk 0 rfl) rfl) ?_
      refine t_rd rfl (rd_move rfl) ?_
      refine t_rd rfl (rd_move rfl) ?_
      obtain ⟨r205, h206, q207⟩ := ob q201; clear q201
      refine t_ef rfl (ef_call tf16 rfl (cut_Permitted_ok h206 (hm204.sl_call 1 rfl))) ?_
      rintro _ w209 ⟨rfl, hm208⟩
      have hm210 := hm204.call hm208
      refine t_rd rfl (rd_move rfl) ?_
      refine t_rd rfl (rd_extract rfl rfl) ?_
      refine t_rd rfl (rd_extract rfl rfl) ?_
      refine t_rd rfl (rd_assign rfl) ?_
      refine t_rd rfl (rd_assign rfl) ?_
      refine rwt_nil ?_
      refine qn_then ?_
      refine cw_seq ?_
      refine cw_region ?_
      refine t_rd rfl (rd_move rfl) ?_
      refine t_rd rfl (rd_ld tA23 rfl (hm210.blk 0 rfl) rfl) ?_
      refine t_rd rfl (rd_move rfl) ?_
      refine t_rd rfl (rd_move rfl) ?_
      obtain ⟨r211, h212, q213⟩ := ob q207; clear q207
      refine t_ef rfl (ef_call tf16 rfl (cut_Permitted_ok h212 (hm210.sl_call 1 rfl))) ?_
      rintro _ w215 ⟨rfl, hm214⟩
      have hm216 := hm210.call hm214
      refine t_rd rfl (rd_move rfl) ?_
      refine t_rd rfl (rd_extract rfl rfl) ?_
      refine t_rd rfl (rd_extract rfl rfl) ?_
      refine t_rd rfl (rd_assign rfl) ?_
      refine t_rd rfl (rd_assign rfl) ?_
      refine rwt_nil ?_
      refine qn_then ?_
      refine cw_seq ?_
      refine cw_region ?_
      refine t_rd rfl (rd_move rfl) ?_
      refine t_rd rfl (rd_neq rfl rfl) ?_
      refine t_rd rfl (rd_move rfl) ?_
      refine t_rdg rfl rfl rfl rfl (gv_f _) (fun hg217 => (rd_move rfl)) ?_
      refine t_rdg rfl rfl rfl rfl (gv_f _) (fun hg218 => (rd_neq (gvx rfl hg218) rfl)) ?_
      refine t_rd rfl (rd_or rfl (fun hc219 => (gvx rfl (bnotIt hc219)))) ?_
      refine t_rd rfl (rd_move rfl) ?_
      refine t_rdg rfl rfl rfl rfl (gv_f _) (fun hg220 => (rd_move rfl)) ?_
      refine t_rdg rfl rfl rfl rfl (gv_f _) (fun hg221 => (rd_move (gvx rfl hg221))) ?_
      refine t_rdg rfl rfl rfl rfl (gv_nt _ _) (fun hg222 => (rd_move rfl)) ?_
      refine t_rdg rfl rfl rfl rfl (gv_nt _ _) (fun hg223 => (rd_move rfl)) ?_
      refine t_rdg rfl rfl rfl rfl (gv_nt _ _) (fun hg224 => (rd_lss (gvx rfl hg224) (gvx rfl hg224))) ?_
      refine t_rdg rfl rfl rfl rfl (gv_f _) (fun hg225 => (rd_and (gvx rfl hg225) (fun hc226 => (gvx rfl (band hg225 hc226))))) ?_
      refine t_rdg rfl rfl rfl rfl (gv_f _) (fun hg227 => (rd_move (gvx rfl hg227))) ?_
      refine t_rdg rfl rfl rfl rfl (gv_nt _ _) (fun hg228 => (rd_move rfl)) ?_
      refine t_rdg rfl rfl rfl rfl (gv_nt _ _) (fun hg229 => (rd_not (gvx rfl hg229))) ?_
      refine t_rdg rfl rfl rfl rfl (gv_f _) (fun hg230 => (rd_and (gvx rfl hg230) (fun hc231 => (gvx rfl (band hg230 hc231))))) ?_
      refine t_rd rfl (rd_or rfl (fun hc232 => (gvx rfl (bnotIt hc232)))) ?_
      refine t_rd rfl (rd_move rfl) ?_
      refine t_rdg rfl rfl rfl rfl (gv_f _) (fun hg233 => (rd_move rfl)) ?_
      refine t_rdg rfl rfl rfl rfl (gv_f _) (fun hg234 => (rd_move rfl)) ?_
      refine t_rdg rfl rfl rfl rfl (gv_f _) (fun hg235 => (rd_eql (gvx rfl hg235) (gvx rfl hg235))) ?_
      refine t_rdg rfl rfl rfl rfl (gv_f _) (fun hg236 => (rd_move (gvx rfl hg236))) ?_
      refine t_rdg rfl rfl rfl rfl (gv_nt _ _) (fun hg237 => (rd_move rfl)) ?_
      refine t_rdg rfl rfl rfl rfl (gv_f _) (fun hg238 => (rd_and (gvx rfl hg238) (fun hc239 => (gvx rfl (band hg238 hc239))))) ?_
      refine t_rd rfl (rd_or rfl (fun hc240 => (gvx rfl (bnotIt hc240)))) ?_
      refine rwt_nil ?_
      refine qn_then ?_
      obtain ⟨hb241, q242⟩ | ⟨hb241, q242⟩ := oi q213 <;> clear q213
      · refine cw_t rfl hb241 ?_
        refine cw_seq ?_
        refine cw_region ?_
        refine t_rd rfl (rd_assign rfl) ?_
        refine rwt_nil ?_
        refine qn_then ?_
        refine cw_ret ?_
        refine qr_block (qr_then (qr_then ?_))
        obtain rfl := hr169 _ (os q242)
        refine .inl (⟨_, rfl, ⟨rfl, ?_⟩⟩)
        exact ret1 rfl rfl ⟨rfl, (hm216.pick [] (by decide) rfl)⟩
      · refine cw_f rfl hb241 ?_
        refine cw_skip ?_
        refine qn_block (qn_then ?_)
        refine cw_region ?_
        refine t_rd rfl (rd_move rfl) ?_
        obtain ⟨x243, h244, q245⟩ := ob q242; clear q242
        refine t_rd rfl (rd_add64 h244 rfl rfl) ?_
        refine t_rd rfl (rd_assign rfl) ?_
        refine rwt_nil ?_
        refine qn_then ?_
        refine ⟨_, (os q245), (by repeat (first | exact Sub.nil _ | refine Sub.cons rfl ?_)), (hm216.pick [0, 1, 2] (by decide) rfl)⟩
    · refine cw_f rfl hb176 ?_
      refine cw_exit ?_
      refine qx_then (qx_then ?_)
      obtain rfl := hr169 _ (os q177)
      exact .inr (⟨_, rfl, ⟨rfl, (by repeat (first | exact Sub.nil _ | refine Sub.cons rfl ?_)), (hm175.pick [] (by decide) rfl)⟩⟩)
  · skip
    intro e env246 w247 hX248
    rcases hX248 with hX248 | hX248
    · obtain ⟨p250, rfl, hX248⟩ := hX248
      obtain ⟨rfl, hq252⟩ := hX248
      exact qr_block (qr_then ((by have e := os q172; subst e; exact hq252)))
    · obtain ⟨p253, rfl, hX248⟩ := hX248
      obtain ⟨rfl, hs254, hm255⟩ := hX248
      refine qx_same (qn_then ?_)
      refine cw_sub hs254 ?_
      refine cw_seq ?_
      refine cw_region ?_
      obtain ⟨r256, h257, q258⟩ := ob q172; clear q172
      refine t_ef rfl (ef_call tf10 rfl (law18_sane_ok h257)) ?_
      rintro _ w260 ⟨rfl, hm259⟩
      have hm261 := hm255.call hm259
      refine t_rd rfl (rd_assign rfl) ?_
      refine rwt_nil ?_
      refine qn_then ?_
      refine cw_ret ?_
      obtain rfl := os q258
      exact ret1 rfl rfl ⟨rfl, (hm261.pick [] (by decide) rfl)⟩

theorem law18_CutFewest_ok {N : Nat} {a0 : List Int} {res : Bool} (h : law18_CutFewest N a0 = some res) {w : World} {v0 : Value} (hv0 : Sl (Old w No) w v0 a0) :
    CallsR Try.prog 6 [v0] w (fun u w' => u = (Value.bool res) ∧ Mem w No [] w') := by
  unfold law18_CutFewest at h
  refine fn_ok Try.func6 rfl rfl rfl ?_
  have hm0 := Mem.nil w
  refine cw_seq ?_
  refine cw_region ?_
  refine t_rd rfl (rd_assign rfl) ?_
  refine rwt_nil ?_
  refine qn_then ?_
  refine cw_seq ?_
  refine cw_region ?_
  refine t_rd rfl (rd_move rfl) ?_
  obtain ⟨r1, h2, q3⟩ := ob h; clear h
  refine t_ef rfl (ef_call tf11 rfl (humpgen_New_ok h2 (hv0.to_call hm0))) ?_
  rintro _ w6 ⟨g4, rfl, hm5⟩
  have hm7 := hm0.call hm5
  refine t_rd rfl (rd_assign rfl) ?_
  refine rwt_nil ?_
  refine qn_then ?_
  refine cw_seq ?_
  refine cw_region ?_
  refine t_rd rfl (rd_move rfl) ?_
  obtain ⟨r8, h9, q10⟩ := ob q3; clear q3
  refine t_ef rfl (ef_call tf12 rfl (Maker_Pushed_ok h9 (hv0.to_callT (k := 0) hm7 rfl) (hm7.get (k := 0) rfl))) ?_
  rintro _ w13 ⟨v11, rfl, hm12⟩
  have hm14 := hm7.callT (k := 0) rfl (fun _ h => h) hm12 (fun _ => Iff.rfl)
  refine t_rd rfl (rd_move rfl) ?_
  refine t_rd rfl (rd_extract rfl rfl) ?_
  refine t_rd rfl (rd_extract rfl rfl) ?_
  refine t_ef rfl (ef_alloc hm14 tZ23 rfl) ?_
  rintro _ w17 ⟨g15, rfl, hm16⟩
  refine t_rd rfl (rd_assign rfl) ?_
  refine t_ef0 (ef_stw (k := 0) hm16 tA23 rfl rfl (oc_cons rfl (oc_cons rfl (oc_cons rfl oc_nil))) rfl rfl rfl) ?_
  intro _ w19 hm18
  refine rwt_nil ?_
  refine qn_then ?_
  refine cw_seq ?_
  refine cw_region ?_
  refine t_rd rfl (rd_move rfl) ?_
  refine t_rd rfl (rd_ld tA23 rfl (hm18.blk 0 rfl) rfl) ?_
  obtain ⟨r20, h21, q22⟩ := ob q10; clear q10
  refine t_ef rfl (ef_call tf9 rfl (cut_Form_ok h21 (hm18.sl_call 1 rfl))) ?_
  rintro _ w25 ⟨v23, rfl, hm24⟩
  have hm26 := hm18.call hm24
  refine t_rd rfl (rd_move rfl) ?_
  refine t_rd rfl (rd_extract rfl rfl) ?_
  refine t_rd rfl (rd_extract rfl rfl) ?_
  refine t_rd rfl (rd_assign rfl) ?_
  refine t_rd rfl (rd_assign rfl) ?_
  refine rwt_nil ?_
  refine qn_then ?_
  refine cw_seq ?_
  refine cw_region ?_
  refine t_rd rfl (rd_assign rfl) ?_
  refine rwt_nil ?_
  refine qn_then ?_
  refine cw_seq ?_
  refine cw_seq ?_
  refine cw_region ?_
  refine t_rd rfl (rd_assign rfl) ?_
  refine rwt_nil ?_
  refine qn_then ?_
  refine cw_block ?_
  have hm161 := hm26.addNil (α := T_Cut) 33
  obtain ⟨r446, hit447, q448⟩ := ob q22; clear q22
  refine cw_loop2 (I := fun q envq wq => ∃ (v439 : Value), Sub [(3, (Value.pointer (some ⟨g4, 0, none⟩))), (4, v11), (5, (Value.pointer (some ⟨g15, 0, none⟩))), (6, v23), (7, (Value.int .i64 r20.2)), (8, v439), (9, (Value.int .i64 q.1))] envq ∧ Mem w No [ownL 33 v439 (q.2.2 : List T_Cut), ownL 33 v23 (r20.1 : List T_Cut), blk g15 23 [(Value.int .i64 r8.2.2.Wagons), (Value.int .i64 r8.2.2.Axles), (Value.int .i64 r8.2.2.Length)], ownL 26 v11 (r8.2.1 : List T_Pushed), blk g4 56 [v0, (Value.int .i64 q.2.1)]] wq) (X := fun eq envq wq => (∃ p449, r446 = (Sum.inl p449) ∧ eq = .ret ∧ retQ Try.prog 101 Try.f6 (fun u w' => u = (Value.bool p449) ∧ Mem w No [] w') .ret envq wq) ∨ (∃ p450, r446 = (Sum.inr p450) ∧ eq = .exit 0 ∧ ∃ (v435 : Value), Sub [(4, v11), (5, (Value.pointer (some ⟨g15, 0, none⟩))), (6, v23), (7, (Value.int .i64 r20.2)), (8, v435)] envq ∧ Mem w No [ownL 33 v435 (p450 : List T_Cut), ownL 33 v23 (r20.1 : List T_Cut), blk g15 23 [(Value.int .i64 r8.2.2.Wagons), (Value.int .i64 r8.2.2.Axles), (Value.int .i64 r8.2.2.Length)], ownL 26 v11 (r8.2.1 : List T_Pushed)] wq)) hit447 ⟨(Value.slice none 0 0), (by repeat (first | exact Sub.nil _ | refine Sub.cons rfl ?_)), (hm161.pick [0, 1, 2, 3, 4] (by decide) rfl)⟩ ?_ ?_
  · rintro ⟨i436, i437, l438⟩ x441 env442 w443 hf444 hr445 ⟨v439, hs_, hm_⟩
    have hs_ : Sub [(3, (Value.pointer (some ⟨g4, 0, none⟩))), (4, v11), (5, (Value.pointer (some ⟨g15, 0, none⟩))), (6, v23), (7, (Value.int .i64 r20.2)), (8, v439), (9, (Value.int .i64 i436))] env442 := hs_
    have hm451 : Mem w No [ownL 33 v439 (l438 : List T_Cut), ownL 33 v23 (r20.1 : List T_Cut), blk g15 23 [(Value.int .i64 r8.2.2.Wagons), (Value.int .i64 r8.2.2.Axles), (Value.int .i64 r8.2.2.Length)], ownL 26 v11 (r8.2.1 : List T_Pushed), blk g4 56 [v0, (Value.int .i64 i437)]] w443 := hm_
    refine cw_sub hs_ ?_
    clear hs_ hm_ q448
    have h : law18_CutFewest_l4 N a0 r8 i436 i437 l438 = some x441 := hf444
    clear hf444
    refine cw_seq ?_
    refine cw_seq ?_
    refine cw_region ?_
    refine t_rd rfl (rd_move rfl) ?_
    refine t_rd rfl (rd_move rfl) ?_
    refine t_rd rfl (rd_lenS tS24 rfl (hm451.sl 3 rfl)) ?_
    refine t_rd rfl (rd_lss rfl rfl) ?_
    refine rwt_nil ?_
    refine qn_then ?_
    obtain ⟨hb452, q453⟩ | ⟨hb452, q453⟩ := oi h <;> clear h
    · refine cw_t rfl hb452 ?_
      refine cw_skip ?_
      refine qn_then ?_
      refine cw_block ?_
      refine cw_seq ?_
      refine cw_region ?_
      refine t_rd rfl (rd_move rfl) ?_
      obtain ⟨x454, h455, q456⟩ := ob q453; clear q453
      refine t_rd rfl (rd_add64 h455 rfl rfl) ?_
      refine t_rd rfl (rd_assign rfl) ?_
      refine rwt_nil ?_
      refine qn_then ?_
      refine cw_seq ?_
      refine cw_block ?_
      obtain ⟨r523, hit524, q525⟩ := ob q456; clear q456
      refine cw_loop2 (I := fun q envq wq => Sub [(3, (Value.pointer (some ⟨g4, 0, none⟩))), (4, v11), (5, (Value.pointer (some ⟨g15, 0, none⟩))), (6, v23), (7, (Value.int .i64 r20.2)), (8, v439), (9, (Value.int .i64 i436)), (10, (Value.int .i64 q.1))] envq ∧ Mem w No [ownL 33 v439 (l438 : List T_Cut), ownL 33 v23 (r20.1 : List T_Cut), blk g15 23 [(Value.int .i64 r8.2.2.Wagons), (Value.int .i64 r8.2.2.Axles), (Value.int .i64 r8.2.2.Length)], ownL 26 v11 (r8.2.1 : List T_Pushed), blk g4 56 [v0, (Value.int .i64 q.2)]] wq) (X := fun eq envq wq => (∃ p526, r523 = (Sum.inl p526) ∧ eq = .ret ∧ retQ Try.prog 101 Try.f6 (fun u w' => u = (Value.bool p526) ∧ Mem w No [] w') .ret envq wq) ∨ (∃ p527, r523 = (Sum.inr p527) ∧ eq = .exit 2 ∧ Sub [(3, (Value.pointer (some ⟨g4, 0, none⟩))), (4, v11), (5, (Value.pointer (some ⟨g15, 0, none⟩))), (6, v23), (7, (Value.int .i64 r20.2)), (8, v439), (9, (Value.int .i64 i436)), (10, (Value.int .i64 p527.1))] envq ∧ Mem w No [ownL 33 v439 (l438 : List T_Cut), ownL 33 v23 (r20.1 : List T_Cut), blk g15 23 [(Value.int .i64 r8.2.2.Wagons), (Value.int .i64 r8.2.2.Axles), (Value.int .i64 r8.2.2.Length)], ownL 26 v11 (r8.2.1 : List T_Pushed), blk g4 56 [v0, (Value.int .i64 p527.2)]] wq)) hit524 ⟨(by repeat (first | exact Sub.nil _ | refine Sub.cons rfl ?_)), (hm451.pick [0, 1, 2, 3, 4] (by decide) rfl)⟩ ?_ ?_
      · rintro ⟨i515, i516⟩ x518 env519 w520 hf521 hr522 ⟨hs_, hm_⟩
        have hs_ : Sub [(3, (Value.pointer (some ⟨g4, 0, none⟩))), (4, v11), (5, (Value.pointer (some ⟨g15, 0, none⟩))), (6, v23), (7, (Value.int .i64 r20.2)), (8, v439), (9, (Value.int .i64 i436)), (10, (Value.int .i64 i515))] env519 := hs_
        have hm528 : Mem w No [ownL 33 v439 (l438 : List T_Cut), ownL 33 v23 (r20.1 : List T_Cut), blk g15 23 [(Value.int .i64 r8.2.2.Wagons), (Value.int .i64 r8.2.2.Axles), (Value.int .i64 r8.2.2.Length)], ownL 26 v11 (r8.2.1 : List T_Pushed), blk g4 56 [v0, (Value.int .i64 i516)]] w520 := hm_
        refine cw_sub hs_ ?_
        clear hs_ hm_ q525
        have h : law18_CutFewest_l5 N a0 r8 i436 i515 i516 = some x518 := hf521
        clear hf521
        refine cw_seq ?_
        refine cw_seq ?_
        refine cw_region ?_
        refine t_rd rfl (rd_move rfl) ?_
        refine t_rd rfl (rd_move rfl) ?_
        refine t_rd rfl (rd_lenS tS24 rfl (hm528.sl 3 rfl)) ?_
        refine t_rd rfl (rd_lss rfl rfl) ?_
        refine t_rd rfl (rd_move rfl) ?_
        refine t_rdg rfl rfl rfl rfl (gv_t _) (fun hg529 => (rd_move rfl)) ?_
        obtain ⟨r531, h532, q533⟩ := ob h; clear h
        refine t_efg rfl rfl rfl rfl (R := (fun v w' => v = gV (decide (i515 < (List.length r8.2.1 : Int))) (Value.int .i64 r531.2) ∧ Mem w No [ownL 33 v439 (l438 : List T_Cut), ownL 33 v23 (r20.1 : List T_Cut), blk g15 23 [(Value.int .i64 r8.2.2.Wagons), (Value.int .i64 r8.2.2.Axles), (Value.int .i64 r8.2.2.Length)], ownL 26 v11 (r8.2.1 : List T_Pushed), blk g4 56 [v0, (Value.int .i64 r531.1)]] w')) (gv_t _) (fun hg530 => (ef_call tf13 (evc (gvx rfl hg530) (evc rfl evn)) (Maker_Next_ok (gD_t h532 hg530) (hv0.to_callT (k := 4) hm528 rfl) (hm528.get (k := 4) rfl))).mono (by rintro _ _ ⟨rfl, q⟩; exact ⟨(gV_t hg530).symm, hm528.callT (k := 4) rfl (fun _ h => h) q (fun _ => Iff.rfl)⟩)) (fun q => ⟨(gV_f q).symm, by have e := gD_f h532 q; subst e; exact hm528⟩) ?_
        rintro _ w535 ⟨rfl, hm534⟩
        refine t_rdg rfl rfl rfl rfl (gv_t _) (fun hg536 => (rd_gtr (gvx rfl hg536) rfl)) ?_
        refine t_rd rfl (rd_and rfl (fun hc537 => (gvx rfl hc537))) ?_
        refine rwt_nil ?_
        refine qn_then ?_
        obtain ⟨hb538, q539⟩ | ⟨hb538, q539⟩ := oi q533 <;> clear q533
        · refine cw_t rfl hb538 ?_
          refine cw_skip ?_
          refine qn_then ?_
          refine cw_block ?_
          refine cw_seq ?_
          refine cw_region ?_
          refine t_rd rfl (rd_move rfl) ?_
          refine t_rd rfl (rd_ld tA23 rfl (hm534.blk 2 rfl) rfl) ?_
          refine t_rd rfl (rd_move rfl) ?_
          refine t_rd rfl (rd_move rfl) ?_
          obtain ⟨x540, h541, q542⟩ := ob q539; clear q539
          refine t_rd rfl (rd_add64 h541 rfl rfl) ?_
          obtain ⟨r543, h544, q545⟩ := ob q542; clear q542
          refine t_ef rfl (ef_call tf16 rfl (cut_Permitted_ok h544 (hm534.sl_call 3 rfl))) ?_
          rintro _ w547 ⟨rfl, hm546⟩
          have hm548 := hm534.call hm546
          refine t_rd rfl (rd_move rfl) ?_
          refine t_rd rfl (rd_extract rfl rfl) ?_
          refine t_rd rfl (rd_extract rfl rfl) ?_
          refine t_rd rfl (rd_assign rfl) ?_
          refine t_rd rfl (rd_assign rfl) ?_
          refine rwt_nil ?_
          refine qn_then ?_
          refine cw_seq ?_
          refine cw_seq ?_
          refine cw_region ?_
          refine t_rd rfl (rd_move rfl) ?_
          refine t_rd rfl (rd_neq rfl rfl) ?_
          refine rwt_nil ?_
          refine qn_then ?_
          obtain ⟨hb549, q550⟩ | ⟨hb549, q550⟩ := oi q545 <;> clear q545
          · refine cw_t rfl hb549 ?_
            refine cw_seq ?_
            refine cw_region ?_
            refine t_rd rfl (rd_assign rfl) ?_
            refine rwt_nil ?_
            refine qn_then ?_
            refine cw_ret ?_
            refine qr_then (qr_block (qr_then ?_))
            obtain rfl := hr522 _ (os q550)
            refine .inl (⟨_, rfl, ⟨rfl, ?_⟩⟩)
            exact ret1 rfl rfl ⟨rfl, (hm548.pick [] (by decide) rfl)⟩
          · refine cw_f rfl hb549 ?_
            refine cw_skip ?_
            refine qn_then ?_
            refine cw_seq ?_
            refine cw_seq ?_
            refine cw_region ?_
            refine t_rd rfl (rd_move rfl) ?_
            refine t_rd rfl (rd_not rfl) ?_
            refine rwt_nil ?_
            refine qn_then ?_
            obtain ⟨hb551, q552⟩ | ⟨hb551, q552⟩ := oi q550 <;> clear q550
            · refine cw_t rfl hb551 ?_
              refine cw_exit ?_
              refine qx_then (qx_other rfl (qx_then ?_))
              obtain rfl := hr522 _ (os q552)
              exact .inr (⟨_, rfl, ⟨rfl, (by repeat (first | exact Sub.nil _ | refine Sub.cons rfl ?_)), (hm548.pick [0, 1, 2, 3, 4] (by decide) rfl)⟩⟩)
            · refine cw_f rfl hb551 ?_
              refine cw_skip ?_
              refine qn_then ?_
              refine cw_region ?_
              refine t_rd rfl (rd_move rfl) ?_
              obtain ⟨x553, h554, q555⟩ := ob q552; clear q552
              refine t_rd rfl (rd_add64 h554 rfl rfl) ?_
              refine t_rd rfl (rd_assign rfl) ?_
              refine rwt_nil ?_
              refine qn_block (qn_then ?_)
              refine ⟨_, (os q555), (by repeat (first | exact Sub.nil _ | refine Sub.cons rfl ?_)), (hm548.pick [0, 1, 2, 3, 4] (by decide) rfl)⟩
        · refine cw_f rfl hb538 ?_
          refine cw_exit ?_
          refine qx_then (qx_then ?_)
          obtain rfl := hr522 _ (os q539)
          exact .inr (⟨_, rfl, ⟨rfl, (by repeat (first | exact Sub.nil _ | refine Sub.cons rfl ?_)), (hm534.pick [0, 1, 2, 3, 4] (by decide) rfl)⟩⟩)
      · skip
        intro e env556 w557 hX558
        rcases hX558 with hX558 | hX558
        · obtain ⟨p560, rfl, hX558⟩ := hX558
          obtain ⟨rfl, hq562⟩ := hX558
          obtain rfl := hr445 _ (os q525)
          exact qr_block (qr_then (qr_block (qr_then (.inl (⟨_, rfl, ⟨rfl, hq562⟩⟩)))))
        · obtain ⟨p563, rfl, hX558⟩ := hX558
          obtain ⟨rfl, hs564, hm565⟩ := hX558
          refine qx_same (qn_then ?_)
          refine cw_sub hs564 ?_
          refine cw_seq ?_
          obtain ⟨w567, he569⟩ : ∃ q, q = w557.drew := ⟨_, rfl⟩
          have hm568 := hm565.drew; rw [← he569] at hm568
          refine cw_region_s (fun q => q = w567) (cls [] [14, 15]) mixed ?_
          rintro _ rfl; rw [← he569]
          refine s_rp (i := 0) rfl (by kernel_rfl) rfl (fun _ => (rd_move rfl)) ?_
          refine s_rp (i := 1) rfl (by kernel_rfl) rfl (fun _ => (rd_move rfl)) ?_
          refine s_rp (i := 2) rfl (by kernel_rfl) rfl (fun _ => (rd_move rfl)) ?_
          refine s_rp (i := 3) rfl (by kernel_rfl) rfl (fun _ => (rd_move rfl)) ?_
          refine s_rp (i := 4) rfl (by kernel_rfl) rfl (fun _ => (rd_move rfl)) ?_
          obtain ⟨x570, h571, q572⟩ := ob q525; clear q525
          refine s_rp (i := 5) rfl (by kernel_rfl) rfl (fun _ => (rd_index tS24 rfl rfl (hm568.sl 3 rfl) h571)) ?_
          refine s_rp (i := 6) rfl (by kernel_rfl) rfl (fun _ => (rd_fld tF26_4 rfl)) ?_
          refine s_rd (i := 7) rfl (by kernel_rfl) rfl (fun _ hS => by rw [hS]; exact (rd_ld1 tO3 rfl ((hm568.sl 3 rfl).cells h571) (off := 4) rfl)) rfl ?_
          refine s_rp (i := 8) rfl (by kernel_rfl) rfl (fun _ => (rd_move rfl)) ?_
          refine s_rp (i := 9) rfl (by kernel_rfl) rfl (fun _ => (rd_move rfl)) ?_
          obtain ⟨x573, h574, q575⟩ := ob q572; clear q572
          refine s_rp (i := 10) rfl (by kernel_rfl) rfl (fun _ => (rd_index tS24 rfl rfl (hm568.sl 3 rfl) h574)) ?_
          refine s_rp (i := 11) rfl (by kernel_rfl) rfl (fun _ => (rd_fld tF26_3 rfl)) ?_
          refine s_rd (i := 12) rfl (by kernel_rfl) rfl (fun _ hS => by rw [hS]; exact (rd_ld1 tO4 rfl ((hm568.sl 3 rfl).cells h574) (off := 3) rfl)) rfl ?_
          refine s_rp (i := 13) rfl (by kernel_rfl) rfl (fun _ => (rd_build (cs := #[(Value.int .i64 i436), (Value.int .i64 p563.1), (Value.int .i64 x570.Track), (Value.bool x573.Gentle)]) rfl (by kernel_rfl))) ?_
          refine s_ef (i := 14) rfl (by kernel_rfl) rfl (ef_bslice (l := ([(T_Cut.mk i436 p563.1 x570.Track x573.Gentle)] : List T_Cut)) hm568 tS27 rfl (cs := #[(Value.int .i64 i436), (Value.int .i64 p563.1), (Value.int .i64 x570.Track), (Value.bool x573.Gentle)]) (by unfold bsl; kernel_rfl) rfl rfl) (by decide) (fun _ _ _ q => absurd q (by decide)) ?_
          intro v576 w578 hm577
          obtain ⟨l579, h580, q581⟩ := ob q575; clear q575
          refine s_ef (i := 15) rfl (by kernel_rfl) rfl (ef_append (k := 1) hm577 tS27 tE33 rfl rfl rfl rfl (hm577.sl 0 rfl) h580) (by decide) (fun _ _ _ q => absurd q (by decide)) ?_
          intro v582 w584 hm583
          refine s_rp (i := 16) rfl (by kernel_rfl) rfl (fun _ => (rd_assign rfl)) ?_
          refine s_nil (by kernel_rfl) ?_
          refine qn_then ?_
          refine cw_region ?_
          refine t_rd rfl (rd_move rfl) ?_
          refine t_rd rfl (rd_assign rfl) ?_
          refine rwt_nil ?_
          refine qn_block (qn_then ?_)
          refine ⟨_, (os q581), v582, (by repeat (first | exact Sub.nil _ | refine Sub.cons rfl ?_)), (hm583.pick [1, 2, 3, 4, 5] (by decide) rfl)⟩
    · refine cw_f rfl hb452 ?_
      refine cw_exit ?_
      refine qx_then (qx_then ?_)
      obtain rfl := hr445 _ (os q453)
      exact .inr (⟨_, rfl, ⟨rfl, v439, (by repeat (first | exact Sub.nil _ | refine Sub.cons rfl ?_)), (hm451.pick [0, 1, 2, 3] (by decide) rfl)⟩⟩)
  · skip
    intro e env585 w586 hX587
    rcases hX587 with hX587 | hX587
    · obtain ⟨p589, rfl, hX587⟩ := hX587
      obtain ⟨rfl, hq591⟩ := hX587
      exact qr_block (qr_then ((by have e := os q448; subst e; exact hq591)))
    · obtain ⟨p592, rfl, hX587⟩ := hX587
      obtain ⟨rfl, v435, hs593, hm594⟩ := hX587
      refine qx_same (qn_then ?_)
      refine cw_sub hs593 ?_
      refine cw_seq ?_
      refine cw_region ?_
      refine t_rd rfl (rd_move rfl) ?_
      refine t_rd rfl (rd_ld tA23 rfl (hm594.blk 2 rfl) rfl) ?_
      refine t_rd rfl (rd_move rfl) ?_
      obtain ⟨r595, h596, q597⟩ := ob q448; clear q448
      refine t_ef rfl (ef_call tf17 rfl (cut_Check_ok h596 (hm594.sl_call 3 rfl) (hm594.sl_call 0 rfl))) ?_
      rintro _ w599 ⟨rfl, hm598⟩
      have hm600 := hm594.call hm598
      refine t_rd rfl (rd_move rfl) ?_
      refine t_rd rfl (rd_extract rfl rfl) ?_
      refine t_rd rfl (rd_extract rfl rfl) ?_
      refine t_rd rfl (rd_assign rfl) ?_
      refine t_rd rfl (rd_assign rfl) ?_
      refine rwt_nil ?_
      refine qn_then ?_
      refine cw_seq ?_
      refine cw_region ?_
      refine t_rd rfl (rd_move rfl) ?_
      refine t_rd rfl (rd_eql rfl rfl) ?_
      refine t_rd rfl (rd_move rfl) ?_
      refine t_rdg rfl rfl rfl rfl (gv_t _) (fun hg601 => (rd_move rfl)) ?_
      refine t_rdg rfl rfl rfl rfl (gv_t _) (fun hg602 => (rd_eql (gvx rfl hg602) rfl)) ?_
      refine t_rd rfl (rd_and rfl (fun hc603 => (gvx rfl hc603))) ?_
      refine t_rd rfl (rd_move rfl) ?_
      refine t_rdg rfl rfl rfl rfl (gv_t _) (fun hg604 => (rd_move rfl)) ?_
      refine t_rd rfl (rd_and rfl (fun hc605 => (gvx rfl hc605))) ?_
      refine t_rd rfl (rd_move rfl) ?_
      refine t_rdg rfl rfl rfl rfl (gv_t _) (fun hg606 => (rd_move rfl)) ?_
      refine t_rdg rfl rfl rfl rfl (gv_t _) (fun hg607 => (rd_lenS tS27 (gvx rfl hg607) (hm600.sl 1 rfl))) ?_
      refine t_rdg rfl rfl rfl rfl (gv_t _) (fun hg608 => (rd_move rfl)) ?_
      refine t_rdg rfl rfl rfl rfl (gv_t _) (fun hg609 => (rd_lenS tS27 (gvx rfl hg609) (hm600.sl 0 rfl))) ?_
      refine t_rdg rfl rfl rfl rfl (gv_t _) (fun hg610 => (rd_leq (gvx rfl hg610) (gvx rfl hg610))) ?_
      refine t_rd rfl (rd_and rfl (fun hc611 => (gvx rfl hc611))) ?_
      refine t_rd rfl (rd_move rfl) ?_
      obtain ⟨r613, h614, q615⟩ := ob q597; clear q597
      refine t_efg rfl rfl rfl rfl (R := (fun v w' => v = gV (((decide (r20.2 = 0) && decide (r595.2 = 0)) && r595.1) && decide ((List.length r20.1 : Int) ≤ (List.length p592 : Int))) (Value.bool r613) ∧ Mem w599 No [] w')) (gv_t _) (fun hg612 => (ef_call tf10 rfl (law18_sane_ok (gO_t h614 hg612))).mono (by rintro _ _ ⟨rfl, q⟩; exact ⟨(gV_t hg612).symm, q⟩)) (fun q => ⟨(gV_f q).symm, Mem.nil _⟩) ?_
      rintro _ w617 ⟨rfl, hm616⟩
      have hm618 := hm600.call hm616
      refine t_rd rfl (rd_and rfl (fun hc619 => (gvx rfl hc619))) ?_
      refine t_rd rfl (rd_assign rfl) ?_
      refine rwt_nil ?_
      refine qn_then ?_
      refine cw_ret ?_
      obtain rfl := os q615
      exact ret1 rfl rfl ⟨rfl, (hm618.pick [] (by decide) rfl)⟩

theorem law18_CutWitness_ok {N : Nat} {a0 : List Int} {res : Bool} (h : law18_CutWitness N a0 = some res) {w : World} {v0 : Value} (hv0 : Sl (Old w No) w v0 a0) :
    CallsR Try.prog 8 [v0] w (fun u w' => u = (Value.bool res) ∧ Mem w No [] w') := by
  unfold law18_CutWitness at h
  refine fn_ok Try.func8 rfl rfl rfl ?_
  have hm0 := Mem.nil w
  refine cw_seq ?_
  refine cw_region ?_
  refine t_rd rfl (rd_assign rfl) ?_
  refine rwt_nil ?_
  refine qn_then ?_
  refine cw_seq ?_
  refine cw_region ?_
  refine t_rd rfl (rd_move rfl) ?_
  obtain ⟨r1, h2, q3⟩ := ob h; clear h
  refine t_ef rfl (ef_call tf11 rfl (humpgen_New_ok h2 (hv0.to_call hm0))) ?_
  rintro _ w6 ⟨g4, rfl, hm5⟩
  have hm7 := hm0.call hm5
  refine t_rd rfl (rd_assign rfl) ?_
  refine rwt_nil ?_
  refine qn_then ?_
  refine cw_seq ?_
  refine cw_region ?_
  refine t_rd rfl (rd_move rfl) ?_
  obtain ⟨r8, h9, q10⟩ := ob q3; clear q3
  refine t_ef rfl (ef_call tf12 rfl (Maker_Pushed_ok h9 (hv0.to_callT (k := 0) hm7 rfl) (hm7.get (k := 0) rfl))) ?_
  rintro _ w13 ⟨v11, rfl, hm12⟩
  have hm14 := hm7.callT (k := 0) rfl (fun _ h => h) hm12 (fun _ => Iff.rfl)
  refine t_rd rfl (rd_move rfl) ?_
  refine t_rd rfl (rd_extract rfl rfl) ?_
  refine t_rd rfl (rd_extract rfl rfl) ?_
  refine t_ef rfl (ef_alloc hm14 tZ23 rfl) ?_
  rintro _ w17 ⟨g15, rfl, hm16⟩
  refine t_rd rfl (rd_assign rfl) ?_
  refine t_ef0 (ef_stw (k := 0) hm16 tA23 rfl rfl (oc_cons rfl (oc_cons rfl (oc_cons rfl oc_nil))) rfl rfl rfl) ?_
  intro _ w19 hm18
  refine rwt_nil ?_
  refine qn_then ?_
  refine cw_seq ?_
  refine cw_region ?_
  refine t_rd rfl (rd_move rfl) ?_
  refine t_rd rfl (rd_ld tA23 rfl (hm18.blk 0 rfl) rfl) ?_
  obtain ⟨r20, h21, q22⟩ := ob q10; clear q10
  refine t_ef rfl (ef_call tf9 rfl (cut_Form_ok h21 (hm18.sl_call 1 rfl))) ?_
  rintro _ w25 ⟨v23, rfl, hm24⟩
  have hm26 := hm18.call hm24
  refine t_rd rfl (rd_move rfl) ?_
  refine t_rd rfl (rd_extract rfl rfl) ?_
  refine t_rd rfl (rd_extract rfl rfl) ?_
  refine t_rd rfl (rd_assign rfl) ?_
  refine t_rd rfl (rd_assign rfl) ?_
  refine rwt_nil ?_
  refine qn_then ?_
  refine cw_seq ?_
  refine cw_region ?_
  refine t_rd rfl (rd_move rfl) ?_
  refine t_rd rfl (rd_ld tA23 rfl (hm26.blk 1 rfl) rfl) ?_
  obtain ⟨r27, h28, q29⟩ := ob q22; clear q22
  refine t_ef rfl (ef_call tf21 rfl (cut_Witness_ok h28 (hm26.sl_call 2 rfl))) ?_
  rintro _ w32 ⟨v30, rfl, hm31⟩
  have hm33 := hm26.call hm31
  refine t_rd rfl (rd_move rfl) ?_
  refine t_rd rfl (rd_extract rfl rfl) ?_
  refine t_rd rfl (rd_extract rfl rfl) ?_
  refine t_rd rfl (rd_assign rfl) ?_
  refine t_rd rfl (rd_assign rfl) ?_
  refine rwt_nil ?_
  refine qn_then ?_
  refine cw_seq ?_
  refine cw_region ?_
  refine t_rd rfl (rd_move rfl) ?_
  refine t_rd rfl (rd_ld tA23 rfl (hm33.blk 2 rfl) rfl) ?_
  refine t_rd rfl (rd_move rfl) ?_
  obtain ⟨r34, h35, q36⟩ := ob q29; clear q29
  refine t_ef rfl (ef_call tf17 rfl (cut_Check_ok h35 (hm33.sl_call 3 rfl) (hm33.sl_call 1 rfl))) ?_
  rintro _ w38 ⟨rfl, hm37⟩
  have hm39 := hm33.call hm37
  refine t_rd rfl (rd_move rfl) ?_
  refine t_rd rfl (rd_extract rfl rfl) ?_
  refine t_rd rfl (rd_extract rfl rfl) ?_
  refine t_rd rfl (rd_assign rfl) ?_
  refine t_rd rfl (rd_assign rfl) ?_
  refine rwt_nil ?_
  refine qn_then ?_
  refine cw_seq ?_
  refine cw_seq ?_
  refine cw_region ?_
  refine t_rd rfl (rd_move rfl) ?_
  refine t_rd rfl (rd_neq rfl rfl) ?_
  refine t_rd rfl (rd_move rfl) ?_
  refine t_rdg rfl rfl rfl rfl (gv_f _) (fun hg40 => (rd_move rfl)) ?_
  refine t_rdg rfl rfl rfl rfl (gv_f _) (fun hg41 => (rd_neq (gvx rfl hg41) rfl)) ?_
  refine t_rd rfl (rd_or rfl (fun hc42 => (gvx rfl (bnotIt hc42)))) ?_
  refine t_rd rfl (rd_move rfl) ?_
  refine t_rdg rfl rfl rfl rfl (gv_f _) (fun hg43 => (rd_move rfl)) ?_
  refine t_rdg rfl rfl rfl rfl (gv_f _) (fun hg44 => (rd_neq (gvx rfl hg44) rfl)) ?_
  refine t_rd rfl (rd_or rfl (fun hc45 => (gvx rfl (bnotIt hc45)))) ?_
  refine t_rd rfl (rd_move rfl) ?_
  refine t_rdg rfl rfl rfl rfl (gv_f _) (fun hg46 => (rd_move rfl)) ?_
  refine t_rdg rfl rfl rfl rfl (gv_f _) (fun hg47 => (rd_not (gvx rfl hg47))) ?_
  refine t_rd rfl (rd_or rfl (fun hc48 => (gvx rfl (bnotIt hc48)))) ?_
  refine t_rd rfl (rd_move rfl) ?_
  refine t_rdg rfl rfl rfl rfl (gv_f _) (fun hg49 => (rd_move rfl)) ?_
  refine t_rdg rfl rfl rfl rfl (gv_f _) (fun hg50 => (rd_lenS tS35 (gvx rfl hg50) (hm39.sl 0 rfl))) ?_
  refine t_rdg rfl rfl rfl rfl (gv_f _) (fun hg51 => (rd_move rfl)) ?_
  refine t_rdg rfl rfl rfl rfl (gv_f _) (fun hg52 => (rd_lenS tS27 (gvx rfl hg52) (hm39.sl 1 rfl))) ?_
  refine t_rdg rfl rfl rfl rfl (gv_f _) (fun hg53 => (rd_neq (gvx rfl hg53) (gvx rfl hg53))) ?_
  refine t_rd rfl (rd_or rfl (fun hc54 => (gvx rfl (bnotIt hc54)))) ?_
  refine rwt_nil ?_
  refine qn_then ?_
  obtain ⟨hb55, q56⟩ | ⟨hb55, q56⟩ := oi q36 <;> clear q36
  · refine cw_t rfl hb55 ?_
    refine cw_seq ?_
    refine cw_region ?_
    refine t_rd rfl (rd_assign rfl) ?_
    refine rwt_nil ?_
    refine qn_then ?_
    refine cw_ret ?_
    refine qr_then ?_
    obtain rfl := os q56
    exact ret1 rfl rfl ⟨rfl, (hm39.pick [] (by decide) rfl)⟩
  · refine cw_f rfl hb55 ?_
    refine cw_skip ?_
    refine qn_then ?_
    refine cw_seq ?_
    refine cw_seq ?_
    refine cw_region ?_
    refine t_rd rfl (rd_move rfl) ?_
    refine t_rd rfl (rd_lenS tS35 rfl (hm39.sl 0 rfl)) ?_
    refine t_rd rfl (rd_move rfl) ?_
    refine rwt_nil ?_
    refine qn_then ?_
    refine cw_block ?_
    obtain ⟨r167, hit168, q169⟩ := ob q56; clear q56
    refine cw_loop2 (I := fun q envq wq => Sub [(4, v11), (5, (Value.pointer (some ⟨g15, 0, none⟩))), (6, v23), (8, v30), (63, (Value.int .i64 (List.length r27.1 : Int))), (64, (Value.int .i64 q))] envq ∧ Mem w No [ownL 3 v30 (r27.1 : List Int), ownL 33 v23 (r20.1 : List T_Cut), blk g15 23 [(Value.int .i64 r8.2.2.Wagons), (Value.int .i64 r8.2.2.Axles), (Value.int .i64 r8.2.2.Length)], ownL 26 v11 (r8.2.1 : List T_Pushed)] wq) (X := fun eq envq wq => (∃ p170, r167 = (Sum.inl p170) ∧ eq = .ret ∧ retQ Try.prog 105 Try.f8 (fun u w' => u = (Value.bool p170) ∧ Mem w No [] w') .ret envq wq) ∨ (∃ p171, r167 = (Sum.inr p171) ∧ eq = .exit 0 ∧ Sub [] envq ∧ Mem w No [] wq)) hit168 ⟨(by repeat (first | exact Sub.nil _ | refine Sub.cons rfl ?_)), (hm39.pick [0, 1, 2, 3] (by decide) rfl)⟩ ?_ ?_
    · rintro i160 x162 env163 w164 hf165 hr166 ⟨hs_, hm_⟩
      have hs_ : Sub [(4, v11), (5, (Value.pointer (some ⟨g15, 0, none⟩))), (6, v23), (8, v30), (63, (Value.int .i64 (List.length r27.1 : Int))), (64, (Value.int .i64 i160))] env163 := hs_
      have hm172 : Mem w No [ownL 3 v30 (r27.1 : List Int), ownL 33 v23 (r20.1 : List T_Cut), blk g15 23 [(Value.int .i64 r8.2.2.Wagons), (Value.int .i64 r8.2.2.Axles), (Value.int .i64 r8.2.2.Length)], ownL 26 v11 (r8.2.1 : List T_Pushed)] w164 := hm_
      refine cw_sub hs_ ?_
      clear hs_ hm_ q169
      have h : law18_CutWitness_l1 N r8 r20 r27 i160 = some x162 := hf165
      clear hf165
      refine cw_seq ?_
      refine cw_region ?_
      refine t_rd rfl (rd_lss rfl rfl) ?_
      refine rwt_nil ?_
      refine qn_then ?_
      refine cw_seq ?_
      obtain ⟨hb173, q174⟩ | ⟨hb173, q174⟩ := oi h <;> clear h
      · refine cw_t rfl hb173 ?_
        refine cw_skip ?_
        refine qn_then ?_
        refine cw_seq ?_
        refine cw_block ?_
        refine cw_seq ?_
        refine cw_region ?_
        refine t_rd rfl (rd_move rfl) ?_
        refine t_rd rfl (rd_assign rfl) ?_
        refine rwt_nil ?_
        refine qn_then ?_
        refine cw_seq ?_
        refine cw_seq ?_
        obtain ⟨w176, he178⟩ : ∃ q, q = w164.drew := ⟨_, rfl⟩
        have hm177 := hm172.drew; rw [← he178] at hm177
        refine cw_region_s (fun q => q = w176) (cls [] []) mixed ?_
        rintro _ rfl; rw [← he178]
        refine s_rp (i := 0) rfl (by kernel_rfl) rfl (fun _ => (rd_move rfl)) ?_
        refine s_rp (i := 1) rfl (by kernel_rfl) rfl (fun _ => (rd_move rfl)) ?_
        obtain ⟨x179, h180, q181⟩ := ob q174; clear q174
        refine s_rp (i := 2) rfl (by kernel_rfl) rfl (fun _ => (rd_index tS35 rfl rfl (hm177.sl 0 rfl) h180)) ?_
        refine s_rd (i := 3) rfl (by kernel_rfl) rfl (fun _ hS => by rw [hS]; exact (rd_ld1 tO3 rfl ((hm177.sl 0 rfl).cells h180) (off := 0) rfl)) rfl ?_
        refine s_rp (i := 4) rfl (by kernel_rfl) rfl (fun _ => (rd_move rfl)) ?_
        refine s_rp (i := 5) rfl (by kernel_rfl) rfl (fun _ => (rd_move rfl)) ?_
        obtain ⟨x182, h183, q184⟩ := ob q181; clear q181
        refine s_rp (i := 6) rfl (by kernel_rfl) rfl (fun _ => (rd_index tS27 rfl rfl (hm177.sl 1 rfl) h183)) ?_
        refine s_rp (i := 7) rfl (by kernel_rfl) rfl (fun _ => (rd_fld tF33_0 rfl)) ?_
        refine s_rd (i := 8) rfl (by kernel_rfl) rfl (fun _ hS => by rw [hS]; exact (rd_ld1 tO3 rfl ((hm177.sl 1 rfl).cells h183) (off := 0) rfl)) rfl ?_
        refine s_rp (i := 9) rfl (by kernel_rfl) rfl (fun _ => (rd_neq rfl rfl)) ?_
        refine s_nil (by kernel_rfl) ?_
        refine qn_then ?_
        obtain ⟨hb185, q186⟩ | ⟨hb185, q186⟩ := oi q184 <;> clear q184
        · refine cw_t rfl hb185 ?_
          refine cw_seq ?_
          refine cw_region ?_
          refine t_rd rfl (rd_assign rfl) ?_
          refine rwt_nil ?_
          refine qn_then ?_
          refine cw_ret ?_
          refine qr_then (qr_block (qr_then (qr_then ?_)))
          obtain rfl := hr166 _ (os q186)
          refine .inl (⟨_, rfl, ⟨rfl, ?_⟩⟩)
          exact ret1 rfl rfl ⟨rfl, (hm177.pick [] (by decide) rfl)⟩
        · refine cw_f rfl hb185 ?_
          refine cw_skip ?_
          refine qn_then ?_
          refine cw_seq ?_
          refine cw_region ?_
          refine t_rd rfl (rd_move rfl) ?_
          obtain ⟨x187, h188, q189⟩ := ob q186; clear q186
          refine t_rd rfl (rd_add64 h188 rfl rfl) ?_
          refine t_rd rfl (rd_move rfl) ?_
          refine t_rd rfl (rd_lenS tS35 rfl (hm177.sl 0 rfl)) ?_
          refine t_rd rfl (rd_lss rfl rfl) ?_
          refine rwt_nil ?_
          refine qn_then ?_
          obtain ⟨hb190, q191⟩ | ⟨hb190, q191⟩ := oi q189 <;> clear q189
          · refine cw_t rfl hb190 ?_
            refine cw_seq ?_
            obtain ⟨w193, he195⟩ : ∃ q, q = w176.drew := ⟨_, rfl⟩
            have hm194 := hm177.drew; rw [← he195] at hm194
            refine cw_region_s (fun q => q = w193) (cls [] [12]) mixed ?_
            rintro _ rfl; rw [← he195]
            refine s_rp (i := 0) rfl (by kernel_rfl) rfl (fun _ => (rd_move rfl)) ?_
            refine s_rd (i := 1) rfl (by kernel_rfl) rfl (fun _ hS => by rw [hS]; exact (rd_ld tA23 rfl (hm194.blk 2 rfl) rfl)) rfl ?_
            refine s_rp (i := 2) rfl (by kernel_rfl) rfl (fun _ => (rd_move rfl)) ?_
            refine s_rp (i := 3) rfl (by kernel_rfl) rfl (fun _ => (rd_move rfl)) ?_
            obtain ⟨x196, h197, q198⟩ := ob q191; clear q191
            refine s_rp (i := 4) rfl (by kernel_rfl) rfl (fun _ => (rd_index tS35 rfl rfl (hm194.sl 0 rfl) h197)) ?_
            refine s_rd (i := 5) rfl (by kernel_rfl) rfl (fun _ hS => by rw [hS]; exact (rd_ld1 tO3 rfl ((hm194.sl 0 rfl).cells h197) (off := 0) rfl)) rfl ?_
            refine s_rp (i := 6) rfl (by kernel_rfl) rfl (fun _ => (rd_move rfl)) ?_
            refine s_rp (i := 7) rfl (by kernel_rfl) rfl (fun _ => (rd_move rfl)) ?_
            obtain ⟨x199, h200, q201⟩ := ob q198; clear q198
            refine s_rp (i := 8) rfl (by kernel_rfl) rfl (fun _ => (rd_add64 h200 rfl rfl)) ?_
            obtain ⟨x202, h203, q204⟩ := ob q201; clear q201
            refine s_rp (i := 9) rfl (by kernel_rfl) rfl (fun _ => (rd_index tS35 rfl rfl (hm194.sl 0 rfl) h203)) ?_
            refine s_rd (i := 10) rfl (by kernel_rfl) rfl (fun _ hS => by rw [hS]; exact (rd_ld1 tO3 rfl ((hm194.sl 0 rfl).cells h203) (off := 0) rfl)) rfl ?_
            obtain ⟨x205, h206, q207⟩ := ob q204; clear q204
            refine s_rp (i := 11) rfl (by kernel_rfl) rfl (fun _ => (rd_add64 h206 rfl rfl)) ?_
            obtain ⟨r208, h209, q210⟩ := ob q207; clear q207
            refine s_ef (i := 12) rfl (by kernel_rfl) rfl (ef_call tf16 rfl (cut_Permitted_ok h209 (hm194.sl_call 3 rfl))) (by decide) (fun _ _ _ q => absurd q (by decide)) ?_
            rintro _ w212 ⟨rfl, hm211⟩
            have hm213 := hm194.call hm211
            refine s_rp (i := 13) rfl (by kernel_rfl) rfl (fun _ => (rd_move rfl)) ?_
            refine s_rp (i := 14) rfl (by kernel_rfl) rfl (fun _ => (rd_extract rfl rfl)) ?_
            refine s_rp (i := 15) rfl (by kernel_rfl) rfl (fun _ => (rd_extract rfl rfl)) ?_
            refine s_rp (i := 16) rfl (by kernel_rfl) rfl (fun _ => (rd_assign rfl)) ?_
            refine s_rp (i := 17) rfl (by kernel_rfl) rfl (fun _ => (rd_assign rfl)) ?_
            refine s_nil (by kernel_rfl) ?_
            refine qn_then ?_
            refine cw_seq ?_
            refine cw_region ?_
            refine t_rd rfl (rd_move rfl) ?_
            refine t_rd rfl (rd_neq rfl rfl) ?_
            refine t_rd rfl (rd_move rfl) ?_
            refine t_rdg rfl rfl rfl rfl (gv_f _) (fun hg214 => (rd_move rfl)) ?_
            refine t_rd rfl (rd_or rfl (fun hc215 => (gvx rfl (bnotIt hc215)))) ?_
            refine rwt_nil ?_
            refine qn_then ?_
            obtain ⟨hb216, q217⟩ | ⟨hb216, q217⟩ := oi q210 <;> clear q210
            · refine cw_t rfl hb216 ?_
              refine cw_seq ?_
              refine cw_region ?_
              refine t_rd rfl (rd_assign rfl) ?_
              refine rwt_nil ?_
              refine qn_then ?_
              refine cw_ret ?_
              refine qr_block (qr_then (qr_then ?_))
              obtain rfl := hr166 _ (os q217)
              refine .inl (⟨_, rfl, ⟨rfl, ?_⟩⟩)
              exact ret1 rfl rfl ⟨rfl, (hm213.pick [] (by decide) rfl)⟩
            · refine cw_f rfl hb216 ?_
              refine cw_skip ?_
              refine qn_block (qn_then ?_)
              refine cw_region ?_
              obtain ⟨x218, h219, q220⟩ := ob q217; clear q217
              refine t_rd rfl (rd_add64 h219 rfl rfl) ?_
              refine t_rd rfl (rd_move rfl) ?_
              refine rwt_nil ?_
              refine qn_then ?_
              refine ⟨_, (os q220), (by repeat (first | exact Sub.nil _ | refine Sub.cons rfl ?_)), (hm213.pick [0, 1, 2, 3] (by decide) rfl)⟩
          · refine cw_f rfl hb190 ?_
            refine cw_skip ?_
            refine qn_block (qn_then ?_)
            refine cw_region ?_
            obtain ⟨x221, h222, q223⟩ := ob q191; clear q191
            refine t_rd rfl (rd_add64 h222 rfl rfl) ?_
            refine t_rd rfl (rd_move rfl) ?_
            refine rwt_nil ?_
            refine qn_then ?_
            refine ⟨_, (os q223), (by repeat (first | exact Sub.nil _ | refine Sub.cons rfl ?_)), (hm177.pick [0, 1, 2, 3] (by decide) rfl)⟩
      · refine cw_f rfl hb173 ?_
        refine cw_exit ?_
        refine qx_then (qx_then ?_)
        obtain rfl := hr166 _ (os q174)
        exact .inr (⟨_, rfl, ⟨rfl, (by repeat (first | exact Sub.nil _ | refine Sub.cons rfl ?_)), (hm172.pick [] (by decide) rfl)⟩⟩)
    · skip
      intro e env224 w225 hX226
      rcases hX226 with hX226 | hX226
      · obtain ⟨p228, rfl, hX226⟩ := hX226
        obtain ⟨rfl, hq230⟩ := hX226
        exact qr_block (qr_then ((by have e := os q169; subst e; exact hq230)))
      · obtain ⟨p231, rfl, hX226⟩ := hX226
        obtain ⟨rfl, hs232, hm233⟩ := hX226
        refine qx_same (qn_then ?_)
        refine cw_sub hs232 ?_
        refine cw_seq ?_
        refine cw_region ?_
        obtain ⟨r234, h235, q236⟩ := ob q169; clear q169
        refine t_ef rfl (ef_call tf10 rfl (law18_sane_ok h235)) ?_
        rintro _ w238 ⟨rfl, hm237⟩
        have hm239 := hm233.call hm237
        refine t_rd rfl (rd_assign rfl) ?_
        refine rwt_nil ?_
        refine qn_then ?_
        refine cw_ret ?_
        obtain rfl := os q236
        exact ret1 rfl rfl ⟨rfl, (hm239.pick [] (by decide) rfl)⟩

theorem law18_CutExact_ok {N : Nat} {a0 : List Int} {a1 : List T_Pushed} {a2 : T_CutRules} {a3 : List T_Cut} {a4 : Int} {a5 : Int} {res : Bool} (h : law18_CutExact N a0 a1 a2 a3 a4 a5 = some res) {w : World} {v0 : Value} {v1 : Value} {v3 : Value} (hv0 : Sl (Old w No) w v0 a0) (hv1 : Sl (Old w No) w v1 a1) (hv3 : Sl (Old w No) w v3 a3) :
    CallsR Try.prog 7 [v0, v1, (Value.agg (Flat.enc a2).toArray), v3, (Value.int .i64 a4), (Value.int .i64 a5)] w (fun u w' => u = (Value.bool res) ∧ Mem w No [] w') := by
  unfold law18_CutExact at h
  refine fn_ok Try.func7 rfl rfl rfl ?_
  have hm0 := Mem.nil w
  refine cw_seq ?_
  refine cw_region ?_
  refine t_ef rfl (ef_box hm0 rfl rfl) ?_
  rintro _ w3 ⟨g1, rfl, hm2⟩
  refine t_rd rfl (rd_assign rfl) ?_
  refine rwt_nil ?_
  refine qn_then ?_
  refine cw_seq ?_
  refine cw_region ?_
  refine t_rd rfl (rd_move rfl) ?_
  obtain ⟨r4, h5, q6⟩ := ob h; clear h
  refine t_ef rfl (ef_call tf11 rfl (humpgen_New_ok h5 (hv0.to_call hm2))) ?_
  rintro _ w9 ⟨g7, rfl, hm8⟩
  have hm10 := hm2.call hm8
  refine t_rd rfl (rd_assign rfl) ?_
  refine rwt_nil ?_
  refine qn_then ?_
  refine cw_seq ?_
  refine cw_seq ?_
  refine cw_region ?_
  refine t_rd rfl (rd_assign rfl) ?_
  refine rwt_nil ?_
  refine qn_then ?_
  refine cw_block ?_
  obtain ⟨r2163, hit2164, q2165⟩ := ob q6; clear q6
  refine cw_loop2 (I := fun q envq wq => Sub [(1, v1), (3, v3), (4, (Value.int .i64 a4)), (5, (Value.int .i64 a5)), (8, (Value.pointer (some ⟨g1, 0, none⟩))), (13, (Value.pointer (some ⟨g7, 0, none⟩))), (14, (Value.int .i64 q.1))] envq ∧ Mem w No [blk g7 56 [v0, (Value.int .i64 q.2)], blk g1 23 [(Value.int .i64 a2.Wagons), (Value.int .i64 a2.Axles), (Value.int .i64 a2.Length)]] wq) (X := fun eq envq wq => (∃ p2166, r2163 = (Sum.inl p2166) ∧ eq = .ret ∧ retQ Try.prog 211 Try.f7 (fun u w' => u = (Value.bool p2166) ∧ Mem w No [] w') .ret envq wq) ∨ (∃ p2167, r2163 = (Sum.inr p2167) ∧ eq = .exit 0 ∧ Sub [(1, v1), (3, v3), (4, (Value.int .i64 a4)), (5, (Value.int .i64 a5)), (8, (Value.pointer (some ⟨g1, 0, none⟩)))] envq ∧ Mem w No [blk g1 23 [(Value.int .i64 a2.Wagons), (Value.int .i64 a2.Axles), (Value.int .i64 a2.Length)]] wq)) hit2164 ⟨(by repeat (first | exact Sub.nil _ | refine Sub.cons rfl ?_)), (hm10.pick [0, 1] (by decide) rfl)⟩ ?_ ?_
  · rintro ⟨i2155, i2156⟩ x2158 env2159 w2160 hf2161 hr2162 ⟨hs_, hm_⟩
    have hs_ : Sub [(1, v1), (3, v3), (4, (Value.int .i64 a4)), (5, (Value.int .i64 a5)), (8, (Value.pointer (some ⟨g1, 0, none⟩))), (13, (Value.pointer (some ⟨g7, 0, none⟩))), (14, (Value.int .i64 i2155))] env2159 := hs_
    have hm2168 : Mem w No [blk g7 56 [v0, (Value.int .i64 i2156)], blk g1 23 [(Value.int .i64 a2.Wagons), (Value.int .i64 a2.Axles), (Value.int .i64 a2.Length)]] w2160 := hm_
    refine cw_sub hs_ ?_
    clear hs_ hm_ q2165
    have h : law18_CutExact_l1 N a0 i2155 i2156 = some x2158 := hf2161
    clear hf2161
    refine cw_seq ?_
    refine cw_seq ?_
    refine cw_region ?_
    refine t_rd rfl (rd_move rfl) ?_
    refine t_rd rfl (rd_lss rfl rfl) ?_
    refine rwt_nil ?_
    refine qn_then ?_
    obtain ⟨hb2169, q2170⟩ | ⟨hb2169, q2170⟩ := oi h <;> clear h
    · refine cw_t rfl hb2169 ?_
      refine cw_skip ?_
      refine qn_then ?_
      refine cw_seq ?_
      refine cw_block ?_
      refine cw_seq ?_
      refine cw_region ?_
      refine t_rd rfl (rd_move rfl) ?_
      obtain ⟨r2171, h2172, q2173⟩ := ob q2170; clear q2170
      refine t_ef rfl (ef_call tf12 rfl (Maker_Pushed_ok h2172 (hv0.to_callT (k := 0) hm2168 rfl) (hm2168.get (k := 0) rfl))) ?_
      rintro _ w2176 ⟨v2174, rfl, hm2175⟩
      have hm2177 := hm2168.callT (k := 0) rfl (fun _ h => h) hm2175 (fun _ => Iff.rfl)
      refine t_rd rfl (rd_move rfl) ?_
      refine t_rd rfl (rd_extract rfl rfl) ?_
      refine t_rd rfl (rd_extract rfl rfl) ?_
      refine t_ef rfl (ef_alloc hm2177 tZ23 rfl) ?_
      rintro _ w2180 ⟨g2178, rfl, hm2179⟩
      refine t_rd rfl (rd_assign rfl) ?_
      refine t_ef0 (ef_stw (k := 0) hm2179 tA23 rfl rfl (oc_cons rfl (oc_cons rfl (oc_cons rfl oc_nil))) rfl rfl rfl) ?_
      intro _ w2182 hm2181
      refine rwt_nil ?_
      refine qn_then ?_
      refine cw_seq ?_
      refine cw_region ?_
      refine t_rd rfl (rd_move rfl) ?_
      refine t_rd rfl (rd_ld tA23 rfl (hm2181.blk 0 rfl) rfl) ?_
      obtain ⟨r2183, h2184, q2185⟩ := ob q2173; clear q2173
      refine t_ef rfl (ef_call tf18 rfl (r18_Form_ok h2184 (hm2181.sl_call 1 rfl))) ?_
      rintro _ w2188 ⟨v2186, rfl, hm2187⟩
      have hm2189 := hm2181.call hm2187
      refine t_rd rfl (rd_move rfl) ?_
      refine t_rd rfl (rd_extract rfl rfl) ?_
      refine t_rd rfl (rd_extract rfl rfl) ?_
      refine t_rd rfl (rd_assign rfl) ?_
      refine t_rd rfl (rd_assign rfl) ?_
      refine rwt_nil ?_
      refine qn_then ?_
      refine cw_seq ?_
      refine cw_seq ?_
      refine cw_region ?_
      refine t_rd rfl (rd_move rfl) ?_
      refine t_rd rfl (rd_gtr rfl rfl) ?_
      refine t_rd rfl (rd_move rfl) ?_
      refine t_rdg rfl rfl rfl rfl (gv_t _) (fun hg2190 => (rd_move rfl)) ?_
      refine t_rdg rfl rfl rfl rfl (gv_t _) (fun hg2191 => (rd_lenS tS27 (gvx rfl hg2191) (hm2189.sl 0 rfl))) ?_
      refine t_rdg rfl rfl rfl rfl (gv_t _) (fun hg2192 => (rd_gtr (gvx rfl hg2192) rfl)) ?_
      refine t_rd rfl (rd_and rfl (fun hc2193 => (gvx rfl hc2193))) ?_
      refine rwt_nil ?_
      refine qn_then ?_
      obtain ⟨j2401, hit2402, q2403⟩ := ob q2185; clear q2185
      refine cw_join (X := fun eq envq wq => eq = .normal ∧ ∃ (v2400 : Value), Sub [(1, v1), (3, v3), (4, (Value.int .i64 a4)), (5, (Value.int .i64 a5)), (8, (Value.pointer (some ⟨g1, 0, none⟩))), (13, (Value.pointer (some ⟨g7, 0, none⟩))), (14, (Value.int .i64 i2155)), (15, v2174), (16, (Value.pointer (some ⟨g2178, 0, none⟩))), (17, v2400)] envq ∧ Mem w No [ownL 33 v2400 (j2401.2 : List T_Cut), blk g2178 23 [(Value.int .i64 r2171.2.2.Wagons), (Value.int .i64 r2171.2.2.Axles), (Value.int .i64 r2171.2.2.Length)], ownL 26 v2174 (r2171.2.1 : List T_Pushed), blk g7 56 [v0, (Value.int .i64 j2401.1)], blk g1 23 [(Value.int .i64 a2.Wagons), (Value.int .i64 a2.Axles), (Value.int .i64 a2.Length)]] wq) ?_ ?_
      · clear q2403
        obtain ⟨hb2404, q2405⟩ | ⟨hb2404, q2405⟩ := oi hit2402 <;> clear hit2402
        · refine cw_t rfl hb2404 ?_
          refine cw_seq ?_
          refine cw_region ?_
          refine t_rd rfl (rd_move rfl) ?_
          refine t_rd rfl (rd_move rfl) ?_
          refine t_rd rfl (rd_lenS tS27 rfl (hm2189.sl 0 rfl)) ?_
          obtain ⟨r2406, h2407, q2408⟩ := ob q2405; clear q2405
          refine t_ef rfl (ef_call tf13 rfl (Maker_Next_ok h2407 (hv0.to_callT (k := 3) hm2189 rfl) (hm2189.get (k := 3) rfl))) ?_
          rintro _ w2410 ⟨rfl, hm2409⟩
          have hm2411 := hm2189.callT (k := 3) rfl (fun _ h => h) hm2409 (fun _ => Iff.rfl)
          refine t_rd rfl (rd_assign rfl) ?_
          refine rwt_nil ?_
          refine qn_then ?_
          refine cw_seq ?_
          refine cw_region ?_
          refine t_rd rfl (rd_move rfl) ?_
          obtain ⟨r2412, h2413, q2414⟩ := ob q2408; clear q2408
          refine t_ef rfl (ef_call tf13 rfl (Maker_Next_ok h2413 (hv0.to_callT (k := 3) hm2411 rfl) (hm2411.get (k := 3) rfl))) ?_
          rintro _ w2416 ⟨rfl, hm2415⟩
          have hm2417 := hm2411.callT (k := 3) rfl (fun _ h => h) hm2415 (fun _ => Iff.rfl)
          refine rwt_nil ?_
          refine qn_then ?_
          refine cw_block ?_
          refine cw_seq ?_
          refine cw_region ?_
          refine t_rd rfl (rd_eql rfl rfl) ?_
          refine t_rd rfl (rd_assign rfl) ?_
          refine rwt_nil ?_
          refine qn_then ?_
          obtain ⟨hb2418, q2419⟩ | ⟨hb2418, q2419⟩ := oi q2414 <;> clear q2414
          · refine cw_t rfl hb2418 ?_
            obtain ⟨w2421, he2423⟩ : ∃ q, q = w2416.drew := ⟨_, rfl⟩
            have hm2422 := hm2417.drew; rw [← he2423] at hm2422
            refine cw_region_s (fun q => (ownL 33 v2186 (r2183.1 : List T_Cut)).φ q) (cls [6, 7] [11]) mixed ?_
            rintro _ rfl; rw [← he2423]
            refine s_rp (i := 0) rfl (by kernel_rfl) rfl (fun _ => (rd_move rfl)) ?_
            refine s_rp (i := 1) rfl (by kernel_rfl) rfl (fun _ => (rd_move rfl)) ?_
            obtain ⟨x2444, h2445, q2446⟩ := ob q2419; clear q2419
            refine s_rp (i := 2) rfl (by kernel_rfl) rfl (fun _ => (rd_index tS27 rfl rfl (hm2422.sl 0 rfl) h2445)) ?_
            refine s_rp (i := 3) rfl (by kernel_rfl) rfl (fun _ => (rd_fld tF33_1 rfl)) ?_
            refine s_rd (i := 4) rfl (by kernel_rfl) rfl (fun w2420 hS => (rd_ld1 tO3 rfl ((sl_of_own hS).cells h2445) (off := 1) rfl)) (hm2422.get (k := 0) rfl) ?_
            refine s_rp (i := 5) rfl (by kernel_rfl) rfl (fun _ => (rd_move rfl)) ?_
            refine s_ef (i := 6) rfl (by kernel_rfl) rfl (ef_bslice (l := ([(-1), 1] : List Int)) hm2422 tS35 rfl (cs := #[(Value.int .i64 (-1)), (Value.int .i64 1)]) (by unfold bsl; kernel_rfl) rfl rfl) (by decide) ?_ ?_
            · intro v2447 w2449 hm2448
              intro _
              exact (hm2448.get (k := 1) rfl)
            intro v2447 w2449 hm2448
            obtain ⟨r2450, h2451, q2452⟩ := ob q2446; clear q2446
            refine s_ef (i := 7) rfl (by kernel_rfl) rfl (ef_call tf19 rfl (Maker_Pick_ok h2451 (hv0.to_callT (k := 4) hm2448 rfl) (hm2448.get (k := 4) rfl) (hm2448.sl_callT 0 4 rfl rfl (by decide)))) (by decide) ?_ ?_
            · rintro _ w2454 ⟨rfl, hm2453⟩
              have hm2455 := hm2448.callT (k := 4) rfl (fun _ h => h) hm2453 (fun _ => Iff.rfl)
              intro _
              exact (hm2455.get (k := 1) rfl)
            rintro _ w2454 ⟨rfl, hm2453⟩
            have hm2455 := hm2448.callT (k := 4) rfl (fun _ h => h) hm2453 (fun _ => Iff.rfl)
            obtain ⟨x2456, h2457, q2458⟩ := ob q2452; clear q2452
            refine s_rp (i := 8) rfl (by kernel_rfl) rfl (fun _ => (rd_add64 h2457 rfl rfl)) ?_
            obtain ⟨x2459, h2460, q2461⟩ := ob q2458; clear q2458
            refine s_rp (i := 9) rfl (by kernel_rfl) rfl (fun _ => (rd_index tS27 rfl rfl (hm2455.sl 1 rfl) h2460)) ?_
            refine s_rp (i := 10) rfl (by kernel_rfl) rfl (fun _ => (rd_fld tF33_1 rfl)) ?_
            refine s_ef0 (i := 11) rfl (by kernel_rfl) (ef_stl (k := 1) (off := 1) (x' := (T_Cut.mk x2459.From x2456 x2459.Track x2459.Engine)) hm2455 tO3 rfl rfl rfl rfl h2460 rfl rfl) (by decide) (fun _ _ _ q => absurd q (by decide)) ?_
            intro _ w2463 hm2462
            refine s_nil (by kernel_rfl) ?_
            refine qn_block ?_
            obtain rfl := os q2461
            exact ⟨rfl, v2186, (by repeat (first | exact Sub.nil _ | refine Sub.cons rfl ?_)), (hm2462.pick [1, 2, 3, 4, 5] (by decide) rfl)⟩
          · refine cw_f rfl hb2418 ?_
            refine cw_seq ?_
            refine cw_region ?_
            refine t_rd rfl (rd_eql rfl rfl) ?_
            refine t_rd rfl (rd_assign rfl) ?_
            refine rwt_nil ?_
            refine qn_then ?_
            obtain ⟨hb2464, q2465⟩ | ⟨hb2464, q2465⟩ := oi q2419 <;> clear q2419
            · refine cw_t rfl hb2464 ?_
              obtain ⟨w2467, he2469⟩ : ∃ q, q = w2416.drew := ⟨_, rfl⟩
              have hm2468 := hm2417.drew; rw [← he2469] at hm2468
              refine cw_region_s (fun q => (ownL 33 v2186 (r2183.1 : List T_Cut)).φ q) (cls [6, 7] [11]) mixed ?_
              rintro _ rfl; rw [← he2469]
              refine s_rp (i := 0) rfl (by kernel_rfl) rfl (fun _ => (rd_move rfl)) ?_
              refine s_rp (i := 1) rfl (by kernel_rfl) rfl (fun _ => (rd_move rfl)) ?_
              obtain ⟨x2490, h2491, q2492⟩ := ob q2465; clear q2465
              refine s_rp (i := 2) rfl (by kernel_rfl) rfl (fun _ => (rd_index tS27 rfl rfl (hm2468.sl 0 rfl) h2491)) ?_
              refine s_rp (i := 3) rfl (by kernel_rfl) rfl (fun _ => (rd_fld tF33_0 rfl)) ?_
              refine s_rd (i := 4) rfl (by kernel_rfl) rfl (fun w2466 hS => (rd_ld1 tO3 rfl ((sl_of_own hS).cells h2491) (off := 0) rfl)) (hm2468.get (k := 0) rfl) ?_
              refine s_rp (i := 5) rfl (by kernel_rfl) rfl (fun _ => (rd_move rfl)) ?_
              refine s_ef (i := 6) rfl (by kernel_rfl) rfl (ef_bslice (l := ([(-1), 1] : List Int)) hm2468 tS35 rfl (cs := #[(Value.int .i64 (-1)), (Value.int .i64 1)]) (by unfold bsl; kernel_rfl) rfl rfl) (by decide) ?_ ?_
              · intro v2493 w2495 hm2494
                intro _
                exact (hm2494.get (k := 1) rfl)
              intro v2493 w2495 hm2494
              obtain ⟨r2496, h2497, q2498⟩ := ob q2492; clear q2492
              refine s_ef (i := 7) rfl (by kernel_rfl) rfl (ef_call tf19 rfl (Maker_Pick_ok h2497 (hv0.to_callT (k := 4) hm2494 rfl) (hm2494.get (k := 4) rfl) (hm2494.sl_callT 0 4 rfl rfl (by decide)))) (by decide) ?_ ?_
              · rintro _ w2500 ⟨rfl, hm2499⟩
                have hm2501 := hm2494.callT (k := 4) rfl (fun _ h => h) hm2499 (fun _ => Iff.rfl)
                intro _
                exact (hm2501.get (k := 1) rfl)
              rintro _ w2500 ⟨rfl, hm2499⟩
              have hm2501 := hm2494.callT (k := 4) rfl (fun _ h => h) hm2499 (fun _ => Iff.rfl)
              obtain ⟨x2502, h2503, q2504⟩ := ob q2498; clear q2498
              refine s_rp (i := 8) rfl (by kernel_rfl) rfl (fun _ => (rd_add64 h2503 rfl rfl)) ?_
              obtain ⟨x2505, h2506, q2507⟩ := ob q2504; clear q2504
              refine s_rp (i := 9) rfl (by kernel_rfl) rfl (fun _ => (rd_index tS27 rfl rfl (hm2501.sl 1 rfl) h2506)) ?_
              refine s_rp (i := 10) rfl (by kernel_rfl) rfl (fun _ => (rd_fld tF33_0 rfl)) ?_
              refine s_ef0 (i := 11) rfl (by kernel_rfl) (ef_stl (k := 1) (off := 0) (x' := (T_Cut.mk x2502 x2505.To x2505.Track x2505.Engine)) hm2501 tO3 rfl rfl rfl rfl h2506 rfl rfl) (by decide) (fun _ _ _ q => absurd q (by decide)) ?_
              intro _ w2509 hm2508
              refine s_nil (by kernel_rfl) ?_
              refine qn_block ?_
              obtain rfl := os q2507
              exact ⟨rfl, v2186, (by repeat (first | exact Sub.nil _ | refine Sub.cons rfl ?_)), (hm2508.pick [1, 2, 3, 4, 5] (by decide) rfl)⟩
            · refine cw_f rfl hb2464 ?_
              refine cw_seq ?_
              refine cw_region ?_
              refine t_rd rfl (rd_eql rfl rfl) ?_
              refine t_rd rfl (rd_assign rfl) ?_
              refine rwt_nil ?_
              refine qn_then ?_
              obtain ⟨hb2510, q2511⟩ | ⟨hb2510, q2511⟩ := oi q2465 <;> clear q2465
              · refine cw_t rfl hb2510 ?_
                refine cw_region ?_
                refine t_rd rfl (rd_move rfl) ?_
                refine t_rd rfl (rd_move rfl) ?_
                obtain ⟨x2512, h2513, q2514⟩ := ob q2511; clear q2511
                refine t_rd rfl (rd_index tS27 rfl rfl (hm2417.sl 0 rfl) h2513) ?_
                refine t_rd rfl (rd_fld tF33_2 rfl) ?_
                refine t_rd rfl (rd_ld1 tO3 rfl ((hm2417.sl 0 rfl).cells h2513) (off := 2) rfl) ?_
                obtain ⟨x2515, h2516, q2517⟩ := ob q2514; clear q2514
                refine t_rd rfl (rd_add64 h2516 rfl rfl) ?_
                obtain ⟨x2518, h2519, q2520⟩ := ob q2517; clear q2517
                refine t_rd rfl (rd_index tS27 rfl rfl (hm2417.sl 0 rfl) h2519) ?_
                refine t_rd rfl (rd_fld tF33_2 rfl) ?_
                refine t_ef0 (ef_stl (k := 0) (off := 2) (x' := (T_Cut.mk x2518.From x2518.To x2515 x2518.Engine)) hm2417 tO3 rfl rfl rfl rfl h2519 rfl rfl) ?_
                intro _ w2522 hm2521
                refine rwt_nil ?_
                refine qn_block ?_
                obtain rfl := os q2520
                exact ⟨rfl, v2186, (by repeat (first | exact Sub.nil _ | refine Sub.cons rfl ?_)), (hm2521.pick [0, 1, 2, 3, 4] (by decide) rfl)⟩
              · refine cw_f rfl hb2510 ?_
                refine cw_seq ?_
                refine cw_region ?_
                refine t_rd rfl (rd_eql rfl rfl) ?_
                refine t_rd rfl (rd_assign rfl) ?_
                refine rwt_nil ?_
                refine qn_then ?_
                obtain ⟨hb2523, q2524⟩ | ⟨hb2523, q2524⟩ := oi q2511 <;> clear q2511
                · refine cw_t rfl hb2523 ?_
                  refine cw_region ?_
                  refine t_rd rfl (rd_move rfl) ?_
                  refine t_rd rfl (rd_move rfl) ?_
                  refine t_rd rfl (rd_move rfl) ?_
                  refine t_rd rfl (rd_move rfl) ?_
                  obtain ⟨x2525, h2526, q2527⟩ := ob q2524; clear q2524
                  refine t_rd rfl (rd_index tS27 rfl rfl (hm2417.sl 0 rfl) h2526) ?_
                  refine t_rd rfl (rd_fld tF33_3 rfl) ?_
                  refine t_rd rfl (rd_ld1 tO4 rfl ((hm2417.sl 0 rfl).cells h2526) (off := 3) rfl) ?_
                  refine t_rd rfl (rd_not rfl) ?_
                  obtain ⟨x2528, h2529, q2530⟩ := ob q2527; clear q2527
                  refine t_rd rfl (rd_index tS27 rfl rfl (hm2417.sl 0 rfl) h2529) ?_
                  refine t_rd rfl (rd_fld tF33_3 rfl) ?_
                  refine t_ef0 (ef_stl (k := 0) (off := 3) (x' := (T_Cut.mk x2528.From x2528.To x2528.Track (!x2525.Engine))) hm2417 tO4 rfl rfl rfl rfl h2529 rfl rfl) ?_
                  intro _ w2532 hm2531
                  refine rwt_nil ?_
                  refine qn_block ?_
                  obtain rfl := os q2530
                  exact ⟨rfl, v2186, (by repeat (first | exact Sub.nil _ | refine Sub.cons rfl ?_)), (hm2531.pick [0, 1, 2, 3, 4] (by decide) rfl)⟩
                · refine cw_f rfl hb2523 ?_
                  refine cw_seq ?_
                  refine cw_region ?_
                  refine t_rd rfl (rd_eql rfl rfl) ?_
                  refine t_rd rfl (rd_assign rfl) ?_
                  refine rwt_nil ?_
                  refine qn_then ?_
                  obtain ⟨hb2533, q2534⟩ | ⟨hb2533, q2534⟩ := oi q2524 <;> clear q2524
                  · refine cw_t rfl hb2533 ?_
                    obtain ⟨w2536, he2538⟩ : ∃ q, q = w2416.drew := ⟨_, rfl⟩
                    have hm2537 := hm2417.drew; rw [← he2538] at hm2537
                    refine cw_region_s (fun q => q = w2536) (cls [] [7]) mixed ?_
                    rintro _ rfl; rw [← he2538]
                    refine s_rp (i := 0) rfl (by kernel_rfl) rfl (fun _ => (rd_move rfl)) ?_
                    refine s_rp (i := 1) rfl (by kernel_rfl) rfl (fun _ => (rd_move rfl)) ?_
                    obtain ⟨l2539, h2540, q2541⟩ := ob q2534; clear q2534
                    refine s_rp (i := 2) rfl (by kernel_rfl) rfl (fun _ => (rd_slcH tS27 rfl rfl (hm2537.sl 0 rfl) h2540)) ?_
                    refine s_rp (i := 3) rfl (by kernel_rfl) rfl (fun _ => (rd_move rfl)) ?_
                    refine s_rp (i := 4) rfl (by kernel_rfl) rfl (fun _ => (rd_move rfl)) ?_
                    obtain ⟨x2542, h2543, q2544⟩ := ob q2541; clear q2541
                    refine s_rp (i := 5) rfl (by kernel_rfl) rfl (fun _ => (rd_add64 h2543 rfl rfl)) ?_
                    obtain ⟨l2545, h2546, q2547⟩ := ob q2544; clear q2544
                    refine s_rp (i := 6) rfl (by kernel_rfl) rfl (fun _ => (rd_slcL tS27 rfl rfl (hm2537.sl 0 rfl) h2546)) ?_
                    have hm2548 := hm2537.cut (k := 0) rfl h2540
                    obtain ⟨l2549, h2550, q2551⟩ := ob q2547; clear q2547
                    refine s_ef (i := 7) rfl (by kernel_rfl) rfl (ef_append (k := 0) hm2548 tS27 tE33 rfl rfl rfl rfl ((hm2537.sl 0 rfl).sub h2546) h2550) (by decide) (fun _ _ _ q => absurd q (by decide)) ?_
                    intro v2552 w2554 hm2553
                    refine s_rp (i := 8) rfl (by kernel_rfl) rfl (fun _ => (rd_assign rfl)) ?_
                    refine s_nil (by kernel_rfl) ?_
                    refine qn_block ?_
                    obtain rfl := os q2551
                    exact ⟨rfl, v2552, (by repeat (first | exact Sub.nil _ | refine Sub.cons rfl ?_)), (hm2553.pick [0, 1, 2, 3, 4] (by decide) rfl)⟩
                  · refine cw_f rfl hb2533 ?_
                    refine cw_seq ?_
                    refine cw_region ?_
                    refine t_rd rfl (rd_move rfl) ?_
                    refine t_rd rfl (rd_move rfl) ?_
                    obtain ⟨x2555, h2556, q2557⟩ := ob q2534; clear q2534
                    refine t_rd rfl (rd_index tS27 rfl rfl (hm2417.sl 0 rfl) h2556) ?_
                    refine t_rd rfl (rd_ld tA33 rfl ((hm2417.sl 0 rfl).cells h2556) rfl) ?_
                    refine t_ef rfl (ef_alloc hm2417 tZ33 rfl) ?_
                    rintro _ w2560 ⟨g2558, rfl, hm2559⟩
                    refine t_ef0 (ef_stw (k := 0) hm2559 tA33 rfl rfl (oc_cons rfl (oc_cons rfl (oc_cons rfl (oc_cons rfl oc_nil)))) rfl rfl rfl) ?_
                    intro _ w2562 hm2561
                    refine rwt_nil ?_
                    refine qn_then ?_
                    refine cw_seq ?_
                    refine cw_region ?_
                    refine t_rd rfl (rd_move rfl) ?_
                    refine t_rd rfl (rd_move rfl) ?_
                    refine t_rd rfl (rd_fld tF33_0 rfl) ?_
                    refine t_rd rfl (rd_ld1 tO3 rfl (hm2561.blk 0 rfl) (off := 0) rfl) ?_
                    obtain ⟨x2563, h2564, q2565⟩ := ob q2557; clear q2557
                    refine t_rd rfl (rd_add64 h2564 rfl rfl) ?_
                    obtain ⟨x2566, h2567, q2568⟩ := ob q2565; clear q2565
                    refine t_rd rfl (rd_index tS27 rfl rfl (hm2561.sl 1 rfl) h2567) ?_
                    refine t_rd rfl (rd_fld tF33_1 rfl) ?_
                    refine t_ef0 (ef_stl (k := 1) (off := 1) (x' := (T_Cut.mk x2566.From x2563 x2566.Track x2566.Engine)) hm2561 tO3 rfl rfl rfl rfl h2567 rfl rfl) ?_
                    intro _ w2570 hm2569
                    refine rwt_nil ?_
                    refine qn_then ?_
                    refine cw_seq ?_
                    refine cw_region ?_
                    refine t_rd rfl (rd_fld tF33_0 rfl) ?_
                    refine t_rd rfl (rd_ld1 tO3 rfl (hm2569.blk 0 rfl) (off := 0) rfl) ?_
                    obtain ⟨x2571, h2572, q2573⟩ := ob q2568; clear q2568
                    refine t_rd rfl (rd_add64 h2572 rfl rfl) ?_
                    refine t_rd rfl (rd_fld tF33_0 rfl) ?_
                    refine t_ef0 (ef_st1 (k := 0) (off := 0) hm2569 tO3 rfl rfl rfl rfl rfl rfl) ?_
                    intro _ w2575 hm2574
                    refine rwt_nil ?_
                    refine qn_then ?_
                    obtain ⟨w2577, he2579⟩ : ∃ q, q = w2575.drew := ⟨_, rfl⟩
                    have hm2578 := hm2574.drew; rw [← he2579] at hm2578
                    refine cw_region_s (fun q => q = w2577) (cls [] [5, 10, 11]) mixed ?_
                    rintro _ rfl; rw [← he2579]
                    refine s_rp (i := 0) rfl (by kernel_rfl) rfl (fun _ => (rd_move rfl)) ?_
                    refine s_rp (i := 1) rfl (by kernel_rfl) rfl (fun _ => (rd_move rfl)) ?_
                    obtain ⟨x2580, h2581, q2582⟩ := ob q2573; clear q2573
                    refine s_rp (i := 2) rfl (by kernel_rfl) rfl (fun _ => (rd_add64 h2581 rfl rfl)) ?_
                    obtain ⟨l2583, h2584, q2585⟩ := ob q2582; clear q2582
                    refine s_rp (i := 3) rfl (by kernel_rfl) rfl (fun _ => (rd_slcH tS27 rfl rfl (hm2578.sl 1 rfl) h2584)) ?_
                    refine s_rd (i := 4) rfl (by kernel_rfl) rfl (fun _ hS => by rw [hS]; exact (rd_ld tA33 rfl (hm2578.blk 0 rfl) rfl)) rfl ?_
                    refine s_rp (i := 6) rfl (by kernel_rfl) rfl (fun _ => (rd_move rfl)) ?_
                    refine s_rp (i := 7) rfl (by kernel_rfl) rfl (fun _ => (rd_move rfl)) ?_
                    obtain ⟨x2586, h2587, q2588⟩ := ob q2585; clear q2585
                    refine s_rp (i := 8) rfl (by kernel_rfl) rfl (fun _ => (rd_add64 h2587 rfl rfl)) ?_
                    obtain ⟨l2589, h2590, q2591⟩ := ob q2588; clear q2588
                    refine s_rp (i := 9) rfl (by kernel_rfl) rfl (fun _ => (rd_slcL tS27 rfl rfl (hm2578.sl 1 rfl) h2590)) ?_
                    refine s_ef (i := 5) rfl (by kernel_rfl) rfl (ef_bslice (l := ([(T_Cut.mk x2571 x2555.To x2555.Track x2555.Engine)] : List T_Cut)) hm2578 tS27 rfl (cs := #[(Value.int .i64 x2571), (Value.int .i64 x2555.To), (Value.int .i64 x2555.Track), (Value.bool x2555.Engine)]) (by unfold bsl; kernel_rfl) rfl rfl) (by decide) (fun _ _ _ q => absurd q (by decide)) ?_
                    intro v2592 w2594 hm2593
                    obtain ⟨l2595, h2596, q2597⟩ := ob q2591; clear q2591
                    refine s_ef (i := 10) rfl (by kernel_rfl) rfl (ef_append (k := 0) hm2593 tS27 tE33 rfl rfl rfl rfl ((hm2593.sl 2 rfl).sub h2590) h2596) (by decide) (fun _ _ _ q => absurd q (by decide)) ?_
                    intro v2598 w2600 hm2599
                    have hm2601 := hm2599.cut (k := 2) rfl h2584
                    obtain ⟨l2602, h2603, q2604⟩ := ob q2597; clear q2597
                    refine s_ef (i := 11) rfl (by kernel_rfl) rfl (ef_append (k := 2) hm2601 tS27 tE33 rfl rfl rfl rfl (hm2599.sl 0 rfl) h2603) (by decide) (fun _ _ _ q => absurd q (by decide)) ?_
                    intro v2605 w2607 hm2606
                    refine s_rp (i := 12) rfl (by kernel_rfl) rfl (fun _ => (rd_assign rfl)) ?_
                    refine s_nil (by kernel_rfl) ?_
                    refine qn_block ?_
                    obtain rfl := os q2604
                    exact ⟨rfl, v2605, (by repeat (first | exact Sub.nil _ | refine Sub.cons rfl ?_)), (hm2606.pick [2, 3, 4, 5, 6] (by decide) rfl)⟩
        · refine cw_f rfl hb2404 ?_
          refine cw_skip ?_
          obtain rfl := os q2405
          exact ⟨rfl, v2186, (by repeat (first | exact Sub.nil _ | refine Sub.cons rfl ?_)), (hm2189.pick [0, 1, 2, 3, 4] (by decide) rfl)⟩
      · clear hit2402
        intro e env2608 w2609 hX2610
        obtain ⟨rfl, v2400, hs2611, hm2612⟩ := hX2610
        refine qn_then ?_
        refine cw_sub hs2611 ?_
        refine cw_seq ?_
        refine cw_seq ?_
        refine cw_region ?_
        refine t_rd rfl (rd_move rfl) ?_
        refine t_rd rfl (rd_eql rfl rfl) ?_
        refine t_rd rfl (rd_move rfl) ?_
        refine t_rdg rfl rfl rfl rfl (gv_t _) (fun hg2613 => (rd_move rfl)) ?_
        refine t_rdg rfl rfl rfl rfl (gv_t _) (fun hg2614 => (rd_lenS tS24 (gvx rfl hg2614) (hm2612.sl 2 rfl))) ?_
        refine t_rdg rfl rfl rfl rfl (gv_t _) (fun hg2615 => (rd_gtr (gvx rfl hg2615) rfl)) ?_
        refine t_rd rfl (rd_and rfl (fun hc2616 => (gvx rfl hc2616))) ?_
        refine rwt_nil ?_
        refine qn_then ?_
        obtain ⟨j2901, hit2902, q2903⟩ := ob q2403; clear q2403
        refine cw_join (X := fun eq envq wq => eq = .normal ∧ ∃ (v2899 : Value), Sub [(1, v1), (3, v3), (4, (Value.int .i64 a4)), (5, (Value.int .i64 a5)), (8, (Value.pointer (some ⟨g1, 0, none⟩))), (13, (Value.pointer (some ⟨g7, 0, none⟩))), (14, (Value.int .i64 i2155)), (15, v2899), (16, (Value.pointer (some ⟨g2178, 0, none⟩))), (17, v2400)] envq ∧ Mem w No [ownL 33 v2400 (j2401.2 : List T_Cut), blk g2178 23 [(Value.int .i64 r2171.2.2.Wagons), (Value.int .i64 j2901.2.2), (Value.int .i64 r2171.2.2.Length)], ownL 26 v2899 (j2901.2.1 : List T_Pushed), blk g7 56 [v0, (Value.int .i64 j2901.1)], blk g1 23 [(Value.int .i64 a2.Wagons), (Value.int .i64 a2.Axles), (Value.int .i64 a2.Length)]] wq) ?_ ?_
        · clear q2903
          obtain ⟨hb2904, q2905⟩ | ⟨hb2904, q2905⟩ := oi hit2902 <;> clear hit2902
          · refine cw_t rfl hb2904 ?_
            refine cw_seq ?_
            refine cw_region ?_
            refine t_rd rfl (rd_move rfl) ?_
            refine t_rd rfl (rd_move rfl) ?_
            refine t_rd rfl (rd_lenS tS24 rfl (hm2612.sl 2 rfl)) ?_
            obtain ⟨r2906, h2907, q2908⟩ := ob q2905; clear q2905
            refine t_ef rfl (ef_call tf13 rfl (Maker_Next_ok h2907 (hv0.to_callT (k := 3) hm2612 rfl) (hm2612.get (k := 3) rfl))) ?_
            rintro _ w2910 ⟨rfl, hm2909⟩
            have hm2911 := hm2612.callT (k := 3) rfl (fun _ h => h) hm2909 (fun _ => Iff.rfl)
            refine t_rd rfl (rd_assign rfl) ?_
            refine rwt_nil ?_
            refine qn_then ?_
            refine cw_seq ?_
            obtain ⟨j3040, hit3041, q3042⟩ := ob q2908; clear q2908
            refine cw_join (X := fun eq envq wq => eq = .normal ∧ ∃ (v3039 : Value), Sub [(1, v1), (3, v3), (4, (Value.int .i64 a4)), (5, (Value.int .i64 a5)), (8, (Value.pointer (some ⟨g1, 0, none⟩))), (13, (Value.pointer (some ⟨g7, 0, none⟩))), (14, (Value.int .i64 i2155)), (15, v3039), (16, (Value.pointer (some ⟨g2178, 0, none⟩))), (17, v2400)] envq ∧ Mem w No [ownL 33 v2400 (j2401.2 : List T_Cut), blk g2178 23 [(Value.int .i64 r2171.2.2.Wagons), (Value.int .i64 r2171.2.2.Axles), (Value.int .i64 r2171.2.2.Length)], ownL 26 v3039 (j3040.2 : List T_Pushed), blk g7 56 [v0, (Value.int .i64 j3040.1)], blk g1 23 [(Value.int .i64 a2.Wagons), (Value.int .i64 a2.Axles), (Value.int .i64 a2.Length)]] wq) ?_ ?_
            · clear q3042
              obtain ⟨w3044, he3046⟩ : ∃ q, q = w2910.drew := ⟨_, rfl⟩
              have hm3045 := hm2911.drew; rw [← he3046] at hm3045
              refine cw_region_s (fun q => (ownL 26 v2174 (r2171.2.1 : List T_Pushed)).φ q) (cls [10, 11, 18] [19, 22, 25]) mixed ?_
              rintro _ rfl; rw [← he3046]
              refine s_rp (i := 0) rfl (by kernel_rfl) rfl (fun _ => (rd_move rfl)) ?_
              refine s_rp (i := 1) rfl (by kernel_rfl) rfl (fun _ => (rd_move rfl)) ?_
              refine s_rp (i := 2) rfl (by kernel_rfl) rfl (fun _ => (rd_move rfl)) ?_
              refine s_rp (i := 3) rfl (by kernel_rfl) rfl (fun _ => (rd_move rfl)) ?_
              refine s_rp (i := 4) rfl (by kernel_rfl) rfl (fun _ => (rd_move rfl)) ?_
              refine s_rp (i := 5) rfl (by kernel_rfl) rfl (fun _ => (rd_move rfl)) ?_
              refine s_rp (i := 6) rfl (by kernel_rfl) rfl (fun _ => (rd_move rfl)) ?_
              obtain ⟨x3081, h3082, q3083⟩ := ob hit3041; clear hit3041
              refine s_rp (i := 7) rfl (by kernel_rfl) rfl (fun _ => (rd_index tS24 rfl rfl (hm3045.sl 2 rfl) h3082)) ?_
              refine s_rp (i := 8) rfl (by kernel_rfl) rfl (fun _ => (rd_fld tF26_1 rfl)) ?_
              refine s_rd (i := 9) rfl (by kernel_rfl) rfl (fun w3043 hS => (rd_ld1 tO3 rfl ((sl_of_own hS).cells h3082) (off := 1) rfl)) (hm3045.get (k := 2) rfl) ?_
              refine s_rp (i := 12) rfl (by kernel_rfl) rfl (fun _ => (rd_move rfl)) ?_
              refine s_rp (i := 13) rfl (by kernel_rfl) rfl (fun _ => (rd_move rfl)) ?_
              refine s_rp (i := 14) rfl (by kernel_rfl) rfl (fun _ => (rd_move rfl)) ?_
              obtain ⟨x3084, h3085, q3086⟩ := ob q3083; clear q3083
              refine s_rp (i := 15) rfl (by kernel_rfl) rfl (fun _ => (rd_index tS24 rfl rfl (hm3045.sl 2 rfl) h3085)) ?_
              refine s_rp (i := 16) rfl (by kernel_rfl) rfl (fun _ => (rd_fld tF26_0 rfl)) ?_
              refine s_rd (i := 17) rfl (by kernel_rfl) rfl (fun w3043 hS => (rd_ld1 tO3 rfl ((sl_of_own hS).cells h3085) (off := 0) rfl)) (hm3045.get (k := 2) rfl) ?_
              refine s_br2 (i := 10) (j := 18) (by kernel_rfl) ?_ ?_
              · skip
                refine e_ef (i := 10) rfl rfl (ef_bslice (l := ([x3081.Axles, 0, 9] : List Int)) hm3045 tS35 rfl (cs := #[(Value.int .i64 x3081.Axles), (Value.int .i64 0), (Value.int .i64 9)]) (by unfold bsl; kernel_rfl) rfl rfl) (by decide) ?_ ?_
                · intro v3087 w3089 hm3088
                  intro _
                  exact (hm3088.get (k := 3) rfl)
                intro v3087 w3089 hm3088
                refine s_br2 (i := 11) (j := 18) (by kernel_rfl) ?_ ?_
                · skip
                  obtain ⟨r3090, h3091, q3092⟩ := ob q3086; clear q3086
                  refine e_ef (i := 11) rfl rfl (ef_call tf19 rfl (Maker_Pick_ok h3091 (hv0.to_callT (k := 4) hm3088 rfl) (hm3088.get (k := 4) rfl) (hm3088.sl_callT 0 4 rfl rfl (by decide)))) (by decide) ?_ ?_
                  · rintro _ w3094 ⟨rfl, hm3093⟩
                    have hm3095 := hm3088.callT (k := 4) rfl (fun _ h => h) hm3093 (fun _ => Iff.rfl)
                    intro _
                    exact (hm3095.get (k := 3) rfl)
                  rintro _ w3094 ⟨rfl, hm3093⟩
                  have hm3095 := hm3088.callT (k := 4) rfl (fun _ h => h) hm3093 (fun _ => Iff.rfl)
                  refine s_ef (i := 18) rfl (by kernel_rfl) rfl (ef_bslice (l := ([x3084.Length, 0, 401] : List Int)) hm3095 tS35 rfl (cs := #[(Value.int .i64 x3084.Length), (Value.int .i64 0), (Value.int .i64 401)]) (by unfold bsl; kernel_rfl) rfl rfl) (by decide) ?_ ?_
                  · intro v3096 w3098 hm3097
                    intro _
                    exact (hm3097.get (k := 4) rfl)
                  intro v3096 w3098 hm3097
                  obtain ⟨r3099, h3100, q3101⟩ := ob q3092; clear q3092
                  refine s_ef (i := 19) rfl (by kernel_rfl) rfl (ef_call tf19 rfl (Maker_Pick_ok h3100 (hv0.to_callT (k := 5) hm3097 rfl) (hm3097.get (k := 5) rfl) (hm3097.sl_callT 0 5 rfl rfl (by decide)))) (by decide) (fun _ _ _ q => absurd q (by decide)) ?_
                  rintro _ w3103 ⟨rfl, hm3102⟩
                  have hm3104 := hm3097.callT (k := 5) rfl (fun _ h => h) hm3102 (fun _ => Iff.rfl)
                  obtain ⟨x3105, h3106, q3107⟩ := ob q3101; clear q3101
                  refine s_rp (i := 20) rfl (by kernel_rfl) rfl (fun _ => (rd_index tS24 rfl rfl (hm3104.sl 4 rfl) h3106)) ?_
                  refine s_rp (i := 21) rfl (by kernel_rfl) rfl (fun _ => (rd_fld tF26_1 rfl)) ?_
                  refine s_ef0 (i := 22) rfl (by kernel_rfl) (ef_stl (k := 4) (off := 1) (x' := (T_Pushed.mk x3105.Length r3090.2 x3105.Mass x3105.Gentle x3105.Track)) hm3104 tO3 rfl rfl rfl rfl h3106 rfl rfl) (by decide) (fun _ _ _ q => absurd q (by decide)) ?_
                  intro _ w3109 hm3108
                  obtain ⟨x3110, h3111, q3112⟩ := ob q3107; clear q3107
                  refine s_rp (i := 23) rfl (by kernel_rfl) rfl (fun _ => (rd_index tS24 rfl rfl (hm3108.sl 4 rfl) h3111)) ?_
                  refine s_rp (i := 24) rfl (by kernel_rfl) rfl (fun _ => (rd_fld tF26_0 rfl)) ?_
                  refine s_ef0 (i := 25) rfl (by kernel_rfl) (ef_stl (k := 4) (off := 0) (x' := (T_Pushed.mk r3099.2 x3110.Axles x3110.Mass x3110.Gentle x3110.Track)) hm3108 tO3 rfl rfl rfl rfl h3111 rfl rfl) (by decide) (fun _ _ _ q => absurd q (by decide)) ?_
                  intro _ w3114 hm3113
                  refine s_nil (by kernel_rfl) ?_
                  obtain rfl := os q3112
                  exact ⟨rfl, v2174, (by repeat (first | exact Sub.nil _ | refine Sub.cons rfl ?_)), (hm3113.pick [2, 3, 4, 5, 6] (by decide) rfl)⟩
                · skip
                  refine e_ef (i := 18) rfl rfl (ef_bslice (l := ([x3084.Length, 0, 401] : List Int)) hm3088 tS35 rfl (cs := #[(Value.int .i64 x3084.Length), (Value.int .i64 0), (Value.int .i64 401)]) (by unfold bsl; kernel_rfl) rfl rfl) (by decide) ?_ ?_
                  · intro v3115 w3117 hm3116
                    intro _
                    exact (hm3116.get (k := 4) rfl)
                  intro v3115 w3117 hm3116
                  obtain ⟨r3118, h3119, q3120⟩ := ob q3086; clear q3086
                  refine s_ef (i := 11) rfl (by kernel_rfl) rfl (ef_call tf19 rfl (Maker_Pick_ok h3119 (hv0.to_callT (k := 5) hm3116 rfl) (hm3116.get (k := 5) rfl) (hm3116.sl_callT 1 5 rfl rfl (by decide)))) (by decide) ?_ ?_
                  · rintro _ w3122 ⟨rfl, hm3121⟩
                    have hm3123 := hm3116.callT (k := 5) rfl (fun _ h => h) hm3121 (fun _ => Iff.rfl)
                    intro _
                    exact (hm3123.get (k := 4) rfl)
                  rintro _ w3122 ⟨rfl, hm3121⟩
                  have hm3123 := hm3116.callT (k := 5) rfl (fun _ h => h) hm3121 (fun _ => Iff.rfl)
                  obtain ⟨r3124, h3125, q3126⟩ := ob q3120; clear q3120
                  refine s_ef (i := 19) rfl (by kernel_rfl) rfl (ef_call tf19 rfl (Maker_Pick_ok h3125 (hv0.to_callT (k := 5) hm3123 rfl) (hm3123.get (k := 5) rfl) (hm3123.sl_callT 0 5 rfl rfl (by decide)))) (by decide) (fun _ _ _ q => absurd q (by decide)) ?_
                  rintro _ w3128 ⟨rfl, hm3127⟩
                  have hm3129 := hm3123.callT (k := 5) rfl (fun _ h => h) hm3127 (fun _ => Iff.rfl)
                  obtain ⟨x3130, h3131, q3132⟩ := ob q3126; clear q3126
                  refine s_rp (i := 20) rfl (by kernel_rfl) rfl (fun _ => (rd_index tS24 rfl rfl (hm3129.sl 4 rfl) h3131)) ?_
                  refine s_rp (i := 21) rfl (by kernel_rfl) rfl (fun _ => (rd_fld tF26_1 rfl)) ?_
                  refine s_ef0 (i := 22) rfl (by kernel_rfl) (ef_stl (k := 4) (off := 1) (x' := (T_Pushed.mk x3130.Length r3118.2 x3130.Mass x3130.Gentle x3130.Track)) hm3129 tO3 rfl rfl rfl rfl h3131 rfl rfl) (by decide) (fun _ _ _ q => absurd q (by decide)) ?_
                  intro _ w3134 hm3133
                  obtain ⟨x3135, h3136, q3137⟩ := ob q3132; clear q3132
                  refine s_rp (i := 23) rfl (by kernel_rfl) rfl (fun _ => (rd_index tS24 rfl rfl (hm3133.sl 4 rfl) h3136)) ?_
                  refine s_rp (i := 24) rfl (by kernel_rfl) rfl (fun _ => (rd_fld tF26_0 rfl)) ?_
                  refine s_ef0 (i := 25) rfl (by kernel_rfl) (ef_stl (k := 4) (off := 0) (x' := (T_Pushed.mk r3124.2 x3135.Axles x3135.Mass x3135.Gentle x3135.Track)) hm3133 tO3 rfl rfl rfl rfl h3136 rfl rfl) (by decide) (fun _ _ _ q => absurd q (by decide)) ?_
                  intro _ w3139 hm3138
                  refine s_nil (by kernel_rfl) ?_
                  obtain rfl := os q3137
                  exact ⟨rfl, v2174, (by repeat (first | exact Sub.nil _ | refine Sub.cons rfl ?_)), (hm3138.pick [2, 3, 4, 5, 6] (by decide) rfl)⟩
              · skip
                refine e_ef (i := 18) rfl rfl (ef_bslice (l := ([x3084.Length, 0, 401] : List Int)) hm3045 tS35 rfl (cs := #[(Value.int .i64 x3084.Length), (Value.int .i64 0), (Value.int .i64 401)]) (by unfold bsl; kernel_rfl) rfl rfl) (by decide) ?_ ?_
                · intro v3140 w3142 hm3141
                  intro _
                  exact (hm3141.get (k := 3) rfl)
                intro v3140 w3142 hm3141
                refine s_ef (i := 10) rfl (by kernel_rfl) rfl (ef_bslice (l := ([x3081.Axles, 0, 9] : List Int)) hm3141 tS35 rfl (cs := #[(Value.int .i64 x3081.Axles), (Value.int .i64 0), (Value.int .i64 9)]) (by unfold bsl; kernel_rfl) rfl rfl) (by decide) ?_ ?_
                · intro v3143 w3145 hm3144
                  intro _
                  exact (hm3144.get (k := 4) rfl)
                intro v3143 w3145 hm3144
                obtain ⟨r3146, h3147, q3148⟩ := ob q3086; clear q3086
                refine s_ef (i := 11) rfl (by kernel_rfl) rfl (ef_call tf19 rfl (Maker_Pick_ok h3147 (hv0.to_callT (k := 5) hm3144 rfl) (hm3144.get (k := 5) rfl) (hm3144.sl_callT 0 5 rfl rfl (by decide)))) (by decide) ?_ ?_
                · rintro _ w3150 ⟨rfl, hm3149⟩
                  have hm3151 := hm3144.callT (k := 5) rfl (fun _ h => h) hm3149 (fun _ => Iff.rfl)
                  intro _
                  exact (hm3151.get (k := 4) rfl)
                rintro _ w3150 ⟨rfl, hm3149⟩
                have hm3151 := hm3144.callT (k := 5) rfl (fun _ h => h) hm3149 (fun _ => Iff.rfl)
                obtain ⟨r3152, h3153, q3154⟩ := ob q3148; clear q3148
                refine s_ef (i := 19) rfl (by kernel_rfl) rfl (ef_call tf19 rfl (Maker_Pick_ok h3153 (hv0.to_callT (k := 5) hm3151 rfl) (hm3151.get (k := 5) rfl) (hm3151.sl_callT 1 5 rfl rfl (by decide)))) (by decide) (fun _ _ _ q => absurd q (by decide)) ?_
                rintro _ w3156 ⟨rfl, hm3155⟩
                have hm3157 := hm3151.callT (k := 5) rfl (fun _ h => h) hm3155 (fun _ => Iff.rfl)
                obtain ⟨x3158, h3159, q3160⟩ := ob q3154; clear q3154
                refine s_rp (i := 20) rfl (by kernel_rfl) rfl (fun _ => (rd_index tS24 rfl rfl (hm3157.sl 4 rfl) h3159)) ?_
                refine s_rp (i := 21) rfl (by kernel_rfl) rfl (fun _ => (rd_fld tF26_1 rfl)) ?_
                refine s_ef0 (i := 22) rfl (by kernel_rfl) (ef_stl (k := 4) (off := 1) (x' := (T_Pushed.mk x3158.Length r3146.2 x3158.Mass x3158.Gentle x3158.Track)) hm3157 tO3 rfl rfl rfl rfl h3159 rfl rfl) (by decide) (fun _ _ _ q => absurd q (by decide)) ?_
                intro _ w3162 hm3161
                obtain ⟨x3163, h3164, q3165⟩ := ob q3160; clear q3160
                refine s_rp (i := 23) rfl (by kernel_rfl) rfl (fun _ => (rd_index tS24 rfl rfl (hm3161.sl 4 rfl) h3164)) ?_
                refine s_rp (i := 24) rfl (by kernel_rfl) rfl (fun _ => (rd_fld tF26_0 rfl)) ?_
                refine s_ef0 (i := 25) rfl (by kernel_rfl) (ef_stl (k := 4) (off := 0) (x' := (T_Pushed.mk r3152.2 x3163.Axles x3163.Mass x3163.Gentle x3163.Track)) hm3161 tO3 rfl rfl rfl rfl h3164 rfl rfl) (by decide) (fun _ _ _ q => absurd q (by decide)) ?_
                intro _ w3167 hm3166
                refine s_nil (by kernel_rfl) ?_
                obtain rfl := os q3165
                exact ⟨rfl, v2174, (by repeat (first | exact Sub.nil _ | refine Sub.cons rfl ?_)), (hm3166.pick [2, 3, 4, 5, 6] (by decide) rfl)⟩
            · clear hit3041
              intro e env3168 w3169 hX3170
              obtain ⟨rfl, v3039, hs3171, hm3172⟩ := hX3170
              refine qn_then ?_
              refine cw_sub hs3171 ?_
              refine cw_region ?_
              refine t_rd rfl (rd_move rfl) ?_
              refine t_rd rfl (rd_fld tF23_1 rfl) ?_
              refine t_rd rfl (rd_ld1 tO3 rfl (hm3172.blk 1 rfl) (off := 1) rfl) ?_
              refine t_ef rfl (ef_bslice (l := ([r2171.2.2.Axles, 1, 129, 2] : List Int)) hm3172 tS35 rfl (cs := #[(Value.int .i64 r2171.2.2.Axles), (Value.int .i64 1), (Value.int .i64 129), (Value.int .i64 2)]) (by unfold bsl; kernel_rfl) rfl rfl) ?_
              intro v3173 w3175 hm3174
              obtain ⟨r3176, h3177, q3178⟩ := ob q3042; clear q3042
              refine t_ef rfl (ef_call tf19 rfl (Maker_Pick_ok h3177 (hv0.to_callT (k := 4) hm3174 rfl) (hm3174.get (k := 4) rfl) (hm3174.sl_callT 0 4 rfl rfl (by decide)))) ?_
              rintro _ w3180 ⟨rfl, hm3179⟩
              have hm3181 := hm3174.callT (k := 4) rfl (fun _ h => h) hm3179 (fun _ => Iff.rfl)
              refine t_rd rfl (rd_fld tF23_1 rfl) ?_
              refine t_ef0 (ef_st1 (k := 2) (off := 1) hm3181 tO3 rfl rfl rfl rfl rfl rfl) ?_
              intro _ w3183 hm3182
              refine rwt_nil ?_
              obtain rfl := os q3178
              exact ⟨rfl, v3039, (by repeat (first | exact Sub.nil _ | refine Sub.cons rfl ?_)), (hm3182.pick [1, 2, 3, 4, 5] (by decide) rfl)⟩
          · refine cw_f rfl hb2904 ?_
            refine cw_skip ?_
            obtain rfl := os q2905
            exact ⟨rfl, v2174, (by repeat (first | exact Sub.nil _ | refine Sub.cons rfl ?_)), (hm2612.pick [0, 1, 2, 3, 4] (by decide) rfl)⟩
        · clear hit2902
          intro e env3184 w3185 hX3186
          obtain ⟨rfl, v2899, hs3187, hm3188⟩ := hX3186
          refine qn_then ?_
          refine cw_sub hs3187 ?_
          refine cw_seq ?_
          obtain ⟨w3190, he3192⟩ : ∃ q, q = w3185.drew := ⟨_, rfl⟩
          have hm3191 := hm3188.drew; rw [← he3192] at hm3191
          refine cw_region_s (fun q => (blk g2178 23 [(Value.int .i64 r2171.2.2.Wagons), (Value.int .i64 j2901.2.2), (Value.int .i64 r2171.2.2.Length)]).φ q) (cls [6, 11] [12]) mixed ?_
          rintro _ rfl; rw [← he3192]
          refine s_rp (i := 0) rfl (by kernel_rfl) rfl (fun _ => (rd_move rfl)) ?_
          refine s_rd (i := 1) rfl (by kernel_rfl) rfl (fun w3189 hS => (rd_ld tA23 rfl (cells_blk hS) rfl)) (hm3191.get (k := 1) rfl) ?_
          refine s_rp (i := 2) rfl (by kernel_rfl) rfl (fun _ => (rd_move rfl)) ?_
          refine s_rp (i := 3) rfl (by kernel_rfl) rfl (fun _ => (rd_move rfl)) ?_
          refine s_rp (i := 4) rfl (by kernel_rfl) rfl (fun _ => (rd_move rfl)) ?_
          refine s_rp (i := 5) rfl (by kernel_rfl) rfl (fun _ => (rd_lenS tS24 rfl (hm3191.sl 2 rfl))) ?_
          refine s_rp (i := 7) rfl (by kernel_rfl) rfl (fun _ => (rd_move rfl)) ?_
          refine s_rp (i := 8) rfl (by kernel_rfl) rfl (fun _ => (rd_move rfl)) ?_
          refine s_rp (i := 9) rfl (by kernel_rfl) rfl (fun _ => (rd_lenS tS24 rfl (hm3191.sl 2 rfl))) ?_
          obtain ⟨x3214, h3215, q3216⟩ := ob q2903; clear q2903
          refine s_rp (i := 10) rfl (by kernel_rfl) rfl (fun _ => (rd_add64 h3215 rfl rfl)) ?_
          obtain ⟨r3217, h3218, q3219⟩ := ob q3216; clear q3216
          refine s_ef (i := 6) rfl (by kernel_rfl) rfl (ef_call tf15 rfl (Maker_From_ok h3218 (hv0.to_callT (k := 3) hm3191 rfl) (hm3191.get (k := 3) rfl))) (by decide) ?_ ?_
          · rintro _ w3221 ⟨rfl, hm3220⟩
            have hm3222 := hm3191.callT (k := 3) rfl (fun _ h => h) hm3220 (fun _ => Iff.rfl)
            intro _
            exact (hm3222.get (k := 1) rfl)
          rintro _ w3221 ⟨rfl, hm3220⟩
          have hm3222 := hm3191.callT (k := 3) rfl (fun _ h => h) hm3220 (fun _ => Iff.rfl)
          obtain ⟨r3223, h3224, q3225⟩ := ob q3219; clear q3219
          refine s_ef (i := 11) rfl (by kernel_rfl) rfl (ef_call tf15 rfl (Maker_From_ok h3224 (hv0.to_callT (k := 3) hm3222 rfl) (hm3222.get (k := 3) rfl))) (by decide) ?_ ?_
          · rintro _ w3227 ⟨rfl, hm3226⟩
            have hm3228 := hm3222.callT (k := 3) rfl (fun _ h => h) hm3226 (fun _ => Iff.rfl)
            intro _
            exact (hm3228.get (k := 1) rfl)
          rintro _ w3227 ⟨rfl, hm3226⟩
          have hm3228 := hm3222.callT (k := 3) rfl (fun _ h => h) hm3226 (fun _ => Iff.rfl)
          obtain ⟨r3229, h3230, q3231⟩ := ob q3225; clear q3225
          refine s_ef (i := 12) rfl (by kernel_rfl) rfl (ef_call tf20 rfl (law18_exact_ok h3230 (hm3228.sl_call 2 rfl) (hm3228.sl_call 0 rfl))) (by decide) (fun _ _ _ q => absurd q (by decide)) ?_
          rintro _ w3233 ⟨rfl, hm3232⟩
          have hm3234 := hm3228.call hm3232
          refine s_rp (i := 13) rfl (by kernel_rfl) rfl (fun _ => (rd_not rfl)) ?_
          refine s_nil (by kernel_rfl) ?_
          refine qn_then ?_
          obtain ⟨hb3235, q3236⟩ | ⟨hb3235, q3236⟩ := oi q3231 <;> clear q3231
          · refine cw_t rfl hb3235 ?_
            refine cw_seq ?_
            refine cw_region ?_
            refine t_rd rfl (rd_assign rfl) ?_
            refine rwt_nil ?_
            refine qn_then ?_
            refine cw_ret ?_
            refine qr_block (qr_then (qr_then ?_))
            obtain rfl := hr2162 _ (os q3236)
            refine .inl (⟨_, rfl, ⟨rfl, ?_⟩⟩)
            exact ret1 rfl rfl ⟨rfl, (hm3234.pick [] (by decide) rfl)⟩
          · refine cw_f rfl hb3235 ?_
            refine cw_skip ?_
            refine qn_block (qn_then ?_)
            refine cw_region ?_
            refine t_rd rfl (rd_move rfl) ?_
            obtain ⟨x3237, h3238, q3239⟩ := ob q3236; clear q3236
            refine t_rd rfl (rd_add64 h3238 rfl rfl) ?_
            refine t_rd rfl (rd_assign rfl) ?_
            refine rwt_nil ?_
            refine qn_then ?_
            refine ⟨_, (os q3239), (by repeat (first | exact Sub.nil _ | refine Sub.cons rfl ?_)), (hm3234.pick [3, 4] (by decide) rfl)⟩
    · refine cw_f rfl hb2169 ?_
      refine cw_exit ?_
      refine qx_then (qx_then ?_)
      obtain rfl := hr2162 _ (os q2170)
      exact .inr (⟨_, rfl, ⟨rfl, (by repeat (first | exact Sub.nil _ | refine Sub.cons rfl ?_)), (hm2168.pick [1] (by decide) rfl)⟩⟩)
  · skip
    intro e env3240 w3241 hX3242
    rcases hX3242 with hX3242 | hX3242
    · obtain ⟨p3244, rfl, hX3242⟩ := hX3242
      obtain ⟨rfl, hq3246⟩ := hX3242
      exact qr_block (qr_then ((by have e := os q2165; subst e; exact hq3246)))
    · obtain ⟨p3247, rfl, hX3242⟩ := hX3242
      obtain ⟨rfl, hs3248, hm3249⟩ := hX3242
      refine qx_same (qn_then ?_)
      refine cw_sub hs3248 ?_
      refine cw_seq ?_
      refine cw_region ?_
      refine t_rd rfl (rd_move rfl) ?_
      refine t_rd rfl (rd_lenS tS24 rfl (hv1.of_old hm3249)) ?_
      refine t_rd rfl (rd_gtr rfl rfl) ?_
      refine t_rd rfl (rd_move rfl) ?_
      refine t_rdg rfl rfl rfl rfl (gv_f _) (fun hg3250 => (rd_move rfl)) ?_
      refine t_rdg rfl rfl rfl rfl (gv_f _) (fun hg3251 => (rd_lenS tS27 (gvx rfl hg3251) (hv3.of_old hm3249))) ?_
      refine t_rdg rfl rfl rfl rfl (gv_f _) (fun hg3252 => (rd_gtr (gvx rfl hg3252) rfl)) ?_
      refine t_rd rfl (rd_or rfl (fun hc3253 => (gvx rfl (bnotIt hc3253)))) ?_
      refine t_rd rfl (rd_move rfl) ?_
      refine t_rdg rfl rfl rfl rfl (gv_f _) (fun hg3254 => (rd_move rfl)) ?_
      refine t_rdg rfl rfl rfl rfl (gv_f _) (fun hg3255 => (rd_ld tA23 rfl (hm3249.blk 0 rfl) rfl)) ?_
      refine t_rdg rfl rfl rfl rfl (gv_f _) (fun hg3256 => (rd_move rfl)) ?_
      refine t_rdg rfl rfl rfl rfl (gv_f _) (fun hg3257 => (rd_move rfl)) ?_
      refine t_rdg rfl rfl rfl rfl (gv_f _) (fun hg3258 => (rd_move rfl)) ?_
      obtain ⟨r3260, h3261, q3262⟩ := ob q2165; clear q2165
      refine t_efg rfl rfl rfl rfl (R := (fun v w' => v = gV (!(decide (60 < (List.length a1 : Int)) || decide (60 < (List.length a3 : Int)))) (Value.bool r3260) ∧ Mem w3241 No [] w')) (gv_f _) (fun hg3259 => (ef_call tf20 (evc (gvx rfl hg3259) (evc (gvx rfl hg3259) (evc (gvx rfl hg3259) (evc (gvx rfl hg3259) (evc (gvx rfl hg3259) evn))))) (law18_exact_ok (gO_t h3261 hg3259) (hv1.to_call hm3249) (hv3.to_call hm3249))).mono (by rintro _ _ ⟨rfl, q⟩; exact ⟨(gV_t hg3259).symm, q⟩)) (fun q => ⟨(gV_f q).symm, Mem.nil _⟩) ?_
      rintro _ w3264 ⟨rfl, hm3263⟩
      have hm3265 := hm3249.call hm3263
      refine t_rdg rfl rfl rfl rfl (gv_f _) (fun hg3266 => (rd_move (gvx rfl hg3266))) ?_
      obtain ⟨r3268, h3269, q3270⟩ := ob q3262; clear q3262
      refine t_efg rfl rfl rfl rfl (R := (fun v w' => v = gV ((!(decide (60 < (List.length a1 : Int)) || decide (60 < (List.length a3 : Int)))) && r3260) (Value.bool r3268) ∧ Mem w3264 No [] w')) (gv_nt _ _) (fun hg3267 => (ef_call tf10 rfl (law18_sane_ok (gO_t h3269 hg3267))).mono (by rintro _ _ ⟨rfl, q⟩; exact ⟨(gV_t hg3267).symm, q⟩)) (fun q => ⟨(gV_f q).symm, Mem.nil _⟩) ?_
      rintro _ w3272 ⟨rfl, hm3271⟩
      have hm3273 := hm3265.call hm3271
      refine t_rdg rfl rfl rfl rfl (gv_f _) (fun hg3274 => (rd_and (gvx rfl hg3274) (fun hc3275 => (gvx rfl (band hg3274 hc3275))))) ?_
      refine t_rd rfl (rd_or rfl (fun hc3276 => (gvx rfl (bnotIt hc3276)))) ?_
      refine t_rd rfl (rd_assign rfl) ?_
      refine rwt_nil ?_
      refine qn_then ?_
      refine cw_ret ?_
      obtain rfl := os q3270
      exact ret1 rfl rfl ⟨rfl, (hm3273.pick [] (by decide) rfl)⟩

end Go.Proofs.Ytiffggmeebajpaa
