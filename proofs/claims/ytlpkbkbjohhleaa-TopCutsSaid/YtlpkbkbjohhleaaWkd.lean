/- Each call computes what its mirror does; written by a program of mine (gowalk.py). -/
import Derived.Test.YtlpkbkbjohhleaaWkc
namespace Go.Proofs.Ytlpkbkbjohhleaa
open Go.Gv Go.RowKit
set_option linter.unusedVariables false
set_option maxRecDepth 100000

theorem cut_Form_ok {N : Nat} {a0 : List T_Pushed} {a1 : T_CutRules} {res : List T_Cut × Int} (h : cut_Form N a0 a1 = some res) {w : World} {v0 : Value} (hv0 : Sl (Old w No) w v0 a0) :
    CallsR Try.prog 9 [v0, (Value.agg (Flat.enc a1).toArray)] w (fun u w' => ∃ (y0 : Value), u = (Value.tuple #[y0, (Value.int .i64 res.2)]) ∧ Mem w No [ownL 52 y0 (res.1 : List T_Cut)] w') := by
  unfold cut_Form at h
  refine fn_ok Try.func9 rfl rfl rfl ?_
  have hm0 := Mem.nil w
  refine cw_seq ?_
  refine cw_region ?_
  refine t_ef rfl (ef_box hm0 rfl rfl) ?_
  rintro _ w3 ⟨g1, rfl, hm2⟩
  refine t_rd rfl (rd_assign rfl) ?_
  refine t_rd rfl (rd_assign rfl) ?_
  refine rwt_nil ?_
  refine qn_then ?_
  refine cw_seq ?_
  refine cw_seq ?_
  refine cw_region ?_
  refine t_rd rfl (rd_move rfl) ?_
  refine t_rd rfl (rd_ld tA50 rfl (hm2.blk 0 rfl) rfl) ?_
  obtain ⟨r4, h5, q6⟩ := ob h; clear h
  refine t_ef rfl (ef_call tf20 rfl (cut_Valid_ok h5 (hv0.to_call hm2))) ?_
  rintro _ w8 ⟨e_, hm7⟩
  obtain rfl := e_.symm
  have hm9 := hm2.call hm7
  refine t_rd rfl (rd_assign rfl) ?_
  refine rwt_nil ?_
  refine qn_then ?_
  refine cw_seq ?_
  refine cw_region ?_
  refine t_rd rfl (rd_move rfl) ?_
  refine t_rd rfl (rd_neq rfl rfl) ?_
  refine rwt_nil ?_
  refine qn_then ?_
  obtain ⟨hb10, q11⟩ | ⟨hb10, q11⟩ := oi q6 <;> clear q6
  · refine cw_t rfl hb10 ?_
    refine cw_seq ?_
    refine cw_region ?_
    refine t_rd rfl (rd_move rfl) ?_
    refine t_rd rfl (rd_assign rfl) ?_
    refine t_rd rfl (rd_assign rfl) ?_
    refine rwt_nil ?_
    refine qn_then ?_
    refine cw_ret ?_
    refine qr_then ?_
    obtain rfl := os q11
    have hm12 := hm9.addNil (α := T_Cut) 52
    exact ret2 rfl rfl rfl ⟨(Value.slice none 0 0), rfl, (hm12.pick [0] (by decide) rfl)⟩
  · refine cw_f rfl hb10 ?_
    refine cw_skip ?_
    refine qn_then ?_
    refine cw_seq ?_
    refine cw_region ?_
    refine t_rd rfl (rd_assign rfl) ?_
    refine rwt_nil ?_
    refine qn_then ?_
    refine cw_seq ?_
    refine cw_seq ?_
    refine cw_region ?_
    refine t_rd rfl (rd_assign rfl) ?_
    refine rwt_nil ?_
    refine qn_then ?_
    refine cw_block ?_
    have hm51 := hm9.addNil (α := T_Cut) 52
    obtain ⟨r139, hit140, q141⟩ := ob q11; clear q11
    refine cw_loop2 (I := fun q envq wq => ∃ (v132 : Value), Sub [(0, v0), (3, (Value.pointer (some ⟨g1, 0, none⟩))), (7, v132), (8, (Value.int .i64 q.1))] envq ∧ Mem w No [ownL 52 v132 (q.2 : List T_Cut), blk g1 50 [(Value.int .i64 a1.Wagons), (Value.int .i64 a1.Axles), (Value.int .i64 a1.Length)]] wq) (X := fun eq envq wq => eq = .exit 0 ∧ ∃ (v129 : Value), Sub [(7, v129)] envq ∧ Mem w No [ownL 52 v129 (r139 : List T_Cut)] wq) hit140 ⟨(Value.slice none 0 0), (by repeat (first | exact Sub.nil _ | refine Sub.cons rfl ?_)), (hm51.pick [0, 1] (by decide) rfl)⟩ ?_ ?_
    · rintro ⟨i130, l131⟩ x134 env135 w136 hf137 hr138 ⟨v132, hs_, hm_⟩
      have hs_ : Sub [(0, v0), (3, (Value.pointer (some ⟨g1, 0, none⟩))), (7, v132), (8, (Value.int .i64 i130))] env135 := hs_
      have hm142 : Mem w No [ownL 52 v132 (l131 : List T_Cut), blk g1 50 [(Value.int .i64 a1.Wagons), (Value.int .i64 a1.Axles), (Value.int .i64 a1.Length)]] w136 := hm_
      refine cw_sub hs_ ?_
      clear hs_ hm_ q141
      have h : cut_Form_l1 N a0 a1 i130 l131 = some x134 := hf137
      clear hf137
      refine cw_seq ?_
      refine cw_seq ?_
      refine cw_region ?_
      refine t_rd rfl (rd_move rfl) ?_
      refine t_rd rfl (rd_move rfl) ?_
      refine t_rd rfl (rd_lenS tS42 rfl (hv0.of_old hm142)) ?_
      refine t_rd rfl (rd_lss rfl rfl) ?_
      refine rwt_nil ?_
      refine qn_then ?_
      obtain ⟨hb143, q144⟩ | ⟨hb143, q144⟩ := oi h <;> clear h
      · refine cw_t rfl hb143 ?_
        refine cw_skip ?_
        refine qn_then ?_
        refine cw_block ?_
        refine cw_seq ?_
        refine cw_region ?_
        refine t_rd rfl (rd_move rfl) ?_
        refine t_rd rfl (rd_ld tA50 rfl (hm142.blk 1 rfl) rfl) ?_
        refine t_rd rfl (rd_move rfl) ?_
        refine t_rd rfl (rd_move rfl) ?_
        refine t_rd rfl (rd_lenS tS42 rfl (hv0.of_old hm142)) ?_
        obtain ⟨r145, h146, q147⟩ := ob q144; clear q144
        refine t_ef rfl (ef_call tf21 rfl (cut_longest_ok h146 (hv0.to_call hm142))) ?_
        rintro _ w149 ⟨e_, hm148⟩
        obtain rfl := e_.symm
        have hm150 := hm142.call hm148
        refine t_rd rfl (rd_assign rfl) ?_
        refine rwt_nil ?_
        refine qn_then ?_
        refine cw_seq ?_
        obtain ⟨w164, he166⟩ : ∃ q, q = w149.drew := ⟨_, rfl⟩
        have hm165 := hm150.drew; rw [← he166] at hm165
        refine cw_region_s (fun q => q = w164) (cls [] [14, 15]) mixed ?_
        rintro _ rfl; rw [← he166]
        refine s_rp (i := 0) rfl (by kernel_rfl) rfl (fun _ => (rd_move rfl)) ?_
        refine s_rp (i := 1) rfl (by kernel_rfl) rfl (fun _ => (rd_move rfl)) ?_
        refine s_rp (i := 2) rfl (by kernel_rfl) rfl (fun _ => (rd_move rfl)) ?_
        refine s_rp (i := 3) rfl (by kernel_rfl) rfl (fun _ => (rd_move rfl)) ?_
        refine s_rp (i := 4) rfl (by kernel_rfl) rfl (fun _ => (rd_move rfl)) ?_
        obtain ⟨x167, h168, q169⟩ := ob q147; clear q147
        refine s_rp (i := 5) rfl (by kernel_rfl) rfl (fun _ => (rd_index tS42 rfl rfl (hv0.of_old hm165) h168)) ?_
        refine s_rp (i := 6) rfl (by kernel_rfl) rfl (fun _ => (rd_fld tF44_4 rfl)) ?_
        refine s_rd (i := 7) rfl (by kernel_rfl) rfl (fun _ hS => by rw [hS]; exact (rd_ld1 tO3 rfl ((hv0.of_old hm165).cells h168) (off := 4) rfl)) rfl ?_
        refine s_rp (i := 8) rfl (by kernel_rfl) rfl (fun _ => (rd_move rfl)) ?_
        refine s_rp (i := 9) rfl (by kernel_rfl) rfl (fun _ => (rd_move rfl)) ?_
        refine s_rp (i := 10) rfl (by kernel_rfl) rfl (fun _ => (rd_index tS42 rfl rfl (hv0.of_old hm165) h168)) ?_
        refine s_rp (i := 11) rfl (by kernel_rfl) rfl (fun _ => (rd_fld tF44_3 rfl)) ?_
        refine s_rd (i := 12) rfl (by kernel_rfl) rfl (fun _ hS => by rw [hS]; exact (rd_ld1 tO4 rfl ((hv0.of_old hm165).cells h168) (off := 3) rfl)) rfl ?_
        refine s_rp (i := 13) rfl (by kernel_rfl) rfl (fun _ => (rd_build (cs := #[(Value.int .i64 i130), (Value.int .i64 r145), (Value.int .i64 x167.Track), (Value.bool x167.Gentle)]) rfl (by kernel_rfl))) ?_
        refine s_ef (i := 14) rfl (by kernel_rfl) rfl (ef_bslice (l := ([(T_Cut.mk i130 r145 x167.Track x167.Gentle)] : List T_Cut)) hm165 tS45 rfl (cs := #[(Value.int .i64 i130), (Value.int .i64 r145), (Value.int .i64 x167.Track), (Value.bool x167.Gentle)]) (by unfold bsl; kernel_rfl) rfl rfl) (by decide) (fun _ _ _ q => absurd q (by decide)) ?_
        intro v170 w172 hm171
        obtain ⟨l173, h174, q175⟩ := ob q169; clear q169
        refine s_ef (i := 15) rfl (by kernel_rfl) rfl (ef_append (k := 1) hm171 tS45 tE52 rfl rfl rfl rfl (hm171.sl 0 rfl) h174) (by decide) (fun _ _ _ q => absurd q (by decide)) ?_
        intro v176 w178 hm177
        refine s_rp (i := 16) rfl (by kernel_rfl) rfl (fun _ => (rd_assign rfl)) ?_
        refine s_nil (by kernel_rfl) ?_
        refine qn_then ?_
        refine cw_region ?_
        refine t_rd rfl (rd_move rfl) ?_
        refine t_rd rfl (rd_assign rfl) ?_
        refine rwt_nil ?_
        refine qn_block (qn_then ?_)
        refine ⟨_, (os q175), v176, (by repeat (first | exact Sub.nil _ | refine Sub.cons rfl ?_)), (hm177.pick [1, 2] (by decide) rfl)⟩
      · refine cw_f rfl hb143 ?_
        refine cw_exit ?_
        refine qx_then (qx_then ?_)
        obtain rfl := hr138 _ (os q144)
        exact ⟨rfl, v132, (by repeat (first | exact Sub.nil _ | refine Sub.cons rfl ?_)), (hm142.pick [0] (by decide) rfl)⟩
    · skip
      intro e env179 w180 hX181
      obtain ⟨rfl, v129, hs182, hm183⟩ := hX181
      refine qx_same (qn_then ?_)
      refine cw_sub hs182 ?_
      refine cw_seq ?_
      refine cw_region ?_
      refine t_rd rfl (rd_move rfl) ?_
      refine t_rd rfl (rd_assign rfl) ?_
      refine t_rd rfl (rd_assign rfl) ?_
      refine rwt_nil ?_
      refine qn_then ?_
      refine cw_ret ?_
      obtain rfl := os q141
      exact ret2 rfl rfl rfl ⟨v129, rfl, (hm183.pick [0] (by decide) rfl)⟩

theorem humpyardtop_TopCuts_ok {N : Nat} {a0 : List Int} {res : Bool} (h : humpyardtop_TopCuts N a0 = some res) {w : World} {v0 : Value} (hv0 : Sl (Old w No) w v0 a0) :
    CallsR Try.prog 3 [v0] w (fun u w' => u = (Value.bool res) ∧ Mem w No [] w') := by
  unfold humpyardtop_TopCuts at h
  refine fn_ok Try.func3 rfl rfl rfl ?_
  have hm0 := Mem.nil w
  refine cw_seq ?_
  refine cw_region ?_
  refine t_rd rfl (rd_assign rfl) ?_
  refine rwt_nil ?_
  refine qn_then ?_
  refine cw_seq ?_
  refine cw_region ?_
  refine t_rd rfl (rd_move rfl) ?_
  obtain ⟨r1, h2, q3⟩ := ob h; clear h
  refine t_ef rfl (ef_call tf4 rfl (humpgen_New_ok h2 (hv0.to_call hm0))) ?_
  rintro _ w6 ⟨g4, e_, hm5⟩
  obtain rfl := e_.symm
  have hm7 := hm0.call hm5
  refine t_rd rfl (rd_assign rfl) ?_
  refine rwt_nil ?_
  refine qn_then ?_
  refine cw_seq ?_
  refine cw_region ?_
  refine t_rd rfl (rd_move rfl) ?_
  obtain ⟨r8, h9, q10⟩ := ob q3; clear q3
  refine t_ef rfl (ef_call tf5 rfl (Maker_Job_ok h9 (hv0.to_callT (k := 0) hm7 rfl) (hm7.get (k := 0) rfl))) ?_
  rintro _ w13 ⟨v11, e_, hm12⟩
  obtain rfl := e_.symm
  have hm14 := hm7.callT (k := 0) rfl (fun _ h => h) hm12 (fun _ => Iff.rfl)
  refine t_ef rfl (ef_alloc hm14 tZ27 rfl) ?_
  rintro _ w17 ⟨g15, rfl, hm16⟩
  refine t_ef0 (ef_stw (k := 0) hm16 tA27 rfl rfl (oc_cons (sl_one (hm16.sl 1 rfl)) (oc_cons rfl oc_nil)) rfl rfl rfl) ?_
  intro _ w19 hm18
  refine rwt_nil ?_
  refine qn_then ?_
  refine cw_seq ?_
  refine cw_seq ?_
  refine cw_region ?_
  refine t_rd rfl (rd_fld tF27_0 rfl) ?_
  refine t_rd rfl (rd_ld1 tO25 rfl (hm18.blk 0 rfl) (off := 0) rfl) ?_
  refine t_rd rfl (rd_lenS tS25 rfl (hm18.sl 1 rfl)) ?_
  refine t_rd rfl (rd_move rfl) ?_
  refine rwt_nil ?_
  refine qn_then ?_
  refine cw_block ?_
  obtain ⟨r51, hit52, q53⟩ := ob q10; clear q10
  refine cw_loop2 (I := fun q envq wq => Sub [(3, (Value.pointer (some ⟨g4, 0, none⟩))), (4, (Value.pointer (some ⟨g15, 0, none⟩))), (29, (Value.int .i64 (List.length r8.2.1 : Int))), (30, (Value.int .i64 q.1))] envq ∧ Mem w No [blk g15 27 [v11, (Value.int .i64 r8.2.2)], ownL 30 v11 (q.2 : List T_Item), blk g4 56 [v0, (Value.int .i64 r8.1)]] wq) (X := fun eq envq wq => eq = .exit 0 ∧ Sub [(3, (Value.pointer (some ⟨g4, 0, none⟩))), (4, (Value.pointer (some ⟨g15, 0, none⟩)))] envq ∧ Mem w No [blk g15 27 [v11, (Value.int .i64 r8.2.2)], ownL 30 v11 (r51 : List T_Item), blk g4 56 [v0, (Value.int .i64 r8.1)]] wq) hit52 ⟨(by repeat (first | exact Sub.nil _ | refine Sub.cons rfl ?_)), (hm18.pick [0, 1, 2] (by decide) rfl)⟩ ?_ ?_
  · rintro ⟨i43, l44⟩ x46 env47 w48 hf49 hr50 ⟨hs_, hm_⟩
    have hs_ : Sub [(3, (Value.pointer (some ⟨g4, 0, none⟩))), (4, (Value.pointer (some ⟨g15, 0, none⟩))), (29, (Value.int .i64 (List.length r8.2.1 : Int))), (30, (Value.int .i64 i43))] env47 := hs_
    have hm54 : Mem w No [blk g15 27 [v11, (Value.int .i64 r8.2.2)], ownL 30 v11 (l44 : List T_Item), blk g4 56 [v0, (Value.int .i64 r8.1)]] w48 := hm_
    refine cw_sub hs_ ?_
    clear hs_ hm_ q53
    have h : humpyardtop_TopCuts_l1 N r8 i43 l44 = some x46 := hf49
    clear hf49
    refine cw_seq ?_
    refine cw_region ?_
    refine t_rd rfl (rd_lss rfl rfl) ?_
    refine rwt_nil ?_
    refine qn_then ?_
    refine cw_seq ?_
    obtain ⟨hb55, q56⟩ | ⟨hb55, q56⟩ := oi h <;> clear h
    · refine cw_t rfl hb55 ?_
      refine cw_skip ?_
      refine qn_then ?_
      refine cw_seq ?_
      refine cw_block ?_
      refine cw_seq ?_
      refine cw_region ?_
      refine t_rd rfl (rd_move rfl) ?_
      refine t_rd rfl (rd_assign rfl) ?_
      refine rwt_nil ?_
      refine qn_then ?_
      refine cw_region ?_
      refine t_rd rfl (rd_fld tF27_0 rfl) ?_
      refine t_rd rfl (rd_ld1 tO25 rfl (hm54.blk 0 rfl) (off := 0) rfl) ?_
      refine t_rd rfl (rd_move rfl) ?_
      obtain ⟨x57, h58, q59⟩ := ob q56; clear q56
      refine t_rd rfl (rd_index tS25 rfl rfl (hm54.sl 1 rfl) h58) ?_
      refine t_rd rfl (rd_fld tF30_2 rfl) ?_
      refine t_ef0 (ef_stl (k := 1) (off := 2) (x' := (T_Item.mk x57.Train x57.Block 0 x57.Length)) hm54 tO3 rfl rfl rfl rfl h58 rfl rfl) ?_
      intro _ w61 hm60
      refine rwt_nil ?_
      refine qn_block (qn_then ?_)
      refine cw_region ?_
      obtain ⟨x62, h63, q64⟩ := ob q59; clear q59
      refine t_rd rfl (rd_add64 h63 rfl rfl) ?_
      refine t_rd rfl (rd_move rfl) ?_
      refine rwt_nil ?_
      refine qn_then ?_
      refine ⟨_, (os q64), (by repeat (first | exact Sub.nil _ | refine Sub.cons rfl ?_)), (hm60.pick [0, 1, 2] (by decide) rfl)⟩
    · refine cw_f rfl hb55 ?_
      refine cw_exit ?_
      refine qx_then (qx_then ?_)
      obtain rfl := hr50 _ (os q56)
      exact ⟨rfl, (by repeat (first | exact Sub.nil _ | refine Sub.cons rfl ?_)), (hm54.pick [0, 1, 2] (by decide) rfl)⟩
  · skip
    intro e env65 w66 hX67
    obtain ⟨rfl, hs68, hm69⟩ := hX67
    refine qx_same (qn_then ?_)
    refine cw_sub hs68 ?_
    refine cw_seq ?_
    refine cw_region ?_
    refine t_rd rfl (rd_ld tA27 rfl (hm69.blk 0 rfl) rfl) ?_
    obtain ⟨r70, h71, q72⟩ := ob q53; clear q53
    refine t_ef rfl (ef_call tf6 rfl (certificate_Make_ok h71 (hm69.sl_call 1 rfl))) ?_
    rintro _ w76 ⟨v73, v74, e_, hm75⟩
    obtain rfl := e_.symm
    have hm77 := hm69.call hm75
    refine t_rd rfl (rd_move rfl) ?_
    refine t_rd rfl (rd_extract rfl rfl) ?_
    refine t_rd rfl (rd_extract rfl rfl) ?_
    refine t_ef rfl (ef_alloc hm77 tZ34 rfl) ?_
    rintro _ w80 ⟨g78, rfl, hm79⟩
    refine t_ef0 (ef_stw (k := 0) hm79 tA34 rfl rfl (oc_cons rfl (oc_cons (sl_one (hm79.sl 1 rfl)) (oc_cons (sl_one (hm79.sl 2 rfl)) oc_nil))) rfl rfl rfl) ?_
    intro _ w82 hm81
    refine t_rd rfl (rd_assign rfl) ?_
    refine rwt_nil ?_
    refine qn_then ?_
    refine cw_seq ?_
    refine cw_seq ?_
    refine cw_region ?_
    refine t_rd rfl (rd_move rfl) ?_
    refine t_rd rfl (rd_neq rfl rfl) ?_
    refine rwt_nil ?_
    refine qn_then ?_
    obtain ⟨hb83, q84⟩ | ⟨hb83, q84⟩ := oi q72 <;> clear q72
    · refine cw_t rfl hb83 ?_
      refine cw_seq ?_
      refine cw_region ?_
      refine t_rd rfl (rd_move rfl) ?_
      refine t_rd rfl (rd_eql rfl rfl) ?_
      refine t_rd rfl (rd_move rfl) ?_
      obtain ⟨r86, h87, q88⟩ := ob q84; clear q84
      refine t_efg rfl rfl rfl rfl (R := (fun v w' => v = gV (decide (r70.2.2.2 = 15)) (Value.bool r86) ∧ Mem w82 No [] w')) (gv_t _) (fun hg85 => (ef_call tf7 rfl (humpyardtop_awake_ok (gO_t h87 hg85))).mono (by rintro _ _ ⟨rfl, q⟩; exact ⟨(gV_t hg85).symm, q⟩)) (fun q => ⟨(gV_f q).symm, Mem.nil _⟩) ?_
      rintro _ w90 ⟨rfl, hm89⟩
      have hm91 := hm81.call hm89
      refine t_rd rfl (rd_and rfl (fun hc92 => (gvx rfl hc92))) ?_
      refine t_rd rfl (rd_assign rfl) ?_
      refine rwt_nil ?_
      refine qn_then ?_
      refine cw_ret ?_
      refine qr_then ?_
      obtain rfl := os q88
      exact ret1 rfl rfl ⟨rfl, (hm91.pick [] (by decide) rfl)⟩
    · refine cw_f rfl hb83 ?_
      refine cw_skip ?_
      refine qn_then ?_
      refine cw_seq ?_
      refine cw_region ?_
      refine t_rd rfl (rd_ld tA27 rfl (hm81.blk 3 rfl) rfl) ?_
      refine t_rd rfl (rd_fld tF34_0 rfl) ?_
      refine t_rd rfl (rd_ldp (cs' := [(Value.int .i64 r70.1), v73]) tA32 rfl (hm81.blk 0 rfl) (off := 0) rfl rfl) ?_
      obtain ⟨r93, h94, q95⟩ := ob q84; clear q84
      refine t_ef rfl (ef_call tf8 rfl (rollin_Contents_ok h94 (hm81.sl_call 4 rfl) (hm81.sl_call 1 rfl))) ?_
      rintro _ w101 ⟨zs97, v96, zs99, v98, e_, hm100⟩
      obtain rfl := e_.symm
      have hm102 := hm81.call hm100
      refine t_rd rfl (rd_move rfl) ?_
      refine t_rd rfl (rd_extract rfl rfl) ?_
      refine t_rd rfl (rd_extract rfl rfl) ?_
      refine t_rd rfl (rd_extract rfl rfl) ?_
      refine t_rd rfl (rd_assign rfl) ?_
      refine t_rd rfl (rd_assign rfl) ?_
      refine t_rd rfl (rd_assign rfl) ?_
      refine rwt_nil ?_
      refine qn_then ?_
      refine cw_seq ?_
      refine cw_seq ?_
      refine cw_region ?_
      refine t_rd rfl (rd_move rfl) ?_
      refine t_rd rfl (rd_neq rfl rfl) ?_
      refine rwt_nil ?_
      refine qn_then ?_
      obtain ⟨hb103, q104⟩ | ⟨hb103, q104⟩ := oi q95 <;> clear q95
      · refine cw_t rfl hb103 ?_
        refine cw_seq ?_
        refine cw_region ?_
        refine t_rd rfl (rd_assign rfl) ?_
        refine rwt_nil ?_
        refine qn_then ?_
        refine cw_ret ?_
        refine qr_then ?_
        obtain rfl := os q104
        exact ret1 rfl rfl ⟨rfl, (hm102.pick [] (by decide) rfl)⟩
      · refine cw_f rfl hb103 ?_
        refine cw_skip ?_
        refine qn_then ?_
        refine cw_seq ?_
        refine cw_region ?_
        refine t_ef rfl (ef_bslice0 (α := Hdr) hm102 tS39) ?_
        intro v105 w107 hm106
        refine t_rd rfl (rd_move rfl) ?_
        obtain ⟨l108, h109, q110⟩ := ob q104; clear q104
        obtain ⟨ha111, he112⟩ := app_h h109 (show ([] : List Hdr).length = 0 from rfl) ((Nl.mk (hm106.sl_call 1 rfl) (hm106.rows_call 2 rfl))).rows.1
        refine t_ef rfl (ef_append (k := 0) hm106 tS39 tE22 rfl rfl rfl rfl ((Nl.mk (hm106.sl_call 1 rfl) (hm106.rows_call 2 rfl))).sp ha111) ?_
        intro v113 w115 hm114
        refine t_rd rfl (rd_move rfl) ?_
        obtain ⟨l116, h117, q118⟩ := ob q110; clear q110
        obtain ⟨ha119, he120⟩ := app_h h117 ((Nl.mk (hm114.sl_call 0 rfl) (Rows.app Rows.nil (hm114.rows_call 2 rfl) he112)).rows.1) ((Nl.mk (hm114.sl_call 3 rfl) (hm114.rows_call 4 rfl))).rows.1
        refine t_ef rfl (ef_append (k := 0) hm114 tS39 tE22 rfl rfl rfl rfl ((Nl.mk (hm114.sl_call 3 rfl) (hm114.rows_call 4 rfl))).sp ha119) ?_
        intro v121 w123 hm122
        refine t_rd rfl (rd_assign rfl) ?_
        refine rwt_nil ?_
        refine qn_then ?_
        refine cw_seq ?_
        refine cw_seq ?_
        refine cw_region ?_
        refine t_rd rfl (rd_move rfl) ?_
        refine t_rd rfl (rd_lenS tS39 rfl ((Nl.mk (hm122.sl_call 0 rfl) (Rows.app (Rows.app Rows.nil (hm122.rows_call 2 rfl) he112) (hm122.rows_call 4 rfl) he120)).sl)) ?_
        refine t_rd rfl (rd_gtr rfl rfl) ?_
        refine rwt_nil ?_
        refine qn_then ?_
        obtain ⟨hb124, q125⟩ | ⟨hb124, q125⟩ := oi q118 <;> clear q118
        · refine cw_t rfl hb124 ?_
          refine cw_seq ?_
          refine cw_region ?_
          refine t_rd rfl (rd_assign rfl) ?_
          refine rwt_nil ?_
          refine qn_then ?_
          refine cw_ret ?_
          refine qr_then ?_
          obtain rfl := os q125
          exact ret1 rfl rfl ⟨rfl, (hm122.pick [] (by decide) rfl)⟩
        · refine cw_f rfl hb124 ?_
          refine cw_skip ?_
          refine qn_then ?_
          refine cw_seq ?_
          refine cw_region ?_
          refine t_rd rfl (rd_fld tF27_0 rfl) ?_
          refine t_rd rfl (rd_ld1 tO25 rfl (hm122.blk 8 rfl) (off := 0) rfl) ?_
          refine t_rd rfl (rd_lenS tS25 rfl (hm122.sl 9 rfl)) ?_
          obtain ⟨l126, h127, q128⟩ := ob q125; clear q125
          refine t_ef rfl (ef_make hm122 tS42 tE44 rfl rfl rfl h127) ?_
          intro v129 w131 hm130
          refine t_rd rfl (rd_assign rfl) ?_
          refine rwt_nil ?_
          refine qn_then ?_
          refine cw_seq ?_
          refine cw_seq ?_
          refine cw_region ?_
          refine t_rd rfl (rd_move rfl) ?_
          refine t_rd rfl (rd_lenS tS39 rfl ((Nl.mk (hm130.sl_call 1 rfl) (Rows.app (Rows.app Rows.nil (hm130.rows_call 3 rfl) he112) (hm130.rows_call 5 rfl) he120)).sl)) ?_
          refine t_rd rfl (rd_move rfl) ?_
          refine rwt_nil ?_
          refine qn_then ?_
          refine cw_block ?_
          obtain ⟨r355, hit356, q357⟩ := ob q128; clear q128
          refine cw_loop2 (I := fun q envq wq => Sub [(3, (Value.pointer (some ⟨g4, 0, none⟩))), (4, (Value.pointer (some ⟨g15, 0, none⟩))), (11, v121), (12, v129), (73, v121), (74, (Value.int .i64 (List.length l116 : Int))), (75, (Value.int .i64 q.1))] envq ∧ Mem w No [ownL 44 v129 (q.2 : List T_Pushed), ownL 22 v121 ((([] ++ zs97) ++ zs99) : List Hdr), rowsC 3 zs97 (r93.1 : List (List Int)) none, rowsC 3 zs99 (r93.2.1 : List (List Int)) none, blk g15 27 [v11, (Value.int .i64 r8.2.2)], ownL 30 v11 (r51 : List T_Item), blk g4 56 [v0, (Value.int .i64 r8.1)]] wq) (X := fun eq envq wq => (∃ p358, r355 = (Sum.inl p358) ∧ eq = .ret ∧ retQ Try.prog 175 Try.f3 (fun u w' => u = (Value.bool p358) ∧ Mem w No [] w') .ret envq wq) ∨ (∃ p359, r355 = (Sum.inr p359) ∧ eq = .exit 2 ∧ Sub [(3, (Value.pointer (some ⟨g4, 0, none⟩))), (11, v121), (12, v129)] envq ∧ Mem w No [ownL 44 v129 (p359 : List T_Pushed), ownL 22 v121 ((([] ++ zs97) ++ zs99) : List Hdr), rowsC 3 zs97 (r93.1 : List (List Int)) none, rowsC 3 zs99 (r93.2.1 : List (List Int)) none, blk g4 56 [v0, (Value.int .i64 r8.1)]] wq)) hit356 ⟨(by repeat (first | exact Sub.nil _ | refine Sub.cons rfl ?_)), (hm130.pick [0, 1, 3, 5, 9, 10, 11] (by decide) rfl)⟩ ?_ ?_
          · rintro ⟨i347, l348⟩ x350 env351 w352 hf353 hr354 ⟨hs_, hm_⟩
            have hs_ : Sub [(3, (Value.pointer (some ⟨g4, 0, none⟩))), (4, (Value.pointer (some ⟨g15, 0, none⟩))), (11, v121), (12, v129), (73, v121), (74, (Value.int .i64 (List.length l116 : Int))), (75, (Value.int .i64 i347))] env351 := hs_
            have hm360 : Mem w No [ownL 44 v129 (l348 : List T_Pushed), ownL 22 v121 ((([] ++ zs97) ++ zs99) : List Hdr), rowsC 3 zs97 (r93.1 : List (List Int)) none, rowsC 3 zs99 (r93.2.1 : List (List Int)) none, blk g15 27 [v11, (Value.int .i64 r8.2.2)], ownL 30 v11 (r51 : List T_Item), blk g4 56 [v0, (Value.int .i64 r8.1)]] w352 := hm_
            refine cw_sub hs_ ?_
            clear hs_ hm_ q357
            have h : humpyardtop_TopCuts_l4 N r51 l116 i347 l348 = some x350 := hf353
            clear hf353
            refine cw_seq ?_
            refine cw_region ?_
            refine t_rd rfl (rd_lss rfl rfl) ?_
            refine rwt_nil ?_
            refine qn_then ?_
            refine cw_seq ?_
            obtain ⟨hb361, q362⟩ | ⟨hb361, q362⟩ := oi h <;> clear h
            · refine cw_t rfl hb361 ?_
              refine cw_skip ?_
              refine qn_then ?_
              refine cw_seq ?_
              refine cw_block ?_
              refine cw_seq ?_
              refine cw_region ?_
              refine t_rd rfl (rd_move rfl) ?_
              obtain ⟨x363, h364, q365⟩ := ob q362; clear q362
              refine t_rd rfl (rd_index tS39 rfl rfl ((Nl.mk (hm360.sl_call 1 rfl) (Rows.app (Rows.app Rows.nil (hm360.rows_call 2 rfl) he112) (hm360.rows_call 3 rfl) he120)).sl) h364) ?_
              obtain ⟨zd366, hz367⟩ := (Nl.mk (hm360.sl_call 1 rfl) (Rows.app (Rows.app Rows.nil (hm360.rows_call 2 rfl) he112) (hm360.rows_call 3 rfl) he120)).row h364
              refine t_rd rfl (rd_ld1 tO22 rfl ((Nl.mk (hm360.sl_call 1 rfl) (Rows.app (Rows.app Rows.nil (hm360.rows_call 2 rfl) he112) (hm360.rows_call 3 rfl) he120)).cells hz367) (off := 0) rfl) ?_
              refine t_rd rfl (rd_assign rfl) ?_
              refine t_rd rfl (rd_assign rfl) ?_
              refine rwt_nil ?_
              refine qn_then ?_
              refine cw_seq ?_
              refine cw_region ?_
              refine t_rd rfl (rd_move rfl) ?_
              refine t_rd rfl (rd_lenS tS22 rfl ((Nl.mk (hm360.sl_call 1 rfl) (Rows.app (Rows.app Rows.nil (hm360.rows_call 2 rfl) he112) (hm360.rows_call 3 rfl) he120)).get hz367 h364)) ?_
              refine t_rd rfl (rd_move rfl) ?_
              refine rwt_nil ?_
              refine qn_then ?_
              refine cw_block ?_
              obtain ⟨r425, hit426, q427⟩ := ob q365; clear q365
              refine cw_loop2 (I := fun q envq wq => Sub [(3, (Value.pointer (some ⟨g4, 0, none⟩))), (4, (Value.pointer (some ⟨g15, 0, none⟩))), (11, v121), (12, v129), (13, (Value.int .i64 i347)), (73, v121), (74, (Value.int .i64 (List.length l116 : Int))), (75, (Value.int .i64 i347)), (80, zd366.1), (81, (Value.int .i64 (List.length x363 : Int))), (82, (Value.int .i64 q.1))] envq ∧ Mem w No [ownL 44 v129 (q.2 : List T_Pushed), ownL 22 v121 ((([] ++ zs97) ++ zs99) : List Hdr), rowsC 3 zs97 (r93.1 : List (List Int)) none, rowsC 3 zs99 (r93.2.1 : List (List Int)) none, blk g15 27 [v11, (Value.int .i64 r8.2.2)], ownL 30 v11 (r51 : List T_Item), blk g4 56 [v0, (Value.int .i64 r8.1)]] wq) (X := fun eq envq wq => (∃ p428, r425 = (Sum.inl p428) ∧ eq = .ret ∧ retQ Try.prog 175 Try.f3 (fun u w' => u = (Value.bool p428) ∧ Mem w No [] w') .ret envq wq) ∨ (∃ p429, r425 = (Sum.inr p429) ∧ eq = .exit 4 ∧ Sub [(3, (Value.pointer (some ⟨g4, 0, none⟩))), (4, (Value.pointer (some ⟨g15, 0, none⟩))), (11, v121), (12, v129), (73, v121), (74, (Value.int .i64 (List.length l116 : Int))), (75, (Value.int .i64 i347))] envq ∧ Mem w No [ownL 44 v129 (p429 : List T_Pushed), ownL 22 v121 ((([] ++ zs97) ++ zs99) : List Hdr), rowsC 3 zs97 (r93.1 : List (List Int)) none, rowsC 3 zs99 (r93.2.1 : List (List Int)) none, blk g15 27 [v11, (Value.int .i64 r8.2.2)], ownL 30 v11 (r51 : List T_Item), blk g4 56 [v0, (Value.int .i64 r8.1)]] wq)) hit426 ⟨(by repeat (first | exact Sub.nil _ | refine Sub.cons rfl ?_)), (hm360.pick [0, 1, 2, 3, 4, 5, 6] (by decide) rfl)⟩ ?_ ?_
              · rintro ⟨i417, l418⟩ x420 env421 w422 hf423 hr424 ⟨hs_, hm_⟩
                have hs_ : Sub [(3, (Value.pointer (some ⟨g4, 0, none⟩))), (4, (Value.pointer (some ⟨g15, 0, none⟩))), (11, v121), (12, v129), (13, (Value.int .i64 i347)), (73, v121), (74, (Value.int .i64 (List.length l116 : Int))), (75, (Value.int .i64 i347)), (80, zd366.1), (81, (Value.int .i64 (List.length x363 : Int))), (82, (Value.int .i64 i417))] env421 := hs_
                have hm430 : Mem w No [ownL 44 v129 (l418 : List T_Pushed), ownL 22 v121 ((([] ++ zs97) ++ zs99) : List Hdr), rowsC 3 zs97 (r93.1 : List (List Int)) none, rowsC 3 zs99 (r93.2.1 : List (List Int)) none, blk g15 27 [v11, (Value.int .i64 r8.2.2)], ownL 30 v11 (r51 : List T_Item), blk g4 56 [v0, (Value.int .i64 r8.1)]] w422 := hm_
                refine cw_sub hs_ ?_
                clear hs_ hm_ q427
                have h : humpyardtop_TopCuts_l5 N r51 i347 x363 i417 l418 = some x420 := hf423
                clear hf423
                refine cw_seq ?_
                refine cw_region ?_
                refine t_rd rfl (rd_lss rfl rfl) ?_
                refine rwt_nil ?_
                refine qn_then ?_
                refine cw_seq ?_
                obtain ⟨hb431, q432⟩ | ⟨hb431, q432⟩ := oi h <;> clear h
                · refine cw_t rfl hb431 ?_
                  refine cw_skip ?_
                  refine qn_then ?_
                  refine cw_seq ?_
                  refine cw_block ?_
                  refine cw_seq ?_
                  refine cw_region ?_
                  obtain ⟨x433, h434, q435⟩ := ob q432; clear q432
                  refine t_rd rfl (rd_index tS22 rfl rfl ((Nl.mk (hm430.sl_call 1 rfl) (Rows.app (Rows.app Rows.nil (hm430.rows_call 2 rfl) he112) (hm430.rows_call 3 rfl) he120)).get hz367 h364) h434) ?_
                  refine t_rd rfl (rd_ld1 tO3 rfl (((Nl.mk (hm430.sl_call 1 rfl) (Rows.app (Rows.app Rows.nil (hm430.rows_call 2 rfl) he112) (hm430.rows_call 3 rfl) he120)).get hz367 h364).cells h434) (off := 0) rfl) ?_
                  refine t_rd rfl (rd_assign rfl) ?_
                  refine rwt_nil ?_
                  refine qn_then ?_
                  refine cw_seq ?_
                  refine cw_seq ?_
                  refine cw_region ?_
                  refine t_rd rfl (rd_move rfl) ?_
                  refine t_rd rfl (rd_lss rfl rfl) ?_
                  refine t_rd rfl (rd_move rfl) ?_
                  refine t_rdg rfl rfl rfl rfl (gv_f _) (fun hg436 => (rd_move rfl)) ?_
                  refine t_rdg rfl rfl rfl rfl (gv_f _) (fun hg437 => (rd_move rfl)) ?_
                  refine t_rdg rfl rfl rfl rfl (gv_f _) (fun hg438 => (rd_lenS tS42 (gvx rfl hg438) (hm430.sl 0 rfl))) ?_
                  refine t_rdg rfl rfl rfl rfl (gv_f _) (fun hg439 => (rd_geq (gvx rfl hg439) (gvx rfl hg439))) ?_
                  refine t_rd rfl (rd_or rfl (fun hc440 => (gvx rfl (bnotIt hc440)))) ?_
                  refine rwt_nil ?_
                  refine qn_then ?_
                  obtain ⟨hb441, q442⟩ | ⟨hb441, q442⟩ := oi q435 <;> clear q435
                  · refine cw_t rfl hb441 ?_
                    refine cw_seq ?_
                    refine cw_region ?_
                    refine t_rd rfl (rd_assign rfl) ?_
                    refine rwt_nil ?_
                    refine qn_then ?_
                    refine cw_ret ?_
                    refine qr_then (qr_block (qr_then (qr_then ?_)))
                    obtain rfl := hr424 _ (os q442)
                    refine .inl (⟨_, rfl, ⟨rfl, ?_⟩⟩)
                    exact ret1 rfl rfl ⟨rfl, (hm430.pick [] (by decide) rfl)⟩
                  · refine cw_f rfl hb441 ?_
                    refine cw_skip ?_
                    refine qn_then ?_
                    refine cw_region ?_
                    refine t_rd rfl (rd_move rfl) ?_
                    refine t_rd rfl (rd_move rfl) ?_
                    refine t_rd rfl (rd_fld tF27_0 rfl) ?_
                    refine t_rd rfl (rd_ld1 tO25 rfl (hm430.blk 4 rfl) (off := 0) rfl) ?_
                    refine t_rd rfl (rd_move rfl) ?_
                    obtain ⟨x443, h444, q445⟩ := ob q442; clear q442
                    refine t_rd rfl (rd_index tS25 rfl rfl (hm430.sl 5 rfl) h444) ?_
                    refine t_rd rfl (rd_fld tF30_3 rfl) ?_
                    refine t_rd rfl (rd_ld1 tO3 rfl ((hm430.sl 5 rfl).cells h444) (off := 3) rfl) ?_
                    refine t_rd rfl (rd_move rfl) ?_
                    refine t_rd rfl (rd_build (cs := #[(Value.int .i64 x443.Length), (Value.int .i64 4), (Value.int .i64 300), (Value.bool false), (Value.int .i64 i347)]) rfl (by kernel_rfl)) ?_
                    obtain ⟨x446, h447, q448⟩ := ob q445; clear q445
                    refine t_rd rfl (rd_index tS42 rfl rfl (hm430.sl 0 rfl) h447) ?_
                    refine t_ef0 (ef_stlw (k := 0) (x' := (T_Pushed.mk x443.Length 4 300 false i347)) hm430 tA44 rfl rfl rfl h447 rfl rfl) ?_
                    intro _ w450 hm449
                    refine rwt_nil ?_
                    refine qn_block (qn_then ?_)
                    refine cw_region ?_
                    obtain ⟨x451, h452, q453⟩ := ob q448; clear q448
                    refine t_rd rfl (rd_add64 h452 rfl rfl) ?_
                    refine t_rd rfl (rd_move rfl) ?_
                    refine rwt_nil ?_
                    refine qn_then ?_
                    refine ⟨_, (os q453), (by repeat (first | exact Sub.nil _ | refine Sub.cons rfl ?_)), (hm449.pick [0, 1, 2, 3, 4, 5, 6] (by decide) rfl)⟩
                · refine cw_f rfl hb431 ?_
                  refine cw_exit ?_
                  refine qx_then (qx_then ?_)
                  obtain rfl := hr424 _ (os q432)
                  exact .inr (⟨_, rfl, ⟨rfl, (by repeat (first | exact Sub.nil _ | refine Sub.cons rfl ?_)), (hm430.pick [0, 1, 2, 3, 4, 5, 6] (by decide) rfl)⟩⟩)
              · skip
                intro e env454 w455 hX456
                rcases hX456 with hX456 | hX456
                · obtain ⟨p458, rfl, hX456⟩ := hX456
                  obtain ⟨rfl, hq460⟩ := hX456
                  obtain rfl := hr354 _ (os q427)
                  exact qr_block (qr_block (qr_then (qr_then (.inl (⟨_, rfl, ⟨rfl, hq460⟩⟩)))))
                · obtain ⟨p461, rfl, hX456⟩ := hX456
                  obtain ⟨rfl, hs462, hm463⟩ := hX456
                  refine qx_same (qn_block (qn_then ?_))
                  refine cw_sub hs462 ?_
                  refine cw_region ?_
                  obtain ⟨x464, h465, q466⟩ := ob q427; clear q427
                  refine t_rd rfl (rd_add64 h465 rfl rfl) ?_
                  refine t_rd rfl (rd_move rfl) ?_
                  refine rwt_nil ?_
                  refine qn_then ?_
                  refine ⟨_, (os q466), (by repeat (first | exact Sub.nil _ | refine Sub.cons rfl ?_)), (hm463.pick [0, 1, 2, 3, 4, 5, 6] (by decide) rfl)⟩
            · refine cw_f rfl hb361 ?_
              refine cw_exit ?_
              refine qx_then (qx_then ?_)
              obtain rfl := hr354 _ (os q362)
              exact .inr (⟨_, rfl, ⟨rfl, (by repeat (first | exact Sub.nil _ | refine Sub.cons rfl ?_)), (hm360.pick [0, 1, 2, 3, 6] (by decide) rfl)⟩⟩)
          · skip
            intro e env467 w468 hX469
            rcases hX469 with hX469 | hX469
            · obtain ⟨p471, rfl, hX469⟩ := hX469
              obtain ⟨rfl, hq473⟩ := hX469
              exact qr_block (qr_then ((by have e := os q357; subst e; exact hq473)))
            · obtain ⟨p474, rfl, hX469⟩ := hX469
              obtain ⟨rfl, hs475, hm476⟩ := hX469
              refine qx_same (qn_then ?_)
              refine cw_sub hs475 ?_
              refine cw_seq ?_
              refine cw_region ?_
              refine t_rd rfl (rd_move rfl) ?_
              refine t_rd rfl (rd_move rfl) ?_
              obtain ⟨r477, h478, q479⟩ := ob q357; clear q357
              refine t_ef rfl (ef_call tf10 rfl (Maker_From_ok h478 (hv0.to_callT (k := 4) hm476 rfl) (hm476.get (k := 4) rfl))) ?_
              rintro _ w481 ⟨e_, hm480⟩
              obtain rfl := e_.symm
              have hm482 := hm476.callT (k := 4) rfl (fun _ h => h) hm480 (fun _ => Iff.rfl)
              refine t_rd rfl (rd_build (cs := #[(Value.int .i64 r477.2), (Value.int .i64 20), (Value.int .i64 1000)]) rfl (by kernel_rfl)) ?_
              obtain ⟨r483, h484, q485⟩ := ob q479; clear q479
              refine t_ef rfl (ef_call tf9 rfl (cut_Form_ok h484 (hm482.sl_call 0 rfl))) ?_
              rintro _ w488 ⟨v486, e_, hm487⟩
              obtain rfl := e_.symm
              have hm489 := hm482.call hm487
              refine t_rd rfl (rd_move rfl) ?_
              refine t_rd rfl (rd_extract rfl rfl) ?_
              refine t_rd rfl (rd_extract rfl rfl) ?_
              refine t_rd rfl (rd_assign rfl) ?_
              refine t_rd rfl (rd_assign rfl) ?_
              refine rwt_nil ?_
              refine qn_then ?_
              refine cw_seq ?_
              refine cw_seq ?_
              refine cw_region ?_
              refine t_rd rfl (rd_move rfl) ?_
              refine t_rd rfl (rd_neq rfl rfl) ?_
              refine rwt_nil ?_
              refine qn_then ?_
              obtain ⟨hb490, q491⟩ | ⟨hb490, q491⟩ := oi q485 <;> clear q485
              · refine cw_t rfl hb490 ?_
                refine cw_seq ?_
                refine cw_region ?_
                refine t_rd rfl (rd_assign rfl) ?_
                refine rwt_nil ?_
                refine qn_then ?_
                refine cw_ret ?_
                refine qr_then ?_
                obtain rfl := os q491
                exact ret1 rfl rfl ⟨rfl, (hm489.pick [] (by decide) rfl)⟩
              · refine cw_f rfl hb490 ?_
                refine cw_skip ?_
                refine qn_then ?_
                refine cw_seq ?_
                refine cw_region ?_
                refine t_rd rfl (rd_move rfl) ?_
                refine t_rd rfl (rd_lenS tS39 rfl ((Nl.mk (hm489.sl_call 2 rfl) (Rows.app (Rows.app Rows.nil (hm489.rows_call 3 rfl) he112) (hm489.rows_call 4 rfl) he120)).sl)) ?_
                obtain ⟨l492, h493, q494⟩ := ob q491; clear q491
                refine t_ef rfl (ef_make (z := nilH) hm489 tS39 tE22 rfl rfl rfl (mkL_h h493)) ?_
                intro v495 w497 hm496
                have hm498 := hm496.rowsRep (α := Int) 3 h493
                refine t_rd rfl (rd_assign rfl) ?_
                refine rwt_nil ?_
                refine qn_then ?_
                refine cw_seq ?_
                refine cw_seq ?_
                refine cw_region ?_
                refine t_rd rfl (rd_move rfl) ?_
                refine t_rd rfl (rd_lenS tS45 rfl (hm498.sl 2 rfl)) ?_
                refine t_rd rfl (rd_move rfl) ?_
                refine rwt_nil ?_
                refine qn_then ?_
                refine cw_block ?_
                obtain ⟨r1134, hit1135, q1136⟩ := ob q494; clear q494
                refine cw_loop2 (I := fun q envq wq => ∃ (v1126 : Value) (zs1127 : List Hdr), Sub [(11, v121), (12, v129), (19, v1126), (120, v486), (121, (Value.int .i64 (List.length r483.1 : Int))), (122, (Value.int .i64 q.1))] envq ∧ Mem w No [rowsC 3 zs1127 (q.2 : List (List Int)) none, ownL 22 v1126 (zs1127 : List Hdr), ownL 52 v486 (r483.1 : List T_Cut), ownL 44 v129 (p474 : List T_Pushed), ownL 22 v121 ((([] ++ zs97) ++ zs99) : List Hdr), rowsC 3 zs97 (r93.1 : List (List Int)) none, rowsC 3 zs99 (r93.2.1 : List (List Int)) none] wq) (X := fun eq envq wq => (∃ p1137, r1134 = (Sum.inl p1137) ∧ eq = .ret ∧ retQ Try.prog 175 Try.f3 (fun u w' => u = (Value.bool p1137) ∧ Mem w No [] w') .ret envq wq) ∨ (∃ p1138, r1134 = (Sum.inr p1138) ∧ eq = .exit 6 ∧ ∃ (v1122 : Value) (zs1123 : List Hdr), Sub [(11, v121), (19, v1122)] envq ∧ Mem w No [rowsC 3 zs1123 (p1138 : List (List Int)) none, ownL 22 v1122 (zs1123 : List Hdr), ownL 22 v121 ((([] ++ zs97) ++ zs99) : List Hdr), rowsC 3 zs97 (r93.1 : List (List Int)) none, rowsC 3 zs99 (r93.2.1 : List (List Int)) none] wq)) hit1135 ⟨v495, (List.replicate (Int.toNat (List.length l116 : Int)) nilH), (by repeat (first | exact Sub.nil _ | refine Sub.cons rfl ?_)), (hm498.pick [0, 1, 2, 3, 4, 5, 6] (by decide) rfl)⟩ ?_ ?_
                · rintro ⟨i1124, l1125⟩ x1129 env1130 w1131 hf1132 hr1133 ⟨v1126, zs1127, hs_, hm_⟩
                  have hs_ : Sub [(11, v121), (12, v129), (19, v1126), (120, v486), (121, (Value.int .i64 (List.length r483.1 : Int))), (122, (Value.int .i64 i1124))] env1130 := hs_
                  have hm1139 : Mem w No [rowsC 3 zs1127 (l1125 : List (List Int)) none, ownL 22 v1126 (zs1127 : List Hdr), ownL 52 v486 (r483.1 : List T_Cut), ownL 44 v129 (p474 : List T_Pushed), ownL 22 v121 ((([] ++ zs97) ++ zs99) : List Hdr), rowsC 3 zs97 (r93.1 : List (List Int)) none, rowsC 3 zs99 (r93.2.1 : List (List Int)) none] w1131 := hm_
                  refine cw_sub hs_ ?_
                  clear hs_ hm_ q1136
                  have h : humpyardtop_TopCuts_l8 N p474 r483 i1124 l1125 = some x1129 := hf1132
                  clear hf1132
                  refine cw_seq ?_
                  refine cw_region ?_
                  refine t_rd rfl (rd_lss rfl rfl) ?_
                  refine rwt_nil ?_
                  refine qn_then ?_
                  refine cw_seq ?_
                  obtain ⟨hb1140, q1141⟩ | ⟨hb1140, q1141⟩ := oi h <;> clear h
                  · refine cw_t rfl hb1140 ?_
                    refine cw_skip ?_
                    refine qn_then ?_
                    refine cw_seq ?_
                    refine cw_block ?_
                    refine cw_seq ?_
                    refine cw_region ?_
                    obtain ⟨x1142, h1143, q1144⟩ := ob q1141; clear q1141
                    refine t_rd rfl (rd_index tS45 rfl rfl (hm1139.sl 2 rfl) h1143) ?_
                    refine t_rd rfl (rd_ld tA52 rfl ((hm1139.sl 2 rfl).cells h1143) rfl) ?_
                    refine t_ef rfl (ef_alloc hm1139 tZ52 rfl) ?_
                    rintro _ w1147 ⟨g1145, rfl, hm1146⟩
                    refine t_ef0 (ef_stw (k := 0) hm1146 tA52 rfl rfl (oc_cons rfl (oc_cons rfl (oc_cons rfl (oc_cons rfl oc_nil)))) rfl rfl rfl) ?_
                    intro _ w1149 hm1148
                    refine rwt_nil ?_
                    refine qn_then ?_
                    refine cw_seq ?_
                    refine cw_seq ?_
                    refine cw_region ?_
                    refine t_rd rfl (rd_fld tF52_2 rfl) ?_
                    refine t_rd rfl (rd_ld1 tO3 rfl (hm1148.blk 0 rfl) (off := 2) rfl) ?_
                    refine t_rd rfl (rd_lss rfl rfl) ?_
                    refine t_rd rfl (rd_move rfl) ?_
                    refine t_rdg rfl rfl rfl rfl (gv_f _) (fun hg1150 => (rd_fld tF52_2 rfl)) ?_
                    refine t_rdg rfl rfl rfl rfl (gv_f _) (fun hg1151 => (rd_ld1 tO3 (gvx rfl hg1151) (hm1148.blk 0 rfl) (off := 2) rfl)) ?_
                    refine t_rdg rfl rfl rfl rfl (gv_f _) (fun hg1152 => (rd_move rfl)) ?_
                    refine t_rdg rfl rfl rfl rfl (gv_f _) (fun hg1153 => (rd_lenS tS39 (gvx rfl hg1153) ((Nl.mk (hm1148.sl_call 2 rfl) (hm1148.rows_call 1 rfl)).sl))) ?_
                    refine t_rdg rfl rfl rfl rfl (gv_f _) (fun hg1154 => (rd_geq (gvx rfl hg1154) (gvx rfl hg1154))) ?_
                    refine t_rd rfl (rd_or rfl (fun hc1155 => (gvx rfl (bnotIt hc1155)))) ?_
                    refine t_rd rfl (rd_move rfl) ?_
                    refine t_rdg rfl rfl rfl rfl (gv_f _) (fun hg1156 => (rd_fld tF52_0 rfl)) ?_
                    refine t_rdg rfl rfl rfl rfl (gv_f _) (fun hg1157 => (rd_ld1 tO3 (gvx rfl hg1157) (hm1148.blk 0 rfl) (off := 0) rfl)) ?_
                    refine t_rdg rfl rfl rfl rfl (gv_f _) (fun hg1158 => (rd_lss (gvx rfl hg1158) rfl)) ?_
                    refine t_rd rfl (rd_or rfl (fun hc1159 => (gvx rfl (bnotIt hc1159)))) ?_
                    refine t_rd rfl (rd_move rfl) ?_
                    refine t_rdg rfl rfl rfl rfl (gv_f _) (fun hg1160 => (rd_fld tF52_1 rfl)) ?_
                    refine t_rdg rfl rfl rfl rfl (gv_f _) (fun hg1161 => (rd_ld1 tO3 (gvx rfl hg1161) (hm1148.blk 0 rfl) (off := 1) rfl)) ?_
                    refine t_rdg rfl rfl rfl rfl (gv_f _) (fun hg1162 => (rd_move rfl)) ?_
                    refine t_rdg rfl rfl rfl rfl (gv_f _) (fun hg1163 => (rd_lenS tS42 (gvx rfl hg1163) (hm1148.sl 4 rfl))) ?_
                    refine t_rdg rfl rfl rfl rfl (gv_f _) (fun hg1164 => (rd_gtr (gvx rfl hg1164) (gvx rfl hg1164))) ?_
                    refine t_rd rfl (rd_or rfl (fun hc1165 => (gvx rfl (bnotIt hc1165)))) ?_
                    refine rwt_nil ?_
                    refine qn_then ?_
                    obtain ⟨hb1166, q1167⟩ | ⟨hb1166, q1167⟩ := oi q1144 <;> clear q1144
                    · refine cw_t rfl hb1166 ?_
                      refine cw_seq ?_
                      refine cw_region ?_
                      refine t_rd rfl (rd_assign rfl) ?_
                      refine rwt_nil ?_
                      refine qn_then ?_
                      refine cw_ret ?_
                      refine qr_then (qr_block (qr_then (qr_then ?_)))
                      obtain rfl := hr1133 _ (os q1167)
                      refine .inl (⟨_, rfl, ⟨rfl, ?_⟩⟩)
                      exact ret1 rfl rfl ⟨rfl, (hm1148.pick [] (by decide) rfl)⟩
                    · refine cw_f rfl hb1166 ?_
                      refine cw_skip ?_
                      refine qn_then ?_
                      refine cw_seq ?_
                      refine cw_region ?_
                      refine t_rd rfl (rd_fld tF52_0 rfl) ?_
                      refine t_rd rfl (rd_ld1 tO3 rfl (hm1148.blk 0 rfl) (off := 0) rfl) ?_
                      refine t_rd rfl (rd_assign rfl) ?_
                      refine rwt_nil ?_
                      refine qn_then ?_
                      refine cw_block ?_
                      obtain ⟨r1353, hit1354, q1355⟩ := ob q1167; clear q1167
                      refine cw_loop2 (I := fun q envq wq => ∃ (v1345 : Value) (zs1346 : List Hdr), Sub [(11, v121), (12, v129), (19, v1345), (21, (Value.pointer (some ⟨g1145, 0, none⟩))), (22, (Value.int .i64 q.1)), (120, v486), (121, (Value.int .i64 (List.length r483.1 : Int))), (122, (Value.int .i64 i1124))] envq ∧ Mem w No [blk g1145 52 [(Value.int .i64 x1142.From), (Value.int .i64 x1142.To), (Value.int .i64 x1142.Track), (Value.bool x1142.Engine)], rowsC 3 zs1346 (q.2 : List (List Int)) none, ownL 22 v1345 (zs1346 : List Hdr), ownL 52 v486 (r483.1 : List T_Cut), ownL 44 v129 (p474 : List T_Pushed), ownL 22 v121 ((([] ++ zs97) ++ zs99) : List Hdr), rowsC 3 zs97 (r93.1 : List (List Int)) none, rowsC 3 zs99 (r93.2.1 : List (List Int)) none] wq) (X := fun eq envq wq => eq = .exit 8 ∧ ∃ (v1341 : Value) (zs1342 : List Hdr), Sub [(11, v121), (12, v129), (19, v1341), (120, v486), (121, (Value.int .i64 (List.length r483.1 : Int))), (122, (Value.int .i64 i1124))] envq ∧ Mem w No [rowsC 3 zs1342 (r1353 : List (List Int)) none, ownL 22 v1341 (zs1342 : List Hdr), ownL 52 v486 (r483.1 : List T_Cut), ownL 44 v129 (p474 : List T_Pushed), ownL 22 v121 ((([] ++ zs97) ++ zs99) : List Hdr), rowsC 3 zs97 (r93.1 : List (List Int)) none, rowsC 3 zs99 (r93.2.1 : List (List Int)) none] wq) hit1354 ⟨v1126, zs1127, (by repeat (first | exact Sub.nil _ | refine Sub.cons rfl ?_)), (hm1148.pick [0, 1, 2, 3, 4, 5, 6, 7] (by decide) rfl)⟩ ?_ ?_
                      · rintro ⟨i1343, l1344⟩ x1348 env1349 w1350 hf1351 hr1352 ⟨v1345, zs1346, hs_, hm_⟩
                        have hs_ : Sub [(11, v121), (12, v129), (19, v1345), (21, (Value.pointer (some ⟨g1145, 0, none⟩))), (22, (Value.int .i64 i1343)), (120, v486), (121, (Value.int .i64 (List.length r483.1 : Int))), (122, (Value.int .i64 i1124))] env1349 := hs_
                        have hm1356 : Mem w No [blk g1145 52 [(Value.int .i64 x1142.From), (Value.int .i64 x1142.To), (Value.int .i64 x1142.Track), (Value.bool x1142.Engine)], rowsC 3 zs1346 (l1344 : List (List Int)) none, ownL 22 v1345 (zs1346 : List Hdr), ownL 52 v486 (r483.1 : List T_Cut), ownL 44 v129 (p474 : List T_Pushed), ownL 22 v121 ((([] ++ zs97) ++ zs99) : List Hdr), rowsC 3 zs97 (r93.1 : List (List Int)) none, rowsC 3 zs99 (r93.2.1 : List (List Int)) none] w1350 := hm_
                        refine cw_sub hs_ ?_
                        clear hs_ hm_ q1355
                        have h : humpyardtop_TopCuts_l9 N x1142 i1343 l1344 = some x1348 := hf1351
                        clear hf1351
                        refine cw_seq ?_
                        refine cw_seq ?_
                        refine cw_region ?_
                        refine t_rd rfl (rd_move rfl) ?_
                        refine t_rd rfl (rd_fld tF52_1 rfl) ?_
                        refine t_rd rfl (rd_ld1 tO3 rfl (hm1356.blk 0 rfl) (off := 1) rfl) ?_
                        refine t_rd rfl (rd_lss rfl rfl) ?_
                        refine rwt_nil ?_
                        refine qn_then ?_
                        obtain ⟨hb1357, q1358⟩ | ⟨hb1357, q1358⟩ := oi h <;> clear h
                        · refine cw_t rfl hb1357 ?_
                          refine cw_skip ?_
                          refine qn_then ?_
                          refine cw_seq ?_
                          refine cw_block ?_
                          obtain ⟨w1385, he1387⟩ : ∃ q, q = w1350.drew := ⟨_, rfl⟩
                          have hm1386 := hm1356.drew; rw [← he1387] at hm1386
                          refine cw_region_s (fun q => (blk g1145 52 [(Value.int .i64 x1142.From), (Value.int .i64 x1142.To), (Value.int .i64 x1142.Track), (Value.bool x1142.Engine)]).φ q ∧ (ownL 22 v1345 (zs1346 : List Hdr)).φ q) (cls [9, 10] [12]) mixed ?_
                          rintro _ rfl; rw [← he1387]
                          refine s_rp (i := 0) rfl (by kernel_rfl) rfl (fun _ => (rd_move rfl)) ?_
                          refine s_rp (i := 1) rfl (by kernel_rfl) rfl (fun _ => (rd_fld tF52_2 rfl)) ?_
                          refine s_rd (i := 2) rfl (by kernel_rfl) rfl (fun w1384 hS => (rd_ld1 tO3 rfl (cells_blk hS.1) (off := 2) rfl)) ⟨(hm1386.get (k := 0) rfl), (hm1386.get (k := 2) rfl)⟩ ?_
                          refine s_rp (i := 3) rfl (by kernel_rfl) rfl (fun _ => (rd_move rfl)) ?_
                          refine s_rp (i := 4) rfl (by kernel_rfl) rfl (fun _ => (rd_fld tF52_2 rfl)) ?_
                          refine s_rd (i := 5) rfl (by kernel_rfl) rfl (fun w1384 hS => (rd_ld1 tO3 rfl (cells_blk hS.1) (off := 2) rfl)) ⟨(hm1386.get (k := 0) rfl), (hm1386.get (k := 2) rfl)⟩ ?_
                          obtain ⟨x1413, h1414, q1415⟩ := ob q1358; clear q1358
                          refine s_rp (i := 6) rfl (by kernel_rfl) rfl (fun _ => (rd_index tS39 rfl rfl ((Nl.mk (hm1386.sl_call 2 rfl) (hm1386.rows_call 1 rfl)).sl) h1414)) ?_
                          obtain ⟨zd1416, hz1417⟩ := (Nl.mk (hm1386.sl_call 2 rfl) (hm1386.rows_call 1 rfl)).row h1414
                          refine s_rd (i := 7) rfl (by kernel_rfl) rfl (fun w1384 hS => (rd_ld1 tO22 rfl ((sl_of_own hS.2).cells hz1417) (off := 0) rfl)) ⟨(hm1386.get (k := 0) rfl), (hm1386.get (k := 2) rfl)⟩ ?_
                          refine s_rp (i := 8) rfl (by kernel_rfl) rfl (fun _ => (rd_move rfl)) ?_
                          refine s_ef (i := 9) rfl (by kernel_rfl) rfl (ef_bslice (l := ([i1343] : List Int)) hm1386 tS22 rfl (cs := #[(Value.int .i64 i1343)]) (by unfold bsl; kernel_rfl) rfl rfl) (by decide) ?_ ?_
                          · intro v1418 w1420 hm1419
                            intro _
                            exact ⟨(hm1419.get (k := 1) rfl), (hm1419.get (k := 3) rfl)⟩
                          intro v1418 w1420 hm1419
                          have hm1421 := hm1419.pick [2, 0, 1, 3, 4, 5, 6, 7, 8] (L' := [rowsC 3 zs1346 (l1344 : List (List Int)) none, ownL 3 v1418 ([i1343] : List Int), blk g1145 52 [(Value.int .i64 x1142.From), (Value.int .i64 x1142.To), (Value.int .i64 x1142.Track), (Value.bool x1142.Engine)], ownL 22 v1345 (zs1346 : List Hdr), ownL 52 v486 (r483.1 : List T_Cut), ownL 44 v129 (p474 : List T_Pushed), ownL 22 v121 ((([] ++ zs97) ++ zs99) : List Hdr), rowsC 3 zs97 (r93.1 : List (List Int)) none, rowsC 3 zs99 (r93.2.1 : List (List Int)) none]) (by decide) rfl
                          have hm1422 := hm1421.focus hz1417 h1414
                          obtain ⟨l1423, h1424, q1425⟩ := ob q1415; clear q1415
                          refine s_ef (i := 10) rfl (by kernel_rfl) rfl (ef_append (k := 1) hm1422 tS22 tE3 rfl rfl rfl rfl (hm1422.sl 2 rfl) h1424) (by decide) ?_ ?_
                          · intro v1426 w1428 hm1427
                            intro _
                            exact ⟨(hm1427.get (k := 3) rfl), (hm1427.get (k := 4) rfl)⟩
                          intro v1426 w1428 hm1427
                          obtain ⟨zd1429, hz1430⟩ := rowI (hm1427.get (k := 0) rfl).1 h1414
                          refine s_rp (i := 11) rfl (by kernel_rfl) rfl (fun _ => (rd_index (α := Hdr) tS39 rfl rfl (hm1427.sl 4 rfl) hz1430)) ?_
                          obtain ⟨zd1431, ez1432⟩ : ∃ z : Hdr, z.1 = v1426 := ⟨⟨v1426, sl_one (hm1427.sl 1 rfl)⟩, rfl⟩
                          obtain ⟨zd1433, hz1434⟩ := rowI (hm1427.get (k := 0) rfl).1 h1414
                          refine s_ef0 (i := 12) rfl (by kernel_rfl) (ef_stl (k := 4) (off := 0) (x' := zd1431) hm1427 tO22 rfl rfl (sl_one (hm1427.sl 1 rfl)) rfl hz1434 (by show [v1426] = [zd1431.1]; rw [ez1432]) rfl) (by decide) (fun _ _ _ q => absurd q (by decide)) ?_
                          intro _ w1436 hm1435
                          have hm1437 := hm1435.fill ez1432
                          refine s_nil (by kernel_rfl) ?_
                          refine qn_block (qn_then ?_)
                          refine cw_region ?_
                          refine t_rd rfl (rd_move rfl) ?_
                          obtain ⟨x1438, h1439, q1440⟩ := ob q1425; clear q1425
                          refine t_rd rfl (rd_add64 h1439 rfl rfl) ?_
                          refine t_rd rfl (rd_assign rfl) ?_
                          refine rwt_nil ?_
                          refine qn_then ?_
                          refine ⟨_, (os q1440), v1345, (List.set zs1346 (Int.toNat x1142.Track) zd1431), (by repeat (first | exact Sub.nil _ | refine Sub.cons rfl ?_)), (hm1437.pick [2, 0, 3, 4, 5, 6, 7, 8] (by decide) rfl)⟩
                        · refine cw_f rfl hb1357 ?_
                          refine cw_exit ?_
                          refine qx_then (qx_then ?_)
                          obtain rfl := hr1352 _ (os q1358)
                          exact ⟨rfl, v1345, zs1346, (by repeat (first | exact Sub.nil _ | refine Sub.cons rfl ?_)), (hm1356.pick [1, 2, 3, 4, 5, 6, 7] (by decide) rfl)⟩
                      · skip
                        intro e env1441 w1442 hX1443
                        obtain ⟨rfl, v1341, zs1342, hs1444, hm1445⟩ := hX1443
                        refine qx_same (qn_block (qn_then ?_))
                        refine cw_sub hs1444 ?_
                        refine cw_region ?_
                        obtain ⟨x1446, h1447, q1448⟩ := ob q1355; clear q1355
                        refine t_rd rfl (rd_add64 h1447 rfl rfl) ?_
                        refine t_rd rfl (rd_move rfl) ?_
                        refine rwt_nil ?_
                        refine qn_then ?_
                        refine ⟨_, (os q1448), v1341, zs1342, (by repeat (first | exact Sub.nil _ | refine Sub.cons rfl ?_)), (hm1445.pick [0, 1, 2, 3, 4, 5, 6] (by decide) rfl)⟩
                  · refine cw_f rfl hb1140 ?_
                    refine cw_exit ?_
                    refine qx_then (qx_then ?_)
                    obtain rfl := hr1133 _ (os q1141)
                    exact .inr (⟨_, rfl, ⟨rfl, v1126, zs1127, (by repeat (first | exact Sub.nil _ | refine Sub.cons rfl ?_)), (hm1139.pick [0, 1, 4, 5, 6] (by decide) rfl)⟩⟩)
                · skip
                  intro e env1449 w1450 hX1451
                  rcases hX1451 with hX1451 | hX1451
                  · obtain ⟨p1453, rfl, hX1451⟩ := hX1451
                    obtain ⟨rfl, hq1455⟩ := hX1451
                    exact qr_block (qr_then ((by have e := os q1136; subst e; exact hq1455)))
                  · obtain ⟨p1456, rfl, hX1451⟩ := hX1451
                    obtain ⟨rfl, v1122, zs1123, hs1457, hm1458⟩ := hX1451
                    refine qx_same (qn_then ?_)
                    refine cw_sub hs1457 ?_
                    refine cw_seq ?_
                    refine cw_region ?_
                    refine t_rd rfl (rd_move rfl) ?_
                    refine t_rd rfl (rd_move rfl) ?_
                    obtain ⟨r1459, h1460, q1461⟩ := ob q1136; clear q1136
                    refine t_ef rfl (ef_call tf11 rfl (humpgen_Lists_ok h1460 ((Nl.mk (hm1458.sl_call 1 rfl) (hm1458.rows_call 0 rfl)).sl) ((Nl.mk (hm1458.sl_call 2 rfl) (Rows.app (Rows.app Rows.nil (hm1458.rows_call 3 rfl) he112) (hm1458.rows_call 4 rfl) he120)).sl))) ?_
                    rintro _ w1463 ⟨e_, hm1462⟩
                    obtain rfl := e_.symm
                    have hm1464 := hm1458.call hm1462
                    refine t_rd rfl (rd_move rfl) ?_
                    obtain ⟨r1466, h1467, q1468⟩ := ob q1461; clear q1461
                    refine t_efg rfl rfl rfl rfl (R := (fun v w' => v = gV r1459 (Value.bool r1466) ∧ Mem w1463 No [] w')) (gv_t _) (fun hg1465 => (ef_call tf7 rfl (humpyardtop_awake_ok (gO_t h1467 hg1465))).mono (by rintro _ _ ⟨rfl, q⟩; exact ⟨(gV_t hg1465).symm, q⟩)) (fun q => ⟨(gV_f q).symm, Mem.nil _⟩) ?_
                    rintro _ w1470 ⟨rfl, hm1469⟩
                    have hm1471 := hm1464.call hm1469
                    refine t_rd rfl (rd_and rfl (fun hc1472 => (gvx rfl hc1472))) ?_
                    refine t_rd rfl (rd_assign rfl) ?_
                    refine rwt_nil ?_
                    refine qn_then ?_
                    refine cw_ret ?_
                    obtain rfl := os q1468
                    exact ret1 rfl rfl ⟨rfl, (hm1471.pick [] (by decide) rfl)⟩

end Go.Proofs.Ytlpkbkbjohhleaa
