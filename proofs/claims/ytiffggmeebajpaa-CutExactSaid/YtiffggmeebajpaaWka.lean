/- Each call computes what its mirror does; written by a program of mine (gowalk.py). -/
import Derived.Test.YtiffggmeebajpaaTy
namespace Go.Proofs.Ytiffggmeebajpaa
open Go.Gv Go.RowKit
set_option linter.unusedVariables false
set_option maxRecDepth 100000

theorem cut_in_ok {N : Nat} {a0 : Int} {a1 : Int} {a2 : Int} {res : Bool} (h : cut_in N a0 a1 a2 = some res) {w : World}   :
    CallsR Try.prog 31 [(Value.int .i64 a0), (Value.int .i64 a1), (Value.int .i64 a2)] w (fun u w' => u = (Value.bool res) ∧ Mem w No [] w') := by
  unfold cut_in at h
  refine fn_ok Try.func31 rfl rfl rfl ?_
  have hm0 := Mem.nil w
  refine cw_seq ?_
  refine cw_region ?_
  refine t_rd rfl (rd_assign rfl) ?_
  refine rwt_nil ?_
  refine qn_then ?_
  refine cw_seq ?_
  refine cw_region ?_
  refine t_rd rfl (rd_move rfl) ?_
  refine t_rd rfl (rd_move rfl) ?_
  refine t_rd rfl (rd_geq rfl rfl) ?_
  refine t_rd rfl (rd_move rfl) ?_
  refine t_rdg rfl rfl rfl rfl (gv_t _) (fun hg1 => (rd_move rfl)) ?_
  refine t_rdg rfl rfl rfl rfl (gv_t _) (fun hg2 => (rd_move rfl)) ?_
  refine t_rdg rfl rfl rfl rfl (gv_t _) (fun hg3 => (rd_leq (gvx rfl hg3) (gvx rfl hg3))) ?_
  refine t_rd rfl (rd_and rfl (fun hc4 => (gvx rfl hc4))) ?_
  refine t_rd rfl (rd_assign rfl) ?_
  refine rwt_nil ?_
  refine qn_then ?_
  refine cw_ret ?_
  obtain rfl := os h
  exact ret1 rfl rfl ⟨rfl, (hm0.pick [] (by decide) rfl)⟩

theorem cut_longest_ok {N : Nat} {a0 : List T_Pushed} {a1 : T_CutRules} {a2 : Int} {a3 : Int} {res : Int} (h : cut_longest N a0 a1 a2 a3 = some res) {w : World} {v0 : Value} (hv0 : Sl (Old w No) w v0 a0) :
    CallsR Try.prog 23 [v0, (Value.agg (Flat.enc a1).toArray), (Value.int .i64 a2), (Value.int .i64 a3)] w (fun u w' => u = (Value.int .i64 res) ∧ Mem w No [] w') := by
  unfold cut_longest at h
  refine fn_ok Try.func23 rfl rfl rfl ?_
  have hm0 := Mem.nil w
  refine cw_seq ?_
  refine cw_region ?_
  refine t_ef rfl (ef_box hm0 rfl rfl) ?_
  rintro _ w3 ⟨g1, rfl, hm2⟩
  refine t_rd rfl (rd_assign rfl) ?_
  refine rwt_nil ?_
  refine qn_then ?_
  refine cw_seq ?_
  refine cw_region ?_
  refine t_rd rfl (rd_assign rfl) ?_
  refine t_rd rfl (rd_assign rfl) ?_
  refine rwt_nil ?_
  refine qn_then ?_
  refine cw_seq ?_
  refine cw_region ?_
  refine t_rd rfl (rd_move rfl) ?_
  refine t_rd rfl (rd_assign rfl) ?_
  refine rwt_nil ?_
  refine qn_then ?_
  refine cw_seq ?_
  refine cw_block ?_
  obtain ⟨r163, hit164, q165⟩ := ob h; clear h
  refine cw_loop2 (I := fun q envq wq => Sub [(0, v0), (2, (Value.int .i64 a2)), (3, (Value.int .i64 a3)), (5, (Value.pointer (some ⟨g1, 0, none⟩))), (9, (Value.int .i64 q.1)), (10, (Value.int .i64 q.2.1)), (11, (Value.int .i64 q.2.2))] envq ∧ Mem w No [blk g1 23 [(Value.int .i64 a1.Wagons), (Value.int .i64 a1.Axles), (Value.int .i64 a1.Length)]] wq) (X := fun eq envq wq => eq = .exit 0 ∧ Sub [(11, (Value.int .i64 r163))] envq ∧ Mem w No [] wq) hit164 ⟨(by repeat (first | exact Sub.nil _ | refine Sub.cons rfl ?_)), (hm2.pick [0] (by decide) rfl)⟩ ?_ ?_
  · rintro ⟨i154, i155, i156⟩ x158 env159 w160 hf161 hr162 ⟨hs_, hm_⟩
    have hs_ : Sub [(0, v0), (2, (Value.int .i64 a2)), (3, (Value.int .i64 a3)), (5, (Value.pointer (some ⟨g1, 0, none⟩))), (9, (Value.int .i64 i154)), (10, (Value.int .i64 i155)), (11, (Value.int .i64 i156))] env159 := hs_
    have hm166 : Mem w No [blk g1 23 [(Value.int .i64 a1.Wagons), (Value.int .i64 a1.Axles), (Value.int .i64 a1.Length)]] w160 := hm_
    refine cw_sub hs_ ?_
    clear hs_ hm_ q165
    have h : cut_longest_l1 N a0 a1 a2 a3 i154 i155 i156 = some x158 := hf161
    clear hf161
    refine cw_seq ?_
    refine cw_seq ?_
    refine cw_region ?_
    refine t_rd rfl (rd_move rfl) ?_
    refine t_rd rfl (rd_move rfl) ?_
    refine t_rd rfl (rd_lss rfl rfl) ?_
    refine rwt_nil ?_
    refine qn_then ?_
    obtain ⟨hb167, q168⟩ | ⟨hb167, q168⟩ := oi h <;> clear h
    · refine cw_t rfl hb167 ?_
      refine cw_skip ?_
      refine qn_then ?_
      refine cw_block ?_
      refine cw_seq ?_
      refine cw_region ?_
      refine t_rd rfl (rd_move rfl) ?_
      refine t_rd rfl (rd_move rfl) ?_
      obtain ⟨x169, h170, q171⟩ := ob q168; clear q168
      refine t_rd rfl (rd_index tS24 rfl rfl (hv0.of_old hm166) h170) ?_
      refine t_rd rfl (rd_ld tA26 rfl ((hv0.of_old hm166).cells h170) rfl) ?_
      refine t_ef rfl (ef_alloc hm166 tZ26 rfl) ?_
      rintro _ w174 ⟨g172, rfl, hm173⟩
      refine t_ef0 (ef_stw (k := 0) hm173 tA26 rfl rfl (oc_cons rfl (oc_cons rfl (oc_cons rfl (oc_cons rfl (oc_cons rfl oc_nil))))) rfl rfl rfl) ?_
      intro _ w176 hm175
      refine rwt_nil ?_
      refine qn_then ?_
      refine cw_seq ?_
      refine cw_region ?_
      refine t_rd rfl (rd_move rfl) ?_
      refine t_rd rfl (rd_fld tF26_1 rfl) ?_
      refine t_rd rfl (rd_ld1 tO3 rfl (hm175.blk 0 rfl) (off := 1) rfl) ?_
      obtain ⟨x177, h178, q179⟩ := ob q171; clear q171
      refine t_rd rfl (rd_add64 h178 rfl rfl) ?_
      refine t_rd rfl (rd_assign rfl) ?_
      refine rwt_nil ?_
      refine qn_then ?_
      refine cw_seq ?_
      refine cw_region ?_
      refine t_rd rfl (rd_move rfl) ?_
      refine t_rd rfl (rd_fld tF26_0 rfl) ?_
      refine t_rd rfl (rd_ld1 tO3 rfl (hm175.blk 0 rfl) (off := 0) rfl) ?_
      obtain ⟨x180, h181, q182⟩ := ob q179; clear q179
      refine t_rd rfl (rd_add64 h181 rfl rfl) ?_
      refine t_rd rfl (rd_assign rfl) ?_
      refine rwt_nil ?_
      refine qn_then ?_
      refine cw_seq ?_
      refine cw_seq ?_
      obtain ⟨w184, he186⟩ : ∃ q, q = w176.drew := ⟨_, rfl⟩
      have hm185 := hm175.drew; rw [← he186] at hm185
      refine cw_region_s (fun q => q = w184) (cls [] []) mixed ?_
      rintro _ rfl; rw [← he186]
      refine s_rp (i := 0) rfl (by kernel_rfl) rfl (fun _ => (rd_move rfl)) ?_
      refine s_rp (i := 1) rfl (by kernel_rfl) rfl (fun _ => (rd_move rfl)) ?_
      refine s_rp (i := 2) rfl (by kernel_rfl) rfl (fun _ => (rd_gtr rfl rfl)) ?_
      refine s_rp (i := 3) rfl (by kernel_rfl) rfl (fun _ => (rd_move rfl)) ?_
      refine s_rpg (i := 4) rfl (by kernel_rfl) rfl rfl rfl rfl (gv_t _) (fun hg187 _ => (rd_fld tF26_3 rfl)) ?_
      refine s_rdg (i := 5) rfl (by kernel_rfl) rfl rfl rfl rfl (gv_t _) (fun hg188 => (fun _ hS => by rw [hS]; exact (rd_ld1 tO4 (gvx rfl hg188) (hm185.blk 0 rfl) (off := 3) rfl))) rfl ?_
      refine s_rpg (i := 6) rfl (by kernel_rfl) rfl rfl rfl rfl (gv_t _) (fun hg189 _ => (rd_move (gvx rfl hg189))) ?_
      refine s_rpg (i := 7) rfl (by kernel_rfl) rfl rfl rfl rfl (gv_nf _ _) (fun hg190 _ => (rd_move rfl)) ?_
      refine s_rpg (i := 8) rfl (by kernel_rfl) rfl rfl rfl rfl (gv_nf _ _) (fun hg191 _ => (rd_move rfl)) ?_
      obtain ⟨x193, h194, q195⟩ := ob q182; clear q182
      refine s_rpg (i := 9) rfl (by kernel_rfl) rfl rfl rfl rfl (gv_nf _ _) (fun hg192 _ => (rd_index tS24 (gvx rfl hg192) (gvx rfl hg192) (hv0.of_old hm185) (gO_t h194 hg192))) ?_
      refine s_rpg (i := 10) rfl (by kernel_rfl) rfl rfl rfl rfl (gv_nf _ _) (fun hg196 _ => (rd_fld tF26_3 (gvx rfl hg196))) ?_
      refine s_rdg (i := 11) rfl (by kernel_rfl) rfl rfl rfl rfl (gv_nf _ _) (fun hg197 => (fun _ hS => by rw [hS]; exact (rd_ld1 tO4 (gvx rfl hg197) ((hv0.of_old hm185).cells (gO_t h194 hg197)) (off := 3) rfl))) rfl ?_
      refine s_rpg (i := 12) rfl (by kernel_rfl) rfl rfl rfl rfl (gv_t _) (fun hg198 _ => (rd_or (gvx rfl hg198) (fun hc199 => (gvx rfl (band hg198 (bnotIt hc199)))))) ?_
      refine s_rpg (i := 13) rfl (by kernel_rfl) rfl rfl rfl rfl (gv_t _) (fun hg200 _ => (rd_move (gvx rfl hg200))) ?_
      refine s_rpg (i := 14) rfl (by kernel_rfl) rfl rfl rfl rfl (gv_nf _ _) (fun hg201 _ => (rd_fld tF26_4 rfl)) ?_
      refine s_rdg (i := 15) rfl (by kernel_rfl) rfl rfl rfl rfl (gv_nf _ _) (fun hg202 => (fun _ hS => by rw [hS]; exact (rd_ld1 tO3 (gvx rfl hg202) (hm185.blk 0 rfl) (off := 4) rfl))) rfl ?_
      refine s_rpg (i := 16) rfl (by kernel_rfl) rfl rfl rfl rfl (gv_nf _ _) (fun hg203 _ => (rd_move rfl)) ?_
      refine s_rpg (i := 17) rfl (by kernel_rfl) rfl rfl rfl rfl (gv_nf _ _) (fun hg204 _ => (rd_move rfl)) ?_
      obtain ⟨x206, h207, q208⟩ := ob q195; clear q195
      refine s_rpg (i := 18) rfl (by kernel_rfl) rfl rfl rfl rfl (gv_nf _ _) (fun hg205 _ => (rd_index tS24 (gvx rfl hg205) (gvx rfl hg205) (hv0.of_old hm185) (gO_t h207 hg205))) ?_
      refine s_rpg (i := 19) rfl (by kernel_rfl) rfl rfl rfl rfl (gv_nf _ _) (fun hg209 _ => (rd_fld tF26_4 (gvx rfl hg209))) ?_
      refine s_rdg (i := 20) rfl (by kernel_rfl) rfl rfl rfl rfl (gv_nf _ _) (fun hg210 => (fun _ hS => by rw [hS]; exact (rd_ld1 tO3 (gvx rfl hg210) ((hv0.of_old hm185).cells (gO_t h207 hg210)) (off := 4) rfl))) rfl ?_
      refine s_rpg (i := 21) rfl (by kernel_rfl) rfl rfl rfl rfl (gv_nf _ _) (fun hg211 _ => (rd_neq (gvx rfl hg211) (gvx rfl hg211))) ?_
      refine s_rpg (i := 22) rfl (by kernel_rfl) rfl rfl rfl rfl (gv_t _) (fun hg212 _ => (rd_or (gvx rfl hg212) (fun hc213 => (gvx rfl (band hg212 (bnotIt hc213)))))) ?_
      refine s_rp (i := 23) rfl (by kernel_rfl) rfl (fun _ => (rd_and rfl (fun hc214 => (gvx rfl hc214)))) ?_
      refine s_rp (i := 24) rfl (by kernel_rfl) rfl (fun _ => (rd_move rfl)) ?_
      refine s_rpg (i := 25) rfl (by kernel_rfl) rfl rfl rfl rfl (gv_f _) (fun hg215 _ => (rd_move rfl)) ?_
      refine s_rpg (i := 26) rfl (by kernel_rfl) rfl rfl rfl rfl (gv_f _) (fun hg216 _ => (rd_move rfl)) ?_
      obtain ⟨x218, h219, q220⟩ := ob q208; clear q208
      refine s_rpg (i := 27) rfl (by kernel_rfl) rfl rfl rfl rfl (gv_f _) (fun hg217 _ => (rd_sub64 (gO_t h219 hg217) (gvx rfl hg217) (gvx rfl hg217))) ?_
      refine s_rpg (i := 28) rfl (by kernel_rfl) rfl rfl rfl rfl (gv_f _) (fun hg221 _ => (rd_fld tF23_0 rfl)) ?_
      refine s_rdg (i := 29) rfl (by kernel_rfl) rfl rfl rfl rfl (gv_f _) (fun hg222 => (fun _ hS => by rw [hS]; exact (rd_ld1 tO3 (gvx rfl hg222) (hm185.blk 1 rfl) (off := 0) rfl))) rfl ?_
      refine s_rpg (i := 30) rfl (by kernel_rfl) rfl rfl rfl rfl (gv_f _) (fun hg223 _ => (rd_geq (gvx rfl hg223) (gvx rfl hg223))) ?_
      refine s_rp (i := 31) rfl (by kernel_rfl) rfl (fun _ => (rd_or rfl (fun hc224 => (gvx rfl (bnotIt hc224))))) ?_
      refine s_rp (i := 32) rfl (by kernel_rfl) rfl (fun _ => (rd_move rfl)) ?_
      refine s_rpg (i := 33) rfl (by kernel_rfl) rfl rfl rfl rfl (gv_f _) (fun hg225 _ => (rd_move rfl)) ?_
      refine s_rpg (i := 34) rfl (by kernel_rfl) rfl rfl rfl rfl (gv_f _) (fun hg226 _ => (rd_fld tF23_1 rfl)) ?_
      refine s_rdg (i := 35) rfl (by kernel_rfl) rfl rfl rfl rfl (gv_f _) (fun hg227 => (fun _ hS => by rw [hS]; exact (rd_ld1 tO3 (gvx rfl hg227) (hm185.blk 1 rfl) (off := 1) rfl))) rfl ?_
      refine s_rpg (i := 36) rfl (by kernel_rfl) rfl rfl rfl rfl (gv_f _) (fun hg228 _ => (rd_gtr (gvx rfl hg228) (gvx rfl hg228))) ?_
      refine s_rp (i := 37) rfl (by kernel_rfl) rfl (fun _ => (rd_or rfl (fun hc229 => (gvx rfl (bnotIt hc229))))) ?_
      refine s_rp (i := 38) rfl (by kernel_rfl) rfl (fun _ => (rd_move rfl)) ?_
      refine s_rpg (i := 39) rfl (by kernel_rfl) rfl rfl rfl rfl (gv_f _) (fun hg230 _ => (rd_move rfl)) ?_
      refine s_rpg (i := 40) rfl (by kernel_rfl) rfl rfl rfl rfl (gv_f _) (fun hg231 _ => (rd_fld tF23_2 rfl)) ?_
      refine s_rdg (i := 41) rfl (by kernel_rfl) rfl rfl rfl rfl (gv_f _) (fun hg232 => (fun _ hS => by rw [hS]; exact (rd_ld1 tO3 (gvx rfl hg232) (hm185.blk 1 rfl) (off := 2) rfl))) rfl ?_
      refine s_rpg (i := 42) rfl (by kernel_rfl) rfl rfl rfl rfl (gv_f _) (fun hg233 _ => (rd_gtr (gvx rfl hg233) (gvx rfl hg233))) ?_
      refine s_rp (i := 43) rfl (by kernel_rfl) rfl (fun _ => (rd_or rfl (fun hc234 => (gvx rfl (bnotIt hc234))))) ?_
      refine s_nil (by kernel_rfl) ?_
      refine qn_then ?_
      obtain ⟨hb235, q236⟩ | ⟨hb235, q236⟩ := oi q220 <;> clear q220
      · refine cw_t rfl hb235 ?_
        refine cw_exit ?_
        refine qx_then (qx_other rfl (qx_then ?_))
        obtain rfl := hr162 _ (os q236)
        exact ⟨rfl, (by repeat (first | exact Sub.nil _ | refine Sub.cons rfl ?_)), (hm185.pick [] (by decide) rfl)⟩
      · refine cw_f rfl hb235 ?_
        refine cw_skip ?_
        refine qn_then ?_
        refine cw_region ?_
        refine t_rd rfl (rd_move rfl) ?_
        obtain ⟨x237, h238, q239⟩ := ob q236; clear q236
        refine t_rd rfl (rd_add64 h238 rfl rfl) ?_
        refine t_rd rfl (rd_assign rfl) ?_
        refine rwt_nil ?_
        refine qn_block (qn_then ?_)
        refine ⟨_, (os q239), (by repeat (first | exact Sub.nil _ | refine Sub.cons rfl ?_)), (hm185.pick [1] (by decide) rfl)⟩
    · refine cw_f rfl hb167 ?_
      refine cw_exit ?_
      refine qx_then (qx_then ?_)
      obtain rfl := hr162 _ (os q168)
      exact ⟨rfl, (by repeat (first | exact Sub.nil _ | refine Sub.cons rfl ?_)), (hm166.pick [] (by decide) rfl)⟩
  · skip
    intro e env240 w241 hX242
    obtain ⟨rfl, hs243, hm244⟩ := hX242
    refine qx_same (qn_then ?_)
    refine cw_sub hs243 ?_
    refine cw_seq ?_
    refine cw_region ?_
    refine t_rd rfl (rd_move rfl) ?_
    refine t_rd rfl (rd_assign rfl) ?_
    refine rwt_nil ?_
    refine qn_then ?_
    refine cw_ret ?_
    obtain rfl := os q165
    exact ret1 rfl rfl ⟨rfl, (hm244.pick [] (by decide) rfl)⟩

theorem cut_Valid_ok {N : Nat} {a0 : List T_Pushed} {a1 : T_CutRules} {res : Int} (h : cut_Valid N a0 a1 = some res) {w : World} {v0 : Value} (hv0 : Sl (Old w No) w v0 a0) :
    CallsR Try.prog 22 [v0, (Value.agg (Flat.enc a1).toArray)] w (fun u w' => u = (Value.int .i64 res) ∧ Mem w No [] w') := by
  unfold cut_Valid at h
  refine fn_ok Try.func22 rfl rfl rfl ?_
  have hm0 := Mem.nil w
  refine cw_seq ?_
  refine cw_region ?_
  refine t_ef rfl (ef_box hm0 rfl rfl) ?_
  rintro _ w3 ⟨g1, rfl, hm2⟩
  refine t_rd rfl (rd_assign rfl) ?_
  refine rwt_nil ?_
  refine qn_then ?_
  refine cw_seq ?_
  refine cw_seq ?_
  refine cw_region ?_
  refine t_rd rfl (rd_fld tF23_0 rfl) ?_
  refine t_rd rfl (rd_ld1 tO3 rfl (hm2.blk 0 rfl) (off := 0) rfl) ?_
  obtain ⟨r4, h5, q6⟩ := ob h; clear h
  refine t_ef rfl (ef_call tf31 rfl (cut_in_ok h5)) ?_
  rintro _ w8 ⟨rfl, hm7⟩
  have hm9 := hm2.call hm7
  refine t_rd rfl (rd_not rfl) ?_
  refine t_rd rfl (rd_move rfl) ?_
  refine t_rdg rfl rfl rfl rfl (gv_f _) (fun hg10 => (rd_fld tF23_1 rfl)) ?_
  refine t_rdg rfl rfl rfl rfl (gv_f _) (fun hg11 => (rd_ld1 tO3 (gvx rfl hg11) (hm9.blk 0 rfl) (off := 1) rfl)) ?_
  obtain ⟨r13, h14, q15⟩ := ob q6; clear q6
  refine t_efg rfl rfl rfl rfl (R := (fun v w' => v = gV (!(!r4)) (Value.bool r13) ∧ Mem w8 No [] w')) (gv_f _) (fun hg12 => (ef_call tf31 (evc (gvx rfl hg12) (evc rfl (evc rfl evn))) (cut_in_ok (gO_t h14 hg12))).mono (by rintro _ _ ⟨rfl, q⟩; exact ⟨(gV_t hg12).symm, q⟩)) (fun q => ⟨(gV_f q).symm, Mem.nil _⟩) ?_
  rintro _ w17 ⟨rfl, hm16⟩
  have hm18 := hm9.call hm16
  refine t_rdg rfl rfl rfl rfl (gv_f _) (fun hg19 => (rd_not (gvx rfl hg19))) ?_
  refine t_rd rfl (rd_or rfl (fun hc20 => (gvx rfl (bnotIt hc20)))) ?_
  refine t_rd rfl (rd_move rfl) ?_
  refine t_rdg rfl rfl rfl rfl (gv_f _) (fun hg21 => (rd_fld tF23_2 rfl)) ?_
  refine t_rdg rfl rfl rfl rfl (gv_f _) (fun hg22 => (rd_ld1 tO3 (gvx rfl hg22) (hm18.blk 0 rfl) (off := 2) rfl)) ?_
  obtain ⟨r24, h25, q26⟩ := ob q15; clear q15
  refine t_efg rfl rfl rfl rfl (R := (fun v w' => v = gV (!((!r4) || (!r13))) (Value.bool r24) ∧ Mem w17 No [] w')) (gv_f _) (fun hg23 => (ef_call tf31 (evc (gvx rfl hg23) (evc rfl (evc rfl evn))) (cut_in_ok (gO_t h25 hg23))).mono (by rintro _ _ ⟨rfl, q⟩; exact ⟨(gV_t hg23).symm, q⟩)) (fun q => ⟨(gV_f q).symm, Mem.nil _⟩) ?_
  rintro _ w28 ⟨rfl, hm27⟩
  have hm29 := hm18.call hm27
  refine t_rdg rfl rfl rfl rfl (gv_f _) (fun hg30 => (rd_not (gvx rfl hg30))) ?_
  refine t_rd rfl (rd_or rfl (fun hc31 => (gvx rfl (bnotIt hc31)))) ?_
  refine rwt_nil ?_
  refine qn_then ?_
  obtain ⟨hb32, q33⟩ | ⟨hb32, q33⟩ := oi q26 <;> clear q26
  · refine cw_t rfl hb32 ?_
    refine cw_seq ?_
    refine cw_region ?_
    refine t_rd rfl (rd_assign rfl) ?_
    refine rwt_nil ?_
    refine qn_then ?_
    refine cw_ret ?_
    refine qr_then ?_
    obtain rfl := os q33
    exact ret1 rfl rfl ⟨rfl, (hm29.pick [] (by decide) rfl)⟩
  · refine cw_f rfl hb32 ?_
    refine cw_skip ?_
    refine qn_then ?_
    refine cw_seq ?_
    refine cw_seq ?_
    refine cw_region ?_
    refine t_rd rfl (rd_move rfl) ?_
    refine t_rd rfl (rd_lenS tS24 rfl (hv0.of_old hm29)) ?_
    refine t_rd rfl (rd_gtr rfl rfl) ?_
    refine rwt_nil ?_
    refine qn_then ?_
    obtain ⟨hb34, q35⟩ | ⟨hb34, q35⟩ := oi q33 <;> clear q33
    · refine cw_t rfl hb34 ?_
      refine cw_seq ?_
      refine cw_region ?_
      refine t_rd rfl (rd_assign rfl) ?_
      refine rwt_nil ?_
      refine qn_then ?_
      refine cw_ret ?_
      refine qr_then ?_
      obtain rfl := os q35
      exact ret1 rfl rfl ⟨rfl, (hm29.pick [] (by decide) rfl)⟩
    · refine cw_f rfl hb34 ?_
      refine cw_skip ?_
      refine qn_then ?_
      refine cw_seq ?_
      refine cw_seq ?_
      refine cw_region ?_
      refine t_rd rfl (rd_move rfl) ?_
      refine t_rd rfl (rd_lenS tS24 rfl (hv0.of_old hm29)) ?_
      refine t_rd rfl (rd_move rfl) ?_
      refine rwt_nil ?_
      refine qn_then ?_
      refine cw_block ?_
      obtain ⟨r158, hit159, q160⟩ := ob q35; clear q35
      refine cw_loop2 (I := fun q envq wq => Sub [(3, (Value.pointer (some ⟨g1, 0, none⟩))), (26, v0), (27, (Value.int .i64 (List.length a0 : Int))), (28, (Value.int .i64 q))] envq ∧ Mem w No [blk g1 23 [(Value.int .i64 a1.Wagons), (Value.int .i64 a1.Axles), (Value.int .i64 a1.Length)]] wq) (X := fun eq envq wq => (∃ p161, r158 = (Sum.inl p161) ∧ eq = .ret ∧ retQ Try.prog 61 Try.f22 (fun u w' => u = (Value.int .i64 p161) ∧ Mem w No [] w') .ret envq wq) ∨ (∃ p162, r158 = (Sum.inr p162) ∧ eq = .exit 0 ∧ Sub [] envq ∧ Mem w No [] wq)) hit159 ⟨(by repeat (first | exact Sub.nil _ | refine Sub.cons rfl ?_)), (hm29.pick [0] (by decide) rfl)⟩ ?_ ?_
      · rintro i151 x153 env154 w155 hf156 hr157 ⟨hs_, hm_⟩
        have hs_ : Sub [(3, (Value.pointer (some ⟨g1, 0, none⟩))), (26, v0), (27, (Value.int .i64 (List.length a0 : Int))), (28, (Value.int .i64 i151))] env154 := hs_
        have hm163 : Mem w No [blk g1 23 [(Value.int .i64 a1.Wagons), (Value.int .i64 a1.Axles), (Value.int .i64 a1.Length)]] w155 := hm_
        refine cw_sub hs_ ?_
        clear hs_ hm_ q160
        have h : cut_Valid_l1 N a0 a1 i151 = some x153 := hf156
        clear hf156
        refine cw_seq ?_
        refine cw_region ?_
        refine t_rd rfl (rd_lss rfl rfl) ?_
        refine rwt_nil ?_
        refine qn_then ?_
        refine cw_seq ?_
        obtain ⟨hb164, q165⟩ | ⟨hb164, q165⟩ := oi h <;> clear h
        · refine cw_t rfl hb164 ?_
          refine cw_skip ?_
          refine qn_then ?_
          refine cw_seq ?_
          refine cw_block ?_
          refine cw_seq ?_
          refine cw_region ?_
          obtain ⟨x166, h167, q168⟩ := ob q165; clear q165
          refine t_rd rfl (rd_index tS24 rfl rfl (hv0.of_old hm163) h167) ?_
          refine t_rd rfl (rd_ld tA26 rfl ((hv0.of_old hm163).cells h167) rfl) ?_
          refine t_ef rfl (ef_alloc hm163 tZ26 rfl) ?_
          rintro _ w171 ⟨g169, rfl, hm170⟩
          refine t_ef0 (ef_stw (k := 0) hm170 tA26 rfl rfl (oc_cons rfl (oc_cons rfl (oc_cons rfl (oc_cons rfl (oc_cons rfl oc_nil))))) rfl rfl rfl) ?_
          intro _ w173 hm172
          refine rwt_nil ?_
          refine qn_then ?_
          refine cw_seq ?_
          refine cw_region ?_
          refine t_rd rfl (rd_fld tF26_0 rfl) ?_
          refine t_rd rfl (rd_ld1 tO3 rfl (hm172.blk 0 rfl) (off := 0) rfl) ?_
          refine t_rd rfl (rd_fld tF23_2 rfl) ?_
          refine t_rd rfl (rd_ld1 tO3 rfl (hm172.blk 1 rfl) (off := 2) rfl) ?_
          refine t_rd rfl (rd_min rfl rfl) ?_
          obtain ⟨r174, h175, q176⟩ := ob q168; clear q168
          refine t_ef rfl (ef_call tf31 rfl (cut_in_ok h175)) ?_
          rintro _ w178 ⟨rfl, hm177⟩
          have hm179 := hm172.call hm177
          refine t_rd rfl (rd_not rfl) ?_
          refine t_rd rfl (rd_move rfl) ?_
          refine t_rdg rfl rfl rfl rfl (gv_f _) (fun hg180 => (rd_fld tF26_1 rfl)) ?_
          refine t_rdg rfl rfl rfl rfl (gv_f _) (fun hg181 => (rd_ld1 tO3 (gvx rfl hg181) (hm179.blk 0 rfl) (off := 1) rfl)) ?_
          refine t_rdg rfl rfl rfl rfl (gv_f _) (fun hg182 => (rd_fld tF23_1 rfl)) ?_
          refine t_rdg rfl rfl rfl rfl (gv_f _) (fun hg183 => (rd_ld1 tO3 (gvx rfl hg183) (hm179.blk 1 rfl) (off := 1) rfl)) ?_
          refine t_rdg rfl rfl rfl rfl (gv_f _) (fun hg184 => (rd_min rfl (gvx rfl hg184))) ?_
          obtain ⟨r186, h187, q188⟩ := ob q176; clear q176
          refine t_efg rfl rfl rfl rfl (R := (fun v w' => v = gV (!(!r174)) (Value.bool r186) ∧ Mem w178 No [] w')) (gv_f _) (fun hg185 => (ef_call tf31 (evc (gvx rfl hg185) (evc rfl (evc (gvx rfl hg185) evn))) (cut_in_ok (gO_t h187 hg185))).mono (by rintro _ _ ⟨rfl, q⟩; exact ⟨(gV_t hg185).symm, q⟩)) (fun q => ⟨(gV_f q).symm, Mem.nil _⟩) ?_
          rintro _ w190 ⟨rfl, hm189⟩
          have hm191 := hm179.call hm189
          refine t_rdg rfl rfl rfl rfl (gv_f _) (fun hg192 => (rd_not (gvx rfl hg192))) ?_
          refine t_rd rfl (rd_or rfl (fun hc193 => (gvx rfl (bnotIt hc193)))) ?_
          refine t_rd rfl (rd_move rfl) ?_
          refine t_rdg rfl rfl rfl rfl (gv_f _) (fun hg194 => (rd_fld tF26_2 rfl)) ?_
          refine t_rdg rfl rfl rfl rfl (gv_f _) (fun hg195 => (rd_ld1 tO3 (gvx rfl hg195) (hm191.blk 0 rfl) (off := 2) rfl)) ?_
          obtain ⟨r197, h198, q199⟩ := ob q188; clear q188
          refine t_efg rfl rfl rfl rfl (R := (fun v w' => v = gV (!((!r174) || (!r186))) (Value.bool r197) ∧ Mem w190 No [] w')) (gv_f _) (fun hg196 => (ef_call tf31 (evc (gvx rfl hg196) (evc rfl (evc rfl evn))) (cut_in_ok (gO_t h198 hg196))).mono (by rintro _ _ ⟨rfl, q⟩; exact ⟨(gV_t hg196).symm, q⟩)) (fun q => ⟨(gV_f q).symm, Mem.nil _⟩) ?_
          rintro _ w201 ⟨rfl, hm200⟩
          have hm202 := hm191.call hm200
          refine t_rdg rfl rfl rfl rfl (gv_f _) (fun hg203 => (rd_not (gvx rfl hg203))) ?_
          refine t_rd rfl (rd_or rfl (fun hc204 => (gvx rfl (bnotIt hc204)))) ?_
          refine t_rd rfl (rd_move rfl) ?_
          refine t_rdg rfl rfl rfl rfl (gv_f _) (fun hg205 => (rd_fld tF26_4 rfl)) ?_
          refine t_rdg rfl rfl rfl rfl (gv_f _) (fun hg206 => (rd_ld1 tO3 (gvx rfl hg206) (hm202.blk 0 rfl) (off := 4) rfl)) ?_
          obtain ⟨r208, h209, q210⟩ := ob q199; clear q199
          refine t_efg rfl rfl rfl rfl (R := (fun v w' => v = gV (!(((!r174) || (!r186)) || (!r197))) (Value.bool r208) ∧ Mem w201 No [] w')) (gv_f _) (fun hg207 => (ef_call tf31 (evc (gvx rfl hg207) (evc rfl (evc rfl evn))) (cut_in_ok (gO_t h209 hg207))).mono (by rintro _ _ ⟨rfl, q⟩; exact ⟨(gV_t hg207).symm, q⟩)) (fun q => ⟨(gV_f q).symm, Mem.nil _⟩) ?_
          rintro _ w212 ⟨rfl, hm211⟩
          have hm213 := hm202.call hm211
          refine t_rdg rfl rfl rfl rfl (gv_f _) (fun hg214 => (rd_not (gvx rfl hg214))) ?_
          refine t_rd rfl (rd_or rfl (fun hc215 => (gvx rfl (bnotIt hc215)))) ?_
          refine rwt_nil ?_
          refine qn_then ?_
          obtain ⟨hb216, q217⟩ | ⟨hb216, q217⟩ := oi q210 <;> clear q210
          · refine cw_t rfl hb216 ?_
            refine cw_seq ?_
            refine cw_region ?_
            refine t_rd rfl (rd_assign rfl) ?_
            refine rwt_nil ?_
            refine qn_then ?_
            refine cw_ret ?_
            refine qr_block (qr_then (qr_then ?_))
            obtain rfl := hr157 _ (os q217)
            refine .inl (⟨_, rfl, ⟨rfl, ?_⟩⟩)
            exact ret1 rfl rfl ⟨rfl, (hm213.pick [] (by decide) rfl)⟩
          · refine cw_f rfl hb216 ?_
            refine cw_skip ?_
            refine qn_block (qn_then ?_)
            refine cw_region ?_
            obtain ⟨x218, h219, q220⟩ := ob q217; clear q217
            refine t_rd rfl (rd_add64 h219 rfl rfl) ?_
            refine t_rd rfl (rd_move rfl) ?_
            refine rwt_nil ?_
            refine qn_then ?_
            refine ⟨_, (os q220), (by repeat (first | exact Sub.nil _ | refine Sub.cons rfl ?_)), (hm213.pick [1] (by decide) rfl)⟩
        · refine cw_f rfl hb164 ?_
          refine cw_exit ?_
          refine qx_then (qx_then ?_)
          obtain rfl := hr157 _ (os q165)
          exact .inr (⟨_, rfl, ⟨rfl, (by repeat (first | exact Sub.nil _ | refine Sub.cons rfl ?_)), (hm163.pick [] (by decide) rfl)⟩⟩)
      · skip
        intro e env221 w222 hX223
        rcases hX223 with hX223 | hX223
        · obtain ⟨p225, rfl, hX223⟩ := hX223
          obtain ⟨rfl, hq227⟩ := hX223
          exact qr_block (qr_then ((by have e := os q160; subst e; exact hq227)))
        · obtain ⟨p228, rfl, hX223⟩ := hX223
          obtain ⟨rfl, hs229, hm230⟩ := hX223
          refine qx_same (qn_then ?_)
          refine cw_sub hs229 ?_
          refine cw_seq ?_
          refine cw_region ?_
          refine t_rd rfl (rd_assign rfl) ?_
          refine rwt_nil ?_
          refine qn_then ?_
          refine cw_ret ?_
          obtain rfl := os q160
          exact ret1 rfl rfl ⟨rfl, (hm230.pick [] (by decide) rfl)⟩

theorem cut_Form_ok {N : Nat} {a0 : List T_Pushed} {a1 : T_CutRules} {res : List T_Cut × Int} (h : cut_Form N a0 a1 = some res) {w : World} {v0 : Value} (hv0 : Sl (Old w No) w v0 a0) :
    CallsR Try.prog 9 [v0, (Value.agg (Flat.enc a1).toArray)] w (fun u w' => ∃ y0 : Value, u = (Value.tuple #[y0, (Value.int .i64 res.2)]) ∧ Mem w No [ownL 33 y0 (res.1 : List T_Cut)] w') := by
  unfold cut_Form at h
  refine fn_ok Try.func9 rfl rfl rfl ?_
  have hm0 := Mem.nil w
  refine cw_seq ?_
  refine cw_region ?_
  refine t_ef rfl (ef_box hm0 rfl rfl) ?_
  rintro _ w3 ⟨g1, rfl, hm2⟩
  refine t_rd rfl (rd_assign rfl) ?_
  refine t_rd rfl (rd_assign rfl) ?_
  refine rwt_nil ?_
  refine qn_then ?_
  refine cw_seq ?_
  refine cw_seq ?_
  refine cw_region ?_
  refine t_rd rfl (rd_move rfl) ?_
  refine t_rd rfl (rd_ld tA23 rfl (hm2.blk 0 rfl) rfl) ?_
  obtain ⟨r4, h5, q6⟩ := ob h; clear h
  refine t_ef rfl (ef_call tf22 rfl (cut_Valid_ok h5 (hv0.to_call hm2))) ?_
  rintro _ w8 ⟨rfl, hm7⟩
  have hm9 := hm2.call hm7
  refine t_rd rfl (rd_assign rfl) ?_
  refine rwt_nil ?_
  refine qn_then ?_
  refine cw_seq ?_
  refine cw_region ?_
  refine t_rd rfl (rd_move rfl) ?_
  refine t_rd rfl (rd_neq rfl rfl) ?_
  refine rwt_nil ?_
  refine qn_then ?_
  obtain ⟨hb10, q11⟩ | ⟨hb10, q11⟩ := oi q6 <;> clear q6
  · refine cw_t rfl hb10 ?_
    refine cw_seq ?_
    refine cw_region ?_
    refine t_rd rfl (rd_move rfl) ?_
    refine t_rd rfl (rd_assign rfl) ?_
    refine t_rd rfl (rd_assign rfl) ?_
    refine rwt_nil ?_
    refine qn_then ?_
    refine cw_ret ?_
    refine qr_then ?_
    obtain rfl := os q11
    have hm12 := hm9.addNil (α := T_Cut) 33
    exact ret2 rfl rfl rfl ⟨(Value.slice none 0 0), rfl, (hm12.pick [0] (by decide) rfl)⟩
  · refine cw_f rfl hb10 ?_
    refine cw_skip ?_
    refine qn_then ?_
    refine cw_seq ?_
    refine cw_region ?_
    refine t_rd rfl (rd_assign rfl) ?_
    refine rwt_nil ?_
    refine qn_then ?_
    refine cw_seq ?_
    refine cw_seq ?_
    refine cw_region ?_
    refine t_rd rfl (rd_assign rfl) ?_
    refine rwt_nil ?_
    refine qn_then ?_
    refine cw_block ?_
    have hm41 := hm9.addNil (α := T_Cut) 33
    obtain ⟨r111, hit112, q113⟩ := ob q11; clear q11
    refine cw_loop2 (I := fun q envq wq => ∃ (v104 : Value), Sub [(0, v0), (3, (Value.pointer (some ⟨g1, 0, none⟩))), (7, v104), (8, (Value.int .i64 q.1))] envq ∧ Mem w No [ownL 33 v104 (q.2 : List T_Cut), blk g1 23 [(Value.int .i64 a1.Wagons), (Value.int .i64 a1.Axles), (Value.int .i64 a1.Length)]] wq) (X := fun eq envq wq => eq = .exit 0 ∧ ∃ (v101 : Value), Sub [(7, v101)] envq ∧ Mem w No [ownL 33 v101 (r111 : List T_Cut)] wq) hit112 ⟨(Value.slice none 0 0), (by repeat (first | exact Sub.nil _ | refine Sub.cons rfl ?_)), (hm41.pick [0, 1] (by decide) rfl)⟩ ?_ ?_
    · rintro ⟨i102, l103⟩ x106 env107 w108 hf109 hr110 ⟨v104, hs_, hm_⟩
      have hs_ : Sub [(0, v0), (3, (Value.pointer (some ⟨g1, 0, none⟩))), (7, v104), (8, (Value.int .i64 i102))] env107 := hs_
      have hm114 : Mem w No [ownL 33 v104 (l103 : List T_Cut), blk g1 23 [(Value.int .i64 a1.Wagons), (Value.int .i64 a1.Axles), (Value.int .i64 a1.Length)]] w108 := hm_
      refine cw_sub hs_ ?_
      clear hs_ hm_ q113
      have h : cut_Form_l1 N a0 a1 i102 l103 = some x106 := hf109
      clear hf109
      refine cw_seq ?_
      refine cw_seq ?_
      refine cw_region ?_
      refine t_rd rfl (rd_move rfl) ?_
      refine t_rd rfl (rd_move rfl) ?_
      refine t_rd rfl (rd_lenS tS24 rfl (hv0.of_old hm114)) ?_
      refine t_rd rfl (rd_lss rfl rfl) ?_
      refine rwt_nil ?_
      refine qn_then ?_
      obtain ⟨hb115, q116⟩ | ⟨hb115, q116⟩ := oi h <;> clear h
      · refine cw_t rfl hb115 ?_
        refine cw_skip ?_
        refine qn_then ?_
        refine cw_block ?_
        refine cw_seq ?_
        refine cw_region ?_
        refine t_rd rfl (rd_move rfl) ?_
        refine t_rd rfl (rd_ld tA23 rfl (hm114.blk 1 rfl) rfl) ?_
        refine t_rd rfl (rd_move rfl) ?_
        refine t_rd rfl (rd_move rfl) ?_
        refine t_rd rfl (rd_lenS tS24 rfl (hv0.of_old hm114)) ?_
        obtain ⟨r117, h118, q119⟩ := ob q116; clear q116
        refine t_ef rfl (ef_call tf23 rfl (cut_longest_ok h118 (hv0.to_call hm114))) ?_
        rintro _ w121 ⟨rfl, hm120⟩
        have hm122 := hm114.call hm120
        refine t_rd rfl (rd_assign rfl) ?_
        refine rwt_nil ?_
        refine qn_then ?_
        refine cw_seq ?_
        obtain ⟨w124, he126⟩ : ∃ q, q = w121.drew := ⟨_, rfl⟩
        have hm125 := hm122.drew; rw [← he126] at hm125
        refine cw_region_s (fun q => q = w124) (cls [] [14, 15]) mixed ?_
        rintro _ rfl; rw [← he126]
        refine s_rp (i := 0) rfl (by kernel_rfl) rfl (fun _ => (rd_move rfl)) ?_
        refine s_rp (i := 1) rfl (by kernel_rfl) rfl (fun _ => (rd_move rfl)) ?_
        refine s_rp (i := 2) rfl (by kernel_rfl) rfl (fun _ => (rd_move rfl)) ?_
        refine s_rp (i := 3) rfl (by kernel_rfl) rfl (fun _ => (rd_move rfl)) ?_
        refine s_rp (i := 4) rfl (by kernel_rfl) rfl (fun _ => (rd_move rfl)) ?_
        obtain ⟨x127, h128, q129⟩ := ob q119; clear q119
        refine s_rp (i := 5) rfl (by kernel_rfl) rfl (fun _ => (rd_index tS24 rfl rfl (hv0.of_old hm125) h128)) ?_
        refine s_rp (i := 6) rfl (by kernel_rfl) rfl (fun _ => (rd_fld tF26_4 rfl)) ?_
        refine s_rd (i := 7) rfl (by kernel_rfl) rfl (fun _ hS => by rw [hS]; exact (rd_ld1 tO3 rfl ((hv0.of_old hm125).cells h128) (off := 4) rfl)) rfl ?_
        refine s_rp (i := 8) rfl (by kernel_rfl) rfl (fun _ => (rd_move rfl)) ?_
        refine s_rp (i := 9) rfl (by kernel_rfl) rfl (fun _ => (rd_move rfl)) ?_
        obtain ⟨x130, h131, q132⟩ := ob q129; clear q129
        refine s_rp (i := 10) rfl (by kernel_rfl) rfl (fun _ => (rd_index tS24 rfl rfl (hv0.of_old hm125) h131)) ?_
        refine s_rp (i := 11) rfl (by kernel_rfl) rfl (fun _ => (rd_fld tF26_3 rfl)) ?_
        refine s_rd (i := 12) rfl (by kernel_rfl) rfl (fun _ hS => by rw [hS]; exact (rd_ld1 tO4 rfl ((hv0.of_old hm125).cells h131) (off := 3) rfl)) rfl ?_
        refine s_rp (i := 13) rfl (by kernel_rfl) rfl (fun _ => (rd_build (cs := #[(Value.int .i64 i102), (Value.int .i64 r117), (Value.int .i64 x127.Track), (Value.bool x130.Gentle)]) rfl (by kernel_rfl))) ?_
        refine s_ef (i := 14) rfl (by kernel_rfl) rfl (ef_bslice (l := ([(T_Cut.mk i102 r117 x127.Track x130.Gentle)] : List T_Cut)) hm125 tS27 rfl (cs := #[(Value.int .i64 i102), (Value.int .i64 r117), (Value.int .i64 x127.Track), (Value.bool x130.Gentle)]) (by unfold bsl; kernel_rfl) rfl rfl) (by decide) (fun _ _ _ q => absurd q (by decide)) ?_
        intro v133 w135 hm134
        obtain ⟨l136, h137, q138⟩ := ob q132; clear q132
        refine s_ef (i := 15) rfl (by kernel_rfl) rfl (ef_append (k := 1) hm134 tS27 tE33 rfl rfl rfl rfl (hm134.sl 0 rfl) h137) (by decide) (fun _ _ _ q => absurd q (by decide)) ?_
        intro v139 w141 hm140
        refine s_rp (i := 16) rfl (by kernel_rfl) rfl (fun _ => (rd_assign rfl)) ?_
        refine s_nil (by kernel_rfl) ?_
        refine qn_then ?_
        refine cw_region ?_
        refine t_rd rfl (rd_move rfl) ?_
        refine t_rd rfl (rd_assign rfl) ?_
        refine rwt_nil ?_
        refine qn_block (qn_then ?_)
        refine ⟨_, (os q138), v139, (by repeat (first | exact Sub.nil _ | refine Sub.cons rfl ?_)), (hm140.pick [1, 2] (by decide) rfl)⟩
      · refine cw_f rfl hb115 ?_
        refine cw_exit ?_
        refine qx_then (qx_then ?_)
        obtain rfl := hr110 _ (os q116)
        exact ⟨rfl, v104, (by repeat (first | exact Sub.nil _ | refine Sub.cons rfl ?_)), (hm114.pick [0] (by decide) rfl)⟩
    · skip
      intro e env142 w143 hX144
      obtain ⟨rfl, v101, hs145, hm146⟩ := hX144
      refine qx_same (qn_then ?_)
      refine cw_sub hs145 ?_
      refine cw_seq ?_
      refine cw_region ?_
      refine t_rd rfl (rd_move rfl) ?_
      refine t_rd rfl (rd_assign rfl) ?_
      refine t_rd rfl (rd_assign rfl) ?_
      refine rwt_nil ?_
      refine qn_then ?_
      refine cw_ret ?_
      obtain rfl := os q113
      exact ret2 rfl rfl rfl ⟨v101, rfl, (hm146.pick [0] (by decide) rfl)⟩

theorem cut_Witness_ok {N : Nat} {a0 : List T_Pushed} {a1 : T_CutRules} {res : List Int × Int} (h : cut_Witness N a0 a1 = some res) {w : World} {v0 : Value} (hv0 : Sl (Old w No) w v0 a0) :
    CallsR Try.prog 21 [v0, (Value.agg (Flat.enc a1).toArray)] w (fun u w' => ∃ y0 : Value, u = (Value.tuple #[y0, (Value.int .i64 res.2)]) ∧ Mem w No [ownL 3 y0 (res.1 : List Int)] w') := by
  unfold cut_Witness at h
  refine fn_ok Try.func21 rfl rfl rfl ?_
  have hm0 := Mem.nil w
  refine cw_seq ?_
  refine cw_region ?_
  refine t_ef rfl (ef_box hm0 rfl rfl) ?_
  rintro _ w3 ⟨g1, rfl, hm2⟩
  refine t_rd rfl (rd_assign rfl) ?_
  refine t_rd rfl (rd_assign rfl) ?_
  refine rwt_nil ?_
  refine qn_then ?_
  refine cw_seq ?_
  refine cw_region ?_
  refine t_rd rfl (rd_move rfl) ?_
  refine t_rd rfl (rd_ld tA23 rfl (hm2.blk 0 rfl) rfl) ?_
  obtain ⟨r4, h5, q6⟩ := ob h; clear h
  refine t_ef rfl (ef_call tf9 rfl (cut_Form_ok h5 (hv0.to_call hm2))) ?_
  rintro _ w9 ⟨v7, rfl, hm8⟩
  have hm10 := hm2.call hm8
  refine t_rd rfl (rd_move rfl) ?_
  refine t_rd rfl (rd_extract rfl rfl) ?_
  refine t_rd rfl (rd_extract rfl rfl) ?_
  refine t_rd rfl (rd_assign rfl) ?_
  refine t_rd rfl (rd_assign rfl) ?_
  refine rwt_nil ?_
  refine qn_then ?_
  refine cw_seq ?_
  refine cw_seq ?_
  refine cw_region ?_
  refine t_rd rfl (rd_move rfl) ?_
  refine t_rd rfl (rd_neq rfl rfl) ?_
  refine rwt_nil ?_
  refine qn_then ?_
  obtain ⟨hb11, q12⟩ | ⟨hb11, q12⟩ := oi q6 <;> clear q6
  · refine cw_t rfl hb11 ?_
    refine cw_seq ?_
    refine cw_region ?_
    refine t_rd rfl (rd_move rfl) ?_
    refine t_rd rfl (rd_assign rfl) ?_
    refine t_rd rfl (rd_assign rfl) ?_
    refine rwt_nil ?_
    refine qn_then ?_
    refine cw_ret ?_
    refine qr_then ?_
    obtain rfl := os q12
    have hm13 := hm10.addNil (α := Int) 3
    exact ret2 rfl rfl rfl ⟨(Value.slice none 0 0), rfl, (hm13.pick [0] (by decide) rfl)⟩
  · refine cw_f rfl hb11 ?_
    refine cw_skip ?_
    refine qn_then ?_
    refine cw_seq ?_
    refine cw_region ?_
    refine t_rd rfl (rd_assign rfl) ?_
    refine rwt_nil ?_
    refine qn_then ?_
    refine cw_seq ?_
    refine cw_seq ?_
    refine cw_region ?_
    refine t_rd rfl (rd_move rfl) ?_
    refine t_rd rfl (rd_lenS tS27 rfl (hm10.sl 0 rfl)) ?_
    refine t_rd rfl (rd_move rfl) ?_
    refine rwt_nil ?_
    refine qn_then ?_
    refine cw_block ?_
    have hm37 := hm10.addNil (α := Int) 3
    obtain ⟨r97, hit98, q99⟩ := ob q12; clear q12
    refine cw_loop2 (I := fun q envq wq => ∃ (v90 : Value), Sub [(8, v90), (20, v7), (21, (Value.int .i64 (List.length r4.1 : Int))), (22, (Value.int .i64 q.1))] envq ∧ Mem w No [ownL 3 v90 (q.2 : List Int), ownL 33 v7 (r4.1 : List T_Cut)] wq) (X := fun eq envq wq => eq = .exit 0 ∧ ∃ (v87 : Value), Sub [(8, v87)] envq ∧ Mem w No [ownL 3 v87 (r97 : List Int)] wq) hit98 ⟨(Value.slice none 0 0), (by repeat (first | exact Sub.nil _ | refine Sub.cons rfl ?_)), (hm37.pick [0, 1] (by decide) rfl)⟩ ?_ ?_
    · rintro ⟨i88, l89⟩ x92 env93 w94 hf95 hr96 ⟨v90, hs_, hm_⟩
      have hs_ : Sub [(8, v90), (20, v7), (21, (Value.int .i64 (List.length r4.1 : Int))), (22, (Value.int .i64 i88))] env93 := hs_
      have hm100 : Mem w No [ownL 3 v90 (l89 : List Int), ownL 33 v7 (r4.1 : List T_Cut)] w94 := hm_
      refine cw_sub hs_ ?_
      clear hs_ hm_ q99
      have h : cut_Witness_l1 N r4 i88 l89 = some x92 := hf95
      clear hf95
      refine cw_seq ?_
      refine cw_region ?_
      refine t_rd rfl (rd_lss rfl rfl) ?_
      refine rwt_nil ?_
      refine qn_then ?_
      refine cw_seq ?_
      obtain ⟨hb101, q102⟩ | ⟨hb101, q102⟩ := oi h <;> clear h
      · refine cw_t rfl hb101 ?_
        refine cw_skip ?_
        refine qn_then ?_
        refine cw_seq ?_
        refine cw_block ?_
        refine cw_seq ?_
        refine cw_region ?_
        obtain ⟨x103, h104, q105⟩ := ob q102; clear q102
        refine t_rd rfl (rd_index tS27 rfl rfl (hm100.sl 1 rfl) h104) ?_
        refine t_rd rfl (rd_ld tA33 rfl ((hm100.sl 1 rfl).cells h104) rfl) ?_
        refine t_ef rfl (ef_alloc hm100 tZ33 rfl) ?_
        rintro _ w108 ⟨g106, rfl, hm107⟩
        refine t_ef0 (ef_stw (k := 0) hm107 tA33 rfl rfl (oc_cons rfl (oc_cons rfl (oc_cons rfl (oc_cons rfl oc_nil)))) rfl rfl rfl) ?_
        intro _ w110 hm109
        refine rwt_nil ?_
        refine qn_then ?_
        refine cw_region ?_
        refine t_rd rfl (rd_move rfl) ?_
        refine t_rd rfl (rd_fld tF33_0 rfl) ?_
        refine t_rd rfl (rd_ld1 tO3 rfl (hm109.blk 0 rfl) (off := 0) rfl) ?_
        refine t_ef rfl (ef_bslice (l := ([x103.From] : List Int)) hm109 tS35 rfl (cs := #[(Value.int .i64 x103.From)]) (by unfold bsl; kernel_rfl) rfl rfl) ?_
        intro v111 w113 hm112
        obtain ⟨l114, h115, q116⟩ := ob q105; clear q105
        refine t_ef rfl (ef_append (k := 2) hm112 tS35 tE3 rfl rfl rfl rfl (hm112.sl 0 rfl) h115) ?_
        intro v117 w119 hm118
        refine t_rd rfl (rd_assign rfl) ?_
        refine rwt_nil ?_
        refine qn_block (qn_then ?_)
        refine cw_region ?_
        obtain ⟨x120, h121, q122⟩ := ob q116; clear q116
        refine t_rd rfl (rd_add64 h121 rfl rfl) ?_
        refine t_rd rfl (rd_move rfl) ?_
        refine rwt_nil ?_
        refine qn_then ?_
        refine ⟨_, (os q122), v117, (by repeat (first | exact Sub.nil _ | refine Sub.cons rfl ?_)), (hm118.pick [2, 3] (by decide) rfl)⟩
      · refine cw_f rfl hb101 ?_
        refine cw_exit ?_
        refine qx_then (qx_then ?_)
        obtain rfl := hr96 _ (os q102)
        exact ⟨rfl, v90, (by repeat (first | exact Sub.nil _ | refine Sub.cons rfl ?_)), (hm100.pick [0] (by decide) rfl)⟩
    · skip
      intro e env123 w124 hX125
      obtain ⟨rfl, v87, hs126, hm127⟩ := hX125
      refine qx_same (qn_then ?_)
      refine cw_sub hs126 ?_
      refine cw_seq ?_
      refine cw_region ?_
      refine t_rd rfl (rd_move rfl) ?_
      refine t_rd rfl (rd_assign rfl) ?_
      refine t_rd rfl (rd_assign rfl) ?_
      refine rwt_nil ?_
      refine qn_then ?_
      refine cw_ret ?_
      obtain rfl := os q99
      exact ret2 rfl rfl rfl ⟨v87, rfl, (hm127.pick [0] (by decide) rfl)⟩

theorem cut_Permitted_ok {N : Nat} {a0 : List T_Pushed} {a1 : T_CutRules} {a2 : Int} {a3 : Int} {res : Bool × Int} (h : cut_Permitted N a0 a1 a2 a3 = some res) {w : World} {v0 : Value} (hv0 : Sl (Old w No) w v0 a0) :
    CallsR Try.prog 16 [v0, (Value.agg (Flat.enc a1).toArray), (Value.int .i64 a2), (Value.int .i64 a3)] w (fun u w' => u = (Value.tuple #[(Value.bool res.1), (Value.int .i64 res.2)]) ∧ Mem w No [] w') := by
  unfold cut_Permitted at h
  refine fn_ok Try.func16 rfl rfl rfl ?_
  have hm0 := Mem.nil w
  refine cw_seq ?_
  refine cw_region ?_
  refine t_ef rfl (ef_box hm0 rfl rfl) ?_
  rintro _ w3 ⟨g1, rfl, hm2⟩
  refine t_rd rfl (rd_assign rfl) ?_
  refine t_rd rfl (rd_assign rfl) ?_
  refine rwt_nil ?_
  refine qn_then ?_
  refine cw_seq ?_
  refine cw_seq ?_
  refine cw_region ?_
  refine t_rd rfl (rd_move rfl) ?_
  refine t_rd rfl (rd_ld tA23 rfl (hm2.blk 0 rfl) rfl) ?_
  obtain ⟨r4, h5, q6⟩ := ob h; clear h
  refine t_ef rfl (ef_call tf22 rfl (cut_Valid_ok h5 (hv0.to_call hm2))) ?_
  rintro _ w8 ⟨rfl, hm7⟩
  have hm9 := hm2.call hm7
  refine t_rd rfl (rd_assign rfl) ?_
  refine rwt_nil ?_
  refine qn_then ?_
  refine cw_seq ?_
  refine cw_region ?_
  refine t_rd rfl (rd_move rfl) ?_
  refine t_rd rfl (rd_neq rfl rfl) ?_
  refine rwt_nil ?_
  refine qn_then ?_
  obtain ⟨hb10, q11⟩ | ⟨hb10, q11⟩ := oi q6 <;> clear q6
  · refine cw_t rfl hb10 ?_
    refine cw_seq ?_
    refine cw_region ?_
    refine t_rd rfl (rd_move rfl) ?_
    refine t_rd rfl (rd_assign rfl) ?_
    refine t_rd rfl (rd_assign rfl) ?_
    refine rwt_nil ?_
    refine qn_then ?_
    refine cw_ret ?_
    refine qr_then ?_
    obtain rfl := os q11
    exact ret2 rfl rfl rfl ⟨rfl, (hm9.pick [] (by decide) rfl)⟩
  · refine cw_f rfl hb10 ?_
    refine cw_skip ?_
    refine qn_then ?_
    refine cw_seq ?_
    refine cw_seq ?_
    refine cw_region ?_
    refine t_rd rfl (rd_move rfl) ?_
    refine t_rd rfl (rd_lss rfl rfl) ?_
    refine t_rd rfl (rd_move rfl) ?_
    refine t_rdg rfl rfl rfl rfl (gv_f _) (fun hg12 => (rd_move rfl)) ?_
    refine t_rdg rfl rfl rfl rfl (gv_f _) (fun hg13 => (rd_move rfl)) ?_
    refine t_rdg rfl rfl rfl rfl (gv_f _) (fun hg14 => (rd_gtr (gvx rfl hg14) (gvx rfl hg14))) ?_
    refine t_rd rfl (rd_or rfl (fun hc15 => (gvx rfl (bnotIt hc15)))) ?_
    refine t_rd rfl (rd_move rfl) ?_
    refine t_rdg rfl rfl rfl rfl (gv_f _) (fun hg16 => (rd_move rfl)) ?_
    refine t_rdg rfl rfl rfl rfl (gv_f _) (fun hg17 => (rd_move rfl)) ?_
    refine t_rdg rfl rfl rfl rfl (gv_f _) (fun hg18 => (rd_lenS tS24 (gvx rfl hg18) (hv0.of_old hm9))) ?_
    refine t_rdg rfl rfl rfl rfl (gv_f _) (fun hg19 => (rd_gtr (gvx rfl hg19) (gvx rfl hg19))) ?_
    refine t_rd rfl (rd_or rfl (fun hc20 => (gvx rfl (bnotIt hc20)))) ?_
    refine rwt_nil ?_
    refine qn_then ?_
    obtain ⟨hb21, q22⟩ | ⟨hb21, q22⟩ := oi q11 <;> clear q11
    · refine cw_t rfl hb21 ?_
      refine cw_seq ?_
      refine cw_region ?_
      refine t_rd rfl (rd_assign rfl) ?_
      refine t_rd rfl (rd_assign rfl) ?_
      refine rwt_nil ?_
      refine qn_then ?_
      refine cw_ret ?_
      refine qr_then ?_
      obtain rfl := os q22
      exact ret2 rfl rfl rfl ⟨rfl, (hm9.pick [] (by decide) rfl)⟩
    · refine cw_f rfl hb21 ?_
      refine cw_skip ?_
      refine qn_then ?_
      refine cw_seq ?_
      refine cw_region ?_
      refine t_rd rfl (rd_move rfl) ?_
      refine t_rd rfl (rd_move rfl) ?_
      refine t_rd rfl (rd_lss rfl rfl) ?_
      refine t_rd rfl (rd_move rfl) ?_
      refine t_rdg rfl rfl rfl rfl (gv_t _) (fun hg23 => (rd_move rfl)) ?_
      refine t_rdg rfl rfl rfl rfl (gv_t _) (fun hg24 => (rd_ld tA23 rfl (hm9.blk 0 rfl) rfl)) ?_
      refine t_rdg rfl rfl rfl rfl (gv_t _) (fun hg25 => (rd_move rfl)) ?_
      refine t_rdg rfl rfl rfl rfl (gv_t _) (fun hg26 => (rd_move rfl)) ?_
      obtain ⟨r28, h29, q30⟩ := ob q22; clear q22
      refine t_efg rfl rfl rfl rfl (R := (fun v w' => v = gV (decide (a2 < a3)) (Value.int .i64 r28) ∧ Mem w8 No [] w')) (gv_t _) (fun hg27 => (ef_call tf23 (evc (gvx rfl hg27) (evc (gvx rfl hg27) (evc (gvx rfl hg27) (evc (gvx rfl hg27) evn)))) (cut_longest_ok (gO_t h29 hg27) (hv0.to_call hm9))).mono (by rintro _ _ ⟨rfl, q⟩; exact ⟨(gV_t hg27).symm, q⟩)) (fun q => ⟨(gV_f q).symm, Mem.nil _⟩) ?_
      rintro _ w32 ⟨rfl, hm31⟩
      have hm33 := hm9.call hm31
      refine t_rdg rfl rfl rfl rfl (gv_t _) (fun hg34 => (rd_move rfl)) ?_
      refine t_rdg rfl rfl rfl rfl (gv_t _) (fun hg35 => (rd_eql (gvx rfl hg35) (gvx rfl hg35))) ?_
      refine t_rd rfl (rd_and rfl (fun hc36 => (gvx rfl hc36))) ?_
      refine t_rd rfl (rd_assign rfl) ?_
      refine t_rd rfl (rd_assign rfl) ?_
      refine rwt_nil ?_
      refine qn_then ?_
      refine cw_ret ?_
      obtain rfl := os q30
      exact ret2 rfl rfl rfl ⟨rfl, (hm33.pick [] (by decide) rfl)⟩

theorem cut_Check_ok {N : Nat} {a0 : List T_Pushed} {a1 : T_CutRules} {a2 : List T_Cut} {res : Bool × Int} (h : cut_Check N a0 a1 a2 = some res) {w : World} {v0 : Value} {v2 : Value} (hv0 : Sl (Old w No) w v0 a0) (hv2 : Sl (Old w No) w v2 a2) :
    CallsR Try.prog 17 [v0, (Value.agg (Flat.enc a1).toArray), v2] w (fun u w' => u = (Value.tuple #[(Value.bool res.1), (Value.int .i64 res.2)]) ∧ Mem w No [] w') := by
  unfold cut_Check at h
  refine fn_ok Try.func17 rfl rfl rfl ?_
  have hm0 := Mem.nil w
  refine cw_seq ?_
  refine cw_region ?_
  refine t_ef rfl (ef_box hm0 rfl rfl) ?_
  rintro _ w3 ⟨g1, rfl, hm2⟩
  refine t_rd rfl (rd_assign rfl) ?_
  refine t_rd rfl (rd_assign rfl) ?_
  refine rwt_nil ?_
  refine qn_then ?_
  refine cw_seq ?_
  refine cw_seq ?_
  refine cw_region ?_
  refine t_rd rfl (rd_move rfl) ?_
  refine t_rd rfl (rd_ld tA23 rfl (hm2.blk 0 rfl) rfl) ?_
  obtain ⟨r4, h5, q6⟩ := ob h; clear h
  refine t_ef rfl (ef_call tf22 rfl (cut_Valid_ok h5 (hv0.to_call hm2))) ?_
  rintro _ w8 ⟨rfl, hm7⟩
  have hm9 := hm2.call hm7
  refine t_rd rfl (rd_assign rfl) ?_
  refine rwt_nil ?_
  refine qn_then ?_
  refine cw_seq ?_
  refine cw_region ?_
  refine t_rd rfl (rd_move rfl) ?_
  refine t_rd rfl (rd_neq rfl rfl) ?_
  refine rwt_nil ?_
  refine qn_then ?_
  obtain ⟨hb10, q11⟩ | ⟨hb10, q11⟩ := oi q6 <;> clear q6
  · refine cw_t rfl hb10 ?_
    refine cw_seq ?_
    refine cw_region ?_
    refine t_rd rfl (rd_move rfl) ?_
    refine t_rd rfl (rd_assign rfl) ?_
    refine t_rd rfl (rd_assign rfl) ?_
    refine rwt_nil ?_
    refine qn_then ?_
    refine cw_ret ?_
    refine qr_then ?_
    obtain rfl := os q11
    exact ret2 rfl rfl rfl ⟨rfl, (hm9.pick [] (by decide) rfl)⟩
  · refine cw_f rfl hb10 ?_
    refine cw_skip ?_
    refine qn_then ?_
    refine cw_seq ?_
    refine cw_region ?_
    refine t_rd rfl (rd_assign rfl) ?_
    refine rwt_nil ?_
    refine qn_then ?_
    refine cw_seq ?_
    refine cw_seq ?_
    refine cw_region ?_
    refine t_rd rfl (rd_move rfl) ?_
    refine t_rd rfl (rd_lenS tS27 rfl (hv2.of_old hm9)) ?_
    refine t_rd rfl (rd_move rfl) ?_
    refine rwt_nil ?_
    refine qn_then ?_
    refine cw_block ?_
    obtain ⟨r211, hit212, q213⟩ := ob q11; clear q11
    refine cw_loop2 (I := fun q envq wq => Sub [(0, v0), (4, (Value.pointer (some ⟨g1, 0, none⟩))), (9, (Value.int .i64 q.1)), (18, v2), (19, (Value.int .i64 (List.length a2 : Int))), (20, (Value.int .i64 q.2))] envq ∧ Mem w No [blk g1 23 [(Value.int .i64 a1.Wagons), (Value.int .i64 a1.Axles), (Value.int .i64 a1.Length)]] wq) (X := fun eq envq wq => (∃ p214, r211 = (Sum.inl p214) ∧ eq = .ret ∧ retQ Try.prog 77 Try.f17 (fun u w' => u = (Value.tuple #[(Value.bool p214.1), (Value.int .i64 p214.2)]) ∧ Mem w No [] w') .ret envq wq) ∨ (∃ p215, r211 = (Sum.inr p215) ∧ eq = .exit 0 ∧ Sub [(0, v0), (9, (Value.int .i64 p215))] envq ∧ Mem w No [] wq)) hit212 ⟨(by repeat (first | exact Sub.nil _ | refine Sub.cons rfl ?_)), (hm9.pick [0] (by decide) rfl)⟩ ?_ ?_
    · rintro ⟨i203, i204⟩ x206 env207 w208 hf209 hr210 ⟨hs_, hm_⟩
      have hs_ : Sub [(0, v0), (4, (Value.pointer (some ⟨g1, 0, none⟩))), (9, (Value.int .i64 i203)), (18, v2), (19, (Value.int .i64 (List.length a2 : Int))), (20, (Value.int .i64 i204))] env207 := hs_
      have hm216 : Mem w No [blk g1 23 [(Value.int .i64 a1.Wagons), (Value.int .i64 a1.Axles), (Value.int .i64 a1.Length)]] w208 := hm_
      refine cw_sub hs_ ?_
      clear hs_ hm_ q213
      have h : cut_Check_l1 N a0 a1 a2 i203 i204 = some x206 := hf209
      clear hf209
      refine cw_seq ?_
      refine cw_region ?_
      refine t_rd rfl (rd_lss rfl rfl) ?_
      refine rwt_nil ?_
      refine qn_then ?_
      refine cw_seq ?_
      obtain ⟨hb217, q218⟩ | ⟨hb217, q218⟩ := oi h <;> clear h
      · refine cw_t rfl hb217 ?_
        refine cw_skip ?_
        refine qn_then ?_
        refine cw_seq ?_
        refine cw_block ?_
        refine cw_seq ?_
        refine cw_region ?_
        obtain ⟨x219, h220, q221⟩ := ob q218; clear q218
        refine t_rd rfl (rd_index tS27 rfl rfl (hv2.of_old hm216) h220) ?_
        refine t_rd rfl (rd_ld tA33 rfl ((hv2.of_old hm216).cells h220) rfl) ?_
        refine t_ef rfl (ef_alloc hm216 tZ33 rfl) ?_
        rintro _ w224 ⟨g222, rfl, hm223⟩
        refine t_ef0 (ef_stw (k := 0) hm223 tA33 rfl rfl (oc_cons rfl (oc_cons rfl (oc_cons rfl (oc_cons rfl oc_nil)))) rfl rfl rfl) ?_
        intro _ w226 hm225
        refine rwt_nil ?_
        refine qn_then ?_
        refine cw_seq ?_
        refine cw_seq ?_
        obtain ⟨w228, he230⟩ : ∃ q, q = w226.drew := ⟨_, rfl⟩
        have hm229 := hm225.drew; rw [← he230] at hm229
        refine cw_region_s (fun q => (blk g222 33 [(Value.int .i64 x219.From), (Value.int .i64 x219.To), (Value.int .i64 x219.Track), (Value.bool x219.Engine)]).φ q ∧ (blk g1 23 [(Value.int .i64 a1.Wagons), (Value.int .i64 a1.Axles), (Value.int .i64 a1.Length)]).φ q) (cls [23] []) mixed ?_
        rintro _ rfl; rw [← he230]
        refine s_rp (i := 0) rfl (by kernel_rfl) rfl (fun _ => (rd_fld tF33_0 rfl)) ?_
        refine s_rd (i := 1) rfl (by kernel_rfl) rfl (fun w227 hS => (rd_ld1 tO3 rfl (cells_blk hS.1) (off := 0) rfl)) ⟨(hm229.get (k := 0) rfl), (hm229.get (k := 1) rfl)⟩ ?_
        refine s_rp (i := 2) rfl (by kernel_rfl) rfl (fun _ => (rd_move rfl)) ?_
        refine s_rp (i := 3) rfl (by kernel_rfl) rfl (fun _ => (rd_neq rfl rfl)) ?_
        refine s_rp (i := 4) rfl (by kernel_rfl) rfl (fun _ => (rd_move rfl)) ?_
        refine s_rpg (i := 5) rfl (by kernel_rfl) rfl rfl rfl rfl (gv_f _) (fun hg258 _ => (rd_fld tF33_1 rfl)) ?_
        refine s_rdg (i := 6) rfl (by kernel_rfl) rfl rfl rfl rfl (gv_f _) (fun hg259 => (fun w227 hS => (rd_ld1 tO3 (gvx rfl hg259) (cells_blk hS.1) (off := 1) rfl))) ⟨(hm229.get (k := 0) rfl), (hm229.get (k := 1) rfl)⟩ ?_
        refine s_rpg (i := 7) rfl (by kernel_rfl) rfl rfl rfl rfl (gv_f _) (fun hg260 _ => (rd_move rfl)) ?_
        refine s_rpg (i := 8) rfl (by kernel_rfl) rfl rfl rfl rfl (gv_f _) (fun hg261 _ => (rd_leq (gvx rfl hg261) (gvx rfl hg261))) ?_
        refine s_rp (i := 9) rfl (by kernel_rfl) rfl (fun _ => (rd_or rfl (fun hc262 => (gvx rfl (bnotIt hc262))))) ?_
        refine s_rp (i := 10) rfl (by kernel_rfl) rfl (fun _ => (rd_move rfl)) ?_
        refine s_rpg (i := 11) rfl (by kernel_rfl) rfl rfl rfl rfl (gv_f _) (fun hg263 _ => (rd_fld tF33_1 rfl)) ?_
        refine s_rdg (i := 12) rfl (by kernel_rfl) rfl rfl rfl rfl (gv_f _) (fun hg264 => (fun w227 hS => (rd_ld1 tO3 (gvx rfl hg264) (cells_blk hS.1) (off := 1) rfl))) ⟨(hm229.get (k := 0) rfl), (hm229.get (k := 1) rfl)⟩ ?_
        refine s_rpg (i := 13) rfl (by kernel_rfl) rfl rfl rfl rfl (gv_f _) (fun hg265 _ => (rd_move rfl)) ?_
        refine s_rpg (i := 14) rfl (by kernel_rfl) rfl rfl rfl rfl (gv_f _) (fun hg266 _ => (rd_lenS tS24 (gvx rfl hg266) (hv0.of_old hm229))) ?_
        refine s_rpg (i := 15) rfl (by kernel_rfl) rfl rfl rfl rfl (gv_f _) (fun hg267 _ => (rd_gtr (gvx rfl hg267) (gvx rfl hg267))) ?_
        refine s_rp (i := 16) rfl (by kernel_rfl) rfl (fun _ => (rd_or rfl (fun hc268 => (gvx rfl (bnotIt hc268))))) ?_
        refine s_rp (i := 17) rfl (by kernel_rfl) rfl (fun _ => (rd_move rfl)) ?_
        refine s_rpg (i := 18) rfl (by kernel_rfl) rfl rfl rfl rfl (gv_f _) (fun hg269 _ => (rd_move rfl)) ?_
        refine s_rdg (i := 19) rfl (by kernel_rfl) rfl rfl rfl rfl (gv_f _) (fun hg270 => (fun w227 hS => (rd_ld tA23 rfl (cells_blk hS.2) rfl))) ⟨(hm229.get (k := 0) rfl), (hm229.get (k := 1) rfl)⟩ ?_
        refine s_rpg (i := 20) rfl (by kernel_rfl) rfl rfl rfl rfl (gv_f _) (fun hg271 _ => (rd_move rfl)) ?_
        refine s_rpg (i := 21) rfl (by kernel_rfl) rfl rfl rfl rfl (gv_f _) (fun hg272 _ => (rd_fld tF33_1 rfl)) ?_
        refine s_rdg (i := 22) rfl (by kernel_rfl) rfl rfl rfl rfl (gv_f _) (fun hg273 => (fun w227 hS => (rd_ld1 tO3 (gvx rfl hg273) (cells_blk hS.1) (off := 1) rfl))) ⟨(hm229.get (k := 0) rfl), (hm229.get (k := 1) rfl)⟩ ?_
        refine s_rpg (i := 24) rfl (by kernel_rfl) rfl rfl rfl rfl (gv_f _) (fun hg274 _ => (rd_fld tF33_1 rfl)) ?_
        refine s_rdg (i := 25) rfl (by kernel_rfl) rfl rfl rfl rfl (gv_f _) (fun hg275 => (fun w227 hS => (rd_ld1 tO3 (gvx rfl hg275) (cells_blk hS.1) (off := 1) rfl))) ⟨(hm229.get (k := 0) rfl), (hm229.get (k := 1) rfl)⟩ ?_
        obtain ⟨r277, h278, q279⟩ := ob q221; clear q221
        refine s_efg (i := 23) rfl (by kernel_rfl) rfl rfl rfl rfl (R := (fun v w' => v = gV (!(((!decide (x219.From = i203)) || decide (x219.To ≤ i203)) || decide ((List.length a0 : Int) < x219.To))) (Value.int .i64 r277) ∧ Mem w228 No [] w')) (gv_f _) (fun hg276 => (ef_call tf23 (evc (gvx rfl hg276) (evc (gvx rfl hg276) (evc (gvx rfl hg276) (evc (gvx rfl hg276) evn)))) (cut_longest_ok (gO_t h278 hg276) (hv0.to_call hm229))).mono (by rintro _ _ ⟨rfl, q⟩; exact ⟨(gV_t hg276).symm, q⟩)) (fun q => ⟨(gV_f q).symm, Mem.nil _⟩) (by decide) ?_ ?_
        · rintro _ w281 ⟨rfl, hm280⟩
          have hm282 := hm229.call hm280
          intro _
          exact ⟨(hm282.get (k := 0) rfl), (hm282.get (k := 1) rfl)⟩
        rintro _ w281 ⟨rfl, hm280⟩
        have hm282 := hm229.call hm280
        refine s_rpg (i := 26) rfl (by kernel_rfl) rfl rfl rfl rfl (gv_f _) (fun hg283 _ => (rd_neq (gvx rfl hg283) (gvx rfl hg283))) ?_
        refine s_rp (i := 27) rfl (by kernel_rfl) rfl (fun _ => (rd_or rfl (fun hc284 => (gvx rfl (bnotIt hc284))))) ?_
        refine s_nil (by kernel_rfl) ?_
        refine qn_then ?_
        obtain ⟨hb285, q286⟩ | ⟨hb285, q286⟩ := oi q279 <;> clear q279
        · refine cw_t rfl hb285 ?_
          refine cw_seq ?_
          refine cw_region ?_
          refine t_rd rfl (rd_assign rfl) ?_
          refine t_rd rfl (rd_assign rfl) ?_
          refine rwt_nil ?_
          refine qn_then ?_
          refine cw_ret ?_
          refine qr_then (qr_block (qr_then (qr_then ?_)))
          obtain rfl := hr210 _ (os q286)
          refine .inl (⟨_, rfl, ⟨rfl, ?_⟩⟩)
          exact ret2 rfl rfl rfl ⟨rfl, (hm282.pick [] (by decide) rfl)⟩
        · refine cw_f rfl hb285 ?_
          refine cw_skip ?_
          refine qn_then ?_
          refine cw_seq ?_
          refine cw_seq ?_
          obtain ⟨w288, he290⟩ : ∃ q, q = w281.drew := ⟨_, rfl⟩
          have hm289 := hm282.drew; rw [← he290] at hm289
          refine cw_region_s (fun q => q = w288) (cls [] []) mixed ?_
          rintro _ rfl; rw [← he290]
          refine s_rp (i := 0) rfl (by kernel_rfl) rfl (fun _ => (rd_fld tF33_2 rfl)) ?_
          refine s_rd (i := 1) rfl (by kernel_rfl) rfl (fun _ hS => by rw [hS]; exact (rd_ld1 tO3 rfl (hm289.blk 0 rfl) (off := 2) rfl)) rfl ?_
          refine s_rp (i := 2) rfl (by kernel_rfl) rfl (fun _ => (rd_move rfl)) ?_
          refine s_rp (i := 3) rfl (by kernel_rfl) rfl (fun _ => (rd_move rfl)) ?_
          obtain ⟨x291, h292, q293⟩ := ob q286; clear q286
          refine s_rp (i := 4) rfl (by kernel_rfl) rfl (fun _ => (rd_index tS24 rfl rfl (hv0.of_old hm289) h292)) ?_
          refine s_rp (i := 5) rfl (by kernel_rfl) rfl (fun _ => (rd_fld tF26_4 rfl)) ?_
          refine s_rd (i := 6) rfl (by kernel_rfl) rfl (fun _ hS => by rw [hS]; exact (rd_ld1 tO3 rfl ((hv0.of_old hm289).cells h292) (off := 4) rfl)) rfl ?_
          refine s_rp (i := 7) rfl (by kernel_rfl) rfl (fun _ => (rd_neq rfl rfl)) ?_
          refine s_rp (i := 8) rfl (by kernel_rfl) rfl (fun _ => (rd_move rfl)) ?_
          refine s_rpg (i := 9) rfl (by kernel_rfl) rfl rfl rfl rfl (gv_f _) (fun hg294 _ => (rd_fld tF33_3 rfl)) ?_
          refine s_rdg (i := 10) rfl (by kernel_rfl) rfl rfl rfl rfl (gv_f _) (fun hg295 => (fun _ hS => by rw [hS]; exact (rd_ld1 tO4 (gvx rfl hg295) (hm289.blk 0 rfl) (off := 3) rfl))) rfl ?_
          refine s_rpg (i := 11) rfl (by kernel_rfl) rfl rfl rfl rfl (gv_f _) (fun hg296 _ => (rd_move rfl)) ?_
          refine s_rpg (i := 12) rfl (by kernel_rfl) rfl rfl rfl rfl (gv_f _) (fun hg297 _ => (rd_move rfl)) ?_
          obtain ⟨x299, h300, q301⟩ := ob q293; clear q293
          refine s_rpg (i := 13) rfl (by kernel_rfl) rfl rfl rfl rfl (gv_f _) (fun hg298 _ => (rd_index tS24 (gvx rfl hg298) (gvx rfl hg298) (hv0.of_old hm289) (gO_t h300 hg298))) ?_
          refine s_rpg (i := 14) rfl (by kernel_rfl) rfl rfl rfl rfl (gv_f _) (fun hg302 _ => (rd_fld tF26_3 (gvx rfl hg302))) ?_
          refine s_rdg (i := 15) rfl (by kernel_rfl) rfl rfl rfl rfl (gv_f _) (fun hg303 => (fun _ hS => by rw [hS]; exact (rd_ld1 tO4 (gvx rfl hg303) ((hv0.of_old hm289).cells (gO_t h300 hg303)) (off := 3) rfl))) rfl ?_
          refine s_rpg (i := 16) rfl (by kernel_rfl) rfl rfl rfl rfl (gv_f _) (fun hg304 _ => (rd_neqb tB4 (gvx rfl hg304) (gvx rfl hg304))) ?_
          refine s_rp (i := 17) rfl (by kernel_rfl) rfl (fun _ => (rd_or rfl (fun hc305 => (gvx rfl (bnotIt hc305))))) ?_
          refine s_nil (by kernel_rfl) ?_
          refine qn_then ?_
          obtain ⟨hb306, q307⟩ | ⟨hb306, q307⟩ := oi q301 <;> clear q301
          · refine cw_t rfl hb306 ?_
            refine cw_seq ?_
            refine cw_region ?_
            refine t_rd rfl (rd_assign rfl) ?_
            refine t_rd rfl (rd_assign rfl) ?_
            refine rwt_nil ?_
            refine qn_then ?_
            refine cw_ret ?_
            refine qr_then (qr_block (qr_then (qr_then ?_)))
            obtain rfl := hr210 _ (os q307)
            refine .inl (⟨_, rfl, ⟨rfl, ?_⟩⟩)
            exact ret2 rfl rfl rfl ⟨rfl, (hm289.pick [] (by decide) rfl)⟩
          · refine cw_f rfl hb306 ?_
            refine cw_skip ?_
            refine qn_then ?_
            refine cw_region ?_
            refine t_rd rfl (rd_fld tF33_1 rfl) ?_
            refine t_rd rfl (rd_ld1 tO3 rfl (hm289.blk 0 rfl) (off := 1) rfl) ?_
            refine t_rd rfl (rd_assign rfl) ?_
            refine rwt_nil ?_
            refine qn_block (qn_then ?_)
            refine cw_region ?_
            obtain ⟨x308, h309, q310⟩ := ob q307; clear q307
            refine t_rd rfl (rd_add64 h309 rfl rfl) ?_
            refine t_rd rfl (rd_move rfl) ?_
            refine rwt_nil ?_
            refine qn_then ?_
            refine ⟨_, (os q310), (by repeat (first | exact Sub.nil _ | refine Sub.cons rfl ?_)), (hm289.pick [1] (by decide) rfl)⟩
      · refine cw_f rfl hb217 ?_
        refine cw_exit ?_
        refine qx_then (qx_then ?_)
        obtain rfl := hr210 _ (os q218)
        exact .inr (⟨_, rfl, ⟨rfl, (by repeat (first | exact Sub.nil _ | refine Sub.cons rfl ?_)), (hm216.pick [] (by decide) rfl)⟩⟩)
    · skip
      intro e env311 w312 hX313
      rcases hX313 with hX313 | hX313
      · obtain ⟨p315, rfl, hX313⟩ := hX313
        obtain ⟨rfl, hq317⟩ := hX313
        exact qr_block (qr_then ((by have e := os q213; subst e; exact hq317)))
      · obtain ⟨p318, rfl, hX313⟩ := hX313
        obtain ⟨rfl, hs319, hm320⟩ := hX313
        refine qx_same (qn_then ?_)
        refine cw_sub hs319 ?_
        refine cw_seq ?_
        refine cw_region ?_
        refine t_rd rfl (rd_move rfl) ?_
        refine t_rd rfl (rd_move rfl) ?_
        refine t_rd rfl (rd_lenS tS24 rfl (hv0.of_old hm320)) ?_
        refine t_rd rfl (rd_eql rfl rfl) ?_
        refine t_rd rfl (rd_assign rfl) ?_
        refine t_rd rfl (rd_assign rfl) ?_
        refine rwt_nil ?_
        refine qn_then ?_
        refine cw_ret ?_
        obtain rfl := os q213
        exact ret2 rfl rfl rfl ⟨rfl, (hm320.pick [] (by decide) rfl)⟩

theorem law18_w_ok {N : Nat} {a0 : Int} {a1 : Bool} {res : T_Pushed} (h : law18_w N a0 a1 = some res) {w : World}   :
    CallsR Try.prog 24 [(Value.int .i64 a0), (Value.bool a1)] w (fun u w' => u = (Value.agg (Flat.enc res).toArray) ∧ Mem w No [] w') := by
  unfold law18_w at h
  refine fn_ok Try.func24 rfl rfl rfl ?_
  have hm0 := Mem.nil w
  refine cw_seq ?_
  refine cw_region ?_
  refine t_ef rfl (ef_alloc hm0 tZ26 rfl) ?_
  rintro _ w3 ⟨g1, rfl, hm2⟩
  refine rwt_nil ?_
  refine qn_then ?_
  refine cw_seq ?_
  refine cw_region ?_
  refine t_rd rfl (rd_move rfl) ?_
  refine t_rd rfl (rd_move rfl) ?_
  refine t_rd rfl (rd_build (cs := #[(Value.int .i64 100), (Value.int .i64 4), (Value.int .i64 100), (Value.bool a1), (Value.int .i64 a0)]) rfl (by kernel_rfl)) ?_
  refine t_ef0 (ef_stw (k := 0) hm2 tA26 rfl rfl (oc_cons rfl (oc_cons rfl (oc_cons rfl (oc_cons rfl (oc_cons rfl oc_nil))))) rfl rfl rfl) ?_
  intro _ w5 hm4
  refine rwt_nil ?_
  refine qn_then ?_
  refine cw_ret ?_
  obtain rfl := os h
  exact retL1 (rs := [.cell 4 26]) rfl (.rc rfl tA26 (hm4.blk 0 rfl) rfl .rn) ⟨rfl, (hm4.pick [] (by decide) rfl)⟩

theorem humpgen_Cuts_ok {N : Nat} {a0 : List T_Cut} {a1 : List T_Cut} {res : Bool} (h : humpgen_Cuts N a0 a1 = some res) {w : World} {v0 : Value} {v1 : Value} (hv0 : Sl (Old w No) w v0 a0) (hv1 : Sl (Old w No) w v1 a1) :
    CallsR Try.prog 14 [v0, v1] w (fun u w' => u = (Value.bool res) ∧ Mem w No [] w') := by
  unfold humpgen_Cuts at h
  refine fn_ok Try.func14 rfl rfl rfl ?_
  have hm0 := Mem.nil w
  refine cw_seq ?_
  refine cw_region ?_
  refine t_rd rfl (rd_assign rfl) ?_
  refine rwt_nil ?_
  refine qn_then ?_
  refine cw_seq ?_
  refine cw_seq ?_
  refine cw_region ?_
  refine t_rd rfl (rd_move rfl) ?_
  refine t_rd rfl (rd_lenS tS27 rfl (hv0.of_old hm0)) ?_
  refine t_rd rfl (rd_move rfl) ?_
  refine t_rd rfl (rd_lenS tS27 rfl (hv1.of_old hm0)) ?_
  refine t_rd rfl (rd_neq rfl rfl) ?_
  refine rwt_nil ?_
  refine qn_then ?_
  obtain ⟨hb1, q2⟩ | ⟨hb1, q2⟩ := oi h <;> clear h
  · refine cw_t rfl hb1 ?_
    refine cw_seq ?_
    refine cw_region ?_
    refine t_rd rfl (rd_assign rfl) ?_
    refine rwt_nil ?_
    refine qn_then ?_
    refine cw_ret ?_
    refine qr_then ?_
    obtain rfl := os q2
    exact ret1 rfl rfl ⟨rfl, (hm0.pick [] (by decide) rfl)⟩
  · refine cw_f rfl hb1 ?_
    refine cw_skip ?_
    refine qn_then ?_
    refine cw_seq ?_
    refine cw_seq ?_
    refine cw_region ?_
    refine t_rd rfl (rd_assign rfl) ?_
    refine rwt_nil ?_
    refine qn_then ?_
    refine cw_block ?_
    obtain ⟨r45, hit46, q47⟩ := ob q2; clear q2
    refine cw_loop2 (I := fun q envq wq => Sub [(0, v0), (1, v1), (5, (Value.int .i64 q))] envq ∧ Mem w No [] wq) (X := fun eq envq wq => (∃ p48, r45 = (Sum.inl p48) ∧ eq = .ret ∧ retQ Try.prog 26 Try.f14 (fun u w' => u = (Value.bool p48) ∧ Mem w No [] w') .ret envq wq) ∨ (∃ p49, r45 = (Sum.inr p49) ∧ eq = .exit 0 ∧ Sub [] envq ∧ Mem w No [] wq)) hit46 ⟨(by repeat (first | exact Sub.nil _ | refine Sub.cons rfl ?_)), (hm0.pick [] (by decide) rfl)⟩ ?_ ?_
    · rintro i38 x40 env41 w42 hf43 hr44 ⟨hs_, hm_⟩
      have hs_ : Sub [(0, v0), (1, v1), (5, (Value.int .i64 i38))] env41 := hs_
      have hm50 : Mem w No [] w42 := hm_
      refine cw_sub hs_ ?_
      clear hs_ hm_ q47
      have h : humpgen_Cuts_l1 N a0 a1 i38 = some x40 := hf43
      clear hf43
      refine cw_seq ?_
      refine cw_seq ?_
      refine cw_region ?_
      refine t_rd rfl (rd_move rfl) ?_
      refine t_rd rfl (rd_move rfl) ?_
      refine t_rd rfl (rd_lenS tS27 rfl (hv0.of_old hm50)) ?_
      refine t_rd rfl (rd_lss rfl rfl) ?_
      refine rwt_nil ?_
      refine qn_then ?_
      obtain ⟨hb51, q52⟩ | ⟨hb51, q52⟩ := oi h <;> clear h
      · refine cw_t rfl hb51 ?_
        refine cw_skip ?_
        refine qn_then ?_
        refine cw_seq ?_
        refine cw_block ?_
        refine cw_seq ?_
        obtain ⟨w54, he56⟩ : ∃ q, q = w42.drew := ⟨_, rfl⟩
        have hm55 := hm50.drew; rw [← he56] at hm55
        refine cw_region_s (fun q => q = w54) (cls [] []) mixed ?_
        rintro _ rfl; rw [← he56]
        refine s_rp (i := 0) rfl (by kernel_rfl) rfl (fun _ => (rd_move rfl)) ?_
        refine s_rp (i := 1) rfl (by kernel_rfl) rfl (fun _ => (rd_move rfl)) ?_
        obtain ⟨x57, h58, q59⟩ := ob q52; clear q52
        refine s_rp (i := 2) rfl (by kernel_rfl) rfl (fun _ => (rd_index tS27 rfl rfl (hv0.of_old hm55) h58)) ?_
        refine s_rd (i := 3) rfl (by kernel_rfl) rfl (fun _ hS => by rw [hS]; exact (rd_ld tA33 rfl ((hv0.of_old hm55).cells h58) rfl)) rfl ?_
        refine s_rp (i := 4) rfl (by kernel_rfl) rfl (fun _ => (rd_move rfl)) ?_
        refine s_rp (i := 5) rfl (by kernel_rfl) rfl (fun _ => (rd_move rfl)) ?_
        obtain ⟨x60, h61, q62⟩ := ob q59; clear q59
        refine s_rp (i := 6) rfl (by kernel_rfl) rfl (fun _ => (rd_index tS27 rfl rfl (hv1.of_old hm55) h61)) ?_
        refine s_rd (i := 7) rfl (by kernel_rfl) rfl (fun _ hS => by rw [hS]; exact (rd_ld tA33 rfl ((hv1.of_old hm55).cells h61) rfl)) rfl ?_
        refine s_rp (i := 8) rfl (by kernel_rfl) rfl (fun _ => (rd_neqs eqs33 (a := x57) (b := x60) rfl rfl)) ?_
        refine s_nil (by kernel_rfl) ?_
        refine qn_then ?_
        obtain ⟨hb63, q64⟩ | ⟨hb63, q64⟩ := oi q62 <;> clear q62
        · refine cw_t rfl hb63 ?_
          refine cw_seq ?_
          refine cw_region ?_
          refine t_rd rfl (rd_assign rfl) ?_
          refine rwt_nil ?_
          refine qn_then ?_
          refine cw_ret ?_
          refine qr_block (qr_then (qr_then ?_))
          obtain rfl := hr44 _ (os q64)
          refine .inl (⟨_, rfl, ⟨rfl, ?_⟩⟩)
          exact ret1 rfl rfl ⟨rfl, (hm55.pick [] (by decide) rfl)⟩
        · refine cw_f rfl hb63 ?_
          refine cw_skip ?_
          refine qn_block (qn_then ?_)
          refine cw_region ?_
          refine t_rd rfl (rd_move rfl) ?_
          obtain ⟨x65, h66, q67⟩ := ob q64; clear q64
          refine t_rd rfl (rd_add64 h66 rfl rfl) ?_
          refine t_rd rfl (rd_assign rfl) ?_
          refine rwt_nil ?_
          refine qn_then ?_
          refine ⟨_, (os q67), (by repeat (first | exact Sub.nil _ | refine Sub.cons rfl ?_)), (hm55.pick [] (by decide) rfl)⟩
      · refine cw_f rfl hb51 ?_
        refine cw_exit ?_
        refine qx_then (qx_then ?_)
        obtain rfl := hr44 _ (os q52)
        exact .inr (⟨_, rfl, ⟨rfl, (by repeat (first | exact Sub.nil _ | refine Sub.cons rfl ?_)), (hm50.pick [] (by decide) rfl)⟩⟩)
    · skip
      intro e env68 w69 hX70
      rcases hX70 with hX70 | hX70
      · obtain ⟨p72, rfl, hX70⟩ := hX70
        obtain ⟨rfl, hq74⟩ := hX70
        exact qr_block (qr_then ((by have e := os q47; subst e; exact hq74)))
      · obtain ⟨p75, rfl, hX70⟩ := hX70
        obtain ⟨rfl, hs76, hm77⟩ := hX70
        refine qx_same (qn_then ?_)
        refine cw_sub hs76 ?_
        refine cw_seq ?_
        refine cw_region ?_
        refine t_rd rfl (rd_assign rfl) ?_
        refine rwt_nil ?_
        refine qn_then ?_
        refine cw_ret ?_
        obtain rfl := os q47
        exact ret1 rfl rfl ⟨rfl, (hm77.pick [] (by decide) rfl)⟩

theorem humpgen_Ints_ok {N : Nat} {a0 : List Int} {a1 : List Int} {res : Bool} (h : humpgen_Ints N a0 a1 = some res) {w : World} {v0 : Value} {v1 : Value} (hv0 : Sl (Old w No) w v0 a0) (hv1 : Sl (Old w No) w v1 a1) :
    CallsR Try.prog 28 [v0, v1] w (fun u w' => u = (Value.bool res) ∧ Mem w No [] w') := by
  unfold humpgen_Ints at h
  refine fn_ok Try.func28 rfl rfl rfl ?_
  have hm0 := Mem.nil w
  refine cw_seq ?_
  refine cw_region ?_
  refine t_rd rfl (rd_assign rfl) ?_
  refine rwt_nil ?_
  refine qn_then ?_
  refine cw_seq ?_
  refine cw_seq ?_
  refine cw_region ?_
  refine t_rd rfl (rd_move rfl) ?_
  refine t_rd rfl (rd_lenS tS35 rfl (hv0.of_old hm0)) ?_
  refine t_rd rfl (rd_move rfl) ?_
  refine t_rd rfl (rd_lenS tS35 rfl (hv1.of_old hm0)) ?_
  refine t_rd rfl (rd_neq rfl rfl) ?_
  refine rwt_nil ?_
  refine qn_then ?_
  obtain ⟨hb1, q2⟩ | ⟨hb1, q2⟩ := oi h <;> clear h
  · refine cw_t rfl hb1 ?_
    refine cw_seq ?_
    refine cw_region ?_
    refine t_rd rfl (rd_assign rfl) ?_
    refine rwt_nil ?_
    refine qn_then ?_
    refine cw_ret ?_
    refine qr_then ?_
    obtain rfl := os q2
    exact ret1 rfl rfl ⟨rfl, (hm0.pick [] (by decide) rfl)⟩
  · refine cw_f rfl hb1 ?_
    refine cw_skip ?_
    refine qn_then ?_
    refine cw_seq ?_
    refine cw_seq ?_
    refine cw_region ?_
    refine t_rd rfl (rd_assign rfl) ?_
    refine rwt_nil ?_
    refine qn_then ?_
    refine cw_block ?_
    obtain ⟨r45, hit46, q47⟩ := ob q2; clear q2
    refine cw_loop2 (I := fun q envq wq => Sub [(0, v0), (1, v1), (5, (Value.int .i64 q))] envq ∧ Mem w No [] wq) (X := fun eq envq wq => (∃ p48, r45 = (Sum.inl p48) ∧ eq = .ret ∧ retQ Try.prog 26 Try.f28 (fun u w' => u = (Value.bool p48) ∧ Mem w No [] w') .ret envq wq) ∨ (∃ p49, r45 = (Sum.inr p49) ∧ eq = .exit 0 ∧ Sub [] envq ∧ Mem w No [] wq)) hit46 ⟨(by repeat (first | exact Sub.nil _ | refine Sub.cons rfl ?_)), (hm0.pick [] (by decide) rfl)⟩ ?_ ?_
    · rintro i38 x40 env41 w42 hf43 hr44 ⟨hs_, hm_⟩
      have hs_ : Sub [(0, v0), (1, v1), (5, (Value.int .i64 i38))] env41 := hs_
      have hm50 : Mem w No [] w42 := hm_
      refine cw_sub hs_ ?_
      clear hs_ hm_ q47
      have h : humpgen_Ints_l1 N a0 a1 i38 = some x40 := hf43
      clear hf43
      refine cw_seq ?_
      refine cw_seq ?_
      refine cw_region ?_
      refine t_rd rfl (rd_move rfl) ?_
      refine t_rd rfl (rd_move rfl) ?_
      refine t_rd rfl (rd_lenS tS35 rfl (hv0.of_old hm50)) ?_
      refine t_rd rfl (rd_lss rfl rfl) ?_
      refine rwt_nil ?_
      refine qn_then ?_
      obtain ⟨hb51, q52⟩ | ⟨hb51, q52⟩ := oi h <;> clear h
      · refine cw_t rfl hb51 ?_
        refine cw_skip ?_
        refine qn_then ?_
        refine cw_seq ?_
        refine cw_block ?_
        refine cw_seq ?_
        obtain ⟨w54, he56⟩ : ∃ q, q = w42.drew := ⟨_, rfl⟩
        have hm55 := hm50.drew; rw [← he56] at hm55
        refine cw_region_s (fun q => q = w54) (cls [] []) mixed ?_
        rintro _ rfl; rw [← he56]
        refine s_rp (i := 0) rfl (by kernel_rfl) rfl (fun _ => (rd_move rfl)) ?_
        refine s_rp (i := 1) rfl (by kernel_rfl) rfl (fun _ => (rd_move rfl)) ?_
        obtain ⟨x57, h58, q59⟩ := ob q52; clear q52
        refine s_rp (i := 2) rfl (by kernel_rfl) rfl (fun _ => (rd_index tS35 rfl rfl (hv0.of_old hm55) h58)) ?_
        refine s_rd (i := 3) rfl (by kernel_rfl) rfl (fun _ hS => by rw [hS]; exact (rd_ld1 tO3 rfl ((hv0.of_old hm55).cells h58) (off := 0) rfl)) rfl ?_
        refine s_rp (i := 4) rfl (by kernel_rfl) rfl (fun _ => (rd_move rfl)) ?_
        refine s_rp (i := 5) rfl (by kernel_rfl) rfl (fun _ => (rd_move rfl)) ?_
        obtain ⟨x60, h61, q62⟩ := ob q59; clear q59
        refine s_rp (i := 6) rfl (by kernel_rfl) rfl (fun _ => (rd_index tS35 rfl rfl (hv1.of_old hm55) h61)) ?_
        refine s_rd (i := 7) rfl (by kernel_rfl) rfl (fun _ hS => by rw [hS]; exact (rd_ld1 tO3 rfl ((hv1.of_old hm55).cells h61) (off := 0) rfl)) rfl ?_
        refine s_rp (i := 8) rfl (by kernel_rfl) rfl (fun _ => (rd_neq rfl rfl)) ?_
        refine s_nil (by kernel_rfl) ?_
        refine qn_then ?_
        obtain ⟨hb63, q64⟩ | ⟨hb63, q64⟩ := oi q62 <;> clear q62
        · refine cw_t rfl hb63 ?_
          refine cw_seq ?_
          refine cw_region ?_
          refine t_rd rfl (rd_assign rfl) ?_
          refine rwt_nil ?_
          refine qn_then ?_
          refine cw_ret ?_
          refine qr_block (qr_then (qr_then ?_))
          obtain rfl := hr44 _ (os q64)
          refine .inl (⟨_, rfl, ⟨rfl, ?_⟩⟩)
          exact ret1 rfl rfl ⟨rfl, (hm55.pick [] (by decide) rfl)⟩
        · refine cw_f rfl hb63 ?_
          refine cw_skip ?_
          refine qn_block (qn_then ?_)
          refine cw_region ?_
          refine t_rd rfl (rd_move rfl) ?_
          obtain ⟨x65, h66, q67⟩ := ob q64; clear q64
          refine t_rd rfl (rd_add64 h66 rfl rfl) ?_
          refine t_rd rfl (rd_assign rfl) ?_
          refine rwt_nil ?_
          refine qn_then ?_
          refine ⟨_, (os q67), (by repeat (first | exact Sub.nil _ | refine Sub.cons rfl ?_)), (hm55.pick [] (by decide) rfl)⟩
      · refine cw_f rfl hb51 ?_
        refine cw_exit ?_
        refine qx_then (qx_then ?_)
        obtain rfl := hr44 _ (os q52)
        exact .inr (⟨_, rfl, ⟨rfl, (by repeat (first | exact Sub.nil _ | refine Sub.cons rfl ?_)), (hm50.pick [] (by decide) rfl)⟩⟩)
    · skip
      intro e env68 w69 hX70
      rcases hX70 with hX70 | hX70
      · obtain ⟨p72, rfl, hX70⟩ := hX70
        obtain ⟨rfl, hq74⟩ := hX70
        exact qr_block (qr_then ((by have e := os q47; subst e; exact hq74)))
      · obtain ⟨p75, rfl, hX70⟩ := hX70
        obtain ⟨rfl, hs76, hm77⟩ := hX70
        refine qx_same (qn_then ?_)
        refine cw_sub hs76 ?_
        refine cw_seq ?_
        refine cw_region ?_
        refine t_rd rfl (rd_assign rfl) ?_
        refine rwt_nil ?_
        refine qn_then ?_
        refine cw_ret ?_
        obtain rfl := os q47
        exact ret1 rfl rfl ⟨rfl, (hm77.pick [] (by decide) rfl)⟩

theorem Maker_Next_ok {N : Nat} {a0_l : List Int} {a0_n : Int} {a1 : Int} {res : Int × Int} (h : Maker_Next N a0_l a0_n a1 = some res) {w : World} {v0_l : Value} {g0 : Nat} (hv0_l : Sl (Old w (fun k => k = g0)) w v0_l a0_l) (hk0 : (blk g0 56 [v0_l, (Value.int .i64 a0_n)]).φ w) :
    CallsR Try.prog 13 [(Value.pointer (some ⟨g0, 0, none⟩)), (Value.int .i64 a1)] w (fun u w' => u = (Value.int .i64 res.2) ∧ Mem w (fun k => k = g0) [blk g0 56 [v0_l, (Value.int .i64 res.1)]] w') := by
  unfold Maker_Next at h
  refine fn_ok Try.func13 rfl rfl rfl ?_
  have hm0 := Mem.one hk0
  refine cw_seq ?_
  refine cw_region ?_
  refine t_rd rfl (rd_assign rfl) ?_
  refine rwt_nil ?_
  refine qn_then ?_
  refine cw_seq ?_
  refine cw_region ?_
  refine t_rd rfl (rd_assign rfl) ?_
  refine rwt_nil ?_
  refine qn_then ?_
  refine cw_seq ?_
  refine cw_seq ?_
  refine cw_region ?_
  refine t_rd rfl (rd_move rfl) ?_
  refine t_rd rfl (rd_nilCheck rfl) ?_
  refine t_rd rfl (rd_fld tF56_0 rfl) ?_
  refine t_rd rfl (rd_ld1 tO35 rfl (hm0.blk 0 rfl) (off := 0) rfl) ?_
  refine t_rd rfl (rd_lenS tS35 rfl (hv0_l.of_old hm0)) ?_
  refine t_rd rfl (rd_gtr rfl rfl) ?_
  refine rwt_nil ?_
  refine qn_then ?_
  obtain ⟨j69, hit70, q71⟩ := ob h; clear h
  refine cw_join (X := fun eq envq wq => eq = .normal ∧ Sub [(0, (Value.pointer (some ⟨g0, 0, none⟩))), (1, (Value.int .i64 a1)), (5, (Value.int .i64 j69))] envq ∧ Mem w (fun k => k = g0) [blk g0 56 [v0_l, (Value.int .i64 a0_n)]] wq) ?_ ?_
  · clear q71
    obtain ⟨hb72, q73⟩ | ⟨hb72, q73⟩ := oi hit70 <;> clear hit70
    · refine cw_t rfl hb72 ?_
      obtain ⟨w75, he77⟩ : ∃ q, q = w.drew := ⟨_, rfl⟩
      have hm76 := hm0.drew; rw [← he77] at hm76
      refine cw_region_s (fun q => q = w75) (cls [] []) mixed ?_
      rintro _ rfl; rw [← he77]
      refine s_rp (i := 0) rfl (by kernel_rfl) rfl (fun _ => (rd_move rfl)) ?_
      refine s_rp (i := 1) rfl (by kernel_rfl) rfl (fun _ => (rd_nilCheck rfl)) ?_
      refine s_rp (i := 2) rfl (by kernel_rfl) rfl (fun _ => (rd_fld tF56_0 rfl)) ?_
      refine s_rd (i := 3) rfl (by kernel_rfl) rfl (fun _ hS => by rw [hS]; exact (rd_ld1 tO35 rfl (hm76.blk 0 rfl) (off := 0) rfl)) rfl ?_
      refine s_rp (i := 4) rfl (by kernel_rfl) rfl (fun _ => (rd_move rfl)) ?_
      refine s_rp (i := 5) rfl (by kernel_rfl) rfl (fun _ => (rd_nilCheck rfl)) ?_
      refine s_rp (i := 6) rfl (by kernel_rfl) rfl (fun _ => (rd_fld tF56_1 rfl)) ?_
      refine s_rd (i := 7) rfl (by kernel_rfl) rfl (fun _ hS => by rw [hS]; exact (rd_ld1 tO3 rfl (hm76.blk 0 rfl) (off := 1) rfl)) rfl ?_
      refine s_rp (i := 8) rfl (by kernel_rfl) rfl (fun _ => (rd_move rfl)) ?_
      refine s_rp (i := 9) rfl (by kernel_rfl) rfl (fun _ => (rd_nilCheck rfl)) ?_
      refine s_rp (i := 10) rfl (by kernel_rfl) rfl (fun _ => (rd_fld tF56_0 rfl)) ?_
      refine s_rd (i := 11) rfl (by kernel_rfl) rfl (fun _ hS => by rw [hS]; exact (rd_ld1 tO35 rfl (hm76.blk 0 rfl) (off := 0) rfl)) rfl ?_
      refine s_rp (i := 12) rfl (by kernel_rfl) rfl (fun _ => (rd_lenS tS35 rfl (hv0_l.of_old hm76))) ?_
      obtain ⟨x78, h79, q80⟩ := ob q73; clear q73
      refine s_rp (i := 13) rfl (by kernel_rfl) rfl (fun _ => (rd_rem64 h79 rfl rfl)) ?_
      obtain ⟨x81, h82, q83⟩ := ob q80; clear q80
      refine s_rp (i := 14) rfl (by kernel_rfl) rfl (fun _ => (rd_index tS35 rfl rfl (hv0_l.of_old hm76) h82)) ?_
      refine s_rd (i := 15) rfl (by kernel_rfl) rfl (fun _ hS => by rw [hS]; exact (rd_ld1 tO3 rfl ((hv0_l.of_old hm76).cells h82) (off := 0) rfl)) rfl ?_
      refine s_rp (i := 16) rfl (by kernel_rfl) rfl (fun _ => (rd_move rfl)) ?_
      refine s_rp (i := 17) rfl (by kernel_rfl) rfl (fun _ => (rd_nilCheck rfl)) ?_
      refine s_rp (i := 18) rfl (by kernel_rfl) rfl (fun _ => (rd_fld tF56_1 rfl)) ?_
      refine s_rd (i := 19) rfl (by kernel_rfl) rfl (fun _ hS => by rw [hS]; exact (rd_ld1 tO3 rfl (hm76.blk 0 rfl) (off := 1) rfl)) rfl ?_
      refine s_rp (i := 20) rfl (by kernel_rfl) rfl (fun _ => (rd_move rfl)) ?_
      refine s_rp (i := 21) rfl (by kernel_rfl) rfl (fun _ => (rd_nilCheck rfl)) ?_
      refine s_rp (i := 22) rfl (by kernel_rfl) rfl (fun _ => (rd_fld tF56_0 rfl)) ?_
      refine s_rd (i := 23) rfl (by kernel_rfl) rfl (fun _ hS => by rw [hS]; exact (rd_ld1 tO35 rfl (hm76.blk 0 rfl) (off := 0) rfl)) rfl ?_
      refine s_rp (i := 24) rfl (by kernel_rfl) rfl (fun _ => (rd_lenS tS35 rfl (hv0_l.of_old hm76))) ?_
      obtain ⟨x84, h85, q86⟩ := ob q83; clear q83
      refine s_rp (i := 25) rfl (by kernel_rfl) rfl (fun _ => (rd_quo64 h85 rfl rfl)) ?_
      refine s_rp (i := 26) rfl (by kernel_rfl) rfl (fun _ => (rd_mulw rfl rfl)) ?_
      refine s_rp (i := 27) rfl (by kernel_rfl) rfl (fun _ => (rd_addw rfl rfl)) ?_
      refine s_rp (i := 28) rfl (by kernel_rfl) rfl (fun _ => (rd_assign rfl)) ?_
      refine s_nil (by kernel_rfl) ?_
      obtain rfl := os q86
      exact ⟨rfl, (by repeat (first | exact Sub.nil _ | refine Sub.cons rfl ?_)), (hm76.pick [0] (by decide) rfl)⟩
    · refine cw_f rfl hb72 ?_
      refine cw_skip ?_
      obtain rfl := os q73
      exact ⟨rfl, (by repeat (first | exact Sub.nil _ | refine Sub.cons rfl ?_)), (hm0.pick [0] (by decide) rfl)⟩
  · clear hit70
    intro e env87 w88 hX89
    obtain ⟨rfl, hs90, hm91⟩ := hX89
    refine qn_then ?_
    refine cw_sub hs90 ?_
    refine cw_seq ?_
    refine cw_region ?_
    refine t_rd rfl (rd_move rfl) ?_
    refine t_rd rfl (rd_nilCheck rfl) ?_
    refine t_rd rfl (rd_fld tF56_1 rfl) ?_
    refine t_rd rfl (rd_ld1 tO3 rfl (hm91.blk 0 rfl) (off := 1) rfl) ?_
    obtain ⟨x92, h93, q94⟩ := ob q71; clear q71
    refine t_rd rfl (rd_add64 h93 rfl rfl) ?_
    refine t_rd rfl (rd_nilCheck rfl) ?_
    refine t_rd rfl (rd_fld tF56_1 rfl) ?_
    refine t_ef0 (ef_st1 (k := 0) (off := 1) hm91 tO3 rfl rfl rfl rfl rfl rfl) ?_
    intro _ w96 hm95
    refine rwt_nil ?_
    refine qn_then ?_
    refine cw_seq ?_
    refine cw_region ?_
    refine t_rd rfl (rd_move rfl) ?_
    refine t_rd rfl (rd_move rfl) ?_
    obtain ⟨x97, h98, q99⟩ := ob q94; clear q94
    refine t_rd rfl (rd_rem64 h98 rfl rfl) ?_
    refine t_rd rfl (rd_assign rfl) ?_
    refine rwt_nil ?_
    refine qn_then ?_
    refine cw_seq ?_
    refine cw_seq ?_
    refine cw_region ?_
    refine t_rd rfl (rd_move rfl) ?_
    refine t_rd rfl (rd_lss rfl rfl) ?_
    refine rwt_nil ?_
    refine qn_then ?_
    obtain ⟨hb100, q101⟩ | ⟨hb100, q101⟩ := oi q99 <;> clear q99
    · refine cw_t rfl hb100 ?_
      refine cw_region ?_
      refine t_rd rfl (rd_move rfl) ?_
      refine t_rd rfl (rd_move rfl) ?_
      obtain ⟨x102, h103, q104⟩ := ob q101; clear q101
      refine t_rd rfl (rd_add64 h103 rfl rfl) ?_
      refine t_rd rfl (rd_assign rfl) ?_
      refine rwt_nil ?_
      refine qn_then ?_
      refine cw_seq ?_
      refine cw_region ?_
      refine t_rd rfl (rd_move rfl) ?_
      refine t_rd rfl (rd_assign rfl) ?_
      refine rwt_nil ?_
      refine qn_then ?_
      refine cw_ret ?_
      obtain rfl := os q104
      exact ret1 rfl rfl ⟨rfl, (hm95.pick [0] (by decide) rfl)⟩
    · refine cw_f rfl hb100 ?_
      refine cw_skip ?_
      refine qn_then ?_
      refine cw_seq ?_
      refine cw_region ?_
      refine t_rd rfl (rd_move rfl) ?_
      refine t_rd rfl (rd_assign rfl) ?_
      refine rwt_nil ?_
      refine qn_then ?_
      refine cw_ret ?_
      obtain rfl := os q101
      exact ret1 rfl rfl ⟨rfl, (hm95.pick [0] (by decide) rfl)⟩

theorem Maker_From_ok {N : Nat} {a0_l : List Int} {a0_n : Int} {a1 : Int} {a2 : Int} {res : Int × Int} (h : Maker_From N a0_l a0_n a1 a2 = some res) {w : World} {v0_l : Value} {g0 : Nat} (hv0_l : Sl (Old w (fun k => k = g0)) w v0_l a0_l) (hk0 : (blk g0 56 [v0_l, (Value.int .i64 a0_n)]).φ w) :
    CallsR Try.prog 15 [(Value.pointer (some ⟨g0, 0, none⟩)), (Value.int .i64 a1), (Value.int .i64 a2)] w (fun u w' => u = (Value.int .i64 res.2) ∧ Mem w (fun k => k = g0) [blk g0 56 [v0_l, (Value.int .i64 res.1)]] w') := by
  unfold Maker_From at h
  refine fn_ok Try.func15 rfl rfl rfl ?_
  have hm0 := Mem.one hk0
  refine cw_seq ?_
  refine cw_region ?_
  refine t_rd rfl (rd_assign rfl) ?_
  refine rwt_nil ?_
  refine qn_then ?_
  refine cw_seq ?_
  refine cw_region ?_
  refine t_rd rfl (rd_move rfl) ?_
  refine t_rd rfl (rd_move rfl) ?_
  refine t_rd rfl (rd_move rfl) ?_
  refine t_rd rfl (rd_move rfl) ?_
  obtain ⟨x16, h17, q18⟩ := ob h; clear h
  refine t_rd rfl (rd_sub64 h17 rfl rfl) ?_
  obtain ⟨x19, h20, q21⟩ := ob q18; clear q18
  refine t_rd rfl (rd_add64 h20 rfl rfl) ?_
  obtain ⟨r22, h23, q24⟩ := ob q21; clear q21
  refine t_ef rfl (ef_call tf13 rfl (Maker_Next_ok h23 (hv0_l.to_callT (k := 0) hm0 rfl) (hm0.get (k := 0) rfl))) ?_
  rintro _ w26 ⟨rfl, hm25⟩
  have hm27 := hm0.callT (k := 0) rfl (fun _ h => h) hm25 (fun _ => Iff.rfl)
  obtain ⟨x28, h29, q30⟩ := ob q24; clear q24
  refine t_rd rfl (rd_add64 h29 rfl rfl) ?_
  refine t_rd rfl (rd_assign rfl) ?_
  refine rwt_nil ?_
  refine qn_then ?_
  refine cw_ret ?_
  obtain rfl := os q30
  exact ret1 rfl rfl ⟨rfl, (hm27.pick [0] (by decide) rfl)⟩

theorem Maker_Pick_ok {N : Nat} {a0_l : List Int} {a0_n : Int} {a1 : List Int} {res : Int × Int} (h : Maker_Pick N a0_l a0_n a1 = some res) {w : World} {v0_l : Value} {g0 : Nat} {v1 : Value} (hv0_l : Sl (Old w (fun k => k = g0)) w v0_l a0_l) (hk0 : (blk g0 56 [v0_l, (Value.int .i64 a0_n)]).φ w) (hv1 : Sl (Old w (fun k => k = g0)) w v1 a1) :
    CallsR Try.prog 19 [(Value.pointer (some ⟨g0, 0, none⟩)), v1] w (fun u w' => u = (Value.int .i64 res.2) ∧ Mem w (fun k => k = g0) [blk g0 56 [v0_l, (Value.int .i64 res.1)]] w') := by
  unfold Maker_Pick at h
  refine fn_ok Try.func19 rfl rfl rfl ?_
  have hm0 := Mem.one hk0
  refine cw_seq ?_
  refine cw_region ?_
  refine t_rd rfl (rd_assign rfl) ?_
  refine rwt_nil ?_
  refine qn_then ?_
  refine cw_seq ?_
  refine cw_region ?_
  refine t_rd rfl (rd_move rfl) ?_
  refine t_rd rfl (rd_move rfl) ?_
  refine t_rd rfl (rd_move rfl) ?_
  refine t_rd rfl (rd_lenS tS35 rfl (hv1.of_old hm0)) ?_
  obtain ⟨r10, h11, q12⟩ := ob h; clear h
  refine t_ef rfl (ef_call tf13 rfl (Maker_Next_ok h11 (hv0_l.to_callT (k := 0) hm0 rfl) (hm0.get (k := 0) rfl))) ?_
  rintro _ w14 ⟨rfl, hm13⟩
  have hm15 := hm0.callT (k := 0) rfl (fun _ h => h) hm13 (fun _ => Iff.rfl)
  obtain ⟨x16, h17, q18⟩ := ob q12; clear q12
  refine t_rd rfl (rd_index tS35 rfl rfl (hv1.of_old hm15) h17) ?_
  refine t_rd rfl (rd_ld1 tO3 rfl ((hv1.of_old hm15).cells h17) (off := 0) rfl) ?_
  refine t_rd rfl (rd_assign rfl) ?_
  refine rwt_nil ?_
  refine qn_then ?_
  refine cw_ret ?_
  obtain rfl := os q18
  exact ret1 rfl rfl ⟨rfl, (hm15.pick [0] (by decide) rfl)⟩

theorem Maker_Pushed_ok {N : Nat} {a0_l : List Int} {a0_n : Int} {a1 : Int} {res : Int × List T_Pushed × T_CutRules} (h : Maker_Pushed N a0_l a0_n a1 = some res) {w : World} {v0_l : Value} {g0 : Nat} (hv0_l : Sl (Old w (fun k => k = g0)) w v0_l a0_l) (hk0 : (blk g0 56 [v0_l, (Value.int .i64 a0_n)]).φ w) :
    CallsR Try.prog 12 [(Value.pointer (some ⟨g0, 0, none⟩)), (Value.int .i64 a1)] w (fun u w' => ∃ y0 : Value, u = (Value.tuple #[y0, (Value.agg (Flat.enc res.2.2).toArray)]) ∧ Mem w (fun k => k = g0) [blk g0 56 [v0_l, (Value.int .i64 res.1)], ownL 26 y0 (res.2.1 : List T_Pushed)] w') := by
  unfold Maker_Pushed at h
  refine fn_ok Try.func12 rfl rfl rfl ?_
  have hm0 := Mem.one hk0
  refine cw_seq ?_
  refine cw_region ?_
  refine t_rd rfl (rd_assign rfl) ?_
  refine t_ef rfl (ef_alloc hm0 tZ23 rfl) ?_
  rintro _ w393 ⟨g391, rfl, hm392⟩
  refine rwt_nil ?_
  refine qn_then ?_
  refine cw_seq ?_
  refine cw_region ?_
  refine t_rd rfl (rd_move rfl) ?_
  obtain ⟨r394, h395, q396⟩ := ob h; clear h
  refine t_ef rfl (ef_call tf15 rfl (Maker_From_ok h395 (hv0_l.to_callT (k := 1) hm392 rfl) (hm392.get (k := 1) rfl))) ?_
  rintro _ w398 ⟨rfl, hm397⟩
  have hm399 := hm392.callT (k := 1) rfl (fun _ h => h) hm397 (fun _ => Iff.rfl)
  refine t_rd rfl (rd_move rfl) ?_
  obtain ⟨r400, h401, q402⟩ := ob q396; clear q396
  refine t_ef rfl (ef_call tf15 rfl (Maker_From_ok h401 (hv0_l.to_callT (k := 1) hm399 rfl) (hm399.get (k := 1) rfl))) ?_
  rintro _ w404 ⟨rfl, hm403⟩
  have hm405 := hm399.callT (k := 1) rfl (fun _ h => h) hm403 (fun _ => Iff.rfl)
  refine t_rd rfl (rd_move rfl) ?_
  obtain ⟨r406, h407, q408⟩ := ob q402; clear q402
  refine t_ef rfl (ef_call tf15 rfl (Maker_From_ok h407 (hv0_l.to_callT (k := 1) hm405 rfl) (hm405.get (k := 1) rfl))) ?_
  rintro _ w410 ⟨rfl, hm409⟩
  have hm411 := hm405.callT (k := 1) rfl (fun _ h => h) hm409 (fun _ => Iff.rfl)
  refine t_rd rfl (rd_build (cs := #[(Value.int .i64 r394.2), (Value.int .i64 r400.2), (Value.int .i64 r406.2)]) rfl (by kernel_rfl)) ?_
  refine t_ef rfl (ef_alloc hm411 tZ23 rfl) ?_
  rintro _ w414 ⟨g412, rfl, hm413⟩
  refine t_ef0 (ef_stw (k := 0) hm413 tA23 rfl rfl (oc_cons rfl (oc_cons rfl (oc_cons rfl oc_nil))) rfl rfl rfl) ?_
  intro _ w416 hm415
  refine rwt_nil ?_
  refine qn_then ?_
  refine cw_seq ?_
  refine cw_region ?_
  refine t_rd rfl (rd_assign rfl) ?_
  refine rwt_nil ?_
  refine qn_then ?_
  refine cw_seq ?_
  refine cw_region ?_
  refine t_rd rfl (rd_assign rfl) ?_
  refine rwt_nil ?_
  refine qn_then ?_
  refine cw_seq ?_
  refine cw_seq ?_
  refine cw_region ?_
  refine t_rd rfl (rd_move rfl) ?_
  refine t_rd rfl (rd_move rfl) ?_
  obtain ⟨x417, h418, q419⟩ := ob q408; clear q408
  refine t_rd rfl (rd_add64 h418 rfl rfl) ?_
  obtain ⟨r420, h421, q422⟩ := ob q419; clear q419
  refine t_ef rfl (ef_call tf13 rfl (Maker_Next_ok h421 (hv0_l.to_callT (k := 2) hm415 rfl) (hm415.get (k := 2) rfl))) ?_
  rintro _ w424 ⟨rfl, hm423⟩
  have hm425 := hm415.callT (k := 2) rfl (fun _ h => h) hm423 (fun _ => Iff.rfl)
  refine t_rd rfl (rd_assign rfl) ?_
  refine rwt_nil ?_
  refine qn_then ?_
  refine cw_block ?_
  have hm506 := hm425.addNil (α := T_Pushed) 26
  obtain ⟨r687, hit688, q689⟩ := ob q422; clear q422
  refine cw_loop2 (I := fun q envq wq => ∃ (v680 : Value), Sub [(0, (Value.pointer (some ⟨g0, 0, none⟩))), (5, (Value.pointer (some ⟨g391, 0, none⟩))), (6, (Value.pointer (some ⟨g412, 0, none⟩))), (7, v680), (8, (Value.int .i64 q.1)), (9, (Value.int .i64 q.2.1))] envq ∧ Mem w (fun k => k = g0) [ownL 26 v680 (q.2.2.2 : List T_Pushed), blk g412 23 [(Value.int .i64 r394.2), (Value.int .i64 r400.2), (Value.int .i64 r406.2)], blk g391 23 [(Value.int .i64 0), (Value.int .i64 0), (Value.int .i64 0)], blk g0 56 [v0_l, (Value.int .i64 q.2.2.1)]] wq) (X := fun eq envq wq => eq = .exit 0 ∧ ∃ (v675 : Value), Sub [(5, (Value.pointer (some ⟨g391, 0, none⟩))), (6, (Value.pointer (some ⟨g412, 0, none⟩))), (7, v675)] envq ∧ Mem w (fun k => k = g0) [ownL 26 v675 (r687.2 : List T_Pushed), blk g412 23 [(Value.int .i64 r394.2), (Value.int .i64 r400.2), (Value.int .i64 r406.2)], blk g391 23 [(Value.int .i64 0), (Value.int .i64 0), (Value.int .i64 0)], blk g0 56 [v0_l, (Value.int .i64 r687.1)]] wq) hit688 ⟨(Value.slice none 0 0), (by repeat (first | exact Sub.nil _ | refine Sub.cons rfl ?_)), (hm506.pick [0, 1, 2, 3] (by decide) rfl)⟩ ?_ ?_
  · rintro ⟨i676, i677, i678, l679⟩ x682 env683 w684 hf685 hr686 ⟨v680, hs_, hm_⟩
    have hs_ : Sub [(0, (Value.pointer (some ⟨g0, 0, none⟩))), (5, (Value.pointer (some ⟨g391, 0, none⟩))), (6, (Value.pointer (some ⟨g412, 0, none⟩))), (7, v680), (8, (Value.int .i64 i676)), (9, (Value.int .i64 i677))] env683 := hs_
    have hm690 : Mem w (fun k => k = g0) [ownL 26 v680 (l679 : List T_Pushed), blk g412 23 [(Value.int .i64 r394.2), (Value.int .i64 r400.2), (Value.int .i64 r406.2)], blk g391 23 [(Value.int .i64 0), (Value.int .i64 0), (Value.int .i64 0)], blk g0 56 [v0_l, (Value.int .i64 i678)]] w684 := hm_
    refine cw_sub hs_ ?_
    clear hs_ hm_ q689
    have h : Maker_Pushed_l1 N a0_l i676 i677 i678 l679 = some x682 := hf685
    clear hf685
    refine cw_seq ?_
    refine cw_seq ?_
    refine cw_region ?_
    refine t_rd rfl (rd_move rfl) ?_
    refine t_rd rfl (rd_gtr rfl rfl) ?_
    refine rwt_nil ?_
    refine qn_then ?_
    obtain ⟨hb691, q692⟩ | ⟨hb691, q692⟩ := oi h <;> clear h
    · refine cw_t rfl hb691 ?_
      refine cw_skip ?_
      refine qn_then ?_
      refine cw_seq ?_
      refine cw_block ?_
      refine cw_seq ?_
      refine cw_seq ?_
      refine cw_region ?_
      refine t_rd rfl (rd_move rfl) ?_
      obtain ⟨r693, h694, q695⟩ := ob q692; clear q692
      refine t_ef rfl (ef_call tf13 rfl (Maker_Next_ok h694 (hv0_l.to_callT (k := 3) hm690 rfl) (hm690.get (k := 3) rfl))) ?_
      rintro _ w697 ⟨rfl, hm696⟩
      have hm698 := hm690.callT (k := 3) rfl (fun _ h => h) hm696 (fun _ => Iff.rfl)
      refine t_rd rfl (rd_eql rfl rfl) ?_
      refine rwt_nil ?_
      refine qn_then ?_
      obtain ⟨j709, hit710, q711⟩ := ob q695; clear q695
      refine cw_join (X := fun eq envq wq => eq = .normal ∧ Sub [(0, (Value.pointer (some ⟨g0, 0, none⟩))), (5, (Value.pointer (some ⟨g391, 0, none⟩))), (6, (Value.pointer (some ⟨g412, 0, none⟩))), (7, v680), (8, (Value.int .i64 j709.1)), (9, (Value.int .i64 i677))] envq ∧ Mem w (fun k => k = g0) [ownL 26 v680 (l679 : List T_Pushed), blk g412 23 [(Value.int .i64 r394.2), (Value.int .i64 r400.2), (Value.int .i64 r406.2)], blk g391 23 [(Value.int .i64 0), (Value.int .i64 0), (Value.int .i64 0)], blk g0 56 [v0_l, (Value.int .i64 j709.2)]] wq) ?_ ?_
      · clear q711
        obtain ⟨hb712, q713⟩ | ⟨hb712, q713⟩ := oi hit710 <;> clear hit710
        · refine cw_t rfl hb712 ?_
          refine cw_region ?_
          refine t_rd rfl (rd_move rfl) ?_
          obtain ⟨r714, h715, q716⟩ := ob q713; clear q713
          refine t_ef rfl (ef_call tf13 rfl (Maker_Next_ok h715 (hv0_l.to_callT (k := 3) hm698 rfl) (hm698.get (k := 3) rfl))) ?_
          rintro _ w718 ⟨rfl, hm717⟩
          have hm719 := hm698.callT (k := 3) rfl (fun _ h => h) hm717 (fun _ => Iff.rfl)
          refine t_rd rfl (rd_assign rfl) ?_
          refine rwt_nil ?_
          obtain rfl := os q716
          exact ⟨rfl, (by repeat (first | exact Sub.nil _ | refine Sub.cons rfl ?_)), (hm719.pick [0, 1, 2, 3] (by decide) rfl)⟩
        · refine cw_f rfl hb712 ?_
          refine cw_skip ?_
          obtain rfl := os q713
          exact ⟨rfl, (by repeat (first | exact Sub.nil _ | refine Sub.cons rfl ?_)), (hm698.pick [0, 1, 2, 3] (by decide) rfl)⟩
      · clear hit710
        intro e env720 w721 hX722
        obtain ⟨rfl, hs723, hm724⟩ := hX722
        refine qn_then ?_
        refine cw_sub hs723 ?_
        refine cw_region ?_
        refine t_rd rfl (rd_move rfl) ?_
        refine t_rd rfl (rd_move rfl) ?_
        refine t_ef rfl (ef_bslice (l := ([80, 142, 199, 262, 400] : List Int)) hm724 tS35 rfl (cs := #[(Value.int .i64 80), (Value.int .i64 142), (Value.int .i64 199), (Value.int .i64 262), (Value.int .i64 400)]) (by unfold bsl; kernel_rfl) rfl rfl) ?_
        intro v725 w727 hm726
        obtain ⟨r728, h729, q730⟩ := ob q711; clear q711
        refine t_ef rfl (ef_call tf19 rfl (Maker_Pick_ok h729 (hv0_l.to_callT (k := 4) hm726 rfl) (hm726.get (k := 4) rfl) (hm726.sl_callT 0 4 rfl rfl (by decide)))) ?_
        rintro _ w732 ⟨rfl, hm731⟩
        have hm733 := hm726.callT (k := 4) rfl (fun _ h => h) hm731 (fun _ => Iff.rfl)
        refine t_rd rfl (rd_move rfl) ?_
        refine t_ef rfl (ef_bslice (l := ([2, 4, 4, 6] : List Int)) hm733 tS35 rfl (cs := #[(Value.int .i64 2), (Value.int .i64 4), (Value.int .i64 4), (Value.int .i64 6)]) (by unfold bsl; kernel_rfl) rfl rfl) ?_
        intro v734 w736 hm735
        obtain ⟨r737, h738, q739⟩ := ob q730; clear q730
        refine t_ef rfl (ef_call tf19 rfl (Maker_Pick_ok h738 (hv0_l.to_callT (k := 5) hm735 rfl) (hm735.get (k := 5) rfl) (hm735.sl_callT 0 5 rfl rfl (by decide)))) ?_
        rintro _ w741 ⟨rfl, hm740⟩
        have hm742 := hm735.callT (k := 5) rfl (fun _ h => h) hm740 (fun _ => Iff.rfl)
        refine t_rd rfl (rd_move rfl) ?_
        refine t_ef rfl (ef_bslice (l := ([100, 400, 800] : List Int)) hm742 tS35 rfl (cs := #[(Value.int .i64 100), (Value.int .i64 400), (Value.int .i64 800)]) (by unfold bsl; kernel_rfl) rfl rfl) ?_
        intro v743 w745 hm744
        obtain ⟨r746, h747, q748⟩ := ob q739; clear q739
        refine t_ef rfl (ef_call tf19 rfl (Maker_Pick_ok h747 (hv0_l.to_callT (k := 6) hm744 rfl) (hm744.get (k := 6) rfl) (hm744.sl_callT 0 6 rfl rfl (by decide)))) ?_
        rintro _ w750 ⟨rfl, hm749⟩
        have hm751 := hm744.callT (k := 6) rfl (fun _ h => h) hm749 (fun _ => Iff.rfl)
        refine t_rd rfl (rd_move rfl) ?_
        obtain ⟨r752, h753, q754⟩ := ob q748; clear q748
        refine t_ef rfl (ef_call tf13 rfl (Maker_Next_ok h753 (hv0_l.to_callT (k := 6) hm751 rfl) (hm751.get (k := 6) rfl))) ?_
        rintro _ w756 ⟨rfl, hm755⟩
        have hm757 := hm751.callT (k := 6) rfl (fun _ h => h) hm755 (fun _ => Iff.rfl)
        refine t_rd rfl (rd_eql rfl rfl) ?_
        refine t_rd rfl (rd_move rfl) ?_
        refine t_rd rfl (rd_build (cs := #[(Value.int .i64 r728.2), (Value.int .i64 r737.2), (Value.int .i64 r746.2), (Value.bool (decide (r752.2 = 0))), (Value.int .i64 j709.1)]) rfl (by kernel_rfl)) ?_
        refine t_ef rfl (ef_bslice (l := ([(T_Pushed.mk r728.2 r737.2 r746.2 (decide (r752.2 = 0)) j709.1)] : List T_Pushed)) hm757 tS24 rfl (cs := #[(Value.int .i64 r728.2), (Value.int .i64 r737.2), (Value.int .i64 r746.2), (Value.bool (decide (r752.2 = 0))), (Value.int .i64 j709.1)]) (by unfold bsl; kernel_rfl) rfl rfl) ?_
        intro v758 w760 hm759
        obtain ⟨l761, h762, q763⟩ := ob q754; clear q754
        refine t_ef rfl (ef_append (k := 4) hm759 tS24 tE26 rfl rfl rfl rfl (hm759.sl 0 rfl) h762) ?_
        intro v764 w766 hm765
        refine t_rd rfl (rd_assign rfl) ?_
        refine rwt_nil ?_
        refine qn_block (qn_then ?_)
        refine cw_region ?_
        refine t_rd rfl (rd_move rfl) ?_
        obtain ⟨x767, h768, q769⟩ := ob q763; clear q763
        refine t_rd rfl (rd_sub64 h768 rfl rfl) ?_
        refine t_rd rfl (rd_assign rfl) ?_
        refine rwt_nil ?_
        refine qn_then ?_
        refine ⟨_, (os q769), v764, (by repeat (first | exact Sub.nil _ | refine Sub.cons rfl ?_)), (hm765.pick [4, 5, 6, 7] (by decide) rfl)⟩
    · refine cw_f rfl hb691 ?_
      refine cw_exit ?_
      refine qx_then (qx_then ?_)
      obtain rfl := hr686 _ (os q692)
      exact ⟨rfl, v680, (by repeat (first | exact Sub.nil _ | refine Sub.cons rfl ?_)), (hm690.pick [0, 1, 2, 3] (by decide) rfl)⟩
  · skip
    intro e env770 w771 hX772
    obtain ⟨rfl, v675, hs773, hm774⟩ := hX772
    refine qx_same (qn_then ?_)
    refine cw_sub hs773 ?_
    refine cw_seq ?_
    obtain ⟨w776, he778⟩ : ∃ q, q = w771.drew := ⟨_, rfl⟩
    have hm777 := hm774.drew; rw [← he778] at hm777
    refine cw_region_s (fun q => q = w776) (cls [] [3]) mixed ?_
    rintro _ rfl; rw [← he778]
    refine s_rp (i := 0) rfl (by kernel_rfl) rfl (fun _ => (rd_move rfl)) ?_
    refine s_rd (i := 1) rfl (by kernel_rfl) rfl (fun _ hS => by rw [hS]; exact (rd_ld tA23 rfl (hm777.blk 1 rfl) rfl)) rfl ?_
    refine s_rp (i := 2) rfl (by kernel_rfl) rfl (fun _ => (rd_assign rfl)) ?_
    refine s_ef0 (i := 3) rfl (by kernel_rfl) (ef_stw (k := 2) hm777 tA23 rfl rfl (oc_cons rfl (oc_cons rfl (oc_cons rfl oc_nil))) rfl rfl rfl) (by decide) (fun _ _ _ q => absurd q (by decide)) ?_
    intro _ w780 hm779
    refine s_nil (by kernel_rfl) ?_
    refine qn_then ?_
    refine cw_ret ?_
    obtain rfl := os q689
    exact retLn (rs := [.tmp 4, .cell 5 23]) rfl (.rt rfl (.rc rfl tA23 (hm779.blk 2 rfl) rfl .rn)) rfl ⟨v675, rfl, (hm779.pick [3, 0] (by decide) rfl)⟩

theorem humpgen_New_ok {N : Nat} {a0 : List Int} {res : Int} (h : humpgen_New N a0 = some res) {w : World} {v0 : Value} (hv0 : Sl (Old w No) w v0 a0) :
    CallsR Try.prog 11 [v0] w (fun u w' => ∃ gr : Nat, u = (Value.pointer (some ⟨gr, 0, none⟩)) ∧ Mem w No [blk gr 56 [v0, (Value.int .i64 res)]] w') := by
  unfold humpgen_New at h
  refine fn_ok Try.func11 rfl rfl rfl ?_
  have hm0 := Mem.nil w
  refine cw_seq ?_
  refine cw_region ?_
  refine t_rd rfl (rd_assign rfl) ?_
  refine rwt_nil ?_
  refine qn_then ?_
  refine cw_seq ?_
  refine cw_region ?_
  refine t_rd rfl (rd_move rfl) ?_
  refine t_rd rfl (rd_build (cs := #[v0, (Value.int .i64 0)]) rfl (by obtain ⟨_, _, e⟩ := ((hv0.of_old hm0)).val; rw [e]; clear e; kernel_rfl)) ?_
  refine t_ef rfl (ef_box hm0 rfl rfl) ?_
  rintro _ w6 ⟨g4, rfl, hm5⟩
  refine t_rd rfl (rd_assign rfl) ?_
  refine rwt_nil ?_
  refine qn_then ?_
  refine cw_ret ?_
  obtain rfl := os h
  exact ret1 rfl rfl ⟨g4, rfl, (hm5.pick [0] (by decide) rfl)⟩

theorem r18_Valid_ok {N : Nat} {a0 : List T_Pushed} {a1 : T_CutRules} {res : Int} (h : r18_Valid N a0 a1 = some res) {w : World} {v0 : Value} (hv0 : Sl (Old w No) w v0 a0) :
    CallsR Try.prog 25 [v0, (Value.agg (Flat.enc a1).toArray)] w (fun u w' => u = (Value.int .i64 res) ∧ Mem w No [] w') := by
  unfold r18_Valid at h
  refine fn_ok Try.func25 rfl rfl rfl ?_
  have hm0 := Mem.nil w
  refine cw_seq ?_
  refine cw_region ?_
  refine t_ef rfl (ef_box hm0 rfl rfl) ?_
  rintro _ w3 ⟨g1, rfl, hm2⟩
  refine t_rd rfl (rd_assign rfl) ?_
  refine rwt_nil ?_
  refine qn_then ?_
  refine cw_seq ?_
  refine cw_seq ?_
  refine cw_region ?_
  refine t_rd rfl (rd_fld tF23_0 rfl) ?_
  refine t_rd rfl (rd_ld1 tO3 rfl (hm2.blk 0 rfl) (off := 0) rfl) ?_
  refine t_rd rfl (rd_lss rfl rfl) ?_
  refine t_rd rfl (rd_move rfl) ?_
  refine t_rdg rfl rfl rfl rfl (gv_f _) (fun hg4 => (rd_fld tF23_0 rfl)) ?_
  refine t_rdg rfl rfl rfl rfl (gv_f _) (fun hg5 => (rd_ld1 tO3 (gvx rfl hg5) (hm2.blk 0 rfl) (off := 0) rfl)) ?_
  refine t_rdg rfl rfl rfl rfl (gv_f _) (fun hg6 => (rd_gtr (gvx rfl hg6) rfl)) ?_
  refine t_rd rfl (rd_or rfl (fun hc7 => (gvx rfl (bnotIt hc7)))) ?_
  refine t_rd rfl (rd_move rfl) ?_
  refine t_rdg rfl rfl rfl rfl (gv_f _) (fun hg8 => (rd_fld tF23_1 rfl)) ?_
  refine t_rdg rfl rfl rfl rfl (gv_f _) (fun hg9 => (rd_ld1 tO3 (gvx rfl hg9) (hm2.blk 0 rfl) (off := 1) rfl)) ?_
  refine t_rdg rfl rfl rfl rfl (gv_f _) (fun hg10 => (rd_lss (gvx rfl hg10) rfl)) ?_
  refine t_rd rfl (rd_or rfl (fun hc11 => (gvx rfl (bnotIt hc11)))) ?_
  refine t_rd rfl (rd_move rfl) ?_
  refine t_rdg rfl rfl rfl rfl (gv_f _) (fun hg12 => (rd_fld tF23_1 rfl)) ?_
  refine t_rdg rfl rfl rfl rfl (gv_f _) (fun hg13 => (rd_ld1 tO3 (gvx rfl hg13) (hm2.blk 0 rfl) (off := 1) rfl)) ?_
  refine t_rdg rfl rfl rfl rfl (gv_f _) (fun hg14 => (rd_gtr (gvx rfl hg14) rfl)) ?_
  refine t_rd rfl (rd_or rfl (fun hc15 => (gvx rfl (bnotIt hc15)))) ?_
  refine t_rd rfl (rd_move rfl) ?_
  refine t_rdg rfl rfl rfl rfl (gv_f _) (fun hg16 => (rd_fld tF23_2 rfl)) ?_
  refine t_rdg rfl rfl rfl rfl (gv_f _) (fun hg17 => (rd_ld1 tO3 (gvx rfl hg17) (hm2.blk 0 rfl) (off := 2) rfl)) ?_
  refine t_rdg rfl rfl rfl rfl (gv_f _) (fun hg18 => (rd_lss (gvx rfl hg18) rfl)) ?_
  refine t_rd rfl (rd_or rfl (fun hc19 => (gvx rfl (bnotIt hc19)))) ?_
  refine t_rd rfl (rd_move rfl) ?_
  refine t_rdg rfl rfl rfl rfl (gv_f _) (fun hg20 => (rd_fld tF23_2 rfl)) ?_
  refine t_rdg rfl rfl rfl rfl (gv_f _) (fun hg21 => (rd_ld1 tO3 (gvx rfl hg21) (hm2.blk 0 rfl) (off := 2) rfl)) ?_
  refine t_rdg rfl rfl rfl rfl (gv_f _) (fun hg22 => (rd_gtr (gvx rfl hg22) rfl)) ?_
  refine t_rd rfl (rd_or rfl (fun hc23 => (gvx rfl (bnotIt hc23)))) ?_
  refine rwt_nil ?_
  refine qn_then ?_
  obtain ⟨hb24, q25⟩ | ⟨hb24, q25⟩ := oi h <;> clear h
  · refine cw_t rfl hb24 ?_
    refine cw_seq ?_
    refine cw_region ?_
    refine t_rd rfl (rd_assign rfl) ?_
    refine rwt_nil ?_
    refine qn_then ?_
    refine cw_ret ?_
    refine qr_then ?_
    obtain rfl := os q25
    exact ret1 rfl rfl ⟨rfl, (hm2.pick [] (by decide) rfl)⟩
  · refine cw_f rfl hb24 ?_
    refine cw_skip ?_
    refine qn_then ?_
    refine cw_seq ?_
    refine cw_seq ?_
    refine cw_region ?_
    refine t_rd rfl (rd_move rfl) ?_
    refine t_rd rfl (rd_lenS tS24 rfl (hv0.of_old hm2)) ?_
    refine t_rd rfl (rd_gtr rfl rfl) ?_
    refine rwt_nil ?_
    refine qn_then ?_
    obtain ⟨hb26, q27⟩ | ⟨hb26, q27⟩ := oi q25 <;> clear q25
    · refine cw_t rfl hb26 ?_
      refine cw_seq ?_
      refine cw_region ?_
      refine t_rd rfl (rd_assign rfl) ?_
      refine rwt_nil ?_
      refine qn_then ?_
      refine cw_ret ?_
      refine qr_then ?_
      obtain rfl := os q27
      exact ret1 rfl rfl ⟨rfl, (hm2.pick [] (by decide) rfl)⟩
    · refine cw_f rfl hb26 ?_
      refine cw_skip ?_
      refine qn_then ?_
      refine cw_seq ?_
      refine cw_seq ?_
      refine cw_region ?_
      refine t_rd rfl (rd_assign rfl) ?_
      refine rwt_nil ?_
      refine qn_then ?_
      refine cw_block ?_
      obtain ⟨r146, hit147, q148⟩ := ob q27; clear q27
      refine cw_loop2 (I := fun q envq wq => Sub [(0, v0), (3, (Value.pointer (some ⟨g1, 0, none⟩))), (5, (Value.int .i64 q))] envq ∧ Mem w No [blk g1 23 [(Value.int .i64 a1.Wagons), (Value.int .i64 a1.Axles), (Value.int .i64 a1.Length)]] wq) (X := fun eq envq wq => (∃ p149, r146 = (Sum.inl p149) ∧ eq = .ret ∧ retQ Try.prog 100 Try.f25 (fun u w' => u = (Value.int .i64 p149) ∧ Mem w No [] w') .ret envq wq) ∨ (∃ p150, r146 = (Sum.inr p150) ∧ eq = .exit 0 ∧ Sub [] envq ∧ Mem w No [] wq)) hit147 ⟨(by repeat (first | exact Sub.nil _ | refine Sub.cons rfl ?_)), (hm2.pick [0] (by decide) rfl)⟩ ?_ ?_
      · rintro i139 x141 env142 w143 hf144 hr145 ⟨hs_, hm_⟩
        have hs_ : Sub [(0, v0), (3, (Value.pointer (some ⟨g1, 0, none⟩))), (5, (Value.int .i64 i139))] env142 := hs_
        have hm151 : Mem w No [blk g1 23 [(Value.int .i64 a1.Wagons), (Value.int .i64 a1.Axles), (Value.int .i64 a1.Length)]] w143 := hm_
        refine cw_sub hs_ ?_
        clear hs_ hm_ q148
        have h : r18_Valid_l1 N a0 a1 i139 = some x141 := hf144
        clear hf144
        refine cw_seq ?_
        refine cw_seq ?_
        refine cw_region ?_
        refine t_rd rfl (rd_move rfl) ?_
        refine t_rd rfl (rd_move rfl) ?_
        refine t_rd rfl (rd_lenS tS24 rfl (hv0.of_old hm151)) ?_
        refine t_rd rfl (rd_lss rfl rfl) ?_
        refine rwt_nil ?_
        refine qn_then ?_
        obtain ⟨hb152, q153⟩ | ⟨hb152, q153⟩ := oi h <;> clear h
        · refine cw_t rfl hb152 ?_
          refine cw_skip ?_
          refine qn_then ?_
          refine cw_seq ?_
          refine cw_block ?_
          refine cw_seq ?_
          refine cw_region ?_
          refine t_rd rfl (rd_move rfl) ?_
          refine t_rd rfl (rd_move rfl) ?_
          obtain ⟨x154, h155, q156⟩ := ob q153; clear q153
          refine t_rd rfl (rd_index tS24 rfl rfl (hv0.of_old hm151) h155) ?_
          refine t_rd rfl (rd_ld tA26 rfl ((hv0.of_old hm151).cells h155) rfl) ?_
          refine t_ef rfl (ef_alloc hm151 tZ26 rfl) ?_
          rintro _ w159 ⟨g157, rfl, hm158⟩
          refine t_ef0 (ef_stw (k := 0) hm158 tA26 rfl rfl (oc_cons rfl (oc_cons rfl (oc_cons rfl (oc_cons rfl (oc_cons rfl oc_nil))))) rfl rfl rfl) ?_
          intro _ w161 hm160
          refine rwt_nil ?_
          refine qn_then ?_
          refine cw_seq ?_
          refine cw_region ?_
          refine t_rd rfl (rd_fld tF26_0 rfl) ?_
          refine t_rd rfl (rd_ld1 tO3 rfl (hm160.blk 0 rfl) (off := 0) rfl) ?_
          refine t_rd rfl (rd_lss rfl rfl) ?_
          refine t_rd rfl (rd_move rfl) ?_
          refine t_rdg rfl rfl rfl rfl (gv_f _) (fun hg162 => (rd_fld tF26_0 rfl)) ?_
          refine t_rdg rfl rfl rfl rfl (gv_f _) (fun hg163 => (rd_ld1 tO3 (gvx rfl hg163) (hm160.blk 0 rfl) (off := 0) rfl)) ?_
          refine t_rdg rfl rfl rfl rfl (gv_f _) (fun hg164 => (rd_gtr (gvx rfl hg164) rfl)) ?_
          refine t_rd rfl (rd_or rfl (fun hc165 => (gvx rfl (bnotIt hc165)))) ?_
          refine t_rd rfl (rd_move rfl) ?_
          refine t_rdg rfl rfl rfl rfl (gv_f _) (fun hg166 => (rd_fld tF26_1 rfl)) ?_
          refine t_rdg rfl rfl rfl rfl (gv_f _) (fun hg167 => (rd_ld1 tO3 (gvx rfl hg167) (hm160.blk 0 rfl) (off := 1) rfl)) ?_
          refine t_rdg rfl rfl rfl rfl (gv_f _) (fun hg168 => (rd_lss (gvx rfl hg168) rfl)) ?_
          refine t_rd rfl (rd_or rfl (fun hc169 => (gvx rfl (bnotIt hc169)))) ?_
          refine t_rd rfl (rd_move rfl) ?_
          refine t_rdg rfl rfl rfl rfl (gv_f _) (fun hg170 => (rd_fld tF26_1 rfl)) ?_
          refine t_rdg rfl rfl rfl rfl (gv_f _) (fun hg171 => (rd_ld1 tO3 (gvx rfl hg171) (hm160.blk 0 rfl) (off := 1) rfl)) ?_
          refine t_rdg rfl rfl rfl rfl (gv_f _) (fun hg172 => (rd_gtr (gvx rfl hg172) rfl)) ?_
          refine t_rd rfl (rd_or rfl (fun hc173 => (gvx rfl (bnotIt hc173)))) ?_
          refine t_rd rfl (rd_move rfl) ?_
          refine t_rdg rfl rfl rfl rfl (gv_f _) (fun hg174 => (rd_fld tF26_2 rfl)) ?_
          refine t_rdg rfl rfl rfl rfl (gv_f _) (fun hg175 => (rd_ld1 tO3 (gvx rfl hg175) (hm160.blk 0 rfl) (off := 2) rfl)) ?_
          refine t_rdg rfl rfl rfl rfl (gv_f _) (fun hg176 => (rd_lss (gvx rfl hg176) rfl)) ?_
          refine t_rd rfl (rd_or rfl (fun hc177 => (gvx rfl (bnotIt hc177)))) ?_
          refine t_rd rfl (rd_move rfl) ?_
          refine t_rdg rfl rfl rfl rfl (gv_f _) (fun hg178 => (rd_fld tF26_2 rfl)) ?_
          refine t_rdg rfl rfl rfl rfl (gv_f _) (fun hg179 => (rd_ld1 tO3 (gvx rfl hg179) (hm160.blk 0 rfl) (off := 2) rfl)) ?_
          refine t_rdg rfl rfl rfl rfl (gv_f _) (fun hg180 => (rd_gtr (gvx rfl hg180) rfl)) ?_
          refine t_rd rfl (rd_or rfl (fun hc181 => (gvx rfl (bnotIt hc181)))) ?_
          refine t_rd rfl (rd_move rfl) ?_
          refine t_rdg rfl rfl rfl rfl (gv_f _) (fun hg182 => (rd_fld tF26_4 rfl)) ?_
          refine t_rdg rfl rfl rfl rfl (gv_f _) (fun hg183 => (rd_ld1 tO3 (gvx rfl hg183) (hm160.blk 0 rfl) (off := 4) rfl)) ?_
          refine t_rdg rfl rfl rfl rfl (gv_f _) (fun hg184 => (rd_lss (gvx rfl hg184) rfl)) ?_
          refine t_rd rfl (rd_or rfl (fun hc185 => (gvx rfl (bnotIt hc185)))) ?_
          refine t_rd rfl (rd_move rfl) ?_
          refine t_rdg rfl rfl rfl rfl (gv_f _) (fun hg186 => (rd_fld tF26_4 rfl)) ?_
          refine t_rdg rfl rfl rfl rfl (gv_f _) (fun hg187 => (rd_ld1 tO3 (gvx rfl hg187) (hm160.blk 0 rfl) (off := 4) rfl)) ?_
          refine t_rdg rfl rfl rfl rfl (gv_f _) (fun hg188 => (rd_geq (gvx rfl hg188) rfl)) ?_
          refine t_rd rfl (rd_or rfl (fun hc189 => (gvx rfl (bnotIt hc189)))) ?_
          refine t_rd rfl (rd_move rfl) ?_
          refine t_rdg rfl rfl rfl rfl (gv_f _) (fun hg190 => (rd_fld tF26_1 rfl)) ?_
          refine t_rdg rfl rfl rfl rfl (gv_f _) (fun hg191 => (rd_ld1 tO3 (gvx rfl hg191) (hm160.blk 0 rfl) (off := 1) rfl)) ?_
          refine t_rdg rfl rfl rfl rfl (gv_f _) (fun hg192 => (rd_fld tF23_1 rfl)) ?_
          refine t_rdg rfl rfl rfl rfl (gv_f _) (fun hg193 => (rd_ld1 tO3 (gvx rfl hg193) (hm160.blk 1 rfl) (off := 1) rfl)) ?_
          refine t_rdg rfl rfl rfl rfl (gv_f _) (fun hg194 => (rd_gtr (gvx rfl hg194) (gvx rfl hg194))) ?_
          refine t_rd rfl (rd_or rfl (fun hc195 => (gvx rfl (bnotIt hc195)))) ?_
          refine t_rd rfl (rd_move rfl) ?_
          refine t_rdg rfl rfl rfl rfl (gv_f _) (fun hg196 => (rd_fld tF26_0 rfl)) ?_
          refine t_rdg rfl rfl rfl rfl (gv_f _) (fun hg197 => (rd_ld1 tO3 (gvx rfl hg197) (hm160.blk 0 rfl) (off := 0) rfl)) ?_
          refine t_rdg rfl rfl rfl rfl (gv_f _) (fun hg198 => (rd_fld tF23_2 rfl)) ?_
          refine t_rdg rfl rfl rfl rfl (gv_f _) (fun hg199 => (rd_ld1 tO3 (gvx rfl hg199) (hm160.blk 1 rfl) (off := 2) rfl)) ?_
          refine t_rdg rfl rfl rfl rfl (gv_f _) (fun hg200 => (rd_gtr (gvx rfl hg200) (gvx rfl hg200))) ?_
          refine t_rd rfl (rd_or rfl (fun hc201 => (gvx rfl (bnotIt hc201)))) ?_
          refine rwt_nil ?_
          refine qn_then ?_
          obtain ⟨hb202, q203⟩ | ⟨hb202, q203⟩ := oi q156 <;> clear q156
          · refine cw_t rfl hb202 ?_
            refine cw_seq ?_
            refine cw_region ?_
            refine t_rd rfl (rd_assign rfl) ?_
            refine rwt_nil ?_
            refine qn_then ?_
            refine cw_ret ?_
            refine qr_block (qr_then (qr_then ?_))
            obtain rfl := hr145 _ (os q203)
            refine .inl (⟨_, rfl, ⟨rfl, ?_⟩⟩)
            exact ret1 rfl rfl ⟨rfl, (hm160.pick [] (by decide) rfl)⟩
          · refine cw_f rfl hb202 ?_
            refine cw_skip ?_
            refine qn_block (qn_then ?_)
            refine cw_region ?_
            refine t_rd rfl (rd_move rfl) ?_
            obtain ⟨x204, h205, q206⟩ := ob q203; clear q203
            refine t_rd rfl (rd_add64 h205 rfl rfl) ?_
            refine t_rd rfl (rd_assign rfl) ?_
            refine rwt_nil ?_
            refine qn_then ?_
            refine ⟨_, (os q206), (by repeat (first | exact Sub.nil _ | refine Sub.cons rfl ?_)), (hm160.pick [1] (by decide) rfl)⟩
        · refine cw_f rfl hb152 ?_
          refine cw_exit ?_
          refine qx_then (qx_then ?_)
          obtain rfl := hr145 _ (os q153)
          exact .inr (⟨_, rfl, ⟨rfl, (by repeat (first | exact Sub.nil _ | refine Sub.cons rfl ?_)), (hm151.pick [] (by decide) rfl)⟩⟩)
      · skip
        intro e env207 w208 hX209
        rcases hX209 with hX209 | hX209
        · obtain ⟨p211, rfl, hX209⟩ := hX209
          obtain ⟨rfl, hq213⟩ := hX209
          exact qr_block (qr_then ((by have e := os q148; subst e; exact hq213)))
        · obtain ⟨p214, rfl, hX209⟩ := hX209
          obtain ⟨rfl, hs215, hm216⟩ := hX209
          refine qx_same (qn_then ?_)
          refine cw_sub hs215 ?_
          refine cw_seq ?_
          refine cw_region ?_
          refine t_rd rfl (rd_assign rfl) ?_
          refine rwt_nil ?_
          refine qn_then ?_
          refine cw_ret ?_
          obtain rfl := os q148
          exact ret1 rfl rfl ⟨rfl, (hm216.pick [] (by decide) rfl)⟩

theorem r18_One_ok {N : Nat} {a0 : List T_Pushed} {a1 : T_CutRules} {res : Bool} (h : r18_One N a0 a1 = some res) {w : World} {v0 : Value} (hv0 : Sl (Old w No) w v0 a0) :
    CallsR Try.prog 26 [v0, (Value.agg (Flat.enc a1).toArray)] w (fun u w' => u = (Value.bool res) ∧ Mem w No [] w') := by
  unfold r18_One at h
  refine fn_ok Try.func26 rfl rfl rfl ?_
  have hm0 := Mem.nil w
  refine cw_seq ?_
  refine cw_region ?_
  refine t_ef rfl (ef_box hm0 rfl rfl) ?_
  rintro _ w3 ⟨g1, rfl, hm2⟩
  refine t_rd rfl (rd_assign rfl) ?_
  refine rwt_nil ?_
  refine qn_then ?_
  refine cw_seq ?_
  refine cw_seq ?_
  refine cw_region ?_
  refine t_rd rfl (rd_move rfl) ?_
  refine t_rd rfl (rd_lenS tS24 rfl (hv0.of_old hm2)) ?_
  refine t_rd rfl (rd_eql rfl rfl) ?_
  refine t_rd rfl (rd_move rfl) ?_
  refine t_rdg rfl rfl rfl rfl (gv_f _) (fun hg4 => (rd_move rfl)) ?_
  refine t_rdg rfl rfl rfl rfl (gv_f _) (fun hg5 => (rd_lenS tS24 (gvx rfl hg5) (hv0.of_old hm2))) ?_
  refine t_rdg rfl rfl rfl rfl (gv_f _) (fun hg6 => (rd_fld tF23_0 rfl)) ?_
  refine t_rdg rfl rfl rfl rfl (gv_f _) (fun hg7 => (rd_ld1 tO3 (gvx rfl hg7) (hm2.blk 0 rfl) (off := 0) rfl)) ?_
  refine t_rdg rfl rfl rfl rfl (gv_f _) (fun hg8 => (rd_gtr (gvx rfl hg8) (gvx rfl hg8))) ?_
  refine t_rd rfl (rd_or rfl (fun hc9 => (gvx rfl (bnotIt hc9)))) ?_
  refine rwt_nil ?_
  refine qn_then ?_
  obtain ⟨hb10, q11⟩ | ⟨hb10, q11⟩ := oi h <;> clear h
  · refine cw_t rfl hb10 ?_
    refine cw_seq ?_
    refine cw_region ?_
    refine t_rd rfl (rd_assign rfl) ?_
    refine rwt_nil ?_
    refine qn_then ?_
    refine cw_ret ?_
    refine qr_then ?_
    obtain rfl := os q11
    exact ret1 rfl rfl ⟨rfl, (hm2.pick [] (by decide) rfl)⟩
  · refine cw_f rfl hb10 ?_
    refine cw_skip ?_
    refine qn_then ?_
    refine cw_seq ?_
    refine cw_region ?_
    refine t_rd rfl (rd_assign rfl) ?_
    refine t_rd rfl (rd_assign rfl) ?_
    refine rwt_nil ?_
    refine qn_then ?_
    refine cw_seq ?_
    refine cw_seq ?_
    refine cw_region ?_
    refine t_rd rfl (rd_assign rfl) ?_
    refine rwt_nil ?_
    refine qn_then ?_
    refine cw_block ?_
    obtain ⟨r114, hit115, q116⟩ := ob q11; clear q11
    refine cw_loop2 (I := fun q envq wq => Sub [(0, v0), (3, (Value.pointer (some ⟨g1, 0, none⟩))), (5, (Value.int .i64 q.1)), (6, (Value.int .i64 q.2.1)), (7, (Value.int .i64 q.2.2))] envq ∧ Mem w No [blk g1 23 [(Value.int .i64 a1.Wagons), (Value.int .i64 a1.Axles), (Value.int .i64 a1.Length)]] wq) (X := fun eq envq wq => (∃ p117, r114 = (Sum.inl p117) ∧ eq = .ret ∧ retQ Try.prog 70 Try.f26 (fun u w' => u = (Value.bool p117) ∧ Mem w No [] w') .ret envq wq) ∨ (∃ p118, r114 = (Sum.inr p118) ∧ eq = .exit 0 ∧ Sub [(3, (Value.pointer (some ⟨g1, 0, none⟩))), (5, (Value.int .i64 p118.1)), (6, (Value.int .i64 p118.2))] envq ∧ Mem w No [blk g1 23 [(Value.int .i64 a1.Wagons), (Value.int .i64 a1.Axles), (Value.int .i64 a1.Length)]] wq)) hit115 ⟨(by repeat (first | exact Sub.nil _ | refine Sub.cons rfl ?_)), (hm2.pick [0] (by decide) rfl)⟩ ?_ ?_
    · rintro ⟨i105, i106, i107⟩ x109 env110 w111 hf112 hr113 ⟨hs_, hm_⟩
      have hs_ : Sub [(0, v0), (3, (Value.pointer (some ⟨g1, 0, none⟩))), (5, (Value.int .i64 i105)), (6, (Value.int .i64 i106)), (7, (Value.int .i64 i107))] env110 := hs_
      have hm119 : Mem w No [blk g1 23 [(Value.int .i64 a1.Wagons), (Value.int .i64 a1.Axles), (Value.int .i64 a1.Length)]] w111 := hm_
      refine cw_sub hs_ ?_
      clear hs_ hm_ q116
      have h : r18_One_l1 N a0 i105 i106 i107 = some x109 := hf112
      clear hf112
      refine cw_seq ?_
      refine cw_seq ?_
      refine cw_region ?_
      refine t_rd rfl (rd_move rfl) ?_
      refine t_rd rfl (rd_move rfl) ?_
      refine t_rd rfl (rd_lenS tS24 rfl (hv0.of_old hm119)) ?_
      refine t_rd rfl (rd_lss rfl rfl) ?_
      refine rwt_nil ?_
      refine qn_then ?_
      obtain ⟨hb120, q121⟩ | ⟨hb120, q121⟩ := oi h <;> clear h
      · refine cw_t rfl hb120 ?_
        refine cw_skip ?_
        refine qn_then ?_
        refine cw_seq ?_
        refine cw_block ?_
        refine cw_seq ?_
        refine cw_seq ?_
        obtain ⟨w123, he125⟩ : ∃ q, q = w111.drew := ⟨_, rfl⟩
        have hm124 := hm119.drew; rw [← he125] at hm124
        refine cw_region_s (fun q => q = w123) (cls [] []) mixed ?_
        rintro _ rfl; rw [← he125]
        refine s_rp (i := 0) rfl (by kernel_rfl) rfl (fun _ => (rd_move rfl)) ?_
        refine s_rp (i := 1) rfl (by kernel_rfl) rfl (fun _ => (rd_move rfl)) ?_
        obtain ⟨x126, h127, q128⟩ := ob q121; clear q121
        refine s_rp (i := 2) rfl (by kernel_rfl) rfl (fun _ => (rd_index tS24 rfl rfl (hv0.of_old hm124) h127)) ?_
        refine s_rp (i := 3) rfl (by kernel_rfl) rfl (fun _ => (rd_fld tF26_4 rfl)) ?_
        refine s_rd (i := 4) rfl (by kernel_rfl) rfl (fun _ hS => by rw [hS]; exact (rd_ld1 tO3 rfl ((hv0.of_old hm124).cells h127) (off := 4) rfl)) rfl ?_
        refine s_rp (i := 5) rfl (by kernel_rfl) rfl (fun _ => (rd_move rfl)) ?_
        obtain ⟨x129, h130, q131⟩ := ob q128; clear q128
        refine s_rp (i := 6) rfl (by kernel_rfl) rfl (fun _ => (rd_index tS24 rfl rfl (hv0.of_old hm124) h130)) ?_
        refine s_rp (i := 7) rfl (by kernel_rfl) rfl (fun _ => (rd_fld tF26_4 rfl)) ?_
        refine s_rd (i := 8) rfl (by kernel_rfl) rfl (fun _ hS => by rw [hS]; exact (rd_ld1 tO3 rfl ((hv0.of_old hm124).cells h130) (off := 4) rfl)) rfl ?_
        refine s_rp (i := 9) rfl (by kernel_rfl) rfl (fun _ => (rd_neq rfl rfl)) ?_
        refine s_rp (i := 10) rfl (by kernel_rfl) rfl (fun _ => (rd_move rfl)) ?_
        refine s_rpg (i := 11) rfl (by kernel_rfl) rfl rfl rfl rfl (gv_f _) (fun hg132 _ => (rd_move rfl)) ?_
        refine s_rpg (i := 12) rfl (by kernel_rfl) rfl rfl rfl rfl (gv_f _) (fun hg133 _ => (rd_move rfl)) ?_
        obtain ⟨x135, h136, q137⟩ := ob q131; clear q131
        refine s_rpg (i := 13) rfl (by kernel_rfl) rfl rfl rfl rfl (gv_f _) (fun hg134 _ => (rd_index tS24 (gvx rfl hg134) (gvx rfl hg134) (hv0.of_old hm124) (gO_t h136 hg134))) ?_
        refine s_rpg (i := 14) rfl (by kernel_rfl) rfl rfl rfl rfl (gv_f _) (fun hg138 _ => (rd_fld tF26_3 (gvx rfl hg138))) ?_
        refine s_rdg (i := 15) rfl (by kernel_rfl) rfl rfl rfl rfl (gv_f _) (fun hg139 => (fun _ hS => by rw [hS]; exact (rd_ld1 tO4 (gvx rfl hg139) ((hv0.of_old hm124).cells (gO_t h136 hg139)) (off := 3) rfl))) rfl ?_
        refine s_rpg (i := 16) rfl (by kernel_rfl) rfl rfl rfl rfl (gv_f _) (fun hg140 _ => (rd_move (gvx rfl hg140))) ?_
        refine s_rpg (i := 17) rfl (by kernel_rfl) rfl rfl rfl rfl (gv_nt _ _) (fun hg141 _ => (rd_move rfl)) ?_
        refine s_rpg (i := 18) rfl (by kernel_rfl) rfl rfl rfl rfl (gv_nt _ _) (fun hg142 _ => (rd_lenS tS24 (gvx rfl hg142) (hv0.of_old hm124))) ?_
        refine s_rpg (i := 19) rfl (by kernel_rfl) rfl rfl rfl rfl (gv_nt _ _) (fun hg143 _ => (rd_gtr (gvx rfl hg143) rfl)) ?_
        refine s_rpg (i := 20) rfl (by kernel_rfl) rfl rfl rfl rfl (gv_f _) (fun hg144 _ => (rd_and (gvx rfl hg144) (fun hc145 => (gvx rfl (band hg144 hc145))))) ?_
        refine s_rp (i := 21) rfl (by kernel_rfl) rfl (fun _ => (rd_or rfl (fun hc146 => (gvx rfl (bnotIt hc146))))) ?_
        refine s_nil (by kernel_rfl) ?_
        refine qn_then ?_
        obtain ⟨hb147, q148⟩ | ⟨hb147, q148⟩ := oi q137 <;> clear q137
        · refine cw_t rfl hb147 ?_
          refine cw_seq ?_
          refine cw_region ?_
          refine t_rd rfl (rd_assign rfl) ?_
          refine rwt_nil ?_
          refine qn_then ?_
          refine cw_ret ?_
          refine qr_then (qr_block (qr_then (qr_then ?_)))
          obtain rfl := hr113 _ (os q148)
          refine .inl (⟨_, rfl, ⟨rfl, ?_⟩⟩)
          exact ret1 rfl rfl ⟨rfl, (hm124.pick [] (by decide) rfl)⟩
        · refine cw_f rfl hb147 ?_
          refine cw_skip ?_
          refine qn_then ?_
          refine cw_seq ?_
          refine cw_region ?_
          refine t_rd rfl (rd_move rfl) ?_
          refine t_rd rfl (rd_move rfl) ?_
          refine t_rd rfl (rd_move rfl) ?_
          obtain ⟨x149, h150, q151⟩ := ob q148; clear q148
          refine t_rd rfl (rd_index tS24 rfl rfl (hv0.of_old hm124) h150) ?_
          refine t_rd rfl (rd_fld tF26_1 rfl) ?_
          refine t_rd rfl (rd_ld1 tO3 rfl ((hv0.of_old hm124).cells h150) (off := 1) rfl) ?_
          obtain ⟨x152, h153, q154⟩ := ob q151; clear q151
          refine t_rd rfl (rd_add64 h153 rfl rfl) ?_
          refine t_rd rfl (rd_assign rfl) ?_
          refine rwt_nil ?_
          refine qn_then ?_
          refine cw_region ?_
          refine t_rd rfl (rd_move rfl) ?_
          refine t_rd rfl (rd_move rfl) ?_
          refine t_rd rfl (rd_move rfl) ?_
          obtain ⟨x155, h156, q157⟩ := ob q154; clear q154
          refine t_rd rfl (rd_index tS24 rfl rfl (hv0.of_old hm124) h156) ?_
          refine t_rd rfl (rd_fld tF26_0 rfl) ?_
          refine t_rd rfl (rd_ld1 tO3 rfl ((hv0.of_old hm124).cells h156) (off := 0) rfl) ?_
          obtain ⟨x158, h159, q160⟩ := ob q157; clear q157
          refine t_rd rfl (rd_add64 h159 rfl rfl) ?_
          refine t_rd rfl (rd_assign rfl) ?_
          refine rwt_nil ?_
          refine qn_block (qn_then ?_)
          refine cw_region ?_
          refine t_rd rfl (rd_move rfl) ?_
          obtain ⟨x161, h162, q163⟩ := ob q160; clear q160
          refine t_rd rfl (rd_add64 h162 rfl rfl) ?_
          refine t_rd rfl (rd_assign rfl) ?_
          refine rwt_nil ?_
          refine qn_then ?_
          refine ⟨_, (os q163), (by repeat (first | exact Sub.nil _ | refine Sub.cons rfl ?_)), (hm124.pick [0] (by decide) rfl)⟩
      · refine cw_f rfl hb120 ?_
        refine cw_exit ?_
        refine qx_then (qx_then ?_)
        obtain rfl := hr113 _ (os q121)
        exact .inr (⟨_, rfl, ⟨rfl, (by repeat (first | exact Sub.nil _ | refine Sub.cons rfl ?_)), (hm119.pick [0] (by decide) rfl)⟩⟩)
    · skip
      intro e env164 w165 hX166
      rcases hX166 with hX166 | hX166
      · obtain ⟨p168, rfl, hX166⟩ := hX166
        obtain ⟨rfl, hq170⟩ := hX166
        exact qr_block (qr_then ((by have e := os q116; subst e; exact hq170)))
      · obtain ⟨p171, rfl, hX166⟩ := hX166
        obtain ⟨rfl, hs172, hm173⟩ := hX166
        refine qx_same (qn_then ?_)
        refine cw_sub hs172 ?_
        refine cw_seq ?_
        refine cw_region ?_
        refine t_rd rfl (rd_move rfl) ?_
        refine t_rd rfl (rd_fld tF23_1 rfl) ?_
        refine t_rd rfl (rd_ld1 tO3 rfl (hm173.blk 0 rfl) (off := 1) rfl) ?_
        refine t_rd rfl (rd_leq rfl rfl) ?_
        refine t_rd rfl (rd_move rfl) ?_
        refine t_rdg rfl rfl rfl rfl (gv_t _) (fun hg174 => (rd_move rfl)) ?_
        refine t_rdg rfl rfl rfl rfl (gv_t _) (fun hg175 => (rd_fld tF23_2 rfl)) ?_
        refine t_rdg rfl rfl rfl rfl (gv_t _) (fun hg176 => (rd_ld1 tO3 (gvx rfl hg176) (hm173.blk 0 rfl) (off := 2) rfl)) ?_
        refine t_rdg rfl rfl rfl rfl (gv_t _) (fun hg177 => (rd_leq (gvx rfl hg177) (gvx rfl hg177))) ?_
        refine t_rd rfl (rd_and rfl (fun hc178 => (gvx rfl hc178))) ?_
        refine t_rd rfl (rd_assign rfl) ?_
        refine rwt_nil ?_
        refine qn_then ?_
        refine cw_ret ?_
        obtain rfl := os q116
        exact ret1 rfl rfl ⟨rfl, (hm173.pick [] (by decide) rfl)⟩

theorem r18_Form_ok {N : Nat} {a0 : List T_Pushed} {a1 : T_CutRules} {res : List T_Cut × Int} (h : r18_Form N a0 a1 = some res) {w : World} {v0 : Value} (hv0 : Sl (Old w No) w v0 a0) :
    CallsR Try.prog 18 [v0, (Value.agg (Flat.enc a1).toArray)] w (fun u w' => ∃ y0 : Value, u = (Value.tuple #[y0, (Value.int .i64 res.2)]) ∧ Mem w No [ownL 33 y0 (res.1 : List T_Cut)] w') := by
  unfold r18_Form at h
  refine fn_ok Try.func18 rfl rfl rfl ?_
  have hm0 := Mem.nil w
  refine cw_seq ?_
  refine cw_region ?_
  refine t_ef rfl (ef_box hm0 rfl rfl) ?_
  rintro _ w3 ⟨g1, rfl, hm2⟩
  refine t_rd rfl (rd_assign rfl) ?_
  refine t_rd rfl (rd_assign rfl) ?_
  refine rwt_nil ?_
  refine qn_then ?_
  refine cw_seq ?_
  refine cw_seq ?_
  refine cw_region ?_
  refine t_rd rfl (rd_move rfl) ?_
  refine t_rd rfl (rd_ld tA23 rfl (hm2.blk 0 rfl) rfl) ?_
  obtain ⟨r4, h5, q6⟩ := ob h; clear h
  refine t_ef rfl (ef_call tf25 rfl (r18_Valid_ok h5 (hv0.to_call hm2))) ?_
  rintro _ w8 ⟨rfl, hm7⟩
  have hm9 := hm2.call hm7
  refine t_rd rfl (rd_assign rfl) ?_
  refine rwt_nil ?_
  refine qn_then ?_
  refine cw_seq ?_
  refine cw_region ?_
  refine t_rd rfl (rd_move rfl) ?_
  refine t_rd rfl (rd_neq rfl rfl) ?_
  refine rwt_nil ?_
  refine qn_then ?_
  obtain ⟨hb10, q11⟩ | ⟨hb10, q11⟩ := oi q6 <;> clear q6
  · refine cw_t rfl hb10 ?_
    refine cw_seq ?_
    refine cw_region ?_
    refine t_rd rfl (rd_move rfl) ?_
    refine t_rd rfl (rd_assign rfl) ?_
    refine t_rd rfl (rd_assign rfl) ?_
    refine rwt_nil ?_
    refine qn_then ?_
    refine cw_ret ?_
    refine qr_then ?_
    obtain rfl := os q11
    have hm12 := hm9.addNil (α := T_Cut) 33
    exact ret2 rfl rfl rfl ⟨(Value.slice none 0 0), rfl, (hm12.pick [0] (by decide) rfl)⟩
  · refine cw_f rfl hb10 ?_
    refine cw_skip ?_
    refine qn_then ?_
    refine cw_seq ?_
    refine cw_region ?_
    refine t_rd rfl (rd_assign rfl) ?_
    refine rwt_nil ?_
    refine qn_then ?_
    refine cw_seq ?_
    refine cw_seq ?_
    refine cw_region ?_
    refine t_rd rfl (rd_assign rfl) ?_
    refine rwt_nil ?_
    refine qn_then ?_
    refine cw_block ?_
    have hm143 := hm9.addNil (α := T_Cut) 33
    obtain ⟨r417, hit418, q419⟩ := ob q11; clear q11
    refine cw_loop2 (I := fun q envq wq => ∃ (v410 : Value), Sub [(0, v0), (3, (Value.pointer (some ⟨g1, 0, none⟩))), (7, v410), (8, (Value.int .i64 q.1))] envq ∧ Mem w No [ownL 33 v410 (q.2 : List T_Cut), blk g1 23 [(Value.int .i64 a1.Wagons), (Value.int .i64 a1.Axles), (Value.int .i64 a1.Length)]] wq) (X := fun eq envq wq => eq = .exit 0 ∧ ∃ (v407 : Value), Sub [(7, v407)] envq ∧ Mem w No [ownL 33 v407 (r417 : List T_Cut)] wq) hit418 ⟨(Value.slice none 0 0), (by repeat (first | exact Sub.nil _ | refine Sub.cons rfl ?_)), (hm143.pick [0, 1] (by decide) rfl)⟩ ?_ ?_
    · rintro ⟨i408, l409⟩ x412 env413 w414 hf415 hr416 ⟨v410, hs_, hm_⟩
      have hs_ : Sub [(0, v0), (3, (Value.pointer (some ⟨g1, 0, none⟩))), (7, v410), (8, (Value.int .i64 i408))] env413 := hs_
      have hm420 : Mem w No [ownL 33 v410 (l409 : List T_Cut), blk g1 23 [(Value.int .i64 a1.Wagons), (Value.int .i64 a1.Axles), (Value.int .i64 a1.Length)]] w414 := hm_
      refine cw_sub hs_ ?_
      clear hs_ hm_ q419
      have h : r18_Form_l4 N a0 a1 i408 l409 = some x412 := hf415
      clear hf415
      refine cw_seq ?_
      refine cw_seq ?_
      refine cw_region ?_
      refine t_rd rfl (rd_move rfl) ?_
      refine t_rd rfl (rd_move rfl) ?_
      refine t_rd rfl (rd_lenS tS24 rfl (hv0.of_old hm420)) ?_
      refine t_rd rfl (rd_lss rfl rfl) ?_
      refine rwt_nil ?_
      refine qn_then ?_
      obtain ⟨hb421, q422⟩ | ⟨hb421, q422⟩ := oi h <;> clear h
      · refine cw_t rfl hb421 ?_
        refine cw_skip ?_
        refine qn_then ?_
        refine cw_block ?_
        refine cw_seq ?_
        refine cw_region ?_
        refine t_rd rfl (rd_move rfl) ?_
        obtain ⟨x423, h424, q425⟩ := ob q422; clear q422
        refine t_rd rfl (rd_add64 h424 rfl rfl) ?_
        refine t_rd rfl (rd_assign rfl) ?_
        refine rwt_nil ?_
        refine qn_then ?_
        refine cw_seq ?_
        refine cw_block ?_
        obtain ⟨r493, hit494, q495⟩ := ob q425; clear q425
        refine cw_loop2 (I := fun q envq wq => Sub [(0, v0), (3, (Value.pointer (some ⟨g1, 0, none⟩))), (7, v410), (8, (Value.int .i64 i408)), (9, (Value.int .i64 q))] envq ∧ Mem w No [ownL 33 v410 (l409 : List T_Cut), blk g1 23 [(Value.int .i64 a1.Wagons), (Value.int .i64 a1.Axles), (Value.int .i64 a1.Length)]] wq) (X := fun eq envq wq => eq = .exit 2 ∧ Sub [(0, v0), (3, (Value.pointer (some ⟨g1, 0, none⟩))), (7, v410), (8, (Value.int .i64 i408)), (9, (Value.int .i64 r493))] envq ∧ Mem w No [ownL 33 v410 (l409 : List T_Cut), blk g1 23 [(Value.int .i64 a1.Wagons), (Value.int .i64 a1.Axles), (Value.int .i64 a1.Length)]] wq) hit494 ⟨(by repeat (first | exact Sub.nil _ | refine Sub.cons rfl ?_)), (hm420.pick [0, 1] (by decide) rfl)⟩ ?_ ?_
        · rintro i486 x488 env489 w490 hf491 hr492 ⟨hs_, hm_⟩
          have hs_ : Sub [(0, v0), (3, (Value.pointer (some ⟨g1, 0, none⟩))), (7, v410), (8, (Value.int .i64 i408)), (9, (Value.int .i64 i486))] env489 := hs_
          have hm496 : Mem w No [ownL 33 v410 (l409 : List T_Cut), blk g1 23 [(Value.int .i64 a1.Wagons), (Value.int .i64 a1.Axles), (Value.int .i64 a1.Length)]] w490 := hm_
          refine cw_sub hs_ ?_
          clear hs_ hm_ q495
          have h : r18_Form_l5 N a0 a1 i408 i486 = some x488 := hf491
          clear hf491
          refine cw_seq ?_
          refine cw_seq ?_
          obtain ⟨w498, he500⟩ : ∃ q, q = w490.drew := ⟨_, rfl⟩
          have hm499 := hm496.drew; rw [← he500] at hm499
          refine cw_region_s (fun q => q = w498) (cls [] [11]) mixed ?_
          rintro _ rfl; rw [← he500]
          refine s_rp (i := 0) rfl (by kernel_rfl) rfl (fun _ => (rd_move rfl)) ?_
          refine s_rp (i := 1) rfl (by kernel_rfl) rfl (fun _ => (rd_move rfl)) ?_
          refine s_rp (i := 2) rfl (by kernel_rfl) rfl (fun _ => (rd_lenS tS24 rfl (hv0.of_old hm499))) ?_
          refine s_rp (i := 3) rfl (by kernel_rfl) rfl (fun _ => (rd_lss rfl rfl)) ?_
          refine s_rp (i := 4) rfl (by kernel_rfl) rfl (fun _ => (rd_move rfl)) ?_
          refine s_rpg (i := 5) rfl (by kernel_rfl) rfl rfl rfl rfl (gv_t _) (fun hg501 _ => (rd_move rfl)) ?_
          refine s_rpg (i := 6) rfl (by kernel_rfl) rfl rfl rfl rfl (gv_t _) (fun hg502 _ => (rd_move rfl)) ?_
          refine s_rpg (i := 7) rfl (by kernel_rfl) rfl rfl rfl rfl (gv_t _) (fun hg503 _ => (rd_move rfl)) ?_
          obtain ⟨x505, h506, q507⟩ := ob h; clear h
          refine s_rpg (i := 8) rfl (by kernel_rfl) rfl rfl rfl rfl (gv_t _) (fun hg504 _ => (rd_add64 (gO_t h506 hg504) (gvx rfl hg504) rfl)) ?_
          obtain ⟨l509, h510, q511⟩ := ob q507; clear q507
          refine s_rpg (i := 9) rfl (by kernel_rfl) rfl rfl rfl rfl (gv_t _) (fun hg508 _ => (rd_slcLH tS24 (gvx rfl hg508) (gvx rfl hg508) (gvx rfl hg508) (hv0.of_old hm499) (gO_t h510 hg508))) ?_
          refine s_rdg (i := 10) rfl (by kernel_rfl) rfl rfl rfl rfl (gv_t _) (fun hg512 => (fun _ hS => by rw [hS]; exact (rd_ld tA23 rfl (hm499.blk 1 rfl) rfl))) rfl ?_
          obtain ⟨r514, h515, q516⟩ := ob q511; clear q511
          refine s_efg (i := 11) rfl (by kernel_rfl) rfl rfl rfl rfl (R := (fun v w' => v = gV (decide (i486 < (List.length a0 : Int))) (Value.bool r514) ∧ Mem w498 No [] w')) (gv_t _) (fun hg513 => (ef_call tf26 (evc (gvx rfl hg513) (evc (gvx rfl hg513) evn)) (r18_One_ok (gO_t h515 hg513) ((hv0.to_call hm499).sub (gO_t h510 hg513)))).mono (by rintro _ _ ⟨rfl, q⟩; exact ⟨(gV_t hg513).symm, q⟩)) (fun q => ⟨(gV_f q).symm, Mem.nil _⟩) (by decide) (fun _ _ _ q => absurd q (by decide)) ?_
          rintro _ w518 ⟨rfl, hm517⟩
          have hm519 := hm499.call hm517
          refine s_rp (i := 12) rfl (by kernel_rfl) rfl (fun _ => (rd_and rfl (fun hc520 => (gvx rfl hc520)))) ?_
          refine s_nil (by kernel_rfl) ?_
          refine qn_then ?_
          obtain ⟨hb521, q522⟩ | ⟨hb521, q522⟩ := oi q516 <;> clear q516
          · refine cw_t rfl hb521 ?_
            refine cw_skip ?_
            refine qn_then ?_
            refine cw_block ?_
            refine cw_region ?_
            refine t_rd rfl (rd_move rfl) ?_
            obtain ⟨x523, h524, q525⟩ := ob q522; clear q522
            refine t_rd rfl (rd_add64 h524 rfl rfl) ?_
            refine t_rd rfl (rd_assign rfl) ?_
            refine rwt_nil ?_
            refine qn_block (qn_then ?_)
            refine ⟨_, (os q525), (by repeat (first | exact Sub.nil _ | refine Sub.cons rfl ?_)), (hm519.pick [0, 1] (by decide) rfl)⟩
          · refine cw_f rfl hb521 ?_
            refine cw_exit ?_
            refine qx_then (qx_then ?_)
            obtain rfl := hr492 _ (os q522)
            exact ⟨rfl, (by repeat (first | exact Sub.nil _ | refine Sub.cons rfl ?_)), (hm519.pick [0, 1] (by decide) rfl)⟩
        · skip
          intro e env526 w527 hX528
          obtain ⟨rfl, hs529, hm530⟩ := hX528
          refine qx_same (qn_then ?_)
          refine cw_sub hs529 ?_
          refine cw_seq ?_
          obtain ⟨w532, he534⟩ : ∃ q, q = w527.drew := ⟨_, rfl⟩
          have hm533 := hm530.drew; rw [← he534] at hm533
          refine cw_region_s (fun q => q = w532) (cls [] [14, 15]) mixed ?_
          rintro _ rfl; rw [← he534]
          refine s_rp (i := 0) rfl (by kernel_rfl) rfl (fun _ => (rd_move rfl)) ?_
          refine s_rp (i := 1) rfl (by kernel_rfl) rfl (fun _ => (rd_move rfl)) ?_
          refine s_rp (i := 2) rfl (by kernel_rfl) rfl (fun _ => (rd_move rfl)) ?_
          refine s_rp (i := 3) rfl (by kernel_rfl) rfl (fun _ => (rd_move rfl)) ?_
          refine s_rp (i := 4) rfl (by kernel_rfl) rfl (fun _ => (rd_move rfl)) ?_
          obtain ⟨x535, h536, q537⟩ := ob q495; clear q495
          refine s_rp (i := 5) rfl (by kernel_rfl) rfl (fun _ => (rd_index tS24 rfl rfl (hv0.of_old hm533) h536)) ?_
          refine s_rp (i := 6) rfl (by kernel_rfl) rfl (fun _ => (rd_fld tF26_4 rfl)) ?_
          refine s_rd (i := 7) rfl (by kernel_rfl) rfl (fun _ hS => by rw [hS]; exact (rd_ld1 tO3 rfl ((hv0.of_old hm533).cells h536) (off := 4) rfl)) rfl ?_
          refine s_rp (i := 8) rfl (by kernel_rfl) rfl (fun _ => (rd_move rfl)) ?_
          refine s_rp (i := 9) rfl (by kernel_rfl) rfl (fun _ => (rd_move rfl)) ?_
          obtain ⟨x538, h539, q540⟩ := ob q537; clear q537
          refine s_rp (i := 10) rfl (by kernel_rfl) rfl (fun _ => (rd_index tS24 rfl rfl (hv0.of_old hm533) h539)) ?_
          refine s_rp (i := 11) rfl (by kernel_rfl) rfl (fun _ => (rd_fld tF26_3 rfl)) ?_
          refine s_rd (i := 12) rfl (by kernel_rfl) rfl (fun _ hS => by rw [hS]; exact (rd_ld1 tO4 rfl ((hv0.of_old hm533).cells h539) (off := 3) rfl)) rfl ?_
          refine s_rp (i := 13) rfl (by kernel_rfl) rfl (fun _ => (rd_build (cs := #[(Value.int .i64 i408), (Value.int .i64 r493), (Value.int .i64 x535.Track), (Value.bool x538.Gentle)]) rfl (by kernel_rfl))) ?_
          refine s_ef (i := 14) rfl (by kernel_rfl) rfl (ef_bslice (l := ([(T_Cut.mk i408 r493 x535.Track x538.Gentle)] : List T_Cut)) hm533 tS27 rfl (cs := #[(Value.int .i64 i408), (Value.int .i64 r493), (Value.int .i64 x535.Track), (Value.bool x538.Gentle)]) (by unfold bsl; kernel_rfl) rfl rfl) (by decide) (fun _ _ _ q => absurd q (by decide)) ?_
          intro v541 w543 hm542
          obtain ⟨l544, h545, q546⟩ := ob q540; clear q540
          refine s_ef (i := 15) rfl (by kernel_rfl) rfl (ef_append (k := 1) hm542 tS27 tE33 rfl rfl rfl rfl (hm542.sl 0 rfl) h545) (by decide) (fun _ _ _ q => absurd q (by decide)) ?_
          intro v547 w549 hm548
          refine s_rp (i := 16) rfl (by kernel_rfl) rfl (fun _ => (rd_assign rfl)) ?_
          refine s_nil (by kernel_rfl) ?_
          refine qn_then ?_
          refine cw_region ?_
          refine t_rd rfl (rd_move rfl) ?_
          refine t_rd rfl (rd_assign rfl) ?_
          refine rwt_nil ?_
          refine qn_block (qn_then ?_)
          refine ⟨_, (os q546), v547, (by repeat (first | exact Sub.nil _ | refine Sub.cons rfl ?_)), (hm548.pick [1, 2] (by decide) rfl)⟩
      · refine cw_f rfl hb421 ?_
        refine cw_exit ?_
        refine qx_then (qx_then ?_)
        obtain rfl := hr416 _ (os q422)
        exact ⟨rfl, v410, (by repeat (first | exact Sub.nil _ | refine Sub.cons rfl ?_)), (hm420.pick [0] (by decide) rfl)⟩
    · skip
      intro e env550 w551 hX552
      obtain ⟨rfl, v407, hs553, hm554⟩ := hX552
      refine qx_same (qn_then ?_)
      refine cw_sub hs553 ?_
      refine cw_seq ?_
      refine cw_region ?_
      refine t_rd rfl (rd_move rfl) ?_
      refine t_rd rfl (rd_assign rfl) ?_
      refine t_rd rfl (rd_assign rfl) ?_
      refine rwt_nil ?_
      refine qn_then ?_
      refine cw_ret ?_
      obtain rfl := os q419
      exact ret2 rfl rfl rfl ⟨v407, rfl, (hm554.pick [0] (by decide) rfl)⟩

theorem r18_Witness_ok {N : Nat} {a0 : List T_Pushed} {a1 : T_CutRules} {res : List Int × Int} (h : r18_Witness N a0 a1 = some res) {w : World} {v0 : Value} (hv0 : Sl (Old w No) w v0 a0) :
    CallsR Try.prog 27 [v0, (Value.agg (Flat.enc a1).toArray)] w (fun u w' => ∃ y0 : Value, u = (Value.tuple #[y0, (Value.int .i64 res.2)]) ∧ Mem w No [ownL 3 y0 (res.1 : List Int)] w') := by
  unfold r18_Witness at h
  refine fn_ok Try.func27 rfl rfl rfl ?_
  have hm0 := Mem.nil w
  refine cw_seq ?_
  refine cw_region ?_
  refine t_ef rfl (ef_box hm0 rfl rfl) ?_
  rintro _ w3 ⟨g1, rfl, hm2⟩
  refine t_rd rfl (rd_assign rfl) ?_
  refine t_rd rfl (rd_assign rfl) ?_
  refine rwt_nil ?_
  refine qn_then ?_
  refine cw_seq ?_
  refine cw_region ?_
  refine t_rd rfl (rd_move rfl) ?_
  refine t_rd rfl (rd_ld tA23 rfl (hm2.blk 0 rfl) rfl) ?_
  obtain ⟨r4, h5, q6⟩ := ob h; clear h
  refine t_ef rfl (ef_call tf18 rfl (r18_Form_ok h5 (hv0.to_call hm2))) ?_
  rintro _ w9 ⟨v7, rfl, hm8⟩
  have hm10 := hm2.call hm8
  refine t_rd rfl (rd_move rfl) ?_
  refine t_rd rfl (rd_extract rfl rfl) ?_
  refine t_rd rfl (rd_extract rfl rfl) ?_
  refine t_rd rfl (rd_assign rfl) ?_
  refine t_rd rfl (rd_assign rfl) ?_
  refine rwt_nil ?_
  refine qn_then ?_
  refine cw_seq ?_
  refine cw_seq ?_
  refine cw_region ?_
  refine t_rd rfl (rd_move rfl) ?_
  refine t_rd rfl (rd_neq rfl rfl) ?_
  refine rwt_nil ?_
  refine qn_then ?_
  obtain ⟨hb11, q12⟩ | ⟨hb11, q12⟩ := oi q6 <;> clear q6
  · refine cw_t rfl hb11 ?_
    refine cw_seq ?_
    refine cw_region ?_
    refine t_rd rfl (rd_move rfl) ?_
    refine t_rd rfl (rd_assign rfl) ?_
    refine t_rd rfl (rd_assign rfl) ?_
    refine rwt_nil ?_
    refine qn_then ?_
    refine cw_ret ?_
    refine qr_then ?_
    obtain rfl := os q12
    have hm13 := hm10.addNil (α := Int) 3
    exact ret2 rfl rfl rfl ⟨(Value.slice none 0 0), rfl, (hm13.pick [0] (by decide) rfl)⟩
  · refine cw_f rfl hb11 ?_
    refine cw_skip ?_
    refine qn_then ?_
    refine cw_seq ?_
    refine cw_region ?_
    refine t_rd rfl (rd_assign rfl) ?_
    refine rwt_nil ?_
    refine qn_then ?_
    refine cw_seq ?_
    refine cw_seq ?_
    refine cw_region ?_
    refine t_rd rfl (rd_assign rfl) ?_
    refine rwt_nil ?_
    refine qn_then ?_
    refine cw_block ?_
    have hm32 := hm10.addNil (α := Int) 3
    obtain ⟨r82, hit83, q84⟩ := ob q12; clear q12
    refine cw_loop2 (I := fun q envq wq => ∃ (v75 : Value), Sub [(6, v7), (8, v75), (9, (Value.int .i64 q.1))] envq ∧ Mem w No [ownL 3 v75 (q.2 : List Int), ownL 33 v7 (r4.1 : List T_Cut)] wq) (X := fun eq envq wq => eq = .exit 0 ∧ ∃ (v72 : Value), Sub [(8, v72)] envq ∧ Mem w No [ownL 3 v72 (r82 : List Int)] wq) hit83 ⟨(Value.slice none 0 0), (by repeat (first | exact Sub.nil _ | refine Sub.cons rfl ?_)), (hm32.pick [0, 1] (by decide) rfl)⟩ ?_ ?_
    · rintro ⟨i73, l74⟩ x77 env78 w79 hf80 hr81 ⟨v75, hs_, hm_⟩
      have hs_ : Sub [(6, v7), (8, v75), (9, (Value.int .i64 i73))] env78 := hs_
      have hm85 : Mem w No [ownL 3 v75 (l74 : List Int), ownL 33 v7 (r4.1 : List T_Cut)] w79 := hm_
      refine cw_sub hs_ ?_
      clear hs_ hm_ q84
      have h : r18_Witness_l1 N r4 i73 l74 = some x77 := hf80
      clear hf80
      refine cw_seq ?_
      refine cw_seq ?_
      refine cw_region ?_
      refine t_rd rfl (rd_move rfl) ?_
      refine t_rd rfl (rd_move rfl) ?_
      refine t_rd rfl (rd_lenS tS27 rfl (hm85.sl 1 rfl)) ?_
      refine t_rd rfl (rd_lss rfl rfl) ?_
      refine rwt_nil ?_
      refine qn_then ?_
      obtain ⟨hb86, q87⟩ | ⟨hb86, q87⟩ := oi h <;> clear h
      · refine cw_t rfl hb86 ?_
        refine cw_skip ?_
        refine qn_then ?_
        refine cw_seq ?_
        refine cw_block ?_
        refine cw_region ?_
        refine t_rd rfl (rd_move rfl) ?_
        refine t_rd rfl (rd_move rfl) ?_
        refine t_rd rfl (rd_move rfl) ?_
        obtain ⟨x88, h89, q90⟩ := ob q87; clear q87
        refine t_rd rfl (rd_index tS27 rfl rfl (hm85.sl 1 rfl) h89) ?_
        refine t_rd rfl (rd_fld tF33_0 rfl) ?_
        refine t_rd rfl (rd_ld1 tO3 rfl ((hm85.sl 1 rfl).cells h89) (off := 0) rfl) ?_
        refine t_ef rfl (ef_bslice (l := ([x88.From] : List Int)) hm85 tS35 rfl (cs := #[(Value.int .i64 x88.From)]) (by unfold bsl; kernel_rfl) rfl rfl) ?_
        intro v91 w93 hm92
        obtain ⟨l94, h95, q96⟩ := ob q90; clear q90
        refine t_ef rfl (ef_append (k := 1) hm92 tS35 tE3 rfl rfl rfl rfl (hm92.sl 0 rfl) h95) ?_
        intro v97 w99 hm98
        refine t_rd rfl (rd_assign rfl) ?_
        refine rwt_nil ?_
        refine qn_block (qn_then ?_)
        refine cw_region ?_
        refine t_rd rfl (rd_move rfl) ?_
        obtain ⟨x100, h101, q102⟩ := ob q96; clear q96
        refine t_rd rfl (rd_add64 h101 rfl rfl) ?_
        refine t_rd rfl (rd_assign rfl) ?_
        refine rwt_nil ?_
        refine qn_then ?_
        refine ⟨_, (os q102), v97, (by repeat (first | exact Sub.nil _ | refine Sub.cons rfl ?_)), (hm98.pick [1, 2] (by decide) rfl)⟩
      · refine cw_f rfl hb86 ?_
        refine cw_exit ?_
        refine qx_then (qx_then ?_)
        obtain rfl := hr81 _ (os q87)
        exact ⟨rfl, v75, (by repeat (first | exact Sub.nil _ | refine Sub.cons rfl ?_)), (hm85.pick [0] (by decide) rfl)⟩
    · skip
      intro e env103 w104 hX105
      obtain ⟨rfl, v72, hs106, hm107⟩ := hX105
      refine qx_same (qn_then ?_)
      refine cw_sub hs106 ?_
      refine cw_seq ?_
      refine cw_region ?_
      refine t_rd rfl (rd_move rfl) ?_
      refine t_rd rfl (rd_assign rfl) ?_
      refine t_rd rfl (rd_assign rfl) ?_
      refine rwt_nil ?_
      refine qn_then ?_
      refine cw_ret ?_
      obtain rfl := os q84
      exact ret2 rfl rfl rfl ⟨v72, rfl, (hm107.pick [0] (by decide) rfl)⟩

theorem r18_Permitted_ok {N : Nat} {a0 : List T_Pushed} {a1 : T_CutRules} {a2 : Int} {a3 : Int} {res : Bool × Int} (h : r18_Permitted N a0 a1 a2 a3 = some res) {w : World} {v0 : Value} (hv0 : Sl (Old w No) w v0 a0) :
    CallsR Try.prog 29 [v0, (Value.agg (Flat.enc a1).toArray), (Value.int .i64 a2), (Value.int .i64 a3)] w (fun u w' => u = (Value.tuple #[(Value.bool res.1), (Value.int .i64 res.2)]) ∧ Mem w No [] w') := by
  unfold r18_Permitted at h
  refine fn_ok Try.func29 rfl rfl rfl ?_
  have hm0 := Mem.nil w
  refine cw_seq ?_
  refine cw_region ?_
  refine t_ef rfl (ef_box hm0 rfl rfl) ?_
  rintro _ w3 ⟨g1, rfl, hm2⟩
  refine t_rd rfl (rd_assign rfl) ?_
  refine t_rd rfl (rd_assign rfl) ?_
  refine rwt_nil ?_
  refine qn_then ?_
  refine cw_seq ?_
  refine cw_seq ?_
  refine cw_region ?_
  refine t_rd rfl (rd_move rfl) ?_
  refine t_rd rfl (rd_ld tA23 rfl (hm2.blk 0 rfl) rfl) ?_
  obtain ⟨r4, h5, q6⟩ := ob h; clear h
  refine t_ef rfl (ef_call tf25 rfl (r18_Valid_ok h5 (hv0.to_call hm2))) ?_
  rintro _ w8 ⟨rfl, hm7⟩
  have hm9 := hm2.call hm7
  refine t_rd rfl (rd_assign rfl) ?_
  refine rwt_nil ?_
  refine qn_then ?_
  refine cw_seq ?_
  refine cw_region ?_
  refine t_rd rfl (rd_move rfl) ?_
  refine t_rd rfl (rd_neq rfl rfl) ?_
  refine rwt_nil ?_
  refine qn_then ?_
  obtain ⟨hb10, q11⟩ | ⟨hb10, q11⟩ := oi q6 <;> clear q6
  · refine cw_t rfl hb10 ?_
    refine cw_seq ?_
    refine cw_region ?_
    refine t_rd rfl (rd_move rfl) ?_
    refine t_rd rfl (rd_assign rfl) ?_
    refine t_rd rfl (rd_assign rfl) ?_
    refine rwt_nil ?_
    refine qn_then ?_
    refine cw_ret ?_
    refine qr_then ?_
    obtain rfl := os q11
    exact ret2 rfl rfl rfl ⟨rfl, (hm9.pick [] (by decide) rfl)⟩
  · refine cw_f rfl hb10 ?_
    refine cw_skip ?_
    refine qn_then ?_
    refine cw_seq ?_
    refine cw_seq ?_
    refine cw_region ?_
    refine t_rd rfl (rd_move rfl) ?_
    refine t_rd rfl (rd_lss rfl rfl) ?_
    refine t_rd rfl (rd_move rfl) ?_
    refine t_rdg rfl rfl rfl rfl (gv_f _) (fun hg12 => (rd_move rfl)) ?_
    refine t_rdg rfl rfl rfl rfl (gv_f _) (fun hg13 => (rd_move rfl)) ?_
    refine t_rdg rfl rfl rfl rfl (gv_f _) (fun hg14 => (rd_gtr (gvx rfl hg14) (gvx rfl hg14))) ?_
    refine t_rd rfl (rd_or rfl (fun hc15 => (gvx rfl (bnotIt hc15)))) ?_
    refine t_rd rfl (rd_move rfl) ?_
    refine t_rdg rfl rfl rfl rfl (gv_f _) (fun hg16 => (rd_move rfl)) ?_
    refine t_rdg rfl rfl rfl rfl (gv_f _) (fun hg17 => (rd_move rfl)) ?_
    refine t_rdg rfl rfl rfl rfl (gv_f _) (fun hg18 => (rd_lenS tS24 (gvx rfl hg18) (hv0.of_old hm9))) ?_
    refine t_rdg rfl rfl rfl rfl (gv_f _) (fun hg19 => (rd_gtr (gvx rfl hg19) (gvx rfl hg19))) ?_
    refine t_rd rfl (rd_or rfl (fun hc20 => (gvx rfl (bnotIt hc20)))) ?_
    refine rwt_nil ?_
    refine qn_then ?_
    obtain ⟨hb21, q22⟩ | ⟨hb21, q22⟩ := oi q11 <;> clear q11
    · refine cw_t rfl hb21 ?_
      refine cw_seq ?_
      refine cw_region ?_
      refine t_rd rfl (rd_assign rfl) ?_
      refine t_rd rfl (rd_assign rfl) ?_
      refine rwt_nil ?_
      refine qn_then ?_
      refine cw_ret ?_
      refine qr_then ?_
      obtain rfl := os q22
      exact ret2 rfl rfl rfl ⟨rfl, (hm9.pick [] (by decide) rfl)⟩
    · refine cw_f rfl hb21 ?_
      refine cw_skip ?_
      refine qn_then ?_
      refine cw_seq ?_
      obtain ⟨w24, he26⟩ : ∃ q, q = w8.drew := ⟨_, rfl⟩
      have hm25 := hm9.drew; rw [← he26] at hm25
      refine cw_region_s (fun q => q = w24) (cls [] [5]) mixed ?_
      rintro _ rfl; rw [← he26]
      refine s_rp (i := 0) rfl (by kernel_rfl) rfl (fun _ => (rd_move rfl)) ?_
      refine s_rp (i := 1) rfl (by kernel_rfl) rfl (fun _ => (rd_move rfl)) ?_
      refine s_rp (i := 2) rfl (by kernel_rfl) rfl (fun _ => (rd_move rfl)) ?_
      obtain ⟨l27, h28, q29⟩ := ob q22; clear q22
      refine s_rp (i := 3) rfl (by kernel_rfl) rfl (fun _ => (rd_slcLH tS24 rfl rfl rfl (hv0.of_old hm25) h28)) ?_
      refine s_rd (i := 4) rfl (by kernel_rfl) rfl (fun _ hS => by rw [hS]; exact (rd_ld tA23 rfl (hm25.blk 0 rfl) rfl)) rfl ?_
      obtain ⟨r30, h31, q32⟩ := ob q29; clear q29
      refine s_ef (i := 5) rfl (by kernel_rfl) rfl (ef_call tf26 rfl (r18_One_ok h31 ((hv0.to_call hm25).sub h28))) (by decide) (fun _ _ _ q => absurd q (by decide)) ?_
      rintro _ w34 ⟨rfl, hm33⟩
      have hm35 := hm25.call hm33
      refine s_rp (i := 6) rfl (by kernel_rfl) rfl (fun _ => (rd_assign rfl)) ?_
      refine s_rp (i := 7) rfl (by kernel_rfl) rfl (fun _ => (rd_assign rfl)) ?_
      refine s_nil (by kernel_rfl) ?_
      refine qn_then ?_
      refine cw_ret ?_
      obtain rfl := os q32
      exact ret2 rfl rfl rfl ⟨rfl, (hm35.pick [] (by decide) rfl)⟩

theorem r18_Check_ok {N : Nat} {a0 : List T_Pushed} {a1 : T_CutRules} {a2 : List T_Cut} {res : Bool × Int} (h : r18_Check N a0 a1 a2 = some res) {w : World} {v0 : Value} {v2 : Value} (hv0 : Sl (Old w No) w v0 a0) (hv2 : Sl (Old w No) w v2 a2) :
    CallsR Try.prog 30 [v0, (Value.agg (Flat.enc a1).toArray), v2] w (fun u w' => u = (Value.tuple #[(Value.bool res.1), (Value.int .i64 res.2)]) ∧ Mem w No [] w') := by
  unfold r18_Check at h
  refine fn_ok Try.func30 rfl rfl rfl ?_
  have hm0 := Mem.nil w
  refine cw_seq ?_
  refine cw_region ?_
  refine t_ef rfl (ef_box hm0 rfl rfl) ?_
  rintro _ w3 ⟨g1, rfl, hm2⟩
  refine t_rd rfl (rd_assign rfl) ?_
  refine t_rd rfl (rd_assign rfl) ?_
  refine rwt_nil ?_
  refine qn_then ?_
  refine cw_seq ?_
  refine cw_seq ?_
  refine cw_region ?_
  refine t_rd rfl (rd_move rfl) ?_
  refine t_rd rfl (rd_ld tA23 rfl (hm2.blk 0 rfl) rfl) ?_
  obtain ⟨r4, h5, q6⟩ := ob h; clear h
  refine t_ef rfl (ef_call tf25 rfl (r18_Valid_ok h5 (hv0.to_call hm2))) ?_
  rintro _ w8 ⟨rfl, hm7⟩
  have hm9 := hm2.call hm7
  refine t_rd rfl (rd_assign rfl) ?_
  refine rwt_nil ?_
  refine qn_then ?_
  refine cw_seq ?_
  refine cw_region ?_
  refine t_rd rfl (rd_move rfl) ?_
  refine t_rd rfl (rd_neq rfl rfl) ?_
  refine rwt_nil ?_
  refine qn_then ?_
  obtain ⟨hb10, q11⟩ | ⟨hb10, q11⟩ := oi q6 <;> clear q6
  · refine cw_t rfl hb10 ?_
    refine cw_seq ?_
    refine cw_region ?_
    refine t_rd rfl (rd_move rfl) ?_
    refine t_rd rfl (rd_assign rfl) ?_
    refine t_rd rfl (rd_assign rfl) ?_
    refine rwt_nil ?_
    refine qn_then ?_
    refine cw_ret ?_
    refine qr_then ?_
    obtain rfl := os q11
    exact ret2 rfl rfl rfl ⟨rfl, (hm9.pick [] (by decide) rfl)⟩
  · refine cw_f rfl hb10 ?_
    refine cw_skip ?_
    refine qn_then ?_
    refine cw_seq ?_
    refine cw_region ?_
    refine t_rd rfl (rd_assign rfl) ?_
    refine rwt_nil ?_
    refine qn_then ?_
    refine cw_seq ?_
    refine cw_seq ?_
    refine cw_region ?_
    refine t_rd rfl (rd_assign rfl) ?_
    refine rwt_nil ?_
    refine qn_then ?_
    refine cw_block ?_
    obtain ⟨r277, hit278, q279⟩ := ob q11; clear q11
    refine cw_loop2 (I := fun q envq wq => Sub [(0, v0), (2, v2), (4, (Value.pointer (some ⟨g1, 0, none⟩))), (9, (Value.int .i64 q.1)), (10, (Value.int .i64 q.2))] envq ∧ Mem w No [blk g1 23 [(Value.int .i64 a1.Wagons), (Value.int .i64 a1.Axles), (Value.int .i64 a1.Length)]] wq) (X := fun eq envq wq => (∃ p280, r277 = (Sum.inl p280) ∧ eq = .ret ∧ retQ Try.prog 82 Try.f30 (fun u w' => u = (Value.tuple #[(Value.bool p280.1), (Value.int .i64 p280.2)]) ∧ Mem w No [] w') .ret envq wq) ∨ (∃ p281, r277 = (Sum.inr p281) ∧ eq = .exit 0 ∧ Sub [(0, v0), (9, (Value.int .i64 p281))] envq ∧ Mem w No [] wq)) hit278 ⟨(by repeat (first | exact Sub.nil _ | refine Sub.cons rfl ?_)), (hm9.pick [0] (by decide) rfl)⟩ ?_ ?_
    · rintro ⟨i269, i270⟩ x272 env273 w274 hf275 hr276 ⟨hs_, hm_⟩
      have hs_ : Sub [(0, v0), (2, v2), (4, (Value.pointer (some ⟨g1, 0, none⟩))), (9, (Value.int .i64 i269)), (10, (Value.int .i64 i270))] env273 := hs_
      have hm282 : Mem w No [blk g1 23 [(Value.int .i64 a1.Wagons), (Value.int .i64 a1.Axles), (Value.int .i64 a1.Length)]] w274 := hm_
      refine cw_sub hs_ ?_
      clear hs_ hm_ q279
      have h : r18_Check_l1 N a0 a1 a2 i269 i270 = some x272 := hf275
      clear hf275
      refine cw_seq ?_
      refine cw_seq ?_
      refine cw_region ?_
      refine t_rd rfl (rd_move rfl) ?_
      refine t_rd rfl (rd_move rfl) ?_
      refine t_rd rfl (rd_lenS tS27 rfl (hv2.of_old hm282)) ?_
      refine t_rd rfl (rd_lss rfl rfl) ?_
      refine rwt_nil ?_
      refine qn_then ?_
      obtain ⟨hb283, q284⟩ | ⟨hb283, q284⟩ := oi h <;> clear h
      · refine cw_t rfl hb283 ?_
        refine cw_skip ?_
        refine qn_then ?_
        refine cw_seq ?_
        refine cw_block ?_
        refine cw_seq ?_
        refine cw_region ?_
        refine t_rd rfl (rd_move rfl) ?_
        refine t_rd rfl (rd_move rfl) ?_
        obtain ⟨x285, h286, q287⟩ := ob q284; clear q284
        refine t_rd rfl (rd_index tS27 rfl rfl (hv2.of_old hm282) h286) ?_
        refine t_rd rfl (rd_ld tA33 rfl ((hv2.of_old hm282).cells h286) rfl) ?_
        refine t_ef rfl (ef_alloc hm282 tZ33 rfl) ?_
        rintro _ w290 ⟨g288, rfl, hm289⟩
        refine t_ef0 (ef_stw (k := 0) hm289 tA33 rfl rfl (oc_cons rfl (oc_cons rfl (oc_cons rfl (oc_cons rfl oc_nil)))) rfl rfl rfl) ?_
        intro _ w292 hm291
        refine rwt_nil ?_
        refine qn_then ?_
        refine cw_seq ?_
        refine cw_seq ?_
        obtain ⟨w294, he296⟩ : ∃ q, q = w292.drew := ⟨_, rfl⟩
        have hm295 := hm291.drew; rw [← he296] at hm295
        refine cw_region_s (fun q => (blk g288 33 [(Value.int .i64 x285.From), (Value.int .i64 x285.To), (Value.int .i64 x285.Track), (Value.bool x285.Engine)]).φ q ∧ (blk g1 23 [(Value.int .i64 a1.Wagons), (Value.int .i64 a1.Axles), (Value.int .i64 a1.Length)]).φ q ∧ Sl (Old w No) q v0 a0) (cls [25] []) mixed ?_
        rintro _ rfl; rw [← he296]
        refine s_rp (i := 0) rfl (by kernel_rfl) rfl (fun _ => (rd_fld tF33_0 rfl)) ?_
        refine s_rd (i := 1) rfl (by kernel_rfl) rfl (fun w293 hS => (rd_ld1 tO3 rfl (cells_blk hS.1) (off := 0) rfl)) ⟨(hm295.get (k := 0) rfl), (hm295.get (k := 1) rfl), (hv0.of_old hm295)⟩ ?_
        refine s_rp (i := 2) rfl (by kernel_rfl) rfl (fun _ => (rd_move rfl)) ?_
        refine s_rp (i := 3) rfl (by kernel_rfl) rfl (fun _ => (rd_neq rfl rfl)) ?_
        refine s_rp (i := 4) rfl (by kernel_rfl) rfl (fun _ => (rd_move rfl)) ?_
        refine s_rpg (i := 5) rfl (by kernel_rfl) rfl rfl rfl rfl (gv_f _) (fun hg351 _ => (rd_fld tF33_1 rfl)) ?_
        refine s_rdg (i := 6) rfl (by kernel_rfl) rfl rfl rfl rfl (gv_f _) (fun hg352 => (fun w293 hS => (rd_ld1 tO3 (gvx rfl hg352) (cells_blk hS.1) (off := 1) rfl))) ⟨(hm295.get (k := 0) rfl), (hm295.get (k := 1) rfl), (hv0.of_old hm295)⟩ ?_
        refine s_rpg (i := 7) rfl (by kernel_rfl) rfl rfl rfl rfl (gv_f _) (fun hg353 _ => (rd_move rfl)) ?_
        refine s_rpg (i := 8) rfl (by kernel_rfl) rfl rfl rfl rfl (gv_f _) (fun hg354 _ => (rd_leq (gvx rfl hg354) (gvx rfl hg354))) ?_
        refine s_rp (i := 9) rfl (by kernel_rfl) rfl (fun _ => (rd_or rfl (fun hc355 => (gvx rfl (bnotIt hc355))))) ?_
        refine s_rp (i := 10) rfl (by kernel_rfl) rfl (fun _ => (rd_move rfl)) ?_
        refine s_rpg (i := 11) rfl (by kernel_rfl) rfl rfl rfl rfl (gv_f _) (fun hg356 _ => (rd_fld tF33_1 rfl)) ?_
        refine s_rdg (i := 12) rfl (by kernel_rfl) rfl rfl rfl rfl (gv_f _) (fun hg357 => (fun w293 hS => (rd_ld1 tO3 (gvx rfl hg357) (cells_blk hS.1) (off := 1) rfl))) ⟨(hm295.get (k := 0) rfl), (hm295.get (k := 1) rfl), (hv0.of_old hm295)⟩ ?_
        refine s_rpg (i := 13) rfl (by kernel_rfl) rfl rfl rfl rfl (gv_f _) (fun hg358 _ => (rd_move rfl)) ?_
        refine s_rpg (i := 14) rfl (by kernel_rfl) rfl rfl rfl rfl (gv_f _) (fun hg359 _ => (rd_lenS tS24 (gvx rfl hg359) (hv0.of_old hm295))) ?_
        refine s_rpg (i := 15) rfl (by kernel_rfl) rfl rfl rfl rfl (gv_f _) (fun hg360 _ => (rd_gtr (gvx rfl hg360) (gvx rfl hg360))) ?_
        refine s_rp (i := 16) rfl (by kernel_rfl) rfl (fun _ => (rd_or rfl (fun hc361 => (gvx rfl (bnotIt hc361))))) ?_
        refine s_rp (i := 17) rfl (by kernel_rfl) rfl (fun _ => (rd_move rfl)) ?_
        refine s_rpg (i := 18) rfl (by kernel_rfl) rfl rfl rfl rfl (gv_f _) (fun hg362 _ => (rd_move rfl)) ?_
        refine s_rpg (i := 19) rfl (by kernel_rfl) rfl rfl rfl rfl (gv_f _) (fun hg363 _ => (rd_fld tF33_0 rfl)) ?_
        refine s_rdg (i := 20) rfl (by kernel_rfl) rfl rfl rfl rfl (gv_f _) (fun hg364 => (fun w293 hS => (rd_ld1 tO3 (gvx rfl hg364) (cells_blk hS.1) (off := 0) rfl))) ⟨(hm295.get (k := 0) rfl), (hm295.get (k := 1) rfl), (hv0.of_old hm295)⟩ ?_
        refine s_rpg (i := 21) rfl (by kernel_rfl) rfl rfl rfl rfl (gv_f _) (fun hg365 _ => (rd_fld tF33_1 rfl)) ?_
        refine s_rdg (i := 22) rfl (by kernel_rfl) rfl rfl rfl rfl (gv_f _) (fun hg366 => (fun w293 hS => (rd_ld1 tO3 (gvx rfl hg366) (cells_blk hS.1) (off := 1) rfl))) ⟨(hm295.get (k := 0) rfl), (hm295.get (k := 1) rfl), (hv0.of_old hm295)⟩ ?_
        obtain ⟨l368, h369, q370⟩ := ob q287; clear q287
        refine s_rpg (i := 23) rfl (by kernel_rfl) rfl rfl rfl rfl (gv_f _) (fun hg367 _ => (rd_slcLH tS24 (gvx rfl hg367) (gvx rfl hg367) (gvx rfl hg367) (hv0.of_old hm295) (gO_t h369 hg367))) ?_
        refine s_rdg (i := 24) rfl (by kernel_rfl) rfl rfl rfl rfl (gv_f _) (fun hg371 => (fun w293 hS => (rd_ld tA23 rfl (cells_blk hS.2.1) rfl))) ⟨(hm295.get (k := 0) rfl), (hm295.get (k := 1) rfl), (hv0.of_old hm295)⟩ ?_
        obtain ⟨r373, h374, q375⟩ := ob q370; clear q370
        refine s_efg (i := 25) rfl (by kernel_rfl) rfl rfl rfl rfl (R := (fun v w' => v = gV (!(((!decide (x285.From = i269)) || decide (x285.To ≤ i269)) || decide ((List.length a0 : Int) < x285.To))) (Value.bool r373) ∧ Mem w294 No [] w')) (gv_f _) (fun hg372 => (ef_call tf26 (evc (gvx rfl hg372) (evc (gvx rfl hg372) evn)) (r18_One_ok (gO_t h374 hg372) ((hv0.to_call hm295).sub (gO_t h369 hg372)))).mono (by rintro _ _ ⟨rfl, q⟩; exact ⟨(gV_t hg372).symm, q⟩)) (fun q => ⟨(gV_f q).symm, Mem.nil _⟩) (by decide) ?_ ?_
        · rintro _ w377 ⟨rfl, hm376⟩
          have hm378 := hm295.call hm376
          intro _
          exact ⟨(hm378.get (k := 0) rfl), (hm378.get (k := 1) rfl), (hv0.of_old hm378)⟩
        rintro _ w377 ⟨rfl, hm376⟩
        have hm378 := hm295.call hm376
        refine s_rpg (i := 26) rfl (by kernel_rfl) rfl rfl rfl rfl (gv_f _) (fun hg379 _ => (rd_not (gvx rfl hg379))) ?_
        refine s_rp (i := 27) rfl (by kernel_rfl) rfl (fun _ => (rd_or rfl (fun hc380 => (gvx rfl (bnotIt hc380))))) ?_
        refine s_rp (i := 28) rfl (by kernel_rfl) rfl (fun _ => (rd_move rfl)) ?_
        refine s_rpg (i := 29) rfl (by kernel_rfl) rfl rfl rfl rfl (gv_f _) (fun hg381 _ => (rd_fld tF33_2 rfl)) ?_
        refine s_rdg (i := 30) rfl (by kernel_rfl) rfl rfl rfl rfl (gv_f _) (fun hg382 => (fun w293 hS => (rd_ld1 tO3 (gvx rfl hg382) (cells_blk hS.1) (off := 2) rfl))) ⟨(hm378.get (k := 0) rfl), (hm378.get (k := 1) rfl), (hv0.of_old hm378)⟩ ?_
        refine s_rpg (i := 31) rfl (by kernel_rfl) rfl rfl rfl rfl (gv_f _) (fun hg383 _ => (rd_move rfl)) ?_
        refine s_rpg (i := 32) rfl (by kernel_rfl) rfl rfl rfl rfl (gv_f _) (fun hg384 _ => (rd_move rfl)) ?_
        obtain ⟨x386, h387, q388⟩ := ob q375; clear q375
        refine s_rpg (i := 33) rfl (by kernel_rfl) rfl rfl rfl rfl (gv_f _) (fun hg385 _ => (rd_index tS24 (gvx rfl hg385) (gvx rfl hg385) (hv0.of_old hm378) (gO_t h387 hg385))) ?_
        refine s_rpg (i := 34) rfl (by kernel_rfl) rfl rfl rfl rfl (gv_f _) (fun hg389 _ => (rd_fld tF26_4 (gvx rfl hg389))) ?_
        refine s_rdg (i := 35) rfl (by kernel_rfl) rfl rfl rfl rfl (gv_f _) (fun hg390 => (fun w293 hS => (rd_ld1 tO3 (gvx rfl hg390) (hS.2.2.cells (gO_t h387 hg390)) (off := 4) rfl))) ⟨(hm378.get (k := 0) rfl), (hm378.get (k := 1) rfl), (hv0.of_old hm378)⟩ ?_
        refine s_rpg (i := 36) rfl (by kernel_rfl) rfl rfl rfl rfl (gv_f _) (fun hg391 _ => (rd_neq (gvx rfl hg391) (gvx rfl hg391))) ?_
        refine s_rp (i := 37) rfl (by kernel_rfl) rfl (fun _ => (rd_or rfl (fun hc392 => (gvx rfl (bnotIt hc392))))) ?_
        refine s_rp (i := 38) rfl (by kernel_rfl) rfl (fun _ => (rd_move rfl)) ?_
        refine s_rpg (i := 39) rfl (by kernel_rfl) rfl rfl rfl rfl (gv_f _) (fun hg393 _ => (rd_fld tF33_3 rfl)) ?_
        refine s_rdg (i := 40) rfl (by kernel_rfl) rfl rfl rfl rfl (gv_f _) (fun hg394 => (fun w293 hS => (rd_ld1 tO4 (gvx rfl hg394) (cells_blk hS.1) (off := 3) rfl))) ⟨(hm378.get (k := 0) rfl), (hm378.get (k := 1) rfl), (hv0.of_old hm378)⟩ ?_
        refine s_rpg (i := 41) rfl (by kernel_rfl) rfl rfl rfl rfl (gv_f _) (fun hg395 _ => (rd_move rfl)) ?_
        refine s_rpg (i := 42) rfl (by kernel_rfl) rfl rfl rfl rfl (gv_f _) (fun hg396 _ => (rd_move rfl)) ?_
        obtain ⟨x398, h399, q400⟩ := ob q388; clear q388
        refine s_rpg (i := 43) rfl (by kernel_rfl) rfl rfl rfl rfl (gv_f _) (fun hg397 _ => (rd_index tS24 (gvx rfl hg397) (gvx rfl hg397) (hv0.of_old hm378) (gO_t h399 hg397))) ?_
        refine s_rpg (i := 44) rfl (by kernel_rfl) rfl rfl rfl rfl (gv_f _) (fun hg401 _ => (rd_fld tF26_3 (gvx rfl hg401))) ?_
        refine s_rdg (i := 45) rfl (by kernel_rfl) rfl rfl rfl rfl (gv_f _) (fun hg402 => (fun w293 hS => (rd_ld1 tO4 (gvx rfl hg402) (hS.2.2.cells (gO_t h399 hg402)) (off := 3) rfl))) ⟨(hm378.get (k := 0) rfl), (hm378.get (k := 1) rfl), (hv0.of_old hm378)⟩ ?_
        refine s_rpg (i := 46) rfl (by kernel_rfl) rfl rfl rfl rfl (gv_f _) (fun hg403 _ => (rd_neqb tB4 (gvx rfl hg403) (gvx rfl hg403))) ?_
        refine s_rp (i := 47) rfl (by kernel_rfl) rfl (fun _ => (rd_or rfl (fun hc404 => (gvx rfl (bnotIt hc404))))) ?_
        refine s_nil (by kernel_rfl) ?_
        refine qn_then ?_
        obtain ⟨hb405, q406⟩ | ⟨hb405, q406⟩ := oi q400 <;> clear q400
        · refine cw_t rfl hb405 ?_
          refine cw_seq ?_
          refine cw_region ?_
          refine t_rd rfl (rd_assign rfl) ?_
          refine t_rd rfl (rd_assign rfl) ?_
          refine rwt_nil ?_
          refine qn_then ?_
          refine cw_ret ?_
          refine qr_then (qr_block (qr_then (qr_then ?_)))
          obtain rfl := hr276 _ (os q406)
          refine .inl (⟨_, rfl, ⟨rfl, ?_⟩⟩)
          exact ret2 rfl rfl rfl ⟨rfl, (hm378.pick [] (by decide) rfl)⟩
        · refine cw_f rfl hb405 ?_
          refine cw_skip ?_
          refine qn_then ?_
          refine cw_region ?_
          refine t_rd rfl (rd_fld tF33_1 rfl) ?_
          refine t_rd rfl (rd_ld1 tO3 rfl (hm378.blk 0 rfl) (off := 1) rfl) ?_
          refine t_rd rfl (rd_assign rfl) ?_
          refine rwt_nil ?_
          refine qn_block (qn_then ?_)
          refine cw_region ?_
          refine t_rd rfl (rd_move rfl) ?_
          obtain ⟨x407, h408, q409⟩ := ob q406; clear q406
          refine t_rd rfl (rd_add64 h408 rfl rfl) ?_
          refine t_rd rfl (rd_assign rfl) ?_
          refine rwt_nil ?_
          refine qn_then ?_
          refine ⟨_, (os q409), (by repeat (first | exact Sub.nil _ | refine Sub.cons rfl ?_)), (hm378.pick [1] (by decide) rfl)⟩
      · refine cw_f rfl hb283 ?_
        refine cw_exit ?_
        refine qx_then (qx_then ?_)
        obtain rfl := hr276 _ (os q284)
        exact .inr (⟨_, rfl, ⟨rfl, (by repeat (first | exact Sub.nil _ | refine Sub.cons rfl ?_)), (hm282.pick [] (by decide) rfl)⟩⟩)
    · skip
      intro e env410 w411 hX412
      rcases hX412 with hX412 | hX412
      · obtain ⟨p414, rfl, hX412⟩ := hX412
        obtain ⟨rfl, hq416⟩ := hX412
        exact qr_block (qr_then ((by have e := os q279; subst e; exact hq416)))
      · obtain ⟨p417, rfl, hX412⟩ := hX412
        obtain ⟨rfl, hs418, hm419⟩ := hX412
        refine qx_same (qn_then ?_)
        refine cw_sub hs418 ?_
        refine cw_seq ?_
        refine cw_region ?_
        refine t_rd rfl (rd_move rfl) ?_
        refine t_rd rfl (rd_move rfl) ?_
        refine t_rd rfl (rd_lenS tS24 rfl (hv0.of_old hm419)) ?_
        refine t_rd rfl (rd_eql rfl rfl) ?_
        refine t_rd rfl (rd_assign rfl) ?_
        refine t_rd rfl (rd_assign rfl) ?_
        refine rwt_nil ?_
        refine qn_then ?_
        refine cw_ret ?_
        obtain rfl := os q279
        exact ret2 rfl rfl rfl ⟨rfl, (hm419.pick [] (by decide) rfl)⟩

theorem law18_sane_ok {N : Nat} {res : Bool} (h : law18_sane N = some res) {w : World}   :
    CallsR Try.prog 10 [] w (fun u w' => u = (Value.bool res) ∧ Mem w No [] w') := by
  unfold law18_sane at h
  refine fn_ok Try.func10 rfl rfl rfl ?_
  have hm0 := Mem.nil w
  refine cw_seq ?_
  refine cw_region ?_
  refine t_rd rfl (rd_assign rfl) ?_
  refine rwt_nil ?_
  refine qn_then ?_
  refine cw_seq ?_
  refine cw_region ?_
  refine t_rd rfl (rd_build (cs := #[(Value.int .i64 2), (Value.int .i64 20), (Value.int .i64 1000)]) rfl (by kernel_rfl)) ?_
  refine t_ef rfl (ef_alloc hm0 tZ23 rfl) ?_
  rintro _ w3 ⟨g1, rfl, hm2⟩
  refine t_ef0 (ef_stw (k := 0) hm2 tA23 rfl rfl (oc_cons rfl (oc_cons rfl (oc_cons rfl oc_nil))) rfl rfl rfl) ?_
  intro _ w5 hm4
  refine rwt_nil ?_
  refine qn_then ?_
  refine cw_seq ?_
  obtain ⟨w7, he9⟩ : ∃ q, q = w5.drew := ⟨_, rfl⟩
  have hm8 := hm4.drew; rw [← he9] at hm8
  refine cw_region_s (fun q => (blk g1 23 [(Value.int .i64 2), (Value.int .i64 20), (Value.int .i64 1000)]).φ q) (cls [0, 1, 2, 3, 4, 5] [7]) mixed ?_
  rintro _ rfl; rw [← he9]
  refine s_rd (i := 6) rfl (by kernel_rfl) rfl (fun w6 hS => (rd_ld tA23 rfl (cells_blk hS) rfl)) (hm8.get (k := 0) rfl) ?_
  obtain ⟨r50, h51, q52⟩ := ob h; clear h
  refine s_ef (i := 0) rfl (by kernel_rfl) rfl (ef_call tf24 rfl (law18_w_ok h51)) (by decide) ?_ ?_
  · rintro _ w54 ⟨rfl, hm53⟩
    have hm55 := hm8.call hm53
    intro _
    exact (hm55.get (k := 0) rfl)
  rintro _ w54 ⟨rfl, hm53⟩
  have hm55 := hm8.call hm53
  obtain ⟨r56, h57, q58⟩ := ob q52; clear q52
  refine s_ef (i := 1) rfl (by kernel_rfl) rfl (ef_call tf24 rfl (law18_w_ok h57)) (by decide) ?_ ?_
  · rintro _ w60 ⟨rfl, hm59⟩
    have hm61 := hm55.call hm59
    intro _
    exact (hm61.get (k := 0) rfl)
  rintro _ w60 ⟨rfl, hm59⟩
  have hm61 := hm55.call hm59
  obtain ⟨r62, h63, q64⟩ := ob q58; clear q58
  refine s_ef (i := 2) rfl (by kernel_rfl) rfl (ef_call tf24 rfl (law18_w_ok h63)) (by decide) ?_ ?_
  · rintro _ w66 ⟨rfl, hm65⟩
    have hm67 := hm61.call hm65
    intro _
    exact (hm67.get (k := 0) rfl)
  rintro _ w66 ⟨rfl, hm65⟩
  have hm67 := hm61.call hm65
  obtain ⟨r68, h69, q70⟩ := ob q64; clear q64
  refine s_ef (i := 3) rfl (by kernel_rfl) rfl (ef_call tf24 rfl (law18_w_ok h69)) (by decide) ?_ ?_
  · rintro _ w72 ⟨rfl, hm71⟩
    have hm73 := hm67.call hm71
    intro _
    exact (hm73.get (k := 0) rfl)
  rintro _ w72 ⟨rfl, hm71⟩
  have hm73 := hm67.call hm71
  obtain ⟨r74, h75, q76⟩ := ob q70; clear q70
  refine s_ef (i := 4) rfl (by kernel_rfl) rfl (ef_call tf24 rfl (law18_w_ok h75)) (by decide) ?_ ?_
  · rintro _ w78 ⟨rfl, hm77⟩
    have hm79 := hm73.call hm77
    intro _
    exact (hm79.get (k := 0) rfl)
  rintro _ w78 ⟨rfl, hm77⟩
  have hm79 := hm73.call hm77
  refine s_ef (i := 5) rfl (by kernel_rfl) rfl (ef_bslice (l := ([r50, r56, r62, r68, r74] : List T_Pushed)) hm79 tS24 rfl (cs := #[(Value.int .i64 r50.Length), (Value.int .i64 r50.Axles), (Value.int .i64 r50.Mass), (Value.bool r50.Gentle), (Value.int .i64 r50.Track), (Value.int .i64 r56.Length), (Value.int .i64 r56.Axles), (Value.int .i64 r56.Mass), (Value.bool r56.Gentle), (Value.int .i64 r56.Track), (Value.int .i64 r62.Length), (Value.int .i64 r62.Axles), (Value.int .i64 r62.Mass), (Value.bool r62.Gentle), (Value.int .i64 r62.Track), (Value.int .i64 r68.Length), (Value.int .i64 r68.Axles), (Value.int .i64 r68.Mass), (Value.bool r68.Gentle), (Value.int .i64 r68.Track), (Value.int .i64 r74.Length), (Value.int .i64 r74.Axles), (Value.int .i64 r74.Mass), (Value.bool r74.Gentle), (Value.int .i64 r74.Track)]) (by unfold bsl; kernel_rfl) rfl rfl) (by decide) ?_ ?_
  · intro v80 w82 hm81
    intro _
    exact (hm81.get (k := 1) rfl)
  intro v80 w82 hm81
  obtain ⟨r83, h84, q85⟩ := ob q76; clear q76
  refine s_ef (i := 7) rfl (by kernel_rfl) rfl (ef_call tf9 rfl (cut_Form_ok h84 (hm81.sl_call 0 rfl))) (by decide) (fun _ _ _ q => absurd q (by decide)) ?_
  rintro _ w88 ⟨v86, rfl, hm87⟩
  have hm89 := hm81.call hm87
  refine s_rp (i := 8) rfl (by kernel_rfl) rfl (fun _ => (rd_move rfl)) ?_
  refine s_rp (i := 9) rfl (by kernel_rfl) rfl (fun _ => (rd_extract rfl rfl)) ?_
  refine s_rp (i := 10) rfl (by kernel_rfl) rfl (fun _ => (rd_extract rfl rfl)) ?_
  refine s_rp (i := 11) rfl (by kernel_rfl) rfl (fun _ => (rd_assign rfl)) ?_
  refine s_rp (i := 12) rfl (by kernel_rfl) rfl (fun _ => (rd_assign rfl)) ?_
  refine s_nil (by kernel_rfl) ?_
  refine qn_then ?_
  refine cw_seq ?_
  refine cw_region ?_
  refine t_rd rfl (rd_fld tF23_0 rfl) ?_
  refine t_ef0 (ef_st1 (k := 2) (off := 0) hm89 tO3 rfl rfl rfl rfl rfl rfl) ?_
  intro _ w91 hm90
  refine rwt_nil ?_
  refine qn_then ?_
  refine cw_seq ?_
  obtain ⟨w93, he95⟩ : ∃ q, q = w91.drew := ⟨_, rfl⟩
  have hm94 := hm90.drew; rw [← he95] at hm94
  refine cw_region_s (fun q => (blk g1 23 [(Value.int .i64 3), (Value.int .i64 20), (Value.int .i64 1000)]).φ q) (cls [0, 1, 2, 3] [5]) mixed ?_
  rintro _ rfl; rw [← he95]
  refine s_rd (i := 4) rfl (by kernel_rfl) rfl (fun w92 hS => (rd_ld tA23 rfl (cells_blk hS) rfl)) (hm94.get (k := 2) rfl) ?_
  obtain ⟨r124, h125, q126⟩ := ob q85; clear q85
  refine s_ef (i := 0) rfl (by kernel_rfl) rfl (ef_call tf24 rfl (law18_w_ok h125)) (by decide) ?_ ?_
  · rintro _ w128 ⟨rfl, hm127⟩
    have hm129 := hm94.call hm127
    intro _
    exact (hm129.get (k := 2) rfl)
  rintro _ w128 ⟨rfl, hm127⟩
  have hm129 := hm94.call hm127
  obtain ⟨r130, h131, q132⟩ := ob q126; clear q126
  refine s_ef (i := 1) rfl (by kernel_rfl) rfl (ef_call tf24 rfl (law18_w_ok h131)) (by decide) ?_ ?_
  · rintro _ w134 ⟨rfl, hm133⟩
    have hm135 := hm129.call hm133
    intro _
    exact (hm135.get (k := 2) rfl)
  rintro _ w134 ⟨rfl, hm133⟩
  have hm135 := hm129.call hm133
  obtain ⟨r136, h137, q138⟩ := ob q132; clear q132
  refine s_ef (i := 2) rfl (by kernel_rfl) rfl (ef_call tf24 rfl (law18_w_ok h137)) (by decide) ?_ ?_
  · rintro _ w140 ⟨rfl, hm139⟩
    have hm141 := hm135.call hm139
    intro _
    exact (hm141.get (k := 2) rfl)
  rintro _ w140 ⟨rfl, hm139⟩
  have hm141 := hm135.call hm139
  refine s_ef (i := 3) rfl (by kernel_rfl) rfl (ef_bslice (l := ([r124, r130, r136] : List T_Pushed)) hm141 tS24 rfl (cs := #[(Value.int .i64 r124.Length), (Value.int .i64 r124.Axles), (Value.int .i64 r124.Mass), (Value.bool r124.Gentle), (Value.int .i64 r124.Track), (Value.int .i64 r130.Length), (Value.int .i64 r130.Axles), (Value.int .i64 r130.Mass), (Value.bool r130.Gentle), (Value.int .i64 r130.Track), (Value.int .i64 r136.Length), (Value.int .i64 r136.Axles), (Value.int .i64 r136.Mass), (Value.bool r136.Gentle), (Value.int .i64 r136.Track)]) (by unfold bsl; kernel_rfl) rfl rfl) (by decide) ?_ ?_
  · intro v142 w144 hm143
    intro _
    exact (hm143.get (k := 3) rfl)
  intro v142 w144 hm143
  obtain ⟨r145, h146, q147⟩ := ob q138; clear q138
  refine s_ef (i := 5) rfl (by kernel_rfl) rfl (ef_call tf9 rfl (cut_Form_ok h146 (hm143.sl_call 0 rfl))) (by decide) (fun _ _ _ q => absurd q (by decide)) ?_
  rintro _ w150 ⟨v148, rfl, hm149⟩
  have hm151 := hm143.call hm149
  refine s_rp (i := 6) rfl (by kernel_rfl) rfl (fun _ => (rd_move rfl)) ?_
  refine s_rp (i := 7) rfl (by kernel_rfl) rfl (fun _ => (rd_extract rfl rfl)) ?_
  refine s_rp (i := 8) rfl (by kernel_rfl) rfl (fun _ => (rd_extract rfl rfl)) ?_
  refine s_rp (i := 9) rfl (by kernel_rfl) rfl (fun _ => (rd_assign rfl)) ?_
  refine s_rp (i := 10) rfl (by kernel_rfl) rfl (fun _ => (rd_assign rfl)) ?_
  refine s_nil (by kernel_rfl) ?_
  refine qn_then ?_
  refine cw_seq ?_
  refine cw_region ?_
  refine t_rd rfl (rd_move rfl) ?_
  refine t_rd rfl (rd_eql rfl rfl) ?_
  refine t_rd rfl (rd_move rfl) ?_
  refine t_rdg rfl rfl rfl rfl (gv_t _) (fun hg152 => (rd_move rfl)) ?_
  refine t_rdg rfl rfl rfl rfl (gv_t _) (fun hg153 => (rd_build (cs := #[(Value.int .i64 0), (Value.int .i64 2), (Value.int .i64 1), (Value.bool false)]) rfl (by kernel_rfl))) ?_
  refine t_rdg rfl rfl rfl rfl (gv_t _) (fun hg154 => (rd_build (cs := #[(Value.int .i64 2), (Value.int .i64 4), (Value.int .i64 2), (Value.bool false)]) rfl (by kernel_rfl))) ?_
  refine t_rdg rfl rfl rfl rfl (gv_t _) (fun hg155 => (rd_build (cs := #[(Value.int .i64 4), (Value.int .i64 5), (Value.int .i64 2), (Value.bool false)]) rfl (by kernel_rfl))) ?_
  obtain ⟨hb157, q158⟩ | ⟨hb157, q158⟩ := oi q147 <;> clear q147
  · skip
    refine t_efg rfl rfl rfl rfl (gv_t _) (fun _ => (ef_bslice (l := ([(T_Cut.mk 0 2 1 false), (T_Cut.mk 2 4 2 false), (T_Cut.mk 4 5 2 false)] : List T_Cut)) hm151 tS27 (epc (gvx rfl hb157) (epc (gvx rfl hb157) (epc (gvx rfl hb157) epn))) (cs := #[(Value.int .i64 0), (Value.int .i64 2), (Value.int .i64 1), (Value.bool false), (Value.int .i64 2), (Value.int .i64 4), (Value.int .i64 2), (Value.bool false), (Value.int .i64 4), (Value.int .i64 5), (Value.int .i64 2), (Value.bool false)]) (by unfold bsl; kernel_rfl) rfl rfl)) (fun q => bcontra q hb157) ?_
    intro v160 w162 hm161
    obtain ⟨r164, h165, q166⟩ := ob q158; clear q158
    refine t_efg rfl rfl rfl rfl (gv_t _) (fun _ => (ef_call tf14 (evc (gvx rfl hb157) (evc rfl evn)) (humpgen_Cuts_ok h165 (hm161.sl_call 3 rfl) (hm161.sl_call 0 rfl)))) (fun q => bcontra q hb157) ?_
    rintro _ w168 ⟨rfl, hm167⟩
    have hm169 := hm161.call hm167
    refine t_rd rfl (rd_and rfl (fun hc170 => rfl)) ?_
    refine t_rd rfl (rd_move rfl) ?_
    refine t_rdg rfl rfl rfl rfl (gv_t _) (fun hg171 => (rd_move rfl)) ?_
    refine t_rdg rfl rfl rfl rfl (gv_t _) (fun hg172 => (rd_eql (gvx rfl hg172) rfl)) ?_
    refine t_rd rfl (rd_and rfl (fun hc173 => (gvx rfl hc173))) ?_
    refine t_rd rfl (rd_move rfl) ?_
    refine t_rdg rfl rfl rfl rfl (gv_t _) (fun hg174 => (rd_move rfl)) ?_
    refine t_rdg rfl rfl rfl rfl (gv_t _) (fun hg175 => (rd_lenS tS27 (gvx rfl hg175) (hm169.sl 1 rfl))) ?_
    refine t_rdg rfl rfl rfl rfl (gv_t _) (fun hg176 => (rd_eql (gvx rfl hg176) rfl)) ?_
    refine t_rd rfl (rd_and rfl (fun hc177 => (gvx rfl hc177))) ?_
    refine t_rd rfl (rd_move rfl) ?_
    refine t_rdg rfl rfl rfl rfl (gv_t _) (fun hg178 => (rd_move rfl)) ?_
    obtain ⟨x180, h181, q182⟩ := ob q166; clear q166
    refine t_rdg rfl rfl rfl rfl (gv_t _) (fun hg179 => (rd_index tS27 (gvx rfl hg179) rfl (hm169.sl 1 rfl) (gO_t h181 hg179))) ?_
    refine t_rdg rfl rfl rfl rfl (gv_t _) (fun hg183 => (rd_fld tF33_3 (gvx rfl hg183))) ?_
    refine t_rdg rfl rfl rfl rfl (gv_t _) (fun hg184 => (rd_ld1 tO4 (gvx rfl hg184) ((hm169.sl 1 rfl).cells (gO_t h181 hg184)) (off := 3) rfl)) ?_
    refine t_rd rfl (rd_and rfl (fun hc185 => (gvx rfl hc185))) ?_
    refine t_rd rfl (rd_move rfl) ?_
    refine t_rdg rfl rfl rfl rfl (gv_t _) (fun hg186 => (rd_move rfl)) ?_
    obtain ⟨x188, h189, q190⟩ := ob q182; clear q182
    refine t_rdg rfl rfl rfl rfl (gv_t _) (fun hg187 => (rd_index tS27 (gvx rfl hg187) rfl (hm169.sl 1 rfl) (gO_t h189 hg187))) ?_
    refine t_rdg rfl rfl rfl rfl (gv_t _) (fun hg191 => (rd_fld tF33_3 (gvx rfl hg191))) ?_
    refine t_rdg rfl rfl rfl rfl (gv_t _) (fun hg192 => (rd_ld1 tO4 (gvx rfl hg192) ((hm169.sl 1 rfl).cells (gO_t h189 hg192)) (off := 3) rfl)) ?_
    refine t_rdg rfl rfl rfl rfl (gv_t _) (fun hg193 => (rd_not (gvx rfl hg193))) ?_
    refine t_rd rfl (rd_and rfl (fun hc194 => (gvx rfl hc194))) ?_
    refine t_rd rfl (rd_assign rfl) ?_
    refine rwt_nil ?_
    refine qn_then ?_
    refine cw_ret ?_
    obtain rfl := os q190
    exact ret1 rfl rfl ⟨rfl, (hm169.pick [] (by decide) rfl)⟩
  · skip
    refine t_efg rfl rfl rfl rfl (R := fun v w' => v = undef ∧ w' = w150) (gv_t _) (fun hg195 => bcontra hb157 hg195) (fun _ => ⟨rfl, rfl⟩) ?_
    rintro v_ w_ ⟨e1_, e2_⟩; rw [e1_, e2_]; clear e1_ e2_ v_ w_
    refine t_efg rfl rfl rfl rfl (R := fun v w' => v = undef ∧ w' = w150) (gv_t _) (fun hg196 => bcontra hb157 hg196) (fun _ => ⟨rfl, rfl⟩) ?_
    rintro v_ w_ ⟨e1_, e2_⟩; rw [e1_, e2_]; clear e1_ e2_ v_ w_
    refine t_rd rfl (rd_and (b := false) rfl (fun hc197 => bcontra hb157 hc197)) ?_
    refine t_rd rfl (rd_move rfl) ?_
    refine t_rdg rfl rfl rfl rfl (gv_t _) (v := undef) (fun hg198 => (bcontra (bandF hb157) hg198)) ?_
    refine t_rdg rfl rfl rfl rfl (gv_t _) (v := undef) (fun hg199 => (bcontra (bandF hb157) hg199)) ?_
    refine t_rd rfl (rd_and (b := false) rfl (fun hc200 => bcontra (bandF hb157) hc200)) ?_
    refine t_rd rfl (rd_move rfl) ?_
    refine t_rdg rfl rfl rfl rfl (gv_t _) (v := undef) (fun hg201 => (bcontra (bandF (bandF hb157)) hg201)) ?_
    refine t_rdg rfl rfl rfl rfl (gv_t _) (v := undef) (fun hg202 => (bcontra (bandF (bandF hb157)) hg202)) ?_
    refine t_rdg rfl rfl rfl rfl (gv_t _) (v := undef) (fun hg203 => (bcontra (bandF (bandF hb157)) hg203)) ?_
    refine t_rd rfl (rd_and (b := false) rfl (fun hc204 => bcontra (bandF (bandF hb157)) hc204)) ?_
    refine t_rd rfl (rd_move rfl) ?_
    refine t_rdg rfl rfl rfl rfl (gv_t _) (v := undef) (fun hg205 => (bcontra (bandF (bandF (bandF hb157))) hg205)) ?_
    refine t_rdg rfl rfl rfl rfl (gv_t _) (v := undef) (fun hg206 => (bcontra (bandF (bandF (bandF hb157))) hg206)) ?_
    refine t_rdg rfl rfl rfl rfl (gv_t _) (v := undef) (fun hg207 => (bcontra (bandF (bandF (bandF hb157))) hg207)) ?_
    refine t_rdg rfl rfl rfl rfl (gv_t _) (v := undef) (fun hg208 => (bcontra (bandF (bandF (bandF hb157))) hg208)) ?_
    refine t_rd rfl (rd_and (b := false) rfl (fun hc209 => bcontra (bandF (bandF (bandF hb157))) hc209)) ?_
    refine t_rd rfl (rd_move rfl) ?_
    refine t_rdg rfl rfl rfl rfl (gv_t _) (v := undef) (fun hg210 => (bcontra (bandF (bandF (bandF (bandF hb157)))) hg210)) ?_
    refine t_rdg rfl rfl rfl rfl (gv_t _) (v := undef) (fun hg211 => (bcontra (bandF (bandF (bandF (bandF hb157)))) hg211)) ?_
    refine t_rdg rfl rfl rfl rfl (gv_t _) (v := undef) (fun hg212 => (bcontra (bandF (bandF (bandF (bandF hb157)))) hg212)) ?_
    refine t_rdg rfl rfl rfl rfl (gv_t _) (v := undef) (fun hg213 => (bcontra (bandF (bandF (bandF (bandF hb157)))) hg213)) ?_
    refine t_rdg rfl rfl rfl rfl (gv_t _) (v := undef) (fun hg214 => (bcontra (bandF (bandF (bandF (bandF hb157)))) hg214)) ?_
    refine t_rd rfl (rd_and (b := false) rfl (fun hc215 => bcontra (bandF (bandF (bandF (bandF hb157)))) hc215)) ?_
    refine t_rd rfl (rd_assign rfl) ?_
    refine rwt_nil ?_
    refine qn_then ?_
    refine cw_ret ?_
    obtain rfl := os q158
    exact ret1 rfl rfl ⟨rfl, (hm151.pick [] (by decide) rfl)⟩

theorem law18_exact_ok {N : Nat} {a0 : List T_Pushed} {a1 : T_CutRules} {a2 : List T_Cut} {a3 : Int} {a4 : Int} {res : Bool} (h : law18_exact N a0 a1 a2 a3 a4 = some res) {w : World} {v0 : Value} {v2 : Value} (hv0 : Sl (Old w No) w v0 a0) (hv2 : Sl (Old w No) w v2 a2) :
    CallsR Try.prog 20 [v0, (Value.agg (Flat.enc a1).toArray), v2, (Value.int .i64 a3), (Value.int .i64 a4)] w (fun u w' => u = (Value.bool res) ∧ Mem w No [] w') := by
  unfold law18_exact at h
  refine fn_ok Try.func20 rfl rfl rfl ?_
  have hm0 := Mem.nil w
  refine cw_seq ?_
  refine cw_region ?_
  refine t_ef rfl (ef_box hm0 rfl rfl) ?_
  rintro _ w3 ⟨g1, rfl, hm2⟩
  refine t_rd rfl (rd_assign rfl) ?_
  refine rwt_nil ?_
  refine qn_then ?_
  refine cw_seq ?_
  refine cw_region ?_
  refine t_rd rfl (rd_move rfl) ?_
  refine t_rd rfl (rd_ld tA23 rfl (hm2.blk 0 rfl) rfl) ?_
  obtain ⟨r4, h5, q6⟩ := ob h; clear h
  refine t_ef rfl (ef_call tf9 rfl (cut_Form_ok h5 (hv0.to_call hm2))) ?_
  rintro _ w9 ⟨v7, rfl, hm8⟩
  have hm10 := hm2.call hm8
  refine t_rd rfl (rd_move rfl) ?_
  refine t_rd rfl (rd_extract rfl rfl) ?_
  refine t_rd rfl (rd_extract rfl rfl) ?_
  refine t_rd rfl (rd_assign rfl) ?_
  refine t_rd rfl (rd_assign rfl) ?_
  refine rwt_nil ?_
  refine qn_then ?_
  refine cw_seq ?_
  refine cw_region ?_
  refine t_rd rfl (rd_move rfl) ?_
  refine t_rd rfl (rd_ld tA23 rfl (hm10.blk 1 rfl) rfl) ?_
  obtain ⟨r11, h12, q13⟩ := ob q6; clear q6
  refine t_ef rfl (ef_call tf18 rfl (r18_Form_ok h12 (hv0.to_call hm10))) ?_
  rintro _ w16 ⟨v14, rfl, hm15⟩
  have hm17 := hm10.call hm15
  refine t_rd rfl (rd_move rfl) ?_
  refine t_rd rfl (rd_extract rfl rfl) ?_
  refine t_rd rfl (rd_extract rfl rfl) ?_
  refine t_rd rfl (rd_assign rfl) ?_
  refine t_rd rfl (rd_assign rfl) ?_
  refine rwt_nil ?_
  refine qn_then ?_
  refine cw_seq ?_
  refine cw_region ?_
  refine t_rd rfl (rd_move rfl) ?_
  refine t_rd rfl (rd_ld tA23 rfl (hm17.blk 2 rfl) rfl) ?_
  obtain ⟨r18, h19, q20⟩ := ob q13; clear q13
  refine t_ef rfl (ef_call tf21 rfl (cut_Witness_ok h19 (hv0.to_call hm17))) ?_
  rintro _ w23 ⟨v21, rfl, hm22⟩
  have hm24 := hm17.call hm22
  refine t_rd rfl (rd_move rfl) ?_
  refine t_rd rfl (rd_extract rfl rfl) ?_
  refine t_rd rfl (rd_extract rfl rfl) ?_
  refine t_rd rfl (rd_assign rfl) ?_
  refine t_rd rfl (rd_assign rfl) ?_
  refine rwt_nil ?_
  refine qn_then ?_
  refine cw_seq ?_
  refine cw_region ?_
  refine t_rd rfl (rd_move rfl) ?_
  refine t_rd rfl (rd_ld tA23 rfl (hm24.blk 3 rfl) rfl) ?_
  obtain ⟨r25, h26, q27⟩ := ob q20; clear q20
  refine t_ef rfl (ef_call tf27 rfl (r18_Witness_ok h26 (hv0.to_call hm24))) ?_
  rintro _ w30 ⟨v28, rfl, hm29⟩
  have hm31 := hm24.call hm29
  refine t_rd rfl (rd_move rfl) ?_
  refine t_rd rfl (rd_extract rfl rfl) ?_
  refine t_rd rfl (rd_extract rfl rfl) ?_
  refine t_rd rfl (rd_assign rfl) ?_
  refine t_rd rfl (rd_assign rfl) ?_
  refine rwt_nil ?_
  refine qn_then ?_
  refine cw_seq ?_
  refine cw_seq ?_
  obtain ⟨w33, he35⟩ : ∃ q, q = w30.drew := ⟨_, rfl⟩
  have hm34 := hm31.drew; rw [← he35] at hm34
  refine cw_region_s (fun q => (blk g1 23 [(Value.int .i64 a1.Wagons), (Value.int .i64 a1.Axles), (Value.int .i64 a1.Length)]).φ q) (cls [2] [5, 10, 21]) mixed ?_
  rintro _ rfl; rw [← he35]
  refine s_rp (i := 0) rfl (by kernel_rfl) rfl (fun _ => (rd_move rfl)) ?_
  refine s_rd (i := 1) rfl (by kernel_rfl) rfl (fun w32 hS => (rd_ld tA23 rfl (cells_blk hS) rfl)) (hm34.get (k := 4) rfl) ?_
  refine s_rp (i := 3) rfl (by kernel_rfl) rfl (fun _ => (rd_move rfl)) ?_
  refine s_rd (i := 4) rfl (by kernel_rfl) rfl (fun w32 hS => (rd_ld tA23 rfl (cells_blk hS) rfl)) (hm34.get (k := 4) rfl) ?_
  obtain ⟨r78, h79, q80⟩ := ob q27; clear q27
  refine s_ef (i := 2) rfl (by kernel_rfl) rfl (ef_call tf22 rfl (cut_Valid_ok h79 (hv0.to_call hm34))) (by decide) ?_ ?_
  · rintro _ w82 ⟨rfl, hm81⟩
    have hm83 := hm34.call hm81
    intro _
    exact (hm83.get (k := 4) rfl)
  rintro _ w82 ⟨rfl, hm81⟩
  have hm83 := hm34.call hm81
  obtain ⟨r84, h85, q86⟩ := ob q80; clear q80
  refine s_ef (i := 5) rfl (by kernel_rfl) rfl (ef_call tf25 rfl (r18_Valid_ok h85 (hv0.to_call hm83))) (by decide) (fun _ _ _ q => absurd q (by decide)) ?_
  rintro _ w88 ⟨rfl, hm87⟩
  have hm89 := hm83.call hm87
  refine s_rp (i := 6) rfl (by kernel_rfl) rfl (fun _ => (rd_neq rfl rfl)) ?_
  refine s_rp (i := 7) rfl (by kernel_rfl) rfl (fun _ => (rd_move rfl)) ?_
  refine s_rpg (i := 8) rfl (by kernel_rfl) rfl rfl rfl rfl (gv_f _) (fun hg90 _ => (rd_move rfl)) ?_
  refine s_rpg (i := 9) rfl (by kernel_rfl) rfl rfl rfl rfl (gv_f _) (fun hg91 _ => (rd_move rfl)) ?_
  obtain ⟨r93, h94, q95⟩ := ob q86; clear q86
  refine s_efg (i := 10) rfl (by kernel_rfl) rfl rfl rfl rfl (R := (fun v w' => v = gV (!(!decide (r78 = r84))) (Value.bool r93) ∧ Mem w88 No [] w')) (gv_f _) (fun hg92 => (ef_call tf14 (evc (gvx rfl hg92) (evc (gvx rfl hg92) evn)) (humpgen_Cuts_ok (gO_t h94 hg92) (hm89.sl_call 3 rfl) (hm89.sl_call 2 rfl))).mono (by rintro _ _ ⟨rfl, q⟩; exact ⟨(gV_t hg92).symm, q⟩)) (fun q => ⟨(gV_f q).symm, Mem.nil _⟩) (by decide) (fun _ _ _ q => absurd q (by decide)) ?_
  rintro _ w97 ⟨rfl, hm96⟩
  have hm98 := hm89.call hm96
  refine s_rpg (i := 11) rfl (by kernel_rfl) rfl rfl rfl rfl (gv_f _) (fun hg99 _ => (rd_not (gvx rfl hg99))) ?_
  refine s_rp (i := 12) rfl (by kernel_rfl) rfl (fun _ => (rd_or rfl (fun hc100 => (gvx rfl (bnotIt hc100))))) ?_
  refine s_rp (i := 13) rfl (by kernel_rfl) rfl (fun _ => (rd_move rfl)) ?_
  refine s_rpg (i := 14) rfl (by kernel_rfl) rfl rfl rfl rfl (gv_f _) (fun hg101 _ => (rd_move rfl)) ?_
  refine s_rpg (i := 15) rfl (by kernel_rfl) rfl rfl rfl rfl (gv_f _) (fun hg102 _ => (rd_move rfl)) ?_
  refine s_rpg (i := 16) rfl (by kernel_rfl) rfl rfl rfl rfl (gv_f _) (fun hg103 _ => (rd_neq (gvx rfl hg103) (gvx rfl hg103))) ?_
  refine s_rp (i := 17) rfl (by kernel_rfl) rfl (fun _ => (rd_or rfl (fun hc104 => (gvx rfl (bnotIt hc104))))) ?_
  refine s_rp (i := 18) rfl (by kernel_rfl) rfl (fun _ => (rd_move rfl)) ?_
  refine s_rpg (i := 19) rfl (by kernel_rfl) rfl rfl rfl rfl (gv_f _) (fun hg105 _ => (rd_move rfl)) ?_
  refine s_rpg (i := 20) rfl (by kernel_rfl) rfl rfl rfl rfl (gv_f _) (fun hg106 _ => (rd_move rfl)) ?_
  obtain ⟨r108, h109, q110⟩ := ob q95; clear q95
  refine s_efg (i := 21) rfl (by kernel_rfl) rfl rfl rfl rfl (R := (fun v w' => v = gV (!(((!decide (r78 = r84)) || (!r93)) || (!decide (r4.2 = r11.2)))) (Value.bool r108) ∧ Mem w97 No [] w')) (gv_f _) (fun hg107 => (ef_call tf28 (evc (gvx rfl hg107) (evc (gvx rfl hg107) evn)) (humpgen_Ints_ok (gO_t h109 hg107) (hm98.sl_call 1 rfl) (hm98.sl_call 0 rfl))).mono (by rintro _ _ ⟨rfl, q⟩; exact ⟨(gV_t hg107).symm, q⟩)) (fun q => ⟨(gV_f q).symm, Mem.nil _⟩) (by decide) (fun _ _ _ q => absurd q (by decide)) ?_
  rintro _ w112 ⟨rfl, hm111⟩
  have hm113 := hm98.call hm111
  refine s_rpg (i := 22) rfl (by kernel_rfl) rfl rfl rfl rfl (gv_f _) (fun hg114 _ => (rd_not (gvx rfl hg114))) ?_
  refine s_rp (i := 23) rfl (by kernel_rfl) rfl (fun _ => (rd_or rfl (fun hc115 => (gvx rfl (bnotIt hc115))))) ?_
  refine s_rp (i := 24) rfl (by kernel_rfl) rfl (fun _ => (rd_move rfl)) ?_
  refine s_rpg (i := 25) rfl (by kernel_rfl) rfl rfl rfl rfl (gv_f _) (fun hg116 _ => (rd_move rfl)) ?_
  refine s_rpg (i := 26) rfl (by kernel_rfl) rfl rfl rfl rfl (gv_f _) (fun hg117 _ => (rd_move rfl)) ?_
  refine s_rpg (i := 27) rfl (by kernel_rfl) rfl rfl rfl rfl (gv_f _) (fun hg118 _ => (rd_neq (gvx rfl hg118) (gvx rfl hg118))) ?_
  refine s_rp (i := 28) rfl (by kernel_rfl) rfl (fun _ => (rd_or rfl (fun hc119 => (gvx rfl (bnotIt hc119))))) ?_
  refine s_nil (by kernel_rfl) ?_
  refine qn_then ?_
  obtain ⟨hb120, q121⟩ | ⟨hb120, q121⟩ := oi q110 <;> clear q110
  · refine cw_t rfl hb120 ?_
    refine cw_seq ?_
    refine cw_region ?_
    refine t_rd rfl (rd_assign rfl) ?_
    refine rwt_nil ?_
    refine qn_then ?_
    refine cw_ret ?_
    refine qr_then ?_
    obtain rfl := os q121
    exact ret1 rfl rfl ⟨rfl, (hm113.pick [] (by decide) rfl)⟩
  · refine cw_f rfl hb120 ?_
    refine cw_skip ?_
    refine qn_then ?_
    refine cw_seq ?_
    refine cw_region ?_
    refine t_rd rfl (rd_move rfl) ?_
    refine t_rd rfl (rd_ld tA23 rfl (hm113.blk 4 rfl) rfl) ?_
    refine t_rd rfl (rd_move rfl) ?_
    refine t_rd rfl (rd_move rfl) ?_
    obtain ⟨r122, h123, q124⟩ := ob q121; clear q121
    refine t_ef rfl (ef_call tf16 rfl (cut_Permitted_ok h123 (hv0.to_call hm113))) ?_
    rintro _ w126 ⟨rfl, hm125⟩
    have hm127 := hm113.call hm125
    refine t_rd rfl (rd_move rfl) ?_
    refine t_rd rfl (rd_extract rfl rfl) ?_
    refine t_rd rfl (rd_extract rfl rfl) ?_
    refine t_rd rfl (rd_assign rfl) ?_
    refine t_rd rfl (rd_assign rfl) ?_
    refine rwt_nil ?_
    refine qn_then ?_
    refine cw_seq ?_
    refine cw_region ?_
    refine t_rd rfl (rd_move rfl) ?_
    refine t_rd rfl (rd_ld tA23 rfl (hm127.blk 4 rfl) rfl) ?_
    refine t_rd rfl (rd_move rfl) ?_
    refine t_rd rfl (rd_move rfl) ?_
    obtain ⟨r128, h129, q130⟩ := ob q124; clear q124
    refine t_ef rfl (ef_call tf29 rfl (r18_Permitted_ok h129 (hv0.to_call hm127))) ?_
    rintro _ w132 ⟨rfl, hm131⟩
    have hm133 := hm127.call hm131
    refine t_rd rfl (rd_move rfl) ?_
    refine t_rd rfl (rd_extract rfl rfl) ?_
    refine t_rd rfl (rd_extract rfl rfl) ?_
    refine t_rd rfl (rd_assign rfl) ?_
    refine t_rd rfl (rd_assign rfl) ?_
    refine rwt_nil ?_
    refine qn_then ?_
    refine cw_seq ?_
    refine cw_region ?_
    refine t_rd rfl (rd_move rfl) ?_
    refine t_rd rfl (rd_ld tA23 rfl (hm133.blk 4 rfl) rfl) ?_
    refine t_rd rfl (rd_move rfl) ?_
    obtain ⟨r134, h135, q136⟩ := ob q130; clear q130
    refine t_ef rfl (ef_call tf17 rfl (cut_Check_ok h135 (hv0.to_call hm133) (hv2.to_call hm133))) ?_
    rintro _ w138 ⟨rfl, hm137⟩
    have hm139 := hm133.call hm137
    refine t_rd rfl (rd_move rfl) ?_
    refine t_rd rfl (rd_extract rfl rfl) ?_
    refine t_rd rfl (rd_extract rfl rfl) ?_
    refine t_rd rfl (rd_assign rfl) ?_
    refine t_rd rfl (rd_assign rfl) ?_
    refine rwt_nil ?_
    refine qn_then ?_
    refine cw_seq ?_
    refine cw_region ?_
    refine t_rd rfl (rd_move rfl) ?_
    refine t_rd rfl (rd_ld tA23 rfl (hm139.blk 4 rfl) rfl) ?_
    refine t_rd rfl (rd_move rfl) ?_
    obtain ⟨r140, h141, q142⟩ := ob q136; clear q136
    refine t_ef rfl (ef_call tf30 rfl (r18_Check_ok h141 (hv0.to_call hm139) (hv2.to_call hm139))) ?_
    rintro _ w144 ⟨rfl, hm143⟩
    have hm145 := hm139.call hm143
    refine t_rd rfl (rd_move rfl) ?_
    refine t_rd rfl (rd_extract rfl rfl) ?_
    refine t_rd rfl (rd_extract rfl rfl) ?_
    refine t_rd rfl (rd_assign rfl) ?_
    refine t_rd rfl (rd_assign rfl) ?_
    refine rwt_nil ?_
    refine qn_then ?_
    refine cw_seq ?_
    refine cw_region ?_
    refine t_rd rfl (rd_move rfl) ?_
    refine t_rd rfl (rd_move rfl) ?_
    refine t_rd rfl (rd_eqlb tB4 rfl rfl) ?_
    refine t_rd rfl (rd_move rfl) ?_
    refine t_rdg rfl rfl rfl rfl (gv_t _) (fun hg146 => (rd_move rfl)) ?_
    refine t_rdg rfl rfl rfl rfl (gv_t _) (fun hg147 => (rd_move rfl)) ?_
    refine t_rdg rfl rfl rfl rfl (gv_t _) (fun hg148 => (rd_eql (gvx rfl hg148) (gvx rfl hg148))) ?_
    refine t_rd rfl (rd_and rfl (fun hc149 => (gvx rfl hc149))) ?_
    refine t_rd rfl (rd_move rfl) ?_
    refine t_rdg rfl rfl rfl rfl (gv_t _) (fun hg150 => (rd_move rfl)) ?_
    refine t_rdg rfl rfl rfl rfl (gv_t _) (fun hg151 => (rd_move rfl)) ?_
    refine t_rdg rfl rfl rfl rfl (gv_t _) (fun hg152 => (rd_eqlb tB4 (gvx rfl hg152) (gvx rfl hg152))) ?_
    refine t_rd rfl (rd_and rfl (fun hc153 => (gvx rfl hc153))) ?_
    refine t_rd rfl (rd_move rfl) ?_
    refine t_rdg rfl rfl rfl rfl (gv_t _) (fun hg154 => (rd_move rfl)) ?_
    refine t_rdg rfl rfl rfl rfl (gv_t _) (fun hg155 => (rd_move rfl)) ?_
    refine t_rdg rfl rfl rfl rfl (gv_t _) (fun hg156 => (rd_eql (gvx rfl hg156) (gvx rfl hg156))) ?_
    refine t_rd rfl (rd_and rfl (fun hc157 => (gvx rfl hc157))) ?_
    refine t_rd rfl (rd_assign rfl) ?_
    refine rwt_nil ?_
    refine qn_then ?_
    refine cw_ret ?_
    obtain rfl := os q142
    exact ret1 rfl rfl ⟨rfl, (hm145.pick [] (by decide) rfl)⟩

end Go.Proofs.Ytiffggmeebajpaa
