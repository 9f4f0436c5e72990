/- Each call computes what its mirror does; written by a program of mine (gowalk.py). -/
import Derived.Test.YtlpkbkbjohhleaaGreatWka
namespace Go.Proofs.YtlpkbkbjohhleaaGreat
open Go.Gv Go.RowKit
set_option linter.unusedVariables false
set_option maxRecDepth 100000

theorem planner_Items_ok {N : Nat} {a0 : List (List Str)} {a1 : List T_Wagon} {res : List T_Item × Int} (h : planner_Items N a0 a1 = some res) {w : World} {v0 : Value} {v1 : Value} (hv0 : Sl (Old w No) w v0 a0) (hv1 : Sl (Old w No) w v1 a1) :
  CallsR Tryz.prog 21 [v0, v1] w (fun u w' => ∃ (y0 : Value), u = (Value.tuple #[y0, (Value.int .i64 res.2)]) ∧ Mem w No [ownL 40 y0 (res.1 : List T_Item)] w') := by
 unfold planner_Items at h
 refine fn_ok Tryz.func21 rfl rfl rfl ?_
 obtain ⟨zs_a0, hn0⟩ := hv0.nest
 have hm0 := Mem.nil w
 refine cw_sr (t_as rfl rfl (t_as rfl rfl (rwt_n (cw_seq (cw_sr ?_)))))
 refine t_mv rfl rfl ?_
 refine t_rd rfl (rd_lenS tS68 rfl ((hn0.of_old hm0).sl)) ?_
 refine t_rd rfl (rd_gtr rfl rfl) ?_
 refine t_mv rfl rfl ?_
 refine t_rdg rfl rfl rfl rfl (gv_f _) (fun hg1 => (rd_move rfl)) ?_
 refine t_rdg rfl rfl rfl rfl (gv_f _) (fun hg2 => (rd_lenS tS48 (gvx rfl hg2) (hv1.of_old hm0))) ?_
 refine t_rdg rfl rfl rfl rfl (gv_f _) (fun hg3 => (rd_gtr (gvx rfl hg3) rfl)) ?_
 refine t_rd rfl (rd_or rfl (fun hc4 => (gvx rfl (bnotIt hc4)))) ?_
 refine rwt_n ?_
 obtain ⟨hb5, q6⟩ | ⟨hb5, q6⟩ := oi h <;> clear h
 ·refine cw_t rfl hb5 (cw_sr (t_as rfl rfl (t_as rfl rfl (rwt_n ?_))))
  refine cw_ret ?_
  refine qr_then ?_
  obtain rfl := os q6
  have hm7 := hm0.addNil (α := T_Item) 40
  exact ret2 rfl rfl rfl ⟨(Value.slice none 0 0), rfl, (hm7.pick [0] (by decide) rfl)⟩
 ·refine cw_f rfl hb5 (cw_skip (qn_then (cw_seq (cw_sr (t_mv rfl rfl ?_)))))
  refine t_rd rfl (rd_lenS tS68 rfl ((hn0.of_old hm0).sl)) ?_
  refine t_mv rfl rfl (rwt_n (cw_block ?_))
  obtain ⟨r50, hit51, q52⟩ := ob q6; clear q6
  refine cw_loop2 (I := fun q envq wq => Sub [(0, v0), (1, v1), (23, v0), (24, (Value.int .i64 (List.length a0 : Int))), (25, (Value.int .i64 q))] envq ∧ Mem w No [] wq) (X := fun eq envq wq => (∃ p53, r50 = (Sum.inl p53) ∧ eq = .ret ∧ retQ Tryz.prog 65 Tryz.f21 (fun u w' => ∃ (y0 : Value), u = (Value.tuple #[y0, (Value.int .i64 p53.2)]) ∧ Mem w No [ownL 40 y0 (p53.1 : List T_Item)] w') .ret envq wq) ∨ (∃ p54, r50 = (Sum.inr p54) ∧ eq = .exit 0 ∧ Sub [(0, v0), (1, v1)] envq ∧ Mem w No [] wq)) hit51 ⟨(by repeat (first | exact Sub.nil _ | refine Sub.cons rfl ?_)), (hm0.pick [] (by decide) rfl)⟩ ?_ ?_
  ·rintro i43 x45 env46 w47 hf48 hr49 ⟨hs_, hm_⟩
   have hs_ : Sub [(0, v0), (1, v1), (23, v0), (24, (Value.int .i64 (List.length a0 : Int))), (25, (Value.int .i64 i43))] env46 := hs_
   have hm55 : Mem w No [] w47 := hm_
   refine cw_sub hs_ ?_
   clear hs_ hm_ q52
   have h : planner_Items_l1 N a0 i43 = some x45 := hf48
   clear hf48
   refine cw_sr (t_rd rfl (rd_lss rfl rfl) (rwt_n (cw_seq ?_)))
   obtain ⟨hb56, q57⟩ | ⟨hb56, q57⟩ := oi h <;> clear h
   ·refine cw_t rfl hb56 (cw_skip (qn_then (cw_seq (cw_block (cw_sr ?_)))))
    obtain ⟨x58, h59, q60⟩ := ob q57; clear q57
    refine t_rd rfl (rd_index tS68 rfl rfl ((hn0.of_old hm55).sl) h59) ?_
    obtain ⟨zd61, hz62⟩ := (hn0.of_old hm55).row h59
    refine t_rd rfl (rd_ld tA67 rfl ((hn0.of_old hm55).cells hz62) rfl) ?_
    refine t_ef rfl (ef_alloc hm55 tZ67 rfl) ?_
    rintro _ w65 ⟨g63, rfl, hm64⟩
    refine t_ef0 (ef_stw (k := 0) hm64 tA67 rfl rfl (oc_cons (sl_one ((hn0.of_old hm64).get hz62 h59)) oc_nil) rfl rfl rfl) ?_
    intro _ w67 hm66
    refine rwt_n (cw_sr (t_rd rfl (rd_fld tF67_0 rfl) ?_))
    refine t_rd rfl (rd_ld1 tO65 rfl (hm66.blk 0 rfl) (off := 0) rfl) ?_
    refine t_rd rfl (rd_lenS tS65 rfl ((hn0.of_old hm66).get hz62 h59)) ?_
    refine t_rd rfl (rd_gtr rfl rfl) ?_
    refine rwt_n ?_
    obtain ⟨hb68, q69⟩ | ⟨hb68, q69⟩ := oi q60 <;> clear q60
    ·refine cw_t rfl hb68 (cw_sr (t_as rfl rfl (t_as rfl rfl (rwt_n ?_))))
     refine cw_ret ?_
     refine qr_block (qr_then (qr_then ?_))
     obtain rfl := hr49 _ (os q69)
     refine .inl (⟨_, rfl, ⟨rfl, ?_⟩⟩)
     have hm70 := hm66.addNil (α := T_Item) 40
     exact ret2 rfl rfl rfl ⟨(Value.slice none 0 0), rfl, (hm70.pick [0] (by decide) rfl)⟩
    ·refine cw_f rfl hb68 (cw_skip ?_)
     refine qn_block (qn_then ?_)
     refine cw_region ?_
     obtain ⟨x71, h72, q73⟩ := ob q69; clear q69
     refine t_rd rfl (rd_add64 h72 rfl rfl) (t_mv rfl rfl (rwt_n ?_))
     refine ⟨_, (os q73), (by repeat (first | exact Sub.nil _ | refine Sub.cons rfl ?_)), (hm66.pick [] (by decide) rfl)⟩
   ·refine cw_f rfl hb56 ?_
    refine cw_exit ?_
    refine qx_then (qx_then ?_)
    obtain rfl := hr49 _ (os q57)
    exact .inr (⟨_, rfl, ⟨rfl, (by repeat (first | exact Sub.nil _ | refine Sub.cons rfl ?_)), (hm55.pick [] (by decide) rfl)⟩⟩)
  ·skip
   intro e env74 w75 hX76
   rcases hX76 with hX76 | hX76
   ·obtain ⟨p78, rfl, hX76⟩ := hX76
    obtain ⟨rfl, hq80⟩ := hX76
    exact qr_block (qr_then ((by have e := os q52; subst e; exact hq80)))
   ·obtain ⟨p81, rfl, hX76⟩ := hX76
    obtain ⟨rfl, hs82, hm83⟩ := hX76
    refine qx_same (qn_then ?_)
    refine cw_sub hs82 ?_
    refine cw_sr (t_as rfl rfl (rwt_n (cw_seq (cw_sr (t_mv rfl rfl ?_)))))
    refine t_rd rfl (rd_lenS tS48 rfl (hv1.of_old hm83)) ?_
    refine t_mv rfl rfl (rwt_n (cw_block ?_))
    have hm123 := hm83.addNil (α := T_Item) 40
    obtain ⟨r215, hit216, q217⟩ := ob q52; clear q52
    refine cw_loop2 (I := fun q envq wq => ∃ (v208 : Value), Sub [(0, v0), (8, v208), (34, v1), (35, (Value.int .i64 (List.length a1 : Int))), (36, (Value.int .i64 q.1))] envq ∧ Mem w No [ownL 40 v208 (q.2 : List T_Item)] wq) (X := fun eq envq wq => (∃ p218, r215 = (Sum.inl p218) ∧ eq = .ret ∧ retQ Tryz.prog 65 Tryz.f21 (fun u w' => ∃ (y0 : Value), u = (Value.tuple #[y0, (Value.int .i64 p218.2)]) ∧ Mem w No [ownL 40 y0 (p218.1 : List T_Item)] w') .ret envq wq) ∨ (∃ p219, r215 = (Sum.inr p219) ∧ eq = .exit 2 ∧ ∃ (v205 : Value), Sub [(8, v205)] envq ∧ Mem w No [ownL 40 v205 (p219 : List T_Item)] wq)) hit216 ⟨(Value.slice none 0 0), (by repeat (first | exact Sub.nil _ | refine Sub.cons rfl ?_)), (hm123.pick [0] (by decide) rfl)⟩ ?_ ?_
    ·rintro ⟨i206, l207⟩ x210 env211 w212 hf213 hr214 ⟨v208, hs_, hm_⟩
     have hs_ : Sub [(0, v0), (8, v208), (34, v1), (35, (Value.int .i64 (List.length a1 : Int))), (36, (Value.int .i64 i206))] env211 := hs_
     have hm220 : Mem w No [ownL 40 v208 (l207 : List T_Item)] w212 := hm_
     refine cw_sub hs_ ?_
     clear hs_ hm_ q217
     have h : planner_Items_l2 N a0 a1 i206 l207 = some x210 := hf213
     clear hf213
     refine cw_sr (t_rd rfl (rd_lss rfl rfl) (rwt_n (cw_seq ?_)))
     obtain ⟨hb221, q222⟩ | ⟨hb221, q222⟩ := oi h <;> clear h
     ·refine cw_t rfl hb221 (cw_skip (qn_then (cw_seq (cw_block (cw_sr ?_)))))
      obtain ⟨x223, h224, q225⟩ := ob q222; clear q222
      refine t_rd rfl (rd_index tS48 rfl rfl (hv1.of_old hm220) h224) ?_
      refine t_rd rfl (rd_ld tA51 rfl ((hv1.of_old hm220).cells h224) rfl) ?_
      refine t_ef rfl (ef_alloc hm220 tZ51 rfl) ?_
      rintro _ w228 ⟨g226, rfl, hm227⟩
      refine t_ef0 (ef_stw (k := 0) hm227 tA51 rfl rfl (oc_cons rfl (oc_cons rfl (oc_cons rfl (oc_cons rfl (oc_cons rfl (oc_cons rfl (oc_cons rfl (oc_cons rfl oc_nil)))))))) rfl rfl rfl) ?_
      intro _ w230 hm229
      refine rwt_n (cw_seq (cw_sr ?_))
      refine t_rd rfl (rd_ld tA51 rfl (hm229.blk 0 rfl) rfl) ?_
      obtain ⟨r231, h232, q233⟩ := ob q225; clear q225
      refine t_ef rfl (ef_call tf52 rfl (consist_Valid_ok h232)) ?_
      rintro _ w235 ⟨e_, hm234⟩
      obtain rfl := e_.symm
      have hm236 := hm229.call hm234
      refine t_as rfl rfl (rwt_n (cw_sr (t_mv rfl rfl ?_)))
      refine t_rd rfl (rd_neq rfl rfl) ?_
      refine rwt_n ?_
      obtain ⟨hb237, q238⟩ | ⟨hb237, q238⟩ := oi q233 <;> clear q233
      ·refine cw_t rfl hb237 (cw_sr (t_mv rfl rfl (t_as rfl rfl (t_as rfl rfl (rwt_n ?_)))))
       refine cw_ret ?_
       refine qr_then (qr_block (qr_then (qr_then ?_)))
       obtain rfl := hr214 _ (os q238)
       refine .inl (⟨_, rfl, ⟨rfl, ?_⟩⟩)
       have hm239 := hm236.addNil (α := T_Item) 40
       exact ret2 rfl rfl rfl ⟨(Value.slice none 0 0), rfl, (hm239.pick [0] (by decide) rfl)⟩
      ·refine cw_f rfl hb237 (cw_skip (qn_then (cw_sr (t_mv rfl rfl (t_rd rfl (rd_fld tF51_7 rfl) ?_)))))
       refine t_rd rfl (rd_ld1 tO9 rfl (hm236.blk 0 rfl) (off := 7) rfl) ?_
       obtain ⟨r240, h241, q242⟩ := ob q238; clear q238
       refine t_ef rfl (ef_call tf53 rfl (planner_find_ok h241 ((hn0.to_call hm236).sl))) ?_
       rintro _ w244 ⟨e_, hm243⟩
       obtain rfl := e_.symm
       have hm245 := hm236.call hm243
       refine t_mv rfl rfl ?_
       refine t_rd rfl (rd_extract rfl rfl) ?_
       refine t_rd rfl (rd_extract rfl rfl) ?_
       refine t_rd rfl (rd_extract rfl rfl) ?_
       refine t_as rfl rfl (t_as rfl rfl (t_as rfl rfl (rwt_n (cw_seq (cw_sr ?_)))))
       refine t_mv rfl rfl ?_
       refine t_rd rfl (rd_not rfl) ?_
       refine rwt_n ?_
       obtain ⟨hb246, q247⟩ | ⟨hb246, q247⟩ := oi q242 <;> clear q242
       ·refine cw_t rfl hb246 (cw_sr (t_as rfl rfl (t_as rfl rfl (rwt_n ?_))))
        refine cw_ret ?_
        refine qr_then (qr_block (qr_then (qr_then ?_)))
        obtain rfl := hr214 _ (os q247)
        refine .inl (⟨_, rfl, ⟨rfl, ?_⟩⟩)
        have hm248 := hm245.addNil (α := T_Item) 40
        exact ret2 rfl rfl rfl ⟨(Value.slice none 0 0), rfl, (hm248.pick [0] (by decide) rfl)⟩
       ·refine cw_f rfl hb246 (cw_skip (qn_then ?_))
        refine cw_region ?_
        refine t_mv rfl rfl (t_mv rfl rfl (t_mv rfl rfl (t_rd rfl (rd_fld tF51_1 rfl) ?_)))
        refine t_rd rfl (rd_ld1 tO3 rfl (hm245.blk 0 rfl) (off := 1) rfl) ?_
        refine t_rd rfl (rd_build (cs := #[(Value.int .i64 r240.1), (Value.int .i64 r240.2.1), (Value.int .i64 0), (Value.int .i64 x223.Length)]) rfl (by kernel_rfl)) ?_
        refine t_ef rfl (ef_bslice (l := ([(T_Item.mk r240.1 r240.2.1 0 x223.Length)] : List T_Item)) hm245 tS25 rfl (cs := #[(Value.int .i64 r240.1), (Value.int .i64 r240.2.1), (Value.int .i64 0), (Value.int .i64 x223.Length)]) (by unfold bsl; kernel_rfl) rfl rfl) ?_
        intro v249 w251 hm250
        obtain ⟨l252, h253, q254⟩ := ob q247; clear q247
        refine t_ef rfl (ef_append (k := 2) hm250 tS25 tE40 rfl rfl rfl rfl (hm250.sl 0 rfl) h253) ?_
        intro v255 w257 hm256
        refine t_as rfl rfl ?_
        refine rwt_nil ?_
        refine qn_block (qn_then ?_)
        refine cw_region ?_
        obtain ⟨x258, h259, q260⟩ := ob q254; clear q254
        refine t_rd rfl (rd_add64 h259 rfl rfl) (t_mv rfl rfl (rwt_n ?_))
        refine ⟨_, (os q260), v255, (by repeat (first | exact Sub.nil _ | refine Sub.cons rfl ?_)), (hm256.pick [2] (by decide) rfl)⟩
     ·refine cw_f rfl hb221 ?_
      refine cw_exit ?_
      refine qx_then (qx_then ?_)
      obtain rfl := hr214 _ (os q222)
      exact .inr (⟨_, rfl, ⟨rfl, v208, (by repeat (first | exact Sub.nil _ | refine Sub.cons rfl ?_)), (hm220.pick [0] (by decide) rfl)⟩⟩)
    ·skip
     intro e env261 w262 hX263
     rcases hX263 with hX263 | hX263
     ·obtain ⟨p265, rfl, hX263⟩ := hX263
      obtain ⟨rfl, hq267⟩ := hX263
      exact qr_block (qr_then ((by have e := os q217; subst e; exact hq267)))
     ·obtain ⟨p268, rfl, hX263⟩ := hX263
      obtain ⟨rfl, v205, hs269, hm270⟩ := hX263
      refine qx_same (qn_then ?_)
      refine cw_sub hs269 ?_
      refine cw_sr (t_mv rfl rfl (t_as rfl rfl (t_as rfl rfl (rwt_n ?_))))
      refine cw_ret ?_
      obtain rfl := os q217
      exact ret2 rfl rfl rfl ⟨v205, rfl, (hm270.pick [0] (by decide) rfl)⟩

theorem Maker_From_ok {N : Nat} {a0_l : List Int} {a0_n : Int} {a1 : Int} {a2 : Int} {res : Int × Int} (h : Maker_From N a0_l a0_n a1 a2 = some res) {w : World} {v0_l : Value} {g0 : Nat} (hv0_l : Sl (Old w (fun k => k = g0)) w v0_l a0_l) (hk0 : (blk g0 83 [v0_l, (Value.int .i64 a0_n)]).φ w) :
  CallsR Tryz.prog 22 [(Value.pointer (some ⟨g0, 0, none⟩)), (Value.int .i64 a1), (Value.int .i64 a2)] w (fun u w' => u = (Value.int .i64 res.2) ∧ Mem w (fun k => k = g0) [blk g0 83 [v0_l, (Value.int .i64 res.1)]] w') := by
 unfold Maker_From at h
 refine fn_ok Tryz.func22 rfl rfl rfl ?_
 have hm0 := Mem.one hk0
 refine cw_sr (t_as rfl rfl (rwt_n (cw_sr (t_mv rfl rfl (t_mv rfl rfl (t_mv rfl rfl ?_))))))
 refine t_mv rfl rfl ?_
 obtain ⟨x16, h17, q18⟩ := ob h; clear h
 refine t_rd rfl (rd_sub64 h17 rfl rfl) ?_
 obtain ⟨x19, h20, q21⟩ := ob q18; clear q18
 refine t_rd rfl (rd_add64 h20 rfl rfl) ?_
 obtain ⟨r22, h23, q24⟩ := ob q21; clear q21
 refine t_ef rfl (ef_call tf39 rfl (Maker_Next_ok h23 (hv0_l.to_callT (k := 0) hm0 rfl) (hm0.get (k := 0) rfl))) ?_
 rintro _ w26 ⟨e_, hm25⟩
 obtain rfl := e_.symm
 have hm27 := hm0.callT (k := 0) rfl (fun _ h => h) hm25 (fun _ => Iff.rfl)
 obtain ⟨x28, h29, q30⟩ := ob q24; clear q24
 refine t_rd rfl (rd_add64 h29 rfl rfl) (t_as rfl rfl (rwt_n ?_))
 refine cw_ret ?_
 obtain rfl := os q30
 exact ret1 rfl rfl ⟨rfl, (hm27.pick [0] (by decide) rfl)⟩

theorem job_in_ok {N : Nat} {a0 : Int} {a1 : Int} {a2 : Int} {res : Bool} (h : job_in N a0 a1 a2 = some res) {w : World}   :
  CallsR Tryz.prog 67 [(Value.int .i64 a0), (Value.int .i64 a1), (Value.int .i64 a2)] w (fun u w' => u = (Value.bool res) ∧ Mem w No [] w') := by
 unfold job_in at h
 refine fn_ok Tryz.func67 rfl rfl rfl ?_
 have hm0 := Mem.nil w
 refine cw_sr (t_as rfl rfl (rwt_n (cw_sr (t_mv rfl rfl (t_mv rfl rfl ?_)))))
 refine t_rd rfl (rd_geq rfl rfl) ?_
 refine t_mv rfl rfl ?_
 refine t_rdg rfl rfl rfl rfl (gv_t _) (fun hg1 => (rd_move rfl)) ?_
 refine t_rdg rfl rfl rfl rfl (gv_t _) (fun hg2 => (rd_move rfl)) ?_
 refine t_rdg rfl rfl rfl rfl (gv_t _) (fun hg3 => (rd_leq (gvx rfl hg3) (gvx rfl hg3))) ?_
 refine t_rd rfl (rd_and rfl (fun hc4 => (gvx rfl hc4))) ?_
 refine t_as rfl rfl (rwt_n ?_)
 refine cw_ret ?_
 obtain rfl := os h
 exact ret1 rfl rfl ⟨rfl, (hm0.pick [] (by decide) rfl)⟩

theorem job_Valid_ok {N : Nat} {a0_Items : List T_Item} {a0_Weight : Int} {res : Int} (h : job_Valid N a0_Items a0_Weight = some res) {w : World} {v0_Items : Value} (hv0_Items : Sl (Old w No) w v0_Items a0_Items) :
  CallsR Tryz.prog 59 [(Value.agg #[v0_Items, (Value.int .i64 a0_Weight)])] w (fun u w' => u = (Value.int .i64 res) ∧ Mem w No [] w') := by
 unfold job_Valid at h
 refine fn_ok Tryz.func59 rfl rfl rfl ?_
 have hm0 := Mem.nil w
 refine cw_sr ?_
 refine t_ef rfl (ef_box hm0 rfl rfl) ?_
 rintro _ w3 ⟨g1, rfl, hm2⟩
 refine t_as rfl rfl (rwt_n (cw_seq (cw_sr (t_rd rfl (rd_fld tF27_0 rfl) ?_))))
 refine t_rd rfl (rd_ld1 tO25 rfl (hm2.blk 0 rfl) (off := 0) rfl) ?_
 refine t_rd rfl (rd_lenS tS25 rfl (hv0_Items.of_old hm2)) ?_
 refine t_rd rfl (rd_gtr rfl rfl) ?_
 refine rwt_n ?_
 obtain ⟨hb4, q5⟩ | ⟨hb4, q5⟩ := oi h <;> clear h
 ·refine cw_t rfl hb4 (cw_sr (t_as rfl rfl (rwt_n ?_)))
  refine cw_ret ?_
  refine qr_then ?_
  obtain rfl := os q5
  exact ret1 rfl rfl ⟨rfl, (hm2.pick [] (by decide) rfl)⟩
 ·refine cw_f rfl hb4 (cw_skip (qn_then (cw_seq (cw_sr (t_rd rfl (rd_fld tF27_1 rfl) ?_)))))
  refine t_rd rfl (rd_ld1 tO3 rfl (hm2.blk 0 rfl) (off := 1) rfl) ?_
  obtain ⟨r6, h7, q8⟩ := ob q5; clear q5
  refine t_ef rfl (ef_call tf67 rfl (job_in_ok h7)) ?_
  rintro _ w10 ⟨e_, hm9⟩
  obtain rfl := e_.symm
  have hm11 := hm2.call hm9
  refine t_rd rfl (rd_not rfl) ?_
  refine rwt_n ?_
  obtain ⟨hb12, q13⟩ | ⟨hb12, q13⟩ := oi q8 <;> clear q8
  ·refine cw_t rfl hb12 (cw_sr (t_as rfl rfl (rwt_n ?_)))
   refine cw_ret ?_
   refine qr_then ?_
   obtain rfl := os q13
   exact ret1 rfl rfl ⟨rfl, (hm11.pick [] (by decide) rfl)⟩
  ·refine cw_f rfl hb12 (cw_skip (qn_then (cw_seq (cw_sr (t_rd rfl (rd_fld tF27_0 rfl) ?_)))))
   refine t_rd rfl (rd_ld1 tO25 rfl (hm11.blk 0 rfl) (off := 0) rfl) ?_
   refine t_rd rfl (rd_lenS tS25 rfl (hv0_Items.of_old hm11)) ?_
   refine t_mv rfl rfl (rwt_n (cw_block ?_))
   obtain ⟨r210, hit211, q212⟩ := ob q13; clear q13
   refine cw_loop2 (I := fun q envq wq => Sub [(1, (Value.pointer (some ⟨g1, 0, none⟩))), (14, v0_Items), (15, (Value.int .i64 (List.length a0_Items : Int))), (16, (Value.int .i64 q))] envq ∧ Mem w No [blk g1 27 [v0_Items, (Value.int .i64 a0_Weight)]] wq) (X := fun eq envq wq => (∃ p213, r210 = (Sum.inl p213) ∧ eq = .ret ∧ retQ Tryz.prog 58 Tryz.f59 (fun u w' => u = (Value.int .i64 p213) ∧ Mem w No [] w') .ret envq wq) ∨ (∃ p214, r210 = (Sum.inr p214) ∧ eq = .exit 0 ∧ Sub [] envq ∧ Mem w No [] wq)) hit211 ⟨(by repeat (first | exact Sub.nil _ | refine Sub.cons rfl ?_)), (hm11.pick [0] (by decide) rfl)⟩ ?_ ?_
   ·rintro i203 x205 env206 w207 hf208 hr209 ⟨hs_, hm_⟩
    have hs_ : Sub [(1, (Value.pointer (some ⟨g1, 0, none⟩))), (14, v0_Items), (15, (Value.int .i64 (List.length a0_Items : Int))), (16, (Value.int .i64 i203))] env206 := hs_
    have hm215 : Mem w No [blk g1 27 [v0_Items, (Value.int .i64 a0_Weight)]] w207 := hm_
    refine cw_sub hs_ ?_
    clear hs_ hm_ q212
    have h : job_Valid_l1 N a0_Items i203 = some x205 := hf208
    clear hf208
    refine cw_sr (t_rd rfl (rd_lss rfl rfl) (rwt_n (cw_seq ?_)))
    obtain ⟨hb216, q217⟩ | ⟨hb216, q217⟩ := oi h <;> clear h
    ·refine cw_t rfl hb216 (cw_skip (qn_then (cw_seq (cw_block (cw_sr ?_)))))
     refine t_mv rfl rfl ?_
     obtain ⟨x218, h219, q220⟩ := ob q217; clear q217
     refine t_rd rfl (rd_index tS25 rfl rfl (hv0_Items.of_old hm215) h219) ?_
     refine t_rd rfl (rd_ld tA40 rfl ((hv0_Items.of_old hm215).cells h219) rfl) ?_
     refine t_ef rfl (ef_alloc hm215 tZ40 rfl) ?_
     rintro _ w223 ⟨g221, rfl, hm222⟩
     refine t_as rfl rfl ?_
     refine t_ef0 (ef_stw (k := 0) hm222 tA40 rfl rfl (oc_cons rfl (oc_cons rfl (oc_cons rfl (oc_cons rfl oc_nil)))) rfl rfl rfl) ?_
     intro _ w225 hm224
     refine rwt_n (cw_seq (cw_sr (t_rd rfl (rd_fld tF40_0 rfl) ?_)))
     refine t_rd rfl (rd_ld1 tO3 rfl (hm224.blk 0 rfl) (off := 0) rfl) ?_
     obtain ⟨r226, h227, q228⟩ := ob q220; clear q220
     refine t_ef rfl (ef_call tf67 rfl (job_in_ok h227)) ?_
     rintro _ w230 ⟨e_, hm229⟩
     obtain rfl := e_.symm
     have hm231 := hm224.call hm229
     refine t_rd rfl (rd_not rfl) ?_
     refine t_mv rfl rfl ?_
     refine t_rdg rfl rfl rfl rfl (gv_f _) (fun hg232 => (rd_fld tF40_1 rfl)) ?_
     refine t_rdg rfl rfl rfl rfl (gv_f _) (fun hg233 => (rd_ld1 tO3 (gvx rfl hg233) (hm231.blk 0 rfl) (off := 1) rfl)) ?_
     obtain ⟨r235, h236, q237⟩ := ob q228; clear q228
     refine t_efg rfl rfl rfl rfl (R := (fun v w' => v = gV (!(!r226)) (Value.bool r235) ∧ Mem w230 No [] w')) (gv_f _) (fun hg234 => (ef_call tf67 (evc (gvx rfl hg234) (evc rfl (evc rfl evn))) (job_in_ok (gO_t h236 hg234))).mono (by rintro _ _ ⟨rfl, q⟩; exact ⟨(gV_t hg234).symm, q⟩)) (fun q => ⟨(gV_f q).symm, Mem.nil _⟩) ?_
     rintro _ w239 ⟨rfl, hm238⟩
     have hm240 := hm231.call hm238
     refine t_rdg rfl rfl rfl rfl (gv_f _) (fun hg241 => (rd_not (gvx rfl hg241))) ?_
     refine t_rd rfl (rd_or rfl (fun hc242 => (gvx rfl (bnotIt hc242)))) ?_
     refine t_mv rfl rfl ?_
     refine t_rdg rfl rfl rfl rfl (gv_f _) (fun hg243 => (rd_fld tF40_2 rfl)) ?_
     refine t_rdg rfl rfl rfl rfl (gv_f _) (fun hg244 => (rd_ld1 tO3 (gvx rfl hg244) (hm240.blk 0 rfl) (off := 2) rfl)) ?_
     obtain ⟨r246, h247, q248⟩ := ob q237; clear q237
     refine t_efg rfl rfl rfl rfl (R := (fun v w' => v = gV (!((!r226) || (!r235))) (Value.bool r246) ∧ Mem w239 No [] w')) (gv_f _) (fun hg245 => (ef_call tf67 (evc (gvx rfl hg245) (evc rfl (evc rfl evn))) (job_in_ok (gO_t h247 hg245))).mono (by rintro _ _ ⟨rfl, q⟩; exact ⟨(gV_t hg245).symm, q⟩)) (fun q => ⟨(gV_f q).symm, Mem.nil _⟩) ?_
     rintro _ w250 ⟨rfl, hm249⟩
     have hm251 := hm240.call hm249
     refine t_rdg rfl rfl rfl rfl (gv_f _) (fun hg252 => (rd_not (gvx rfl hg252))) ?_
     refine t_rd rfl (rd_or rfl (fun hc253 => (gvx rfl (bnotIt hc253)))) ?_
     refine t_mv rfl rfl ?_
     refine t_rdg rfl rfl rfl rfl (gv_f _) (fun hg254 => (rd_fld tF40_3 rfl)) ?_
     refine t_rdg rfl rfl rfl rfl (gv_f _) (fun hg255 => (rd_ld1 tO3 (gvx rfl hg255) (hm251.blk 0 rfl) (off := 3) rfl)) ?_
     obtain ⟨r257, h258, q259⟩ := ob q248; clear q248
     refine t_efg rfl rfl rfl rfl (R := (fun v w' => v = gV (!(((!r226) || (!r235)) || (!r246))) (Value.bool r257) ∧ Mem w250 No [] w')) (gv_f _) (fun hg256 => (ef_call tf67 (evc (gvx rfl hg256) (evc rfl (evc rfl evn))) (job_in_ok (gO_t h258 hg256))).mono (by rintro _ _ ⟨rfl, q⟩; exact ⟨(gV_t hg256).symm, q⟩)) (fun q => ⟨(gV_f q).symm, Mem.nil _⟩) ?_
     rintro _ w261 ⟨rfl, hm260⟩
     have hm262 := hm251.call hm260
     refine t_rdg rfl rfl rfl rfl (gv_f _) (fun hg263 => (rd_not (gvx rfl hg263))) ?_
     refine t_rd rfl (rd_or rfl (fun hc264 => (gvx rfl (bnotIt hc264)))) ?_
     refine rwt_n ?_
     obtain ⟨hb265, q266⟩ | ⟨hb265, q266⟩ := oi q259 <;> clear q259
     ·refine cw_t rfl hb265 (cw_sr (t_as rfl rfl (rwt_n ?_)))
      refine cw_ret ?_
      refine qr_then (qr_block (qr_then (qr_then ?_)))
      obtain rfl := hr209 _ (os q266)
      refine .inl (⟨_, rfl, ⟨rfl, ?_⟩⟩)
      exact ret1 rfl rfl ⟨rfl, (hm262.pick [] (by decide) rfl)⟩
     ·refine cw_f rfl hb265 (cw_skip (qn_then (cw_seq ?_)))
      obtain ⟨w285, he287⟩ : ∃ q, q = w261.drew := ⟨_, rfl⟩
      have hm286 := hm262.drew; rw [← he287] at hm286
      refine cw_region_s (fun q => q = w285) (cls [] []) mixed ?_
      rintro _ rfl; rw [← he287]
      refine s_rp (i := 0) rfl (by kernel_rfl) rfl (fun _ => (rd_move rfl)) ?_
      refine s_rp (i := 1) rfl (by kernel_rfl) rfl (fun _ => (rd_gtr rfl rfl)) ?_
      refine s_rp (i := 2) rfl (by kernel_rfl) rfl (fun _ => (rd_move rfl)) ?_
      refine s_rpg (i := 3) rfl (by kernel_rfl) rfl rfl rfl rfl (gv_t _) (fun hg288 _ => (rd_fld tF40_2 rfl)) ?_
      refine s_rdg (i := 4) rfl (by kernel_rfl) rfl rfl rfl rfl (gv_t _) (fun hg289 => (fun _ hS => by rw [hS]; exact (rd_ld1 tO3 (gvx rfl hg289) (hm286.blk 0 rfl) (off := 2) rfl))) rfl ?_
      refine s_rpg (i := 5) rfl (by kernel_rfl) rfl rfl rfl rfl (gv_t _) (fun hg290 _ => (rd_fld tF27_0 rfl)) ?_
      refine s_rdg (i := 6) rfl (by kernel_rfl) rfl rfl rfl rfl (gv_t _) (fun hg291 => (fun _ hS => by rw [hS]; exact (rd_ld1 tO25 (gvx rfl hg291) (hm286.blk 1 rfl) (off := 0) rfl))) rfl ?_
      refine s_rpg (i := 7) rfl (by kernel_rfl) rfl rfl rfl rfl (gv_t _) (fun hg292 _ => (rd_move rfl)) ?_
      obtain ⟨x294, h295, q296⟩ := ob q266; clear q266
      refine s_rpg (i := 8) rfl (by kernel_rfl) rfl rfl rfl rfl (gv_t _) (fun hg293 _ => (rd_sub64 (gO_t h295 hg293) (gvx rfl hg293) rfl)) ?_
      obtain ⟨x298, h299, q300⟩ := ob q296; clear q296
      refine s_rpg (i := 9) rfl (by kernel_rfl) rfl rfl rfl rfl (gv_t _) (fun hg297 _ => (rd_index tS25 (gvx rfl hg297) (gvx rfl hg297) (hv0_Items.of_old hm286) (gO_t h299 hg297))) ?_
      refine s_rpg (i := 10) rfl (by kernel_rfl) rfl rfl rfl rfl (gv_t _) (fun hg301 _ => (rd_fld tF40_2 (gvx rfl hg301))) ?_
      refine s_rdg (i := 11) rfl (by kernel_rfl) rfl rfl rfl rfl (gv_t _) (fun hg302 => (fun _ hS => by rw [hS]; exact (rd_ld1 tO3 (gvx rfl hg302) ((hv0_Items.of_old hm286).cells (gO_t h299 hg302)) (off := 2) rfl))) rfl ?_
      refine s_rpg (i := 12) rfl (by kernel_rfl) rfl rfl rfl rfl (gv_t _) (fun hg303 _ => (rd_lss (gvx rfl hg303) (gvx rfl hg303))) ?_
      refine s_rp (i := 13) rfl (by kernel_rfl) rfl (fun _ => (rd_and rfl (fun hc304 => (gvx rfl hc304)))) ?_
      refine s_nil (by kernel_rfl) ?_
      refine qn_then ?_
      obtain ⟨hb305, q306⟩ | ⟨hb305, q306⟩ := oi q300 <;> clear q300
      ·refine cw_t rfl hb305 (cw_sr (t_as rfl rfl (rwt_n ?_)))
       refine cw_ret ?_
       refine qr_block (qr_then (qr_then ?_))
       obtain rfl := hr209 _ (os q306)
       refine .inl (⟨_, rfl, ⟨rfl, ?_⟩⟩)
       exact ret1 rfl rfl ⟨rfl, (hm286.pick [] (by decide) rfl)⟩
      ·refine cw_f rfl hb305 (cw_skip ?_)
       refine qn_block (qn_then ?_)
       refine cw_region ?_
       obtain ⟨x307, h308, q309⟩ := ob q306; clear q306
       refine t_rd rfl (rd_add64 h308 rfl rfl) (t_mv rfl rfl (rwt_n ?_))
       refine ⟨_, (os q309), (by repeat (first | exact Sub.nil _ | refine Sub.cons rfl ?_)), (hm286.pick [1] (by decide) rfl)⟩
    ·refine cw_f rfl hb216 ?_
     refine cw_exit ?_
     refine qx_then (qx_then ?_)
     obtain rfl := hr209 _ (os q217)
     exact .inr (⟨_, rfl, ⟨rfl, (by repeat (first | exact Sub.nil _ | refine Sub.cons rfl ?_)), (hm215.pick [] (by decide) rfl)⟩⟩)
   ·skip
    intro e env310 w311 hX312
    rcases hX312 with hX312 | hX312
    ·obtain ⟨p314, rfl, hX312⟩ := hX312
     obtain ⟨rfl, hq316⟩ := hX312
     exact qr_block (qr_then ((by have e := os q212; subst e; exact hq316)))
    ·obtain ⟨p317, rfl, hX312⟩ := hX312
     obtain ⟨rfl, hs318, hm319⟩ := hX312
     refine qx_same (qn_then ?_)
     refine cw_sub hs318 ?_
     refine cw_sr (t_as rfl rfl (rwt_n ?_))
     refine cw_ret ?_
     obtain rfl := os q212
     exact ret1 rfl rfl ⟨rfl, (hm319.pick [] (by decide) rfl)⟩

theorem leastcode_relations_ok {N : Nat} {a0_Items : List T_Item} {a0_Weight : Int} {res : List (List Int)} (h : leastcode_relations N a0_Items a0_Weight = some res) {w : World} {v0_Items : Value} (hv0_Items : Sl (Old w No) w v0_Items a0_Items) :
  CallsR Tryz.prog 61 [(Value.agg #[v0_Items, (Value.int .i64 a0_Weight)])] w (fun u w' => ∃ (zy0 : List Hdr) (y1 : Value), u = y1 ∧ Mem w No [ownL 22 y1 (zy0 : List Hdr), rowsC 3 zy0 (res : List (List Int)) none] w') := by
 unfold leastcode_relations at h
 refine fn_ok Tryz.func61 rfl rfl rfl ?_
 have hm0 := Mem.nil w
 refine cw_sr ?_
 refine t_ef rfl (ef_box hm0 rfl rfl) ?_
 rintro _ w3 ⟨g1, rfl, hm2⟩
 refine t_as rfl rfl (rwt_n (cw_sr (t_rd rfl (rd_fld tF27_0 rfl) ?_)))
 refine t_rd rfl (rd_ld1 tO25 rfl (hm2.blk 0 rfl) (off := 0) rfl) ?_
 refine t_rd rfl (rd_lenS tS25 rfl (hv0_Items.of_old hm2)) ?_
 obtain ⟨l4, h5, q6⟩ := ob h; clear h
 refine t_ef rfl (ef_make (z := nilH) hm2 tS41 tE22 rfl rfl rfl (mkL_h h5)) ?_
 intro v7 w9 hm8
 have hm10 := hm8.rowsRep (α := Int) 3 h5
 refine t_as rfl rfl (rwt_n (cw_seq (cw_sr (t_mv rfl rfl ?_))))
 refine t_rd rfl (rd_lenS tS41 rfl ((Nl.mk (hm10.sl_call 1 rfl) (hm10.rows_call 0 rfl)).sl)) ?_
 refine t_mv rfl rfl (rwt_n (cw_block ?_))
 obtain ⟨r1228, hit1229, q1230⟩ := ob q6; clear q6
 refine cw_loop2 (I := fun q envq wq => ∃ (v1220 : Value) (zs1221 : List Hdr), Sub [(1, (Value.pointer (some ⟨g1, 0, none⟩))), (3, v1220), (13, (Value.int .i64 (List.length l4 : Int))), (14, (Value.int .i64 q.1))] envq ∧ Mem w No [rowsC 3 zs1221 (q.2 : List (List Int)) none, ownL 22 v1220 (zs1221 : List Hdr), blk g1 27 [v0_Items, (Value.int .i64 a0_Weight)]] wq) (X := fun eq envq wq => eq = .exit 0 ∧ ∃ (v1216 : Value) (zs1217 : List Hdr), Sub [(3, v1216)] envq ∧ Mem w No [rowsC 3 zs1217 (r1228 : List (List Int)) none, ownL 22 v1216 (zs1217 : List Hdr)] wq) hit1229 ⟨v7, (List.replicate (Int.toNat (List.length a0_Items : Int)) nilH), (by repeat (first | exact Sub.nil _ | refine Sub.cons rfl ?_)), (hm10.pick [0, 1, 2] (by decide) rfl)⟩ ?_ ?_
 ·rintro ⟨i1218, l1219⟩ x1223 env1224 w1225 hf1226 hr1227 ⟨v1220, zs1221, hs_, hm_⟩
  have hs_ : Sub [(1, (Value.pointer (some ⟨g1, 0, none⟩))), (3, v1220), (13, (Value.int .i64 (List.length l4 : Int))), (14, (Value.int .i64 i1218))] env1224 := hs_
  have hm1231 : Mem w No [rowsC 3 zs1221 (l1219 : List (List Int)) none, ownL 22 v1220 (zs1221 : List Hdr), blk g1 27 [v0_Items, (Value.int .i64 a0_Weight)]] w1225 := hm_
  refine cw_sub hs_ ?_
  clear hs_ hm_ q1230
  have h : leastcode_relations_l3 N a0_Items l4 i1218 l1219 = some x1223 := hf1226
  clear hf1226
  refine cw_sr (t_rd rfl (rd_lss rfl rfl) (rwt_n (cw_seq ?_)))
  obtain ⟨hb1232, q1233⟩ | ⟨hb1232, q1233⟩ := oi h <;> clear h
  ·refine cw_t rfl hb1232 (cw_skip (qn_then (cw_seq (cw_block (cw_sr ?_)))))
   refine t_mv rfl rfl (t_as rfl rfl (rwt_n (cw_sr (t_mv rfl rfl (t_mv rfl rfl (t_rd rfl (rd_fld tF27_0 rfl) ?_))))))
   refine t_rd rfl (rd_ld1 tO25 rfl (hm1231.blk 2 rfl) (off := 0) rfl) ?_
   refine t_rd rfl (rd_lenS tS25 rfl (hv0_Items.of_old hm1231)) ?_
   obtain ⟨l1234, h1235, q1236⟩ := ob q1233; clear q1233
   refine t_ef rfl (ef_make hm1231 tS22 tE3 rfl rfl rfl h1235) ?_
   intro v1237 w1239 hm1238
   obtain ⟨x1240, h1241, q1242⟩ := ob q1236; clear q1236
   refine t_rd rfl (rd_index tS41 rfl rfl ((Nl.mk (hm1238.sl_call 2 rfl) (hm1238.rows_call 1 rfl)).sl) h1241) ?_
   obtain ⟨zd1243, ez1244⟩ : ∃ z : Hdr, z.1 = v1237 := ⟨⟨v1237, sl_one (hm1238.sl 0 rfl)⟩, rfl⟩
   obtain ⟨zd1245, hz1246⟩ := (Nl.mk (hm1238.sl_call 2 rfl) (hm1238.rows_call 1 rfl)).row h1241
   have hm1247 := hm1238.pick [1, 0, 2, 3] (L' := [rowsC 3 zs1221 (l1219 : List (List Int)) none, ownL 3 v1237 (l1234 : List Int), ownL 22 v1220 (zs1221 : List Hdr), blk g1 27 [v0_Items, (Value.int .i64 a0_Weight)]]) (by decide) rfl
   have hm1248 := hm1247.hole (Int.toNat i1218)
   refine t_ef0 (ef_stl (k := 2) (off := 0) (x' := zd1243) hm1248 tO22 rfl rfl (sl_one (hm1248.sl 1 rfl)) rfl hz1246 (by show [v1237] = [zd1243.1]; rw [ez1244]) rfl) ?_
   intro _ w1250 hm1249
   have hm1251 := hm1249.fill ez1244
   refine rwt_n (cw_sr (t_mv rfl rfl (t_mv rfl rfl ?_)))
   obtain ⟨x1252, h1253, q1254⟩ := ob q1242; clear q1242
   refine t_rd rfl (rd_index tS41 rfl rfl ((Nl.mk (hm1251.sl_call 1 rfl) (hm1251.rows_call 0 rfl)).sl) h1253) ?_
   obtain ⟨zd1255, hz1256⟩ := (Nl.mk (hm1251.sl_call 1 rfl) (hm1251.rows_call 0 rfl)).row h1253
   refine t_rd rfl (rd_ld1 tO22 rfl ((Nl.mk (hm1251.sl_call 1 rfl) (hm1251.rows_call 0 rfl)).cells hz1256) (off := 0) rfl) ?_
   refine t_rd rfl (rd_lenS tS22 rfl ((Nl.mk (hm1251.sl_call 1 rfl) (hm1251.rows_call 0 rfl)).get hz1256 h1253)) ?_
   refine t_mv rfl rfl (rwt_n (cw_block ?_))
   obtain ⟨r1638, hit1639, q1640⟩ := ob q1254; clear q1254
   refine cw_loop2 (I := fun q envq wq => ∃ (v1630 : Value) (zs1631 : List Hdr), Sub [(1, (Value.pointer (some ⟨g1, 0, none⟩))), (3, v1630), (4, (Value.int .i64 i1218)), (13, (Value.int .i64 (List.length l4 : Int))), (14, (Value.int .i64 i1218)), (28, (Value.int .i64 (List.length x1252 : Int))), (29, (Value.int .i64 q.1))] envq ∧ Mem w No [rowsC 3 zs1631 (q.2 : List (List Int)) none, ownL 22 v1630 (zs1631 : List Hdr), blk g1 27 [v0_Items, (Value.int .i64 a0_Weight)]] wq) (X := fun eq envq wq => eq = .exit 2 ∧ ∃ (v1626 : Value) (zs1627 : List Hdr), Sub [(1, (Value.pointer (some ⟨g1, 0, none⟩))), (3, v1626), (13, (Value.int .i64 (List.length l4 : Int))), (14, (Value.int .i64 i1218))] envq ∧ Mem w No [rowsC 3 zs1627 (r1638 : List (List Int)) none, ownL 22 v1626 (zs1627 : List Hdr), blk g1 27 [v0_Items, (Value.int .i64 a0_Weight)]] wq) hit1639 ⟨v1220, (List.set zs1221 (Int.toNat i1218) zd1243), (by repeat (first | exact Sub.nil _ | refine Sub.cons rfl ?_)), (hm1251.pick [0, 1, 2] (by decide) rfl)⟩ ?_ ?_
   ·rintro ⟨i1628, l1629⟩ x1633 env1634 w1635 hf1636 hr1637 ⟨v1630, zs1631, hs_, hm_⟩
    have hs_ : Sub [(1, (Value.pointer (some ⟨g1, 0, none⟩))), (3, v1630), (4, (Value.int .i64 i1218)), (13, (Value.int .i64 (List.length l4 : Int))), (14, (Value.int .i64 i1218)), (28, (Value.int .i64 (List.length x1252 : Int))), (29, (Value.int .i64 i1628))] env1634 := hs_
    have hm1641 : Mem w No [rowsC 3 zs1631 (l1629 : List (List Int)) none, ownL 22 v1630 (zs1631 : List Hdr), blk g1 27 [v0_Items, (Value.int .i64 a0_Weight)]] w1635 := hm_
    refine cw_sub hs_ ?_
    clear hs_ hm_ q1640
    have h : leastcode_relations_l4 N a0_Items i1218 x1252 i1628 l1629 = some x1633 := hf1636
    clear hf1636
    refine cw_sr (t_rd rfl (rd_lss rfl rfl) (rwt_n (cw_seq ?_)))
    obtain ⟨hb1642, q1643⟩ | ⟨hb1642, q1643⟩ := oi h <;> clear h
    ·refine cw_t rfl hb1642 (cw_skip (qn_then (cw_seq (cw_block (cw_sr ?_)))))
     refine t_mv rfl rfl (t_as rfl rfl (rwt_n (cw_seq ?_)))
     obtain ⟨j1716, hit1717, q1718⟩ := ob q1643; clear q1643
     refine cw_join (X := fun eq envq wq => eq = .normal ∧ ∃ (g1706 : Nat) (g1707 : Nat), Sub [(1, (Value.pointer (some ⟨g1, 0, none⟩))), (3, v1630), (4, (Value.int .i64 i1218)), (5, (Value.int .i64 i1628)), (6, (Value.pointer (some ⟨g1706, 0, none⟩))), (7, (Value.pointer (some ⟨g1707, 0, none⟩))), (13, (Value.int .i64 (List.length l4 : Int))), (14, (Value.int .i64 i1218)), (28, (Value.int .i64 (List.length x1252 : Int))), (29, (Value.int .i64 i1628))] envq ∧ Mem w No [blk g1706 40 [(Value.int .i64 j1716.1), (Value.int .i64 j1716.2.1), (Value.int .i64 j1716.2.2.1), (Value.int .i64 j1716.2.2.2.1)], blk g1707 40 [(Value.int .i64 j1716.2.2.2.2.1), (Value.int .i64 j1716.2.2.2.2.2.1), (Value.int .i64 j1716.2.2.2.2.2.2.1), (Value.int .i64 j1716.2.2.2.2.2.2.2)], rowsC 3 zs1631 (l1629 : List (List Int)) none, ownL 22 v1630 (zs1631 : List Hdr), blk g1 27 [v0_Items, (Value.int .i64 a0_Weight)]] wq) ?_ ?_
     ·clear q1718
      obtain ⟨w1736, he1738⟩ : ∃ q, q = w1635.drew := ⟨_, rfl⟩
      have hm1737 := hm1641.drew; rw [← he1738] at hm1737
      refine cw_region_s (fun q => (blk g1 27 [v0_Items, (Value.int .i64 a0_Weight)]).φ q ∧ Sl (Old w No) q v0_Items a0_Items) (cls [10, 11, 12] [13]) mixed ?_
      rintro _ rfl; rw [← he1738]
      refine s_rp (i := 0) rfl (by kernel_rfl) rfl (fun _ => (rd_fld tF27_0 rfl)) ?_
      refine s_rd (i := 1) rfl (by kernel_rfl) rfl (fun w1735 hS => (rd_ld1 tO25 rfl (cells_blk hS.1) (off := 0) rfl)) ⟨(hm1737.get (k := 2) rfl), (hv0_Items.of_old hm1737)⟩ ?_
      refine s_rp (i := 2) rfl (by kernel_rfl) rfl (fun _ => (rd_move rfl)) ?_
      obtain ⟨x1755, h1756, q1757⟩ := ob hit1717; clear hit1717
      refine s_rp (i := 3) rfl (by kernel_rfl) rfl (fun _ => (rd_index tS25 rfl rfl (hv0_Items.of_old hm1737) h1756)) ?_
      refine s_rd (i := 4) rfl (by kernel_rfl) rfl (fun w1735 hS => (rd_ld tA40 rfl (hS.2.cells h1756) rfl)) ⟨(hm1737.get (k := 2) rfl), (hv0_Items.of_old hm1737)⟩ ?_
      refine s_rp (i := 5) rfl (by kernel_rfl) rfl (fun _ => (rd_fld tF27_0 rfl)) ?_
      refine s_rd (i := 6) rfl (by kernel_rfl) rfl (fun w1735 hS => (rd_ld1 tO25 rfl (cells_blk hS.1) (off := 0) rfl)) ⟨(hm1737.get (k := 2) rfl), (hv0_Items.of_old hm1737)⟩ ?_
      refine s_rp (i := 7) rfl (by kernel_rfl) rfl (fun _ => (rd_move rfl)) ?_
      obtain ⟨x1758, h1759, q1760⟩ := ob q1757; clear q1757
      refine s_rp (i := 8) rfl (by kernel_rfl) rfl (fun _ => (rd_index tS25 rfl rfl (hv0_Items.of_old hm1737) h1759)) ?_
      refine s_rd (i := 9) rfl (by kernel_rfl) rfl (fun w1735 hS => (rd_ld tA40 rfl (hS.2.cells h1759) rfl)) ⟨(hm1737.get (k := 2) rfl), (hv0_Items.of_old hm1737)⟩ ?_
      refine s_br2 (i := 10) (j := 11) (by kernel_rfl) ?_ ?_
      ·skip
       refine e_ef (i := 10) rfl rfl (ef_alloc hm1737 tZ40 rfl) (by decide) ?_ ?_
       ·rintro _ w1763 ⟨g1761, rfl, hm1762⟩
        intro _
        exact ⟨(hm1762.get (k := 3) rfl), (hv0_Items.of_old hm1762)⟩
       rintro _ w1763 ⟨g1761, rfl, hm1762⟩
       refine s_ef (i := 11) rfl (by kernel_rfl) rfl (ef_alloc hm1762 tZ40 rfl) (by decide) ?_ ?_
       ·rintro _ w1766 ⟨g1764, rfl, hm1765⟩
        intro _
        exact ⟨(hm1765.get (k := 4) rfl), (hv0_Items.of_old hm1765)⟩
       rintro _ w1766 ⟨g1764, rfl, hm1765⟩
       refine s_ef0 (i := 12) rfl (by kernel_rfl) (ef_stw (k := 1) hm1765 tA40 rfl rfl (oc_cons rfl (oc_cons rfl (oc_cons rfl (oc_cons rfl oc_nil)))) rfl rfl rfl) (by decide) ?_ ?_
       ·intro _ w1768 hm1767
        intro _
        exact ⟨(hm1767.get (k := 4) rfl), (hv0_Items.of_old hm1767)⟩
       intro _ w1768 hm1767
       refine s_ef0 (i := 13) rfl (by kernel_rfl) (ef_stw (k := 0) hm1767 tA40 rfl rfl (oc_cons rfl (oc_cons rfl (oc_cons rfl (oc_cons rfl oc_nil)))) rfl rfl rfl) (by decide) (fun _ _ _ q => absurd q (by decide)) ?_
       intro _ w1770 hm1769
       refine s_nil (by kernel_rfl) ?_
       obtain rfl := os q1760
       exact ⟨rfl, g1761, g1764, (by repeat (first | exact Sub.nil _ | refine Sub.cons rfl ?_)), (hm1769.pick [1, 0, 2, 3, 4] (by decide) rfl)⟩
      ·skip
       refine e_ef (i := 11) rfl rfl (ef_alloc hm1737 tZ40 rfl) (by decide) ?_ ?_
       ·rintro _ w1773 ⟨g1771, rfl, hm1772⟩
        intro _
        exact ⟨(hm1772.get (k := 3) rfl), (hv0_Items.of_old hm1772)⟩
       rintro _ w1773 ⟨g1771, rfl, hm1772⟩
       refine s_ef (i := 10) rfl (by kernel_rfl) rfl (ef_alloc hm1772 tZ40 rfl) (by decide) ?_ ?_
       ·rintro _ w1776 ⟨g1774, rfl, hm1775⟩
        intro _
        exact ⟨(hm1775.get (k := 4) rfl), (hv0_Items.of_old hm1775)⟩
       rintro _ w1776 ⟨g1774, rfl, hm1775⟩
       refine s_ef0 (i := 12) rfl (by kernel_rfl) (ef_stw (k := 0) hm1775 tA40 rfl rfl (oc_cons rfl (oc_cons rfl (oc_cons rfl (oc_cons rfl oc_nil)))) rfl rfl rfl) (by decide) ?_ ?_
       ·intro _ w1778 hm1777
        intro _
        exact ⟨(hm1777.get (k := 4) rfl), (hv0_Items.of_old hm1777)⟩
       intro _ w1778 hm1777
       refine s_ef0 (i := 13) rfl (by kernel_rfl) (ef_stw (k := 1) hm1777 tA40 rfl rfl (oc_cons rfl (oc_cons rfl (oc_cons rfl (oc_cons rfl oc_nil)))) rfl rfl rfl) (by decide) (fun _ _ _ q => absurd q (by decide)) ?_
       intro _ w1780 hm1779
       refine s_nil (by kernel_rfl) ?_
       obtain rfl := os q1760
       exact ⟨rfl, g1774, g1771, (by repeat (first | exact Sub.nil _ | refine Sub.cons rfl ?_)), (hm1779.pick [0, 1, 2, 3, 4] (by decide) rfl)⟩
     ·clear hit1717
      intro e env1781 w1782 hX1783
      obtain ⟨rfl, g1706, g1707, hs1784, hm1785⟩ := hX1783
      refine qn_then ?_
      refine cw_sub hs1784 ?_
      refine cw_block (cw_sr (t_rd rfl (rd_fld tF40_0 rfl) ?_))
      refine t_rd rfl (rd_ld1 tO3 rfl (hm1785.blk 0 rfl) (off := 0) rfl) ?_
      refine t_rd rfl (rd_fld tF40_0 rfl) ?_
      refine t_rd rfl (rd_ld1 tO3 rfl (hm1785.blk 1 rfl) (off := 0) rfl) ?_
      refine t_rd rfl (rd_neq rfl rfl) ?_
      refine t_mv rfl rfl ?_
      refine t_rdg rfl rfl rfl rfl (gv_f _) (fun hg1786 => (rd_fld tF40_1 rfl)) ?_
      refine t_rdg rfl rfl rfl rfl (gv_f _) (fun hg1787 => (rd_ld1 tO3 (gvx rfl hg1787) (hm1785.blk 0 rfl) (off := 1) rfl)) ?_
      refine t_rdg rfl rfl rfl rfl (gv_f _) (fun hg1788 => (rd_fld tF40_1 rfl)) ?_
      refine t_rdg rfl rfl rfl rfl (gv_f _) (fun hg1789 => (rd_ld1 tO3 (gvx rfl hg1789) (hm1785.blk 1 rfl) (off := 1) rfl)) ?_
      refine t_rdg rfl rfl rfl rfl (gv_f _) (fun hg1790 => (rd_geq (gvx rfl hg1790) (gvx rfl hg1790))) ?_
      refine t_rd rfl (rd_or rfl (fun hc1791 => (gvx rfl (bnotIt hc1791)))) ?_
      refine t_as rfl rfl (rwt_n ?_)
      obtain ⟨hb1792, q1793⟩ | ⟨hb1792, q1793⟩ := oi q1718 <;> clear q1718
      ·refine cw_t rfl hb1792 (cw_skip ?_)
       refine qn_block (qn_block (qn_then ?_))
       refine cw_region ?_
       obtain ⟨x1794, h1795, q1796⟩ := ob q1793; clear q1793
       refine t_rd rfl (rd_add64 h1795 rfl rfl) (t_mv rfl rfl (rwt_n ?_))
       refine ⟨_, (os q1796), v1630, zs1631, (by repeat (first | exact Sub.nil _ | refine Sub.cons rfl ?_)), (hm1785.pick [2, 3, 4] (by decide) rfl)⟩
      ·refine cw_f rfl hb1792 (cw_sr (t_mv rfl rfl (t_mv rfl rfl (t_rd rfl (rd_lss rfl rfl) (t_as rfl rfl ?_)))))
       refine rwt_n ?_
       obtain ⟨hb1797, q1798⟩ | ⟨hb1797, q1798⟩ := oi q1793 <;> clear q1793
       ·refine cw_t rfl hb1797 ?_
        refine cw_region ?_
        refine t_mv rfl rfl (t_mv rfl rfl ?_)
        obtain ⟨x1799, h1800, q1801⟩ := ob q1798; clear q1798
        refine t_rd rfl (rd_index tS41 rfl rfl ((Nl.mk (hm1785.sl_call 3 rfl) (hm1785.rows_call 2 rfl)).sl) h1800) ?_
        obtain ⟨zd1802, hz1803⟩ := (Nl.mk (hm1785.sl_call 3 rfl) (hm1785.rows_call 2 rfl)).row h1800
        refine t_rd rfl (rd_ld1 tO22 rfl ((Nl.mk (hm1785.sl_call 3 rfl) (hm1785.rows_call 2 rfl)).cells hz1803) (off := 0) rfl) ?_
        refine t_mv rfl rfl ?_
        obtain ⟨x1804, h1805, q1806⟩ := ob q1801; clear q1801
        refine t_rd rfl (rd_index tS22 rfl rfl ((Nl.mk (hm1785.sl_call 3 rfl) (hm1785.rows_call 2 rfl)).get hz1803 h1800) h1805) ?_
        have hm1807 := hm1785.pick [2, 0, 1, 3, 4] (L' := [rowsC 3 zs1631 (l1629 : List (List Int)) none, blk g1706 40 [(Value.int .i64 j1716.1), (Value.int .i64 j1716.2.1), (Value.int .i64 j1716.2.2.1), (Value.int .i64 j1716.2.2.2.1)], blk g1707 40 [(Value.int .i64 j1716.2.2.2.2.1), (Value.int .i64 j1716.2.2.2.2.2.1), (Value.int .i64 j1716.2.2.2.2.2.2.1), (Value.int .i64 j1716.2.2.2.2.2.2.2)], ownL 22 v1630 (zs1631 : List Hdr), blk g1 27 [v0_Items, (Value.int .i64 a0_Weight)]]) (by decide) rfl
        refine t_ef0 (ef_strow (off := 0) (x' := 2) hm1807 tO3 hz1803 h1800 rfl rfl rfl h1805 rfl rfl) ?_
        intro _ w1809 hm1808
        refine rwt_nil ?_
        refine qn_block (qn_block (qn_then ?_))
        refine cw_region ?_
        obtain ⟨x1810, h1811, q1812⟩ := ob q1806; clear q1806
        refine t_rd rfl (rd_add64 h1811 rfl rfl) (t_mv rfl rfl (rwt_n ?_))
        refine ⟨_, (os q1812), v1630, zs1631, (by repeat (first | exact Sub.nil _ | refine Sub.cons rfl ?_)), (hm1808.pick [0, 3, 4] (by decide) rfl)⟩
       ·refine cw_f rfl hb1797 ?_
        refine cw_region ?_
        refine t_mv rfl rfl (t_mv rfl rfl ?_)
        obtain ⟨x1813, h1814, q1815⟩ := ob q1798; clear q1798
        refine t_rd rfl (rd_index tS41 rfl rfl ((Nl.mk (hm1785.sl_call 3 rfl) (hm1785.rows_call 2 rfl)).sl) h1814) ?_
        obtain ⟨zd1816, hz1817⟩ := (Nl.mk (hm1785.sl_call 3 rfl) (hm1785.rows_call 2 rfl)).row h1814
        refine t_rd rfl (rd_ld1 tO22 rfl ((Nl.mk (hm1785.sl_call 3 rfl) (hm1785.rows_call 2 rfl)).cells hz1817) (off := 0) rfl) ?_
        refine t_mv rfl rfl ?_
        obtain ⟨x1818, h1819, q1820⟩ := ob q1815; clear q1815
        refine t_rd rfl (rd_index tS22 rfl rfl ((Nl.mk (hm1785.sl_call 3 rfl) (hm1785.rows_call 2 rfl)).get hz1817 h1814) h1819) ?_
        have hm1821 := hm1785.pick [2, 0, 1, 3, 4] (L' := [rowsC 3 zs1631 (l1629 : List (List Int)) none, blk g1706 40 [(Value.int .i64 j1716.1), (Value.int .i64 j1716.2.1), (Value.int .i64 j1716.2.2.1), (Value.int .i64 j1716.2.2.2.1)], blk g1707 40 [(Value.int .i64 j1716.2.2.2.2.1), (Value.int .i64 j1716.2.2.2.2.2.1), (Value.int .i64 j1716.2.2.2.2.2.2.1), (Value.int .i64 j1716.2.2.2.2.2.2.2)], ownL 22 v1630 (zs1631 : List Hdr), blk g1 27 [v0_Items, (Value.int .i64 a0_Weight)]]) (by decide) rfl
        refine t_ef0 (ef_strow (off := 0) (x' := 1) hm1821 tO3 hz1817 h1814 rfl rfl rfl h1819 rfl rfl) ?_
        intro _ w1823 hm1822
        refine rwt_nil ?_
        refine qn_block (qn_block (qn_then ?_))
        refine cw_region ?_
        obtain ⟨x1824, h1825, q1826⟩ := ob q1820; clear q1820
        refine t_rd rfl (rd_add64 h1825 rfl rfl) (t_mv rfl rfl (rwt_n ?_))
        refine ⟨_, (os q1826), v1630, zs1631, (by repeat (first | exact Sub.nil _ | refine Sub.cons rfl ?_)), (hm1822.pick [0, 3, 4] (by decide) rfl)⟩
    ·refine cw_f rfl hb1642 ?_
     refine cw_exit ?_
     refine qx_then (qx_then ?_)
     obtain rfl := hr1637 _ (os q1643)
     exact ⟨rfl, v1630, zs1631, (by repeat (first | exact Sub.nil _ | refine Sub.cons rfl ?_)), (hm1641.pick [0, 1, 2] (by decide) rfl)⟩
   ·skip
    intro e env1827 w1828 hX1829
    obtain ⟨rfl, v1626, zs1627, hs1830, hm1831⟩ := hX1829
    refine qx_same (qn_block (qn_then ?_))
    refine cw_sub hs1830 ?_
    refine cw_region ?_
    obtain ⟨x1832, h1833, q1834⟩ := ob q1640; clear q1640
    refine t_rd rfl (rd_add64 h1833 rfl rfl) (t_mv rfl rfl (rwt_n ?_))
    refine ⟨_, (os q1834), v1626, zs1627, (by repeat (first | exact Sub.nil _ | refine Sub.cons rfl ?_)), (hm1831.pick [0, 1, 2] (by decide) rfl)⟩
  ·refine cw_f rfl hb1232 ?_
   refine cw_exit ?_
   refine qx_then (qx_then ?_)
   obtain rfl := hr1227 _ (os q1233)
   exact ⟨rfl, v1220, zs1221, (by repeat (first | exact Sub.nil _ | refine Sub.cons rfl ?_)), (hm1231.pick [0, 1] (by decide) rfl)⟩
 ·skip
  intro e env1835 w1836 hX1837
  obtain ⟨rfl, v1216, zs1217, hs1838, hm1839⟩ := hX1837
  refine qx_same (qn_then ?_)
  refine cw_sub hs1838 ?_
  refine cw_sr (t_mv rfl rfl (t_as rfl rfl (rwt_n ?_)))
  refine cw_ret ?_
  obtain rfl := os q1230
  exact ret1 rfl rfl ⟨zs1217, v1216, rfl, (hm1839.pick [1, 0] (by decide) rfl)⟩

theorem leastcode_solve_1_okp {N : Nat} {a0 : Int} {a1 : Int} {a2_Items : List T_Item} {a2_Weight : Int} {res : Int} (h : leastcode_solve_1 N a0 a1 a2_Items a2_Weight = some res) {w : World} {gb2 : Nat} {v2_Items : Value} (hv2_Items : Sl (Old w No) w v2_Items a2_Items) (hb2 : BoxL (Old w No) w gb2 [v2_Items, (Value.int .i64 a2_Weight)]) :
  CallsR Tryz.prog 89 [(Value.int .i64 a0), (Value.int .i64 a1), (Value.pointer (some ⟨gb2, 0, none⟩))] w (fun u w' => u = (Value.int .i64 res) ∧ ∃ q, w' = w.drewN q) := by
 unfold leastcode_solve_1 at h
 refine fn_ok Tryz.func89 rfl rfl rfl ?_
 have hm0 := Mem.nil w
 refine cw_sr (t_as rfl rfl (rwt_n (cw_seq ?_)))
 obtain ⟨w11, he13⟩ : ∃ q, q = w.drew := ⟨_, rfl⟩
 have hm12 := hm0.drew; rw [← he13] at hm12
 refine cw_region_s (fun q => q = w11) (cls [] []) mixed ?_
 rintro _ rfl; rw [← he13]
 refine s_rp (i := 0) rfl (by kernel_rfl) rfl (fun _ => (rd_fld tF27_0 rfl)) ?_
 refine s_rd (i := 1) rfl (by kernel_rfl) rfl (fun _ hS => by rw [hS]; exact (rd_ld1 tO25 rfl (hb2.of_old hm12).2 (off := 0) rfl)) rfl ?_
 refine s_rp (i := 2) rfl (by kernel_rfl) rfl (fun _ => (rd_move rfl)) ?_
 obtain ⟨x14, h15, q16⟩ := ob h; clear h
 refine s_rp (i := 3) rfl (by kernel_rfl) rfl (fun _ => (rd_index tS25 rfl rfl (hv2_Items.of_old hm12) h15)) ?_
 refine s_rp (i := 4) rfl (by kernel_rfl) rfl (fun _ => (rd_fld tF40_1 rfl)) ?_
 refine s_rd (i := 5) rfl (by kernel_rfl) rfl (fun _ hS => by rw [hS]; exact (rd_ld1 tO3 rfl ((hv2_Items.of_old hm12).cells h15) (off := 1) rfl)) rfl ?_
 refine s_rp (i := 6) rfl (by kernel_rfl) rfl (fun _ => (rd_fld tF27_0 rfl)) ?_
 refine s_rd (i := 7) rfl (by kernel_rfl) rfl (fun _ hS => by rw [hS]; exact (rd_ld1 tO25 rfl (hb2.of_old hm12).2 (off := 0) rfl)) rfl ?_
 refine s_rp (i := 8) rfl (by kernel_rfl) rfl (fun _ => (rd_move rfl)) ?_
 obtain ⟨x17, h18, q19⟩ := ob q16; clear q16
 refine s_rp (i := 9) rfl (by kernel_rfl) rfl (fun _ => (rd_index tS25 rfl rfl (hv2_Items.of_old hm12) h18)) ?_
 refine s_rp (i := 10) rfl (by kernel_rfl) rfl (fun _ => (rd_fld tF40_1 rfl)) ?_
 refine s_rd (i := 11) rfl (by kernel_rfl) rfl (fun _ hS => by rw [hS]; exact (rd_ld1 tO3 rfl ((hv2_Items.of_old hm12).cells h18) (off := 1) rfl)) rfl ?_
 obtain ⟨x20, h21, q22⟩ := ob q19; clear q19
 refine s_rp (i := 12) rfl (by kernel_rfl) rfl (fun _ => (rd_sub64 h21 rfl rfl)) ?_
 refine s_rp (i := 13) rfl (by kernel_rfl) rfl (fun _ => (rd_assign rfl)) ?_
 refine s_nil (by kernel_rfl) ?_
 refine qn_then ?_
 refine cw_ret ?_
 obtain rfl := os q22
 exact ret1 rfl rfl ⟨rfl, 1, he13⟩

theorem code_in_ok {N : Nat} {a0 : Int} {a1 : Int} {a2 : Int} {res : Bool} (h : code_in N a0 a1 a2 = some res) {w : World}   :
  CallsR Tryz.prog 70 [(Value.int .i64 a0), (Value.int .i64 a1), (Value.int .i64 a2)] w (fun u w' => u = (Value.bool res) ∧ Mem w No [] w') := by
 unfold code_in at h
 refine fn_ok Tryz.func70 rfl rfl rfl ?_
 have hm0 := Mem.nil w
 refine cw_sr (t_as rfl rfl (rwt_n (cw_sr (t_mv rfl rfl (t_mv rfl rfl ?_)))))
 refine t_rd rfl (rd_geq rfl rfl) ?_
 refine t_mv rfl rfl ?_
 refine t_rdg rfl rfl rfl rfl (gv_t _) (fun hg1 => (rd_move rfl)) ?_
 refine t_rdg rfl rfl rfl rfl (gv_t _) (fun hg2 => (rd_move rfl)) ?_
 refine t_rdg rfl rfl rfl rfl (gv_t _) (fun hg3 => (rd_leq (gvx rfl hg3) (gvx rfl hg3))) ?_
 refine t_rd rfl (rd_and rfl (fun hc4 => (gvx rfl hc4))) ?_
 refine t_as rfl rfl (rwt_n ?_)
 refine cw_ret ?_
 obtain rfl := os h
 exact ret1 rfl rfl ⟨rfl, (hm0.pick [] (by decide) rfl)⟩

theorem code_form_ok {N : Nat} {a0 : Int} {a1 : Int} {res : Bool} (h : code_form N a0 a1 = some res) {w : World}   :
  CallsR Tryz.prog 90 [(Value.int .i64 a0), (Value.int .i64 a1)] w (fun u w' => u = (Value.bool res) ∧ Mem w No [] w') := by
 unfold code_form at h
 refine fn_ok Tryz.func90 rfl rfl rfl ?_
 have hm0 := Mem.nil w
 refine cw_sr (t_as rfl rfl (rwt_n (cw_sr (t_mv rfl rfl ?_))))
 obtain ⟨r1, h2, q3⟩ := ob h; clear h
 refine t_ef rfl (ef_call tf70 rfl (code_in_ok h2)) ?_
 rintro _ w5 ⟨e_, hm4⟩
 obtain rfl := e_.symm
 have hm6 := hm0.call hm4
 refine t_mv rfl rfl ?_
 refine t_rdg rfl rfl rfl rfl (gv_t _) (fun hg7 => (rd_move rfl)) ?_
 obtain ⟨r9, h10, q11⟩ := ob q3; clear q3
 refine t_efg rfl rfl rfl rfl (R := (fun v w' => v = gV r1 (Value.bool r9) ∧ Mem w5 No [] w')) (gv_t _) (fun hg8 => (ef_call tf70 (evc (gvx rfl hg8) (evc rfl (evc rfl evn))) (code_in_ok (gO_t h10 hg8))).mono (by rintro _ _ ⟨rfl, q⟩; exact ⟨(gV_t hg8).symm, q⟩)) (fun q => ⟨(gV_f q).symm, Mem.nil _⟩) ?_
 rintro _ w13 ⟨rfl, hm12⟩
 have hm14 := hm6.call hm12
 refine t_rd rfl (rd_and rfl (fun hc15 => (gvx rfl hc15))) ?_
 refine t_as rfl rfl (rwt_n ?_)
 refine cw_ret ?_
 obtain rfl := os q11
 exact ret1 rfl rfl ⟨rfl, (hm14.pick [] (by decide) rfl)⟩

theorem code_missed_ok {N : Nat} {a0 : Int} {res : Int} (h : code_missed N a0 = some res) {w : World}   :
  CallsR Tryz.prog 91 [(Value.int .i64 a0)] w (fun u w' => u = (Value.int .i64 res) ∧ Mem w No [] w') := by
 unfold code_missed at h
 refine fn_ok Tryz.func91 rfl rfl rfl ?_
 have hm0 := Mem.nil w
 refine cw_sr (t_as rfl rfl (rwt_n (cw_sr (t_mv rfl rfl ?_))))
 obtain ⟨x1, h2, q3⟩ := ob h; clear h
 refine t_rd rfl (rd_shl_i64 h2 rfl rfl) ?_
 obtain ⟨x4, h5, q6⟩ := ob q3; clear q3
 refine t_rd rfl (rd_sub64 h5 rfl rfl) ?_
 refine t_as rfl rfl (rwt_n ?_)
 refine cw_ret ?_
 obtain rfl := os q6
 exact ret1 rfl rfl ⟨rfl, (hm0.pick [] (by decide) rfl)⟩

theorem code_ones_ok {N : Nat} {a0 : Int} {res : Int} (h : code_ones N a0 = some res) {w : World}   :
  CallsR Tryz.prog 92 [(Value.int .i64 a0)] w (fun u w' => u = (Value.int .i64 res) ∧ Mem w No [] w') := by
 unfold code_ones at h
 refine fn_ok Tryz.func92 rfl rfl rfl ?_
 have hm0 := Mem.nil w
 refine cw_sr (t_as rfl rfl (rwt_n (cw_sr (t_as rfl rfl (rwt_n (cw_seq ?_))))))
 refine cw_block ?_
 obtain ⟨r34, hit35, q36⟩ := ob h; clear h
 refine cw_loop2 (I := fun q envq wq => Sub [(0, (Value.int .i64 q.1)), (3, (Value.int .i64 q.2))] envq ∧ Mem w No [] wq) (X := fun eq envq wq => eq = .exit 0 ∧ Sub [(3, (Value.int .i64 r34))] envq ∧ Mem w No [] wq) hit35 ⟨(by repeat (first | exact Sub.nil _ | refine Sub.cons rfl ?_)), (hm0.pick [] (by decide) rfl)⟩ ?_ ?_
 ·rintro ⟨i26, i27⟩ x29 env30 w31 hf32 hr33 ⟨hs_, hm_⟩
  have hs_ : Sub [(0, (Value.int .i64 i26)), (3, (Value.int .i64 i27))] env30 := hs_
  have hm37 : Mem w No [] w31 := hm_
  refine cw_sub hs_ ?_
  clear hs_ hm_ q36
  have h : code_ones_l1 N i26 i27 = some x29 := hf32
  clear hf32
  refine cw_seq (cw_sr (t_mv rfl rfl ?_))
  refine t_rd rfl (rd_neq rfl rfl) ?_
  refine rwt_n ?_
  obtain ⟨hb38, q39⟩ | ⟨hb38, q39⟩ := oi h <;> clear h
  ·refine cw_t rfl hb38 (cw_skip (qn_then (cw_seq (cw_block ?_))))
   refine cw_region ?_
   refine t_mv rfl rfl ?_
   obtain ⟨x40, h41, q42⟩ := ob q39; clear q39
   refine t_rd rfl (rd_add64 h41 rfl rfl) (t_as rfl rfl ?_)
   refine rwt_nil ?_
   refine qn_block (qn_then ?_)
   refine cw_region ?_
   refine t_mv rfl rfl (t_mv rfl rfl ?_)
   obtain ⟨x43, h44, q45⟩ := ob q42; clear q42
   refine t_rd rfl (rd_sub64 h44 rfl rfl) ?_
   obtain ⟨x46, h47, q48⟩ := ob q45; clear q45
   refine t_rd rfl (rd_bits_and_i64 h47 rfl rfl) ?_
   refine t_as rfl rfl (rwt_n ?_)
   refine ⟨_, (os q48), (by repeat (first | exact Sub.nil _ | refine Sub.cons rfl ?_)), (hm37.pick [] (by decide) rfl)⟩
  ·refine cw_f rfl hb38 ?_
   refine cw_exit ?_
   refine qx_then (qx_then ?_)
   obtain rfl := hr33 _ (os q39)
   exact ⟨rfl, (by repeat (first | exact Sub.nil _ | refine Sub.cons rfl ?_)), (hm37.pick [] (by decide) rfl)⟩
 ·skip
  intro e env49 w50 hX51
  obtain ⟨rfl, hs52, hm53⟩ := hX51
  refine qx_same (qn_then ?_)
  refine cw_sub hs52 ?_
  refine cw_sr (t_mv rfl rfl (t_as rfl rfl (rwt_n ?_)))
  refine cw_ret ?_
  obtain rfl := os q36
  exact ret1 rfl rfl ⟨rfl, (hm53.pick [] (by decide) rfl)⟩

theorem code_Next_ok {N : Nat} {a0 : Int} {a1 : Int} {a2 : Int} {res : Int × Int} (h : code_Next N a0 a1 a2 = some res) {w : World}   :
  CallsR Tryz.prog 69 [(Value.int .i64 a0), (Value.int .i64 a1), (Value.int .i64 a2)] w (fun u w' => u = (Value.tuple #[(Value.int .i64 res.1), (Value.int .i64 res.2)]) ∧ Mem w No [] w') := by
 unfold code_Next at h
 refine fn_ok Tryz.func69 rfl rfl rfl ?_
 have hm0 := Mem.nil w
 refine cw_sr (t_as rfl rfl (t_as rfl rfl (rwt_n (cw_seq (cw_sr ?_)))))
 refine t_mv rfl rfl (t_mv rfl rfl ?_)
 obtain ⟨r1, h2, q3⟩ := ob h; clear h
 refine t_ef rfl (ef_call tf90 rfl (code_form_ok h2)) ?_
 rintro _ w5 ⟨e_, hm4⟩
 obtain rfl := e_.symm
 have hm6 := hm0.call hm4
 refine t_rd rfl (rd_not rfl) ?_
 refine t_mv rfl rfl ?_
 refine t_rdg rfl rfl rfl rfl (gv_f _) (fun hg7 => (rd_move rfl)) ?_
 refine t_rdg rfl rfl rfl rfl (gv_f _) (fun hg8 => (rd_lss (gvx rfl hg8) rfl)) ?_
 refine t_rd rfl (rd_or rfl (fun hc9 => (gvx rfl (bnotIt hc9)))) ?_
 refine rwt_n ?_
 obtain ⟨hb10, q11⟩ | ⟨hb10, q11⟩ := oi q3 <;> clear q3
 ·refine cw_t rfl hb10 (cw_sr (t_as rfl rfl (t_as rfl rfl (rwt_n ?_))))
  refine cw_ret ?_
  refine qr_then ?_
  obtain rfl := os q11
  exact ret2 rfl rfl rfl ⟨rfl, (hm6.pick [] (by decide) rfl)⟩
 ·refine cw_f rfl hb10 (cw_skip (qn_then (cw_seq (cw_sr (t_mv rfl rfl ?_)))))
  refine t_rd rfl (rd_geq rfl rfl) ?_
  refine rwt_n ?_
  obtain ⟨hb12, q13⟩ | ⟨hb12, q13⟩ := oi q11 <;> clear q11
  ·refine cw_t rfl hb12 (cw_sr (t_as rfl rfl (t_as rfl rfl (rwt_n ?_))))
   refine cw_ret ?_
   refine qr_then ?_
   obtain rfl := os q13
   exact ret2 rfl rfl rfl ⟨rfl, (hm6.pick [] (by decide) rfl)⟩
  ·refine cw_f rfl hb12 (cw_skip (qn_then (cw_sr (t_as rfl rfl (rwt_n ?_)))))
   refine cw_seq (cw_sr (t_mv rfl rfl ?_))
   obtain ⟨r14, h15, q16⟩ := ob q13; clear q13
   refine t_ef rfl (ef_call tf91 rfl (code_missed_ok h15)) ?_
   rintro _ w18 ⟨e_, hm17⟩
   obtain rfl := e_.symm
   have hm19 := hm6.call hm17
   refine t_as rfl rfl (rwt_n (cw_sr (t_mv rfl rfl (t_mv rfl rfl ?_))))
   refine t_rd rfl (rd_gtr rfl rfl) ?_
   refine rwt_n ?_
   obtain ⟨j38, hit39, q40⟩ := ob q16; clear q16
   refine cw_join (X := fun eq envq wq => eq = .normal ∧ Sub [(1, (Value.int .i64 a1)), (2, (Value.int .i64 a2)), (8, (Value.int .i64 j38))] envq ∧ Mem w No [] wq) ?_ ?_
   ·clear q40
    obtain ⟨hb41, q42⟩ | ⟨hb41, q42⟩ := oi hit39 <;> clear hit39
    ·refine cw_t rfl hb41 ?_
     refine cw_region ?_
     refine t_mv rfl rfl (t_mv rfl rfl ?_)
     obtain ⟨x43, h44, q45⟩ := ob q42; clear q42
     refine t_rd rfl (rd_sub64 h44 rfl rfl) ?_
     refine t_mv rfl rfl ?_
     obtain ⟨x46, h47, q48⟩ := ob q45; clear q45
     refine t_rd rfl (rd_shl_i64 h47 rfl rfl) ?_
     obtain ⟨x49, h50, q51⟩ := ob q48; clear q48
     refine t_rd rfl (rd_add64 h50 rfl rfl) ?_
     obtain ⟨x52, h53, q54⟩ := ob q51; clear q51
     refine t_rd rfl (rd_sub64 h53 rfl rfl) ?_
     refine t_mv rfl rfl ?_
     obtain ⟨x55, h56, q57⟩ := ob q54; clear q54
     refine t_rd rfl (rd_shr_i64 h56 rfl rfl) ?_
     refine t_as rfl rfl ?_
     refine rwt_nil ?_
     obtain rfl := os q57
     exact ⟨rfl, (by repeat (first | exact Sub.nil _ | refine Sub.cons rfl ?_)), (hm19.pick [] (by decide) rfl)⟩
    ·refine cw_f rfl hb41 (cw_skip ?_)
     obtain rfl := os q42
     exact ⟨rfl, (by repeat (first | exact Sub.nil _ | refine Sub.cons rfl ?_)), (hm19.pick [] (by decide) rfl)⟩
   ·clear hit39
    intro e env58 w59 hX60
    obtain ⟨rfl, hs61, hm62⟩ := hX60
    refine qn_then ?_
    refine cw_sub hs61 ?_
    refine cw_seq (cw_block ?_)
    obtain ⟨r104, hit105, q106⟩ := ob q40; clear q40
    refine cw_loop2 (I := fun q envq wq => Sub [(1, (Value.int .i64 a1)), (2, (Value.int .i64 a2)), (8, (Value.int .i64 q))] envq ∧ Mem w No [] wq) (X := fun eq envq wq => (∃ p107, r104 = (Sum.inl p107) ∧ eq = .ret ∧ retQ Tryz.prog 56 Tryz.f69 (fun u w' => u = (Value.tuple #[(Value.int .i64 p107.1), (Value.int .i64 p107.2)]) ∧ Mem w No [] w') .ret envq wq) ∨ (∃ p108, r104 = (Sum.inr p108) ∧ eq = .exit 0 ∧ Sub [(1, (Value.int .i64 a1)), (8, (Value.int .i64 p108))] envq ∧ Mem w No [] wq)) hit105 ⟨(by repeat (first | exact Sub.nil _ | refine Sub.cons rfl ?_)), (hm62.pick [] (by decide) rfl)⟩ ?_ ?_
    ·rintro i97 x99 env100 w101 hf102 hr103 ⟨hs_, hm_⟩
     have hs_ : Sub [(1, (Value.int .i64 a1)), (2, (Value.int .i64 a2)), (8, (Value.int .i64 i97))] env100 := hs_
     have hm109 : Mem w No [] w101 := hm_
     refine cw_sub hs_ ?_
     clear hs_ hm_ q106
     have h : code_Next_l1 N a2 i97 = some x99 := hf102
     clear hf102
     refine cw_seq (cw_sr (t_mv rfl rfl ?_))
     obtain ⟨r110, h111, q112⟩ := ob h; clear h
     refine t_ef rfl (ef_call tf92 rfl (code_ones_ok h111)) ?_
     rintro _ w114 ⟨e_, hm113⟩
     obtain rfl := e_.symm
     have hm115 := hm109.call hm113
     refine t_mv rfl rfl ?_
     refine t_rd rfl (rd_gtr rfl rfl) ?_
     refine rwt_n ?_
     obtain ⟨hb116, q117⟩ | ⟨hb116, q117⟩ := oi q112 <;> clear q112
     ·refine cw_t rfl hb116 (cw_skip (qn_then (cw_block (cw_sr (t_mv rfl rfl ?_)))))
      refine t_mv rfl rfl (t_mv rfl rfl ?_)
      obtain ⟨x118, h119, q120⟩ := ob q117; clear q117
      refine t_rd rfl (rd_neg64 h119 rfl) ?_
      refine t_rd rfl (rd_andI rfl rfl) ?_
      obtain ⟨x121, h122, q123⟩ := ob q120; clear q120
      refine t_rd rfl (rd_add64 h122 rfl rfl) (t_as rfl rfl (rwt_n (cw_sr (t_mv rfl rfl ?_))))
      refine t_rd rfl (rd_geq rfl rfl) ?_
      refine rwt_n ?_
      obtain ⟨hb124, q125⟩ | ⟨hb124, q125⟩ := oi q123 <;> clear q123
      ·refine cw_t rfl hb124 (cw_sr (t_as rfl rfl (t_as rfl rfl (rwt_n ?_))))
       refine cw_ret ?_
       refine qr_block (qr_then ?_)
       obtain rfl := hr103 _ (os q125)
       refine .inl (⟨_, rfl, ⟨rfl, ?_⟩⟩)
       exact ret2 rfl rfl rfl ⟨rfl, (hm115.pick [] (by decide) rfl)⟩
      ·refine cw_f rfl hb124 (cw_skip ?_)
       refine qn_block (qn_then ?_)
       refine ⟨_, (os q125), (by repeat (first | exact Sub.nil _ | refine Sub.cons rfl ?_)), (hm115.pick [] (by decide) rfl)⟩
     ·refine cw_f rfl hb116 ?_
      refine cw_exit ?_
      refine qx_then (qx_then ?_)
      obtain rfl := hr103 _ (os q117)
      exact .inr (⟨_, rfl, ⟨rfl, (by repeat (first | exact Sub.nil _ | refine Sub.cons rfl ?_)), (hm115.pick [] (by decide) rfl)⟩⟩)
    ·skip
     intro e env126 w127 hX128
     rcases hX128 with hX128 | hX128
     ·obtain ⟨p130, rfl, hX128⟩ := hX128
      obtain ⟨rfl, hq132⟩ := hX128
      exact qr_block (qr_then ((by have e := os q106; subst e; exact hq132)))
     ·obtain ⟨p133, rfl, hX128⟩ := hX128
      obtain ⟨rfl, hs134, hm135⟩ := hX128
      refine qx_same (qn_then ?_)
      refine cw_sub hs134 ?_
      refine cw_seq (cw_seq ?_)
      obtain ⟨w146, he148⟩ : ∃ q, q = w127.drew := ⟨_, rfl⟩
      have hm147 := hm135.drew; rw [← he148] at hm147
      refine cw_region_s (fun q => q = w146) (cls [] [4]) mixed ?_
      rintro _ rfl; rw [← he148]
      refine s_rp (i := 0) rfl (by kernel_rfl) rfl (fun _ => (rd_move rfl)) ?_
      refine s_rp (i := 1) rfl (by kernel_rfl) rfl (fun _ => (rd_move rfl)) ?_
      obtain ⟨x149, h150, q151⟩ := ob q106; clear q106
      refine s_rp (i := 2) rfl (by kernel_rfl) rfl (fun _ => (rd_shl_i64 h150 rfl rfl)) ?_
      refine s_rp (i := 3) rfl (by kernel_rfl) rfl (fun _ => (rd_move rfl)) ?_
      refine s_ef (i := 4) rfl (by kernel_rfl) rfl (ef_call tf91 rfl (code_missed_ok h15)) (by decide) (fun _ _ _ q => absurd q (by decide)) ?_
      rintro _ w153 ⟨e_, hm152⟩
      obtain rfl := e_.symm
      have hm154 := hm147.call hm152
      obtain ⟨x155, h156, q157⟩ := ob q151; clear q151
      refine s_rp (i := 5) rfl (by kernel_rfl) rfl (fun _ => (rd_bits_or_i64 h156 rfl rfl)) ?_
      refine s_rp (i := 6) rfl (by kernel_rfl) rfl (fun _ => (rd_assign rfl)) ?_
      refine s_nil (by kernel_rfl) ?_
      refine qn_then (cw_sr (t_mv rfl rfl (t_rd rfl (rd_lss rfl rfl) (rwt_n ?_))))
      obtain ⟨hb158, q159⟩ | ⟨hb158, q159⟩ := oi q157 <;> clear q157
      ·refine cw_t rfl hb158 (cw_sr (t_mv rfl rfl (t_as rfl rfl (t_as rfl rfl (rwt_n ?_)))))
       refine cw_ret ?_
       refine qr_then ?_
       obtain rfl := os q159
       exact ret2 rfl rfl rfl ⟨rfl, (hm154.pick [] (by decide) rfl)⟩
      ·refine cw_f rfl hb158 (cw_skip (qn_then (cw_sr (t_as rfl rfl (t_as rfl rfl ?_)))))
       refine rwt_n ?_
       refine cw_ret ?_
       obtain rfl := os q159
       exact ret2 rfl rfl rfl ⟨rfl, (hm154.pick [] (by decide) rfl)⟩

theorem leastcode_solve_ok {N : Nat} {a0_Items : List T_Item} {a0_Weight : Int} {a1 : List (List Int)} {res : List Int × List Int × Int} (h : leastcode_solve N a0_Items a0_Weight a1 = some res) {w : World} {v0_Items : Value} {v1 : Value} (hv0_Items : Sl (Old w No) w v0_Items a0_Items) (hv1 : Sl (Old w No) w v1 a1) :
  CallsR Tryz.prog 60 [(Value.agg #[v0_Items, (Value.int .i64 a0_Weight)]), v1] w (fun u w' => ∃ (y0 : Value) (y1 : Value), u = (Value.tuple #[y0, y1, (Value.int .i64 res.2.2)]) ∧ Mem w No [ownL 3 y0 (res.1 : List Int), ownL 3 y1 (res.2.1 : List Int)] w') := by
 unfold leastcode_solve at h
 refine fn_ok Tryz.func60 rfl rfl rfl ?_
 obtain ⟨zs_a1, hn1⟩ := hv1.nest
 have hm0 := Mem.nil w
 refine cw_sr ?_
 refine t_ef rfl (ef_box hm0 rfl rfl) ?_
 rintro _ w3 ⟨g1, rfl, hm2⟩
 refine t_as rfl rfl (t_as rfl rfl (t_as rfl rfl (rwt_n (cw_sr (t_rd rfl (rd_fld tF27_0 rfl) ?_)))))
 refine t_rd rfl (rd_ld1 tO25 rfl (hm2.blk 0 rfl) (off := 0) rfl) ?_
 refine t_rd rfl (rd_lenS tS25 rfl (hv0_Items.of_old hm2)) ?_
 obtain ⟨l4, h5, q6⟩ := ob h; clear h
 refine t_ef rfl (ef_make hm2 tS22 tE3 rfl rfl rfl h5) ?_
 intro v7 w9 hm8
 refine t_as rfl rfl (rwt_n (cw_seq (cw_sr (t_mv rfl rfl ?_))))
 refine t_rd rfl (rd_lenS tS22 rfl (hm8.sl 0 rfl)) ?_
 refine t_mv rfl rfl (rwt_n (cw_block ?_))
 obtain ⟨r41, hit42, q43⟩ := ob q6; clear q6
 refine cw_loop2 (I := fun q envq wq => Sub [(1, v1), (2, (Value.pointer (some ⟨g1, 0, none⟩))), (7, v7), (20, (Value.int .i64 (List.length l4 : Int))), (21, (Value.int .i64 q.1))] envq ∧ Mem w No [ownL 3 v7 (q.2 : List Int), blk g1 27 [v0_Items, (Value.int .i64 a0_Weight)]] wq) (X := fun eq envq wq => eq = .exit 0 ∧ Sub [(1, v1), (2, (Value.pointer (some ⟨g1, 0, none⟩))), (7, v7)] envq ∧ Mem w No [ownL 3 v7 (r41 : List Int), blk g1 27 [v0_Items, (Value.int .i64 a0_Weight)]] wq) hit42 ⟨(by repeat (first | exact Sub.nil _ | refine Sub.cons rfl ?_)), (hm8.pick [0, 1] (by decide) rfl)⟩ ?_ ?_
 ·rintro ⟨i33, l34⟩ x36 env37 w38 hf39 hr40 ⟨hs_, hm_⟩
  have hs_ : Sub [(1, v1), (2, (Value.pointer (some ⟨g1, 0, none⟩))), (7, v7), (20, (Value.int .i64 (List.length l4 : Int))), (21, (Value.int .i64 i33))] env37 := hs_
  have hm44 : Mem w No [ownL 3 v7 (l34 : List Int), blk g1 27 [v0_Items, (Value.int .i64 a0_Weight)]] w38 := hm_
  refine cw_sub hs_ ?_
  clear hs_ hm_ q43
  have h : leastcode_solve_l1 N l4 i33 l34 = some x36 := hf39
  clear hf39
  refine cw_sr (t_rd rfl (rd_lss rfl rfl) (rwt_n (cw_seq ?_)))
  obtain ⟨hb45, q46⟩ | ⟨hb45, q46⟩ := oi h <;> clear h
  ·refine cw_t rfl hb45 (cw_skip (qn_then (cw_seq (cw_block (cw_sr ?_)))))
   refine t_mv rfl rfl (t_as rfl rfl (rwt_n ?_))
   refine cw_region ?_
   refine t_mv rfl rfl (t_mv rfl rfl (t_mv rfl rfl ?_))
   obtain ⟨x47, h48, q49⟩ := ob q46; clear q46
   refine t_rd rfl (rd_index tS22 rfl rfl (hm44.sl 0 rfl) h48) ?_
   refine t_ef0 (ef_stl (k := 0) (off := 0) (x' := i33) hm44 tO3 rfl rfl rfl rfl h48 rfl rfl) ?_
   intro _ w51 hm50
   refine rwt_nil ?_
   refine qn_block (qn_then ?_)
   refine cw_region ?_
   obtain ⟨x52, h53, q54⟩ := ob q49; clear q49
   refine t_rd rfl (rd_add64 h53 rfl rfl) (t_mv rfl rfl (rwt_n ?_))
   refine ⟨_, (os q54), (by repeat (first | exact Sub.nil _ | refine Sub.cons rfl ?_)), (hm50.pick [0, 1] (by decide) rfl)⟩
  ·refine cw_f rfl hb45 ?_
   refine cw_exit ?_
   refine qx_then (qx_then ?_)
   obtain rfl := hr40 _ (os q46)
   exact ⟨rfl, (by repeat (first | exact Sub.nil _ | refine Sub.cons rfl ?_)), (hm44.pick [0, 1] (by decide) rfl)⟩
 ·skip
  intro e env55 w56 hX57
  obtain ⟨rfl, hs58, hm59⟩ := hX57
  refine qx_same (qn_then ?_)
  refine cw_sub hs58 ?_
  refine cw_sr (t_mv rfl rfl ?_)
  refine t_rd rfl (rd_makeFunc rfl) ?_
  obtain ⟨l60, h61, q62⟩ := ob q43; clear q43
  refine t_ef rfl (ef_call tf88 rfl (sortFn_calls Tryz.srt88 tf89 h61 (hm59.get (k := 0) rfl) (fun W_ hW_ x_ y_ r_ hr_ => leastcode_solve_1_okp hr_ ((hv0_Items.to_callT (k := 0) hm59 rfl).mono hW_) ((hm59.boxL_callT 1 0 rfl rfl (by decide)).toW hW_)))) ?_
  rintro _ w64 ⟨e_, hm63⟩
  obtain rfl := e_.symm
  have hm65 := hm59.callT (k := 0) rfl (fun _ h => h) hm63 (fun _ => Iff.rfl)
  refine rwt_n (cw_sr (t_mv rfl rfl ?_))
  refine t_rd rfl (rd_lenS tS22 rfl (hm65.sl 0 rfl)) ?_
  obtain ⟨l66, h67, q68⟩ := ob q62; clear q62
  refine t_ef rfl (ef_make hm65 tS22 tE3 rfl rfl rfl h67) ?_
  intro v69 w71 hm70
  refine t_as rfl rfl (rwt_n (cw_sr (t_mv rfl rfl ?_)))
  refine t_rd rfl (rd_lenS tS22 rfl (hm70.sl 1 rfl)) ?_
  obtain ⟨l72, h73, q74⟩ := ob q68; clear q68
  refine t_ef rfl (ef_make hm70 tS22 tE3 rfl rfl rfl h73) ?_
  intro v75 w77 hm76
  refine t_as rfl rfl (rwt_n (cw_seq (cw_sr (t_mv rfl rfl ?_))))
  refine t_rd rfl (rd_lenS tS22 rfl (hm76.sl 2 rfl)) ?_
  refine t_mv rfl rfl (rwt_n (cw_block ?_))
  obtain ⟨r518, hit519, q520⟩ := ob q74; clear q74
  refine cw_loop2 (I := fun q envq wq => Sub [(1, v1), (2, (Value.pointer (some ⟨g1, 0, none⟩))), (4, v69), (5, v75), (38, v7), (39, (Value.int .i64 (List.length l60 : Int))), (40, (Value.int .i64 q.1))] envq ∧ Mem w No [ownL 3 v75 (q.2.2 : List Int), ownL 3 v69 (q.2.1 : List Int), ownL 3 v7 (l60 : List Int), blk g1 27 [v0_Items, (Value.int .i64 a0_Weight)]] wq) (X := fun eq envq wq => (∃ p521, r518 = (Sum.inl p521) ∧ eq = .ret ∧ retQ Tryz.prog 101 Tryz.f60 (fun u w' => ∃ (y0 : Value) (y1 : Value), u = (Value.tuple #[y0, y1, (Value.int .i64 p521.2.2)]) ∧ Mem w No [ownL 3 y0 (p521.1 : List Int), ownL 3 y1 (p521.2.1 : List Int)] w') .ret envq wq) ∨ (∃ p522, r518 = (Sum.inr p522) ∧ eq = .exit 2 ∧ Sub [(4, v69), (5, v75)] envq ∧ Mem w No [ownL 3 v75 (p522.2 : List Int), ownL 3 v69 (p522.1 : List Int)] wq)) hit519 ⟨(by repeat (first | exact Sub.nil _ | refine Sub.cons rfl ?_)), (hm76.pick [0, 1, 2, 3] (by decide) rfl)⟩ ?_ ?_
  ·rintro ⟨i509, l510, l511⟩ x513 env514 w515 hf516 hr517 ⟨hs_, hm_⟩
   have hs_ : Sub [(1, v1), (2, (Value.pointer (some ⟨g1, 0, none⟩))), (4, v69), (5, v75), (38, v7), (39, (Value.int .i64 (List.length l60 : Int))), (40, (Value.int .i64 i509))] env514 := hs_
   have hm523 : Mem w No [ownL 3 v75 (l511 : List Int), ownL 3 v69 (l510 : List Int), ownL 3 v7 (l60 : List Int), blk g1 27 [v0_Items, (Value.int .i64 a0_Weight)]] w515 := hm_
   refine cw_sub hs_ ?_
   clear hs_ hm_ q520
   have h : leastcode_solve_l4 N a0_Items a0_Weight a1 l60 i509 l510 l511 = some x513 := hf516
   clear hf516
   refine cw_sr (t_rd rfl (rd_lss rfl rfl) (rwt_n (cw_seq ?_)))
   obtain ⟨hb524, q525⟩ | ⟨hb524, q525⟩ := oi h <;> clear h
   ·refine cw_t rfl hb524 (cw_skip (qn_then (cw_seq (cw_block (cw_sr ?_)))))
    obtain ⟨x526, h527, q528⟩ := ob q525; clear q525
    refine t_rd rfl (rd_index tS22 rfl rfl (hm523.sl 2 rfl) h527) ?_
    refine t_rd rfl (rd_ld1 tO3 rfl ((hm523.sl 2 rfl).cells h527) (off := 0) rfl) ?_
    refine t_as rfl rfl (rwt_n (cw_seq (cw_sr (t_rd rfl (rd_fld tF27_0 rfl) ?_))))
    refine t_rd rfl (rd_ld1 tO25 rfl (hm523.blk 3 rfl) (off := 0) rfl) ?_
    refine t_rd rfl (rd_lenS tS25 rfl (hv0_Items.of_old hm523)) ?_
    refine t_mv rfl rfl (rwt_n (cw_block ?_))
    obtain ⟨r640, hit641, q642⟩ := ob q528; clear q528
    refine cw_loop2 (I := fun q envq wq => Sub [(1, v1), (2, (Value.pointer (some ⟨g1, 0, none⟩))), (4, v69), (5, v75), (10, (Value.int .i64 x526)), (38, v7), (39, (Value.int .i64 (List.length l60 : Int))), (40, (Value.int .i64 i509)), (46, (Value.int .i64 (List.length a0_Items : Int))), (47, (Value.int .i64 q.1))] envq ∧ Mem w No [ownL 3 v75 (l511 : List Int), ownL 3 v69 (q.2 : List Int), ownL 3 v7 (l60 : List Int), blk g1 27 [v0_Items, (Value.int .i64 a0_Weight)]] wq) (X := fun eq envq wq => eq = .exit 4 ∧ Sub [(1, v1), (2, (Value.pointer (some ⟨g1, 0, none⟩))), (4, v69), (5, v75), (10, (Value.int .i64 x526)), (38, v7), (39, (Value.int .i64 (List.length l60 : Int))), (40, (Value.int .i64 i509))] envq ∧ Mem w No [ownL 3 v75 (l511 : List Int), ownL 3 v69 (r640 : List Int), ownL 3 v7 (l60 : List Int), blk g1 27 [v0_Items, (Value.int .i64 a0_Weight)]] wq) hit641 ⟨(by repeat (first | exact Sub.nil _ | refine Sub.cons rfl ?_)), (hm523.pick [0, 1, 2, 3] (by decide) rfl)⟩ ?_ ?_
    ·rintro ⟨i632, l633⟩ x635 env636 w637 hf638 hr639 ⟨hs_, hm_⟩
     have hs_ : Sub [(1, v1), (2, (Value.pointer (some ⟨g1, 0, none⟩))), (4, v69), (5, v75), (10, (Value.int .i64 x526)), (38, v7), (39, (Value.int .i64 (List.length l60 : Int))), (40, (Value.int .i64 i509)), (46, (Value.int .i64 (List.length a0_Items : Int))), (47, (Value.int .i64 i632))] env636 := hs_
     have hm643 : Mem w No [ownL 3 v75 (l511 : List Int), ownL 3 v69 (l633 : List Int), ownL 3 v7 (l60 : List Int), blk g1 27 [v0_Items, (Value.int .i64 a0_Weight)]] w637 := hm_
     refine cw_sub hs_ ?_
     clear hs_ hm_ q642
     have h : leastcode_solve_l5 N a0_Items a1 l511 x526 i632 l633 = some x635 := hf638
     clear hf638
     refine cw_sr (t_rd rfl (rd_lss rfl rfl) (rwt_n (cw_seq ?_)))
     obtain ⟨hb644, q645⟩ | ⟨hb644, q645⟩ := oi h <;> clear h
     ·refine cw_t rfl hb644 (cw_skip (qn_then (cw_seq (cw_block (cw_sr ?_)))))
      refine t_mv rfl rfl (t_as rfl rfl (rwt_n (cw_sr (t_mv rfl rfl (t_mv rfl rfl ?_)))))
      obtain ⟨x646, h647, q648⟩ := ob q645; clear q645
      refine t_rd rfl (rd_index tS41 rfl rfl ((hn1.of_old hm643).sl) h647) ?_
      obtain ⟨zd649, hz650⟩ := (hn1.of_old hm643).row h647
      refine t_rd rfl (rd_ld1 tO22 rfl ((hn1.of_old hm643).cells hz650) (off := 0) rfl) ?_
      refine t_mv rfl rfl ?_
      obtain ⟨x651, h652, q653⟩ := ob q648; clear q648
      refine t_rd rfl (rd_index tS22 rfl rfl ((hn1.of_old hm643).get hz650 h647) h652) ?_
      refine t_rd rfl (rd_ld1 tO3 rfl (((hn1.of_old hm643).get hz650 h647).cells h652) (off := 0) rfl) ?_
      refine t_as rfl rfl (rwt_n (cw_sr (t_mv rfl rfl ?_)))
      refine t_rd rfl (rd_gtr rfl rfl) ?_
      refine rwt_n ?_
      obtain ⟨hb654, q655⟩ | ⟨hb654, q655⟩ := oi q653 <;> clear q653
      ·refine cw_t rfl hb654 ?_
       obtain ⟨w671, he673⟩ : ∃ q, q = w637.drew := ⟨_, rfl⟩
       have hm672 := hm643.drew; rw [← he673] at hm672
       refine cw_region_s (fun q => q = w671) (cls [] [15]) mixed ?_
       rintro _ rfl; rw [← he673]
       refine s_rp (i := 0) rfl (by kernel_rfl) rfl (fun _ => (rd_move rfl)) ?_
       refine s_rp (i := 1) rfl (by kernel_rfl) rfl (fun _ => (rd_move rfl)) ?_
       refine s_rp (i := 2) rfl (by kernel_rfl) rfl (fun _ => (rd_move rfl)) ?_
       refine s_rp (i := 3) rfl (by kernel_rfl) rfl (fun _ => (rd_move rfl)) ?_
       obtain ⟨x674, h675, q676⟩ := ob q655; clear q655
       refine s_rp (i := 4) rfl (by kernel_rfl) rfl (fun _ => (rd_index tS22 rfl rfl (hm672.sl 1 rfl) h675)) ?_
       refine s_rd (i := 5) rfl (by kernel_rfl) rfl (fun _ hS => by rw [hS]; exact (rd_ld1 tO3 rfl ((hm672.sl 1 rfl).cells h675) (off := 0) rfl)) rfl ?_
       refine s_rp (i := 6) rfl (by kernel_rfl) rfl (fun _ => (rd_move rfl)) ?_
       refine s_rp (i := 7) rfl (by kernel_rfl) rfl (fun _ => (rd_move rfl)) ?_
       obtain ⟨x677, h678, q679⟩ := ob q676; clear q676
       refine s_rp (i := 8) rfl (by kernel_rfl) rfl (fun _ => (rd_index tS22 rfl rfl (hm672.sl 0 rfl) h678)) ?_
       refine s_rd (i := 9) rfl (by kernel_rfl) rfl (fun _ hS => by rw [hS]; exact (rd_ld1 tO3 rfl ((hm672.sl 0 rfl).cells h678) (off := 0) rfl)) rfl ?_
       refine s_rp (i := 10) rfl (by kernel_rfl) rfl (fun _ => (rd_move rfl)) ?_
       obtain ⟨x680, h681, q682⟩ := ob q679; clear q679
       refine s_rp (i := 11) rfl (by kernel_rfl) rfl (fun _ => (rd_add64 h681 rfl rfl)) ?_
       obtain ⟨x683, h684, q685⟩ := ob q682; clear q682
       refine s_rp (i := 12) rfl (by kernel_rfl) rfl (fun _ => (rd_sub64 h684 rfl rfl)) ?_
       refine s_rp (i := 13) rfl (by kernel_rfl) rfl (fun _ => (rd_max rfl rfl)) ?_
       refine s_rp (i := 14) rfl (by kernel_rfl) rfl (fun _ => (rd_index tS22 rfl rfl (hm672.sl 1 rfl) h675)) ?_
       refine s_ef0 (i := 15) rfl (by kernel_rfl) (ef_stl (k := 1) (off := 0) (x' := (max x674 x683)) hm672 tO3 rfl rfl rfl rfl h675 rfl rfl) (by decide) (fun _ _ _ q => absurd q (by decide)) ?_
       intro _ w687 hm686
       refine s_nil (by kernel_rfl) ?_
       refine qn_block (qn_then ?_)
       refine cw_region ?_
       obtain ⟨x688, h689, q690⟩ := ob q685; clear q685
       refine t_rd rfl (rd_add64 h689 rfl rfl) (t_mv rfl rfl (rwt_n ?_))
       refine ⟨_, (os q690), (by repeat (first | exact Sub.nil _ | refine Sub.cons rfl ?_)), (hm686.pick [0, 1, 2, 3] (by decide) rfl)⟩
      ·refine cw_f rfl hb654 (cw_skip ?_)
       refine qn_block (qn_then ?_)
       refine cw_region ?_
       obtain ⟨x691, h692, q693⟩ := ob q655; clear q655
       refine t_rd rfl (rd_add64 h692 rfl rfl) (t_mv rfl rfl (rwt_n ?_))
       refine ⟨_, (os q693), (by repeat (first | exact Sub.nil _ | refine Sub.cons rfl ?_)), (hm643.pick [0, 1, 2, 3] (by decide) rfl)⟩
     ·refine cw_f rfl hb644 ?_
      refine cw_exit ?_
      refine qx_then (qx_then ?_)
      obtain rfl := hr639 _ (os q645)
      exact ⟨rfl, (by repeat (first | exact Sub.nil _ | refine Sub.cons rfl ?_)), (hm643.pick [0, 1, 2, 3] (by decide) rfl)⟩
    ·skip
     intro e env694 w695 hX696
     obtain ⟨rfl, hs697, hm698⟩ := hX696
     refine qx_same (qn_then ?_)
     refine cw_sub hs697 ?_
     refine cw_seq ?_
     obtain ⟨w712, he714⟩ : ∃ q, q = w695.drew := ⟨_, rfl⟩
     have hm713 := hm698.drew; rw [← he714] at hm713
     refine cw_region_s (fun q => q = w712) (cls [] [12]) mixed ?_
     rintro _ rfl; rw [← he714]
     refine s_rp (i := 0) rfl (by kernel_rfl) rfl (fun _ => (rd_move rfl)) ?_
     refine s_rp (i := 1) rfl (by kernel_rfl) rfl (fun _ => (rd_move rfl)) ?_
     obtain ⟨x715, h716, q717⟩ := ob q642; clear q642
     refine s_rp (i := 2) rfl (by kernel_rfl) rfl (fun _ => (rd_index tS22 rfl rfl (hm713.sl 1 rfl) h716)) ?_
     refine s_rd (i := 3) rfl (by kernel_rfl) rfl (fun _ hS => by rw [hS]; exact (rd_ld1 tO3 rfl ((hm713.sl 1 rfl).cells h716) (off := 0) rfl)) rfl ?_
     refine s_rp (i := 4) rfl (by kernel_rfl) rfl (fun _ => (rd_fld tF27_0 rfl)) ?_
     refine s_rd (i := 5) rfl (by kernel_rfl) rfl (fun _ hS => by rw [hS]; exact (rd_ld1 tO25 rfl (hm713.blk 3 rfl) (off := 0) rfl)) rfl ?_
     refine s_rp (i := 6) rfl (by kernel_rfl) rfl (fun _ => (rd_move rfl)) ?_
     obtain ⟨x718, h719, q720⟩ := ob q717; clear q717
     refine s_rp (i := 7) rfl (by kernel_rfl) rfl (fun _ => (rd_index tS25 rfl rfl (hv0_Items.of_old hm713) h719)) ?_
     refine s_rp (i := 8) rfl (by kernel_rfl) rfl (fun _ => (rd_fld tF40_2 rfl)) ?_
     refine s_rd (i := 9) rfl (by kernel_rfl) rfl (fun _ hS => by rw [hS]; exact (rd_ld1 tO3 rfl ((hv0_Items.of_old hm713).cells h719) (off := 2) rfl)) rfl ?_
     refine s_rp (i := 10) rfl (by kernel_rfl) rfl (fun _ => (rd_fld tF27_1 rfl)) ?_
     refine s_rd (i := 11) rfl (by kernel_rfl) rfl (fun _ hS => by rw [hS]; exact (rd_ld1 tO3 rfl (hm713.blk 3 rfl) (off := 1) rfl)) rfl ?_
     obtain ⟨r721, h722, q723⟩ := ob q720; clear q720
     refine s_ef (i := 12) rfl (by kernel_rfl) rfl (ef_call tf69 rfl (code_Next_ok h722)) (by decide) (fun _ _ _ q => absurd q (by decide)) ?_
     rintro _ w725 ⟨e_, hm724⟩
     obtain rfl := e_.symm
     have hm726 := hm713.call hm724
     refine s_rp (i := 13) rfl (by kernel_rfl) rfl (fun _ => (rd_move rfl)) ?_
     refine s_rp (i := 14) rfl (by kernel_rfl) rfl (fun _ => (rd_extract rfl rfl)) ?_
     refine s_rp (i := 15) rfl (by kernel_rfl) rfl (fun _ => (rd_extract rfl rfl)) ?_
     refine s_rp (i := 16) rfl (by kernel_rfl) rfl (fun _ => (rd_assign rfl)) ?_
     refine s_rp (i := 17) rfl (by kernel_rfl) rfl (fun _ => (rd_assign rfl)) ?_
     refine s_nil (by kernel_rfl) ?_
     refine qn_then (cw_seq (cw_sr (t_mv rfl rfl ?_)))
     refine t_rd rfl (rd_neq rfl rfl) ?_
     refine rwt_n ?_
     obtain ⟨hb727, q728⟩ | ⟨hb727, q728⟩ := oi q723 <;> clear q723
     ·refine cw_t rfl hb727 (cw_sr (t_mv rfl rfl (t_as rfl rfl (t_as rfl rfl (t_as rfl rfl ?_)))))
      refine rwt_n ?_
      refine cw_ret ?_
      refine qr_then (qr_block (qr_then (qr_then ?_)))
      obtain rfl := hr517 _ (os q728)
      refine .inl (⟨_, rfl, ⟨rfl, ?_⟩⟩)
      have hm729 := hm726.addNil (α := Int) 3
      have hm730 := hm729.addNil (α := Int) 3
      exact ret3 rfl rfl rfl rfl ⟨(Value.slice none 0 0), (Value.slice none 0 0), rfl, (hm730.pick [1, 0] (by decide) rfl)⟩
     ·refine cw_f rfl hb727 (cw_skip (qn_then ?_))
      refine cw_region ?_
      refine t_mv rfl rfl (t_mv rfl rfl (t_mv rfl rfl ?_))
      obtain ⟨x731, h732, q733⟩ := ob q728; clear q728
      refine t_rd rfl (rd_index tS22 rfl rfl (hm726.sl 0 rfl) h732) ?_
      refine t_ef0 (ef_stl (k := 0) (off := 0) (x' := r721.1) hm726 tO3 rfl rfl rfl rfl h732 rfl rfl) ?_
      intro _ w735 hm734
      refine rwt_nil ?_
      refine qn_block (qn_then ?_)
      refine cw_region ?_
      obtain ⟨x736, h737, q738⟩ := ob q733; clear q733
      refine t_rd rfl (rd_add64 h737 rfl rfl) (t_mv rfl rfl (rwt_n ?_))
      refine ⟨_, (os q738), (by repeat (first | exact Sub.nil _ | refine Sub.cons rfl ?_)), (hm734.pick [0, 1, 2, 3] (by decide) rfl)⟩
   ·refine cw_f rfl hb524 ?_
    refine cw_exit ?_
    refine qx_then (qx_then ?_)
    obtain rfl := hr517 _ (os q525)
    exact .inr (⟨_, rfl, ⟨rfl, (by repeat (first | exact Sub.nil _ | refine Sub.cons rfl ?_)), (hm523.pick [0, 1] (by decide) rfl)⟩⟩)
  ·skip
   intro e env739 w740 hX741
   rcases hX741 with hX741 | hX741
   ·obtain ⟨p743, rfl, hX741⟩ := hX741
    obtain ⟨rfl, hq745⟩ := hX741
    exact qr_block (qr_then ((by have e := os q520; subst e; exact hq745)))
   ·obtain ⟨p746, rfl, hX741⟩ := hX741
    obtain ⟨rfl, hs747, hm748⟩ := hX741
    refine qx_same (qn_then ?_)
    refine cw_sub hs747 ?_
    refine cw_sr (t_mv rfl rfl (t_mv rfl rfl (t_as rfl rfl (t_as rfl rfl (t_as rfl rfl ?_)))))
    refine rwt_n ?_
    refine cw_ret ?_
    obtain rfl := os q520
    exact ret3 rfl rfl rfl rfl ⟨v69, v75, rfl, (hm748.pick [1, 0] (by decide) rfl)⟩

theorem code_Steps_ok {N : Nat} {a0 : Int} {res : Int × Int} (h : code_Steps N a0 = some res) {w : World}   :
  CallsR Tryz.prog 34 [(Value.int .i64 a0)] w (fun u w' => u = (Value.tuple #[(Value.int .i64 res.1), (Value.int .i64 res.2)]) ∧ Mem w No [] w') := by
 unfold code_Steps at h
 refine fn_ok Tryz.func34 rfl rfl rfl ?_
 have hm0 := Mem.nil w
 refine cw_sr (t_as rfl rfl (t_as rfl rfl (rwt_n (cw_seq (cw_sr ?_)))))
 refine t_mv rfl rfl ?_
 obtain ⟨r1, h2, q3⟩ := ob h; clear h
 refine t_ef rfl (ef_call tf70 rfl (code_in_ok h2)) ?_
 rintro _ w5 ⟨e_, hm4⟩
 obtain rfl := e_.symm
 have hm6 := hm0.call hm4
 refine t_rd rfl (rd_not rfl) ?_
 refine rwt_n ?_
 obtain ⟨hb7, q8⟩ | ⟨hb7, q8⟩ := oi q3 <;> clear q3
 ·refine cw_t rfl hb7 (cw_sr (t_as rfl rfl (t_as rfl rfl (rwt_n ?_))))
  refine cw_ret ?_
  refine qr_then ?_
  obtain rfl := os q8
  exact ret2 rfl rfl rfl ⟨rfl, (hm6.pick [] (by decide) rfl)⟩
 ·refine cw_f rfl hb7 (cw_skip (qn_then (cw_sr (t_as rfl rfl (rwt_n ?_)))))
  refine cw_seq (cw_block ?_)
  obtain ⟨r36, hit37, q38⟩ := ob q8; clear q8
  refine cw_loop2 (I := fun q envq wq => Sub [(0, (Value.int .i64 q.1)), (4, (Value.int .i64 q.2))] envq ∧ Mem w No [] wq) (X := fun eq envq wq => eq = .exit 0 ∧ Sub [(4, (Value.int .i64 r36))] envq ∧ Mem w No [] wq) hit37 ⟨(by repeat (first | exact Sub.nil _ | refine Sub.cons rfl ?_)), (hm6.pick [] (by decide) rfl)⟩ ?_ ?_
  ·rintro ⟨i28, i29⟩ x31 env32 w33 hf34 hr35 ⟨hs_, hm_⟩
   have hs_ : Sub [(0, (Value.int .i64 i28)), (4, (Value.int .i64 i29))] env32 := hs_
   have hm39 : Mem w No [] w33 := hm_
   refine cw_sub hs_ ?_
   clear hs_ hm_ q38
   have h : code_Steps_l1 N i28 i29 = some x31 := hf34
   clear hf34
   refine cw_seq (cw_sr (t_mv rfl rfl ?_))
   refine t_rd rfl (rd_gtr rfl rfl) ?_
   refine rwt_n ?_
   obtain ⟨hb40, q41⟩ | ⟨hb40, q41⟩ := oi h <;> clear h
   ·refine cw_t rfl hb40 (cw_skip (qn_then (cw_seq (cw_block ?_))))
    refine cw_region ?_
    refine t_mv rfl rfl ?_
    obtain ⟨x42, h43, q44⟩ := ob q41; clear q41
    refine t_rd rfl (rd_add64 h43 rfl rfl) (t_as rfl rfl ?_)
    refine rwt_nil ?_
    refine qn_block (qn_then ?_)
    refine cw_region ?_
    refine t_mv rfl rfl ?_
    obtain ⟨x45, h46, q47⟩ := ob q44; clear q44
    refine t_rd rfl (rd_shr_i64 h46 rfl rfl) ?_
    refine t_as rfl rfl (rwt_n ?_)
    refine ⟨_, (os q47), (by repeat (first | exact Sub.nil _ | refine Sub.cons rfl ?_)), (hm39.pick [] (by decide) rfl)⟩
   ·refine cw_f rfl hb40 ?_
    refine cw_exit ?_
    refine qx_then (qx_then ?_)
    obtain rfl := hr35 _ (os q41)
    exact ⟨rfl, (by repeat (first | exact Sub.nil _ | refine Sub.cons rfl ?_)), (hm39.pick [] (by decide) rfl)⟩
  ·skip
   intro e env48 w49 hX50
   obtain ⟨rfl, hs51, hm52⟩ := hX50
   refine qx_same (qn_then ?_)
   refine cw_sub hs51 ?_
   refine cw_sr (t_mv rfl rfl (t_as rfl rfl (t_as rfl rfl (rwt_n ?_))))
   refine cw_ret ?_
   obtain rfl := os q38
   exact ret2 rfl rfl rfl ⟨rfl, (hm52.pick [] (by decide) rfl)⟩

theorem leastcode_Least_ok {N : Nat} {a0_Items : List T_Item} {a0_Weight : Int} {res : Int × List Int × Int} (h : leastcode_Least N a0_Items a0_Weight = some res) {w : World} {v0_Items : Value} (hv0_Items : Sl (Old w No) w v0_Items a0_Items) :
  CallsR Tryz.prog 28 [(Value.agg #[v0_Items, (Value.int .i64 a0_Weight)])] w (fun u w' => ∃ (y0 : Value), u = (Value.tuple #[(Value.agg #[(Value.int .i64 res.1), y0]), (Value.int .i64 res.2.2)]) ∧ Mem w No [ownL 3 y0 (res.2.1 : List Int)] w') := by
 unfold leastcode_Least at h
 refine fn_ok Tryz.func28 rfl rfl rfl ?_
 have hm0 := Mem.nil w
 refine cw_sr ?_
 refine t_ef rfl (ef_box hm0 rfl rfl) ?_
 rintro _ w3 ⟨g1, rfl, hm2⟩
 refine t_ef rfl (ef_alloc hm2 tZ30 rfl) ?_
 rintro _ w6 ⟨g4, rfl, hm5⟩
 refine t_as rfl rfl (rwt_n (cw_seq (cw_sr ?_)))
 refine t_rd rfl (rd_ld tA27 rfl (hm5.blk 1 rfl) rfl) ?_
 obtain ⟨r7, h8, q9⟩ := ob h; clear h
 refine t_ef rfl (ef_call tf59 rfl (job_Valid_ok h8 (hv0_Items.to_call hm5))) ?_
 rintro _ w11 ⟨e_, hm10⟩
 obtain rfl := e_.symm
 have hm12 := hm5.call hm10
 refine t_as rfl rfl (rwt_n (cw_sr (t_mv rfl rfl ?_)))
 refine t_rd rfl (rd_neq rfl rfl) ?_
 refine rwt_n ?_
 obtain ⟨hb13, q14⟩ | ⟨hb13, q14⟩ := oi q9 <;> clear q9
 ·refine cw_t rfl hb13 (cw_sr ?_)
  refine t_rd rfl (rd_build (cs := #[(Value.int .i64 0), (Value.slice none 0 0)]) rfl (by kernel_rfl)) ?_
  refine t_mv rfl rfl ?_
  refine t_ef0 (ef_stw (k := 0) hm12 tA30 rfl rfl (oc_cons rfl (oc_cons (sl_one (Sl.nil (α := Int) No w11)) oc_nil)) rfl rfl rfl) ?_
  intro _ w16 hm15
  refine t_as rfl rfl (rwt_n ?_)
  refine cw_ret ?_
  refine qr_then ?_
  obtain rfl := os q14
  have hm17 := hm15.addNil (α := Int) 3
  exact retLn (rs := [.cell 2 30, .tmp 3]) rfl (.rc rfl tA30 (hm17.blk 1 rfl) rfl (.rt rfl .rn)) rfl ⟨(Value.slice none 0 0), rfl, (hm17.pick [0] (by decide) rfl)⟩
 ·refine cw_f rfl hb13 (cw_skip (qn_then (cw_seq ?_)))
  obtain ⟨w35, he37⟩ : ∃ q, q = w11.drew := ⟨_, rfl⟩
  have hm36 := hm12.drew; rw [← he37] at hm36
  refine cw_region_s (fun q => (blk g1 27 [v0_Items, (Value.int .i64 a0_Weight)]).φ q) (cls [2] [3]) mixed ?_
  rintro _ rfl; rw [← he37]
  refine s_rd (i := 0) rfl (by kernel_rfl) rfl (fun w34 hS => (rd_ld tA27 rfl (cells_blk hS) rfl)) (hm36.get (k := 1) rfl) ?_
  refine s_rd (i := 1) rfl (by kernel_rfl) rfl (fun w34 hS => (rd_ld tA27 rfl (cells_blk hS) rfl)) (hm36.get (k := 1) rfl) ?_
  obtain ⟨r54, h55, q56⟩ := ob q14; clear q14
  refine s_ef (i := 2) rfl (by kernel_rfl) rfl (ef_call tf61 rfl (leastcode_relations_ok h55 (hv0_Items.to_call hm36))) (by decide) ?_ ?_
  ·rintro _ w60 ⟨zs58, v57, e_, hm59⟩
   obtain rfl := e_.symm
   have hm61 := hm36.call hm59
   intro _
   exact (hm61.get (k := 3) rfl)
  rintro _ w60 ⟨zs58, v57, e_, hm59⟩
  obtain rfl := e_.symm
  have hm61 := hm36.call hm59
  obtain ⟨r62, h63, q64⟩ := ob q56; clear q56
  refine s_ef (i := 3) rfl (by kernel_rfl) rfl (ef_call tf60 rfl (leastcode_solve_ok h63 (hv0_Items.to_call hm61) ((Nl.mk (hm61.sl_call 0 rfl) (hm61.rows_call 1 rfl)).sl))) (by decide) (fun _ _ _ q => absurd q (by decide)) ?_
  rintro _ w68 ⟨v65, v66, e_, hm67⟩
  obtain rfl := e_.symm
  have hm69 := hm61.call hm67
  refine s_rp (i := 4) rfl (by kernel_rfl) rfl (fun _ => (rd_move rfl)) ?_
  refine s_rp (i := 5) rfl (by kernel_rfl) rfl (fun _ => (rd_extract rfl rfl)) ?_
  refine s_rp (i := 6) rfl (by kernel_rfl) rfl (fun _ => (rd_extract rfl rfl)) ?_
  refine s_rp (i := 7) rfl (by kernel_rfl) rfl (fun _ => (rd_extract rfl rfl)) ?_
  refine s_rp (i := 8) rfl (by kernel_rfl) rfl (fun _ => (rd_assign rfl)) ?_
  refine s_rp (i := 9) rfl (by kernel_rfl) rfl (fun _ => (rd_assign rfl)) ?_
  refine s_rp (i := 10) rfl (by kernel_rfl) rfl (fun _ => (rd_assign rfl)) ?_
  refine s_nil (by kernel_rfl) ?_
  refine qn_then (cw_seq (cw_sr (t_mv rfl rfl ?_)))
  refine t_rd rfl (rd_neq rfl rfl) ?_
  refine rwt_n ?_
  obtain ⟨hb70, q71⟩ | ⟨hb70, q71⟩ := oi q64 <;> clear q64
  ·refine cw_t rfl hb70 (cw_sr ?_)
   refine t_rd rfl (rd_build (cs := #[(Value.int .i64 0), (Value.slice none 0 0)]) rfl (by kernel_rfl)) ?_
   refine t_mv rfl rfl ?_
   refine t_ef0 (ef_stw (k := 4) hm69 tA30 rfl rfl (oc_cons rfl (oc_cons (sl_one (Sl.nil (α := Int) No w68)) oc_nil)) rfl rfl rfl) ?_
   intro _ w73 hm72
   refine t_as rfl rfl (rwt_n ?_)
   refine cw_ret ?_
   refine qr_then ?_
   obtain rfl := os q71
   have hm74 := hm72.addNil (α := Int) 3
   exact retLn (rs := [.cell 2 30, .tmp 3]) rfl (.rc rfl tA30 (hm74.blk 5 rfl) rfl (.rt rfl .rn)) rfl ⟨(Value.slice none 0 0), rfl, (hm74.pick [0] (by decide) rfl)⟩
  ·refine cw_f rfl hb70 (cw_skip (qn_then (cw_sr (t_mv rfl rfl ?_))))
   refine t_rd rfl (rd_build (cs := #[(Value.int .i64 0), v66]) rfl (by obtain ⟨_, _, e⟩ := ((hm69.sl 1 rfl)).val; rw [e]; clear e; kernel_rfl)) ?_
   refine t_ef rfl (ef_alloc hm69 tZ30 rfl) ?_
   rintro _ w77 ⟨g75, rfl, hm76⟩
   refine t_ef0 (ef_stw (k := 0) hm76 tA30 rfl rfl (oc_cons rfl (oc_cons (sl_one (hm76.sl 2 rfl)) oc_nil)) rfl rfl rfl) ?_
   intro _ w79 hm78
   refine rwt_n (cw_seq (cw_sr (t_mv rfl rfl ?_)))
   refine t_rd rfl (rd_lenS tS22 rfl (hm78.sl 2 rfl)) ?_
   refine t_mv rfl rfl (rwt_n (cw_block ?_))
   obtain ⟨r123, hit124, q125⟩ := ob q71; clear q71
   refine cw_loop2 (I := fun q envq wq => Sub [(2, (Value.pointer (some ⟨g4, 0, none⟩))), (8, (Value.pointer (some ⟨g75, 0, none⟩))), (33, v66), (34, (Value.int .i64 (List.length r62.2.1 : Int))), (35, (Value.int .i64 q.1))] envq ∧ Mem w No [blk g75 30 [(Value.int .i64 q.2), v66], ownL 3 v66 (r62.2.1 : List Int), blk g4 30 [(Value.int .i64 0), (Value.slice none 0 0)]] wq) (X := fun eq envq wq => eq = .exit 0 ∧ Sub [(2, (Value.pointer (some ⟨g4, 0, none⟩))), (8, (Value.pointer (some ⟨g75, 0, none⟩)))] envq ∧ Mem w No [blk g75 30 [(Value.int .i64 r123), v66], ownL 3 v66 (r62.2.1 : List Int), blk g4 30 [(Value.int .i64 0), (Value.slice none 0 0)]] wq) hit124 ⟨(by repeat (first | exact Sub.nil _ | refine Sub.cons rfl ?_)), (hm78.pick [0, 2, 5] (by decide) rfl)⟩ ?_ ?_
   ·rintro ⟨i115, i116⟩ x118 env119 w120 hf121 hr122 ⟨hs_, hm_⟩
    have hs_ : Sub [(2, (Value.pointer (some ⟨g4, 0, none⟩))), (8, (Value.pointer (some ⟨g75, 0, none⟩))), (33, v66), (34, (Value.int .i64 (List.length r62.2.1 : Int))), (35, (Value.int .i64 i115))] env119 := hs_
    have hm126 : Mem w No [blk g75 30 [(Value.int .i64 i116), v66], ownL 3 v66 (r62.2.1 : List Int), blk g4 30 [(Value.int .i64 0), (Value.slice none 0 0)]] w120 := hm_
    refine cw_sub hs_ ?_
    clear hs_ hm_ q125
    have h : leastcode_Least_l1 N r62 i115 i116 = some x118 := hf121
    clear hf121
    refine cw_sr (t_rd rfl (rd_lss rfl rfl) (rwt_n (cw_seq ?_)))
    obtain ⟨hb127, q128⟩ | ⟨hb127, q128⟩ := oi h <;> clear h
    ·refine cw_t rfl hb127 (cw_skip (qn_then (cw_seq (cw_block (cw_sr ?_)))))
     obtain ⟨x129, h130, q131⟩ := ob q128; clear q128
     refine t_rd rfl (rd_index tS22 rfl rfl (hm126.sl 1 rfl) h130) ?_
     refine t_rd rfl (rd_ld1 tO3 rfl ((hm126.sl 1 rfl).cells h130) (off := 0) rfl) ?_
     refine t_as rfl rfl (rwt_n (cw_sr (t_mv rfl rfl ?_)))
     obtain ⟨r132, h133, q134⟩ := ob q131; clear q131
     refine t_ef rfl (ef_call tf34 rfl (code_Steps_ok h133)) ?_
     rintro _ w136 ⟨e_, hm135⟩
     obtain rfl := e_.symm
     have hm137 := hm126.call hm135
     refine t_mv rfl rfl ?_
     refine t_rd rfl (rd_extract rfl rfl) ?_
     refine t_rd rfl (rd_extract rfl rfl) ?_
     refine t_as rfl rfl (t_as rfl rfl (rwt_n ?_))
     refine cw_region ?_
     refine t_rd rfl (rd_fld tF30_0 rfl) ?_
     refine t_rd rfl (rd_ld1 tO3 rfl (hm137.blk 0 rfl) (off := 0) rfl) ?_
     refine t_mv rfl rfl ?_
     refine t_rd rfl (rd_max rfl rfl) ?_
     refine t_rd rfl (rd_fld tF30_0 rfl) ?_
     refine t_ef0 (ef_st1 (k := 0) (off := 0) hm137 tO3 rfl rfl rfl rfl rfl rfl) ?_
     intro _ w139 hm138
     refine rwt_nil ?_
     refine qn_block (qn_then ?_)
     refine cw_region ?_
     obtain ⟨x140, h141, q142⟩ := ob q134; clear q134
     refine t_rd rfl (rd_add64 h141 rfl rfl) (t_mv rfl rfl (rwt_n ?_))
     refine ⟨_, (os q142), (by repeat (first | exact Sub.nil _ | refine Sub.cons rfl ?_)), (hm138.pick [0, 1, 2] (by decide) rfl)⟩
    ·refine cw_f rfl hb127 ?_
     refine cw_exit ?_
     refine qx_then (qx_then ?_)
     obtain rfl := hr122 _ (os q128)
     exact ⟨rfl, (by repeat (first | exact Sub.nil _ | refine Sub.cons rfl ?_)), (hm126.pick [0, 1, 2] (by decide) rfl)⟩
   ·skip
    intro e env143 w144 hX145
    obtain ⟨rfl, hs146, hm147⟩ := hX145
    refine qx_same (qn_then ?_)
    refine cw_sub hs146 ?_
    refine cw_sr ?_
    refine t_rd rfl (rd_ld tA30 rfl (hm147.blk 0 rfl) rfl) ?_
    refine t_ef0 (ef_stw (k := 2) hm147 tA30 rfl rfl (oc_cons rfl (oc_cons (sl_one (hm147.sl 1 rfl)) oc_nil)) rfl rfl rfl) ?_
    intro _ w149 hm148
    refine t_as rfl rfl (rwt_n ?_)
    refine cw_ret ?_
    obtain rfl := os q125
    exact retLn (rs := [.cell 2 30, .tmp 3]) rfl (.rc rfl tA30 (hm148.blk 2 rfl) rfl (.rt rfl .rn)) rfl ⟨v66, rfl, (hm148.pick [1] (by decide) rfl)⟩

theorem code_Is_ok {N : Nat} {a0 : Int} {a1 : Int} {a2 : Int} {res : Bool} (h : code_Is N a0 a1 a2 = some res) {w : World}   :
  CallsR Tryz.prog 66 [(Value.int .i64 a0), (Value.int .i64 a1), (Value.int .i64 a2)] w (fun u w' => u = (Value.bool res) ∧ Mem w No [] w') := by
 unfold code_Is at h
 refine fn_ok Tryz.func66 rfl rfl rfl ?_
 have hm0 := Mem.nil w
 refine cw_sr (t_as rfl rfl (rwt_n (cw_sr (t_mv rfl rfl (t_mv rfl rfl ?_)))))
 obtain ⟨r1, h2, q3⟩ := ob h; clear h
 refine t_ef rfl (ef_call tf90 rfl (code_form_ok h2)) ?_
 rintro _ w5 ⟨e_, hm4⟩
 obtain rfl := e_.symm
 have hm6 := hm0.call hm4
 refine t_mv rfl rfl ?_
 refine t_rdg rfl rfl rfl rfl (gv_t _) (fun hg7 => (rd_move rfl)) ?_
 obtain ⟨r9, h10, q11⟩ := ob q3; clear q3
 refine t_efg rfl rfl rfl rfl (R := (fun v w' => v = gV r1 (Value.bool r9) ∧ Mem w5 No [] w')) (gv_t _) (fun hg8 => (ef_call tf70 (evc (gvx rfl hg8) (evc rfl (evc rfl evn))) (code_in_ok (gO_t h10 hg8))).mono (by rintro _ _ ⟨rfl, q⟩; exact ⟨(gV_t hg8).symm, q⟩)) (fun q => ⟨(gV_f q).symm, Mem.nil _⟩) ?_
 rintro _ w13 ⟨rfl, hm12⟩
 have hm14 := hm6.call hm12
 refine t_rd rfl (rd_and rfl (fun hc15 => (gvx rfl hc15))) ?_
 refine t_mv rfl rfl ?_
 refine t_rdg rfl rfl rfl rfl (gv_t _) (fun hg16 => (rd_move rfl)) ?_
 refine t_rdg rfl rfl rfl rfl (gv_t _) (fun hg17 => (rd_move rfl)) ?_
 obtain ⟨r19, h20, q21⟩ := ob q11; clear q11
 refine t_efg rfl rfl rfl rfl (R := (fun v w' => v = gV (r1 && r9) (Value.int .i64 r19) ∧ Mem w13 No [] w')) (gv_t _) (fun hg18 => (ef_call tf91 (evc (gvx rfl hg18) evn) (code_missed_ok (gO_t h20 hg18))).mono (by rintro _ _ ⟨rfl, q⟩; exact ⟨(gV_t hg18).symm, q⟩)) (fun q => ⟨(gV_f q).symm, Mem.nil _⟩) ?_
 rintro _ w23 ⟨rfl, hm22⟩
 have hm24 := hm14.call hm22
 obtain ⟨x26, h27, q28⟩ := ob q21; clear q21
 refine t_rdg rfl rfl rfl rfl (gv_t _) (fun hg25 => (rd_bits_and_i64 (gO_t h27 hg25) (gvx rfl hg25) (gvx rfl hg25))) ?_
 refine t_rdg rfl rfl rfl rfl (gv_t _) (fun hg29 => (rd_move rfl)) ?_
 obtain ⟨r31, h32, q33⟩ := ob q28; clear q28
 refine t_efg rfl rfl rfl rfl (R := (fun v w' => v = gV (r1 && r9) (Value.int .i64 r31) ∧ Mem w23 No [] w')) (gv_t _) (fun hg30 => (ef_call tf91 (evc (gvx rfl hg30) evn) (code_missed_ok (gO_t h32 hg30))).mono (by rintro _ _ ⟨rfl, q⟩; exact ⟨(gV_t hg30).symm, q⟩)) (fun q => ⟨(gV_f q).symm, Mem.nil _⟩) ?_
 rintro _ w35 ⟨rfl, hm34⟩
 have hm36 := hm24.call hm34
 refine t_rdg rfl rfl rfl rfl (gv_t _) (fun hg37 => (rd_eql (gvx rfl hg37) (gvx rfl hg37))) ?_
 refine t_rd rfl (rd_and rfl (fun hc38 => (gvx rfl hc38))) ?_
 refine t_mv rfl rfl ?_
 refine t_rdg rfl rfl rfl rfl (gv_t _) (fun hg39 => (rd_move rfl)) ?_
 refine t_rdg rfl rfl rfl rfl (gv_t _) (fun hg40 => (rd_move rfl)) ?_
 obtain ⟨x42, h43, q44⟩ := ob q33; clear q33
 refine t_rdg rfl rfl rfl rfl (gv_t _) (fun hg41 => (rd_shr_i64 (gO_t h43 hg41) (gvx rfl hg41) (gvx rfl hg41))) ?_
 obtain ⟨r46, h47, q48⟩ := ob q44; clear q44
 refine t_efg rfl rfl rfl rfl (R := (fun v w' => v = gV ((r1 && r9) && decide (x26 = r31)) (Value.int .i64 r46) ∧ Mem w35 No [] w')) (gv_t _) (fun hg45 => (ef_call tf92 (evc (gvx rfl hg45) evn) (code_ones_ok (gO_t h47 hg45))).mono (by rintro _ _ ⟨rfl, q⟩; exact ⟨(gV_t hg45).symm, q⟩)) (fun q => ⟨(gV_f q).symm, Mem.nil _⟩) ?_
 rintro _ w50 ⟨rfl, hm49⟩
 have hm51 := hm36.call hm49
 refine t_rdg rfl rfl rfl rfl (gv_t _) (fun hg52 => (rd_move rfl)) ?_
 refine t_rdg rfl rfl rfl rfl (gv_t _) (fun hg53 => (rd_leq (gvx rfl hg53) (gvx rfl hg53))) ?_
 refine t_rd rfl (rd_and rfl (fun hc54 => (gvx rfl hc54))) ?_
 refine t_as rfl rfl (rwt_n ?_)
 refine cw_ret ?_
 obtain rfl := os q48
 exact ret1 rfl rfl ⟨rfl, (hm51.pick [] (by decide) rfl)⟩

theorem rollin_Valid_ok {N : Nat} {a0_Items : List T_Item} {a0_Weight : Int} {a1_Steps : Int} {a1_Codes : List Int} {res : Int} (h : rollin_Valid N a0_Items a0_Weight a1_Steps a1_Codes = some res) {w : World} {v0_Items : Value} {v1_Codes : Value} (hv0_Items : Sl (Old w No) w v0_Items a0_Items) (hv1_Codes : Sl (Old w No) w v1_Codes a1_Codes) :
  CallsR Tryz.prog 31 [(Value.agg #[v0_Items, (Value.int .i64 a0_Weight)]), (Value.agg #[(Value.int .i64 a1_Steps), v1_Codes])] w (fun u w' => u = (Value.int .i64 res) ∧ Mem w No [] w') := by
 unfold rollin_Valid at h
 refine fn_ok Tryz.func31 rfl rfl rfl ?_
 have hm0 := Mem.nil w
 refine cw_sr ?_
 refine t_ef rfl (ef_box hm0 rfl rfl) ?_
 rintro _ w3 ⟨g1, rfl, hm2⟩
 refine t_ef rfl (ef_box hm2 rfl rfl) ?_
 rintro _ w6 ⟨g4, rfl, hm5⟩
 refine t_as rfl rfl (rwt_n (cw_seq (cw_sr ?_)))
 refine t_rd rfl (rd_ld tA27 rfl (hm5.blk 1 rfl) rfl) ?_
 obtain ⟨r7, h8, q9⟩ := ob h; clear h
 refine t_ef rfl (ef_call tf59 rfl (job_Valid_ok h8 (hv0_Items.to_call hm5))) ?_
 rintro _ w11 ⟨e_, hm10⟩
 obtain rfl := e_.symm
 have hm12 := hm5.call hm10
 refine t_as rfl rfl (rwt_n (cw_sr (t_mv rfl rfl ?_)))
 refine t_rd rfl (rd_neq rfl rfl) ?_
 refine rwt_n ?_
 obtain ⟨hb13, q14⟩ | ⟨hb13, q14⟩ := oi q9 <;> clear q9
 ·refine cw_t rfl hb13 (cw_sr (t_mv rfl rfl (t_as rfl rfl (rwt_n ?_))))
  refine cw_ret ?_
  refine qr_then ?_
  obtain rfl := os q14
  exact ret1 rfl rfl ⟨rfl, (hm12.pick [] (by decide) rfl)⟩
 ·refine cw_f rfl hb13 (cw_skip (qn_then (cw_seq (cw_sr (t_rd rfl (rd_fld tF30_0 rfl) ?_)))))
  refine t_rd rfl (rd_ld1 tO3 rfl (hm12.blk 0 rfl) (off := 0) rfl) ?_
  refine t_rd rfl (rd_lss rfl rfl) (t_mv rfl rfl ?_)
  refine t_rdg rfl rfl rfl rfl (gv_f _) (fun hg15 => (rd_fld tF30_0 rfl)) ?_
  refine t_rdg rfl rfl rfl rfl (gv_f _) (fun hg16 => (rd_ld1 tO3 (gvx rfl hg16) (hm12.blk 0 rfl) (off := 0) rfl)) ?_
  refine t_rdg rfl rfl rfl rfl (gv_f _) (fun hg17 => (rd_gtr (gvx rfl hg17) rfl)) ?_
  refine t_rd rfl (rd_or rfl (fun hc18 => (gvx rfl (bnotIt hc18)))) ?_
  refine t_mv rfl rfl ?_
  refine t_rdg rfl rfl rfl rfl (gv_f _) (fun hg19 => (rd_fld tF30_1 rfl)) ?_
  refine t_rdg rfl rfl rfl rfl (gv_f _) (fun hg20 => (rd_ld1 tO22 (gvx rfl hg20) (hm12.blk 0 rfl) (off := 1) rfl)) ?_
  refine t_rdg rfl rfl rfl rfl (gv_f _) (fun hg21 => (rd_lenS tS22 (gvx rfl hg21) (hv1_Codes.of_old hm12))) ?_
  refine t_rdg rfl rfl rfl rfl (gv_f _) (fun hg22 => (rd_fld tF27_0 rfl)) ?_
  refine t_rdg rfl rfl rfl rfl (gv_f _) (fun hg23 => (rd_ld1 tO25 (gvx rfl hg23) (hm12.blk 1 rfl) (off := 0) rfl)) ?_
  refine t_rdg rfl rfl rfl rfl (gv_f _) (fun hg24 => (rd_lenS tS25 (gvx rfl hg24) (hv0_Items.of_old hm12))) ?_
  refine t_rdg rfl rfl rfl rfl (gv_f _) (fun hg25 => (rd_neq (gvx rfl hg25) (gvx rfl hg25))) ?_
  refine t_rd rfl (rd_or rfl (fun hc26 => (gvx rfl (bnotIt hc26)))) ?_
  refine rwt_n ?_
  obtain ⟨hb27, q28⟩ | ⟨hb27, q28⟩ := oi q14 <;> clear q14
  ·refine cw_t rfl hb27 (cw_sr (t_as rfl rfl (rwt_n ?_)))
   refine cw_ret ?_
   refine qr_then ?_
   obtain rfl := os q28
   exact ret1 rfl rfl ⟨rfl, (hm12.pick [] (by decide) rfl)⟩
  ·refine cw_f rfl hb27 (cw_skip (qn_then (cw_seq (cw_sr (t_rd rfl (rd_fld tF30_1 rfl) ?_)))))
   refine t_rd rfl (rd_ld1 tO22 rfl (hm12.blk 0 rfl) (off := 1) rfl) ?_
   refine t_rd rfl (rd_lenS tS22 rfl (hv1_Codes.of_old hm12)) ?_
   refine t_mv rfl rfl (rwt_n (cw_block ?_))
   obtain ⟨r173, hit174, q175⟩ := ob q28; clear q28
   refine cw_loop2 (I := fun q envq wq => Sub [(2, (Value.pointer (some ⟨g1, 0, none⟩))), (3, (Value.pointer (some ⟨g4, 0, none⟩))), (31, v1_Codes), (32, (Value.int .i64 (List.length a1_Codes : Int))), (33, (Value.int .i64 q))] envq ∧ Mem w No [blk g4 30 [(Value.int .i64 a1_Steps), v1_Codes], blk g1 27 [v0_Items, (Value.int .i64 a0_Weight)]] wq) (X := fun eq envq wq => (∃ p176, r173 = (Sum.inl p176) ∧ eq = .ret ∧ retQ Tryz.prog 57 Tryz.f31 (fun u w' => u = (Value.int .i64 p176) ∧ Mem w No [] w') .ret envq wq) ∨ (∃ p177, r173 = (Sum.inr p177) ∧ eq = .exit 0 ∧ Sub [] envq ∧ Mem w No [] wq)) hit174 ⟨(by repeat (first | exact Sub.nil _ | refine Sub.cons rfl ?_)), (hm12.pick [0, 1] (by decide) rfl)⟩ ?_ ?_
   ·rintro i166 x168 env169 w170 hf171 hr172 ⟨hs_, hm_⟩
    have hs_ : Sub [(2, (Value.pointer (some ⟨g1, 0, none⟩))), (3, (Value.pointer (some ⟨g4, 0, none⟩))), (31, v1_Codes), (32, (Value.int .i64 (List.length a1_Codes : Int))), (33, (Value.int .i64 i166))] env169 := hs_
    have hm178 : Mem w No [blk g4 30 [(Value.int .i64 a1_Steps), v1_Codes], blk g1 27 [v0_Items, (Value.int .i64 a0_Weight)]] w170 := hm_
    refine cw_sub hs_ ?_
    clear hs_ hm_ q175
    have h : rollin_Valid_l1 N a0_Items a0_Weight a1_Steps a1_Codes i166 = some x168 := hf171
    clear hf171
    refine cw_sr (t_rd rfl (rd_lss rfl rfl) (rwt_n (cw_seq ?_)))
    obtain ⟨hb179, q180⟩ | ⟨hb179, q180⟩ := oi h <;> clear h
    ·refine cw_t rfl hb179 (cw_skip (qn_then (cw_seq (cw_block (cw_sr ?_)))))
     refine t_mv rfl rfl ?_
     obtain ⟨x181, h182, q183⟩ := ob q180; clear q180
     refine t_rd rfl (rd_index tS22 rfl rfl (hv1_Codes.of_old hm178) h182) ?_
     refine t_rd rfl (rd_ld1 tO3 rfl ((hv1_Codes.of_old hm178).cells h182) (off := 0) rfl) ?_
     refine t_as rfl rfl (t_as rfl rfl (rwt_n (cw_seq ?_)))
     obtain ⟨w203, he205⟩ : ∃ q, q = w170.drew := ⟨_, rfl⟩
     have hm204 := hm178.drew; rw [← he205] at hm204
     refine cw_region_s (fun q => (blk g1 27 [v0_Items, (Value.int .i64 a0_Weight)]).φ q ∧ Sl (Old w No) q v0_Items a0_Items ∧ (blk g4 30 [(Value.int .i64 a1_Steps), v1_Codes]).φ q) (cls [9] []) mixed ?_
     rintro _ rfl; rw [← he205]
     refine s_rp (i := 0) rfl (by kernel_rfl) rfl (fun _ => (rd_move rfl)) ?_
     refine s_rp (i := 1) rfl (by kernel_rfl) rfl (fun _ => (rd_fld tF27_0 rfl)) ?_
     refine s_rd (i := 2) rfl (by kernel_rfl) rfl (fun w202 hS => (rd_ld1 tO25 rfl (cells_blk hS.1) (off := 0) rfl)) ⟨(hm204.get (k := 1) rfl), (hv0_Items.of_old hm204), (hm204.get (k := 0) rfl)⟩ ?_
     refine s_rp (i := 3) rfl (by kernel_rfl) rfl (fun _ => (rd_move rfl)) ?_
     obtain ⟨x224, h225, q226⟩ := ob q183; clear q183
     refine s_rp (i := 4) rfl (by kernel_rfl) rfl (fun _ => (rd_index tS25 rfl rfl (hv0_Items.of_old hm204) h225)) ?_
     refine s_rp (i := 5) rfl (by kernel_rfl) rfl (fun _ => (rd_fld tF40_2 rfl)) ?_
     refine s_rd (i := 6) rfl (by kernel_rfl) rfl (fun w202 hS => (rd_ld1 tO3 rfl (hS.2.1.cells h225) (off := 2) rfl)) ⟨(hm204.get (k := 1) rfl), (hv0_Items.of_old hm204), (hm204.get (k := 0) rfl)⟩ ?_
     refine s_rp (i := 7) rfl (by kernel_rfl) rfl (fun _ => (rd_fld tF27_1 rfl)) ?_
     refine s_rd (i := 8) rfl (by kernel_rfl) rfl (fun w202 hS => (rd_ld1 tO3 rfl (cells_blk hS.1) (off := 1) rfl)) ⟨(hm204.get (k := 1) rfl), (hv0_Items.of_old hm204), (hm204.get (k := 0) rfl)⟩ ?_
     obtain ⟨r227, h228, q229⟩ := ob q226; clear q226
     refine s_ef (i := 9) rfl (by kernel_rfl) rfl (ef_call tf66 rfl (code_Is_ok h228)) (by decide) ?_ ?_
     ·rintro _ w231 ⟨e_, hm230⟩
      obtain rfl := e_.symm
      have hm232 := hm204.call hm230
      intro _
      exact ⟨(hm232.get (k := 1) rfl), (hv0_Items.of_old hm232), (hm232.get (k := 0) rfl)⟩
     rintro _ w231 ⟨e_, hm230⟩
     obtain rfl := e_.symm
     have hm232 := hm204.call hm230
     refine s_rp (i := 10) rfl (by kernel_rfl) rfl (fun _ => (rd_not rfl)) ?_
     refine s_rp (i := 11) rfl (by kernel_rfl) rfl (fun _ => (rd_move rfl)) ?_
     refine s_rpg (i := 12) rfl (by kernel_rfl) rfl rfl rfl rfl (gv_f _) (fun hg233 _ => (rd_move rfl)) ?_
     refine s_rpg (i := 13) rfl (by kernel_rfl) rfl rfl rfl rfl (gv_f _) (fun hg234 _ => (rd_fld tF30_0 rfl)) ?_
     refine s_rdg (i := 14) rfl (by kernel_rfl) rfl rfl rfl rfl (gv_f _) (fun hg235 => (fun w202 hS => (rd_ld1 tO3 (gvx rfl hg235) (cells_blk hS.2.2) (off := 0) rfl))) ⟨(hm232.get (k := 1) rfl), (hv0_Items.of_old hm232), (hm232.get (k := 0) rfl)⟩ ?_
     obtain ⟨x237, h238, q239⟩ := ob q229; clear q229
     refine s_rpg (i := 15) rfl (by kernel_rfl) rfl rfl rfl rfl (gv_f _) (fun hg236 _ => (rd_shr_i64 (gO_t h238 hg236) (gvx rfl hg236) (gvx rfl hg236))) ?_
     refine s_rpg (i := 16) rfl (by kernel_rfl) rfl rfl rfl rfl (gv_f _) (fun hg240 _ => (rd_neq (gvx rfl hg240) rfl)) ?_
     refine s_rp (i := 17) rfl (by kernel_rfl) rfl (fun _ => (rd_or rfl (fun hc241 => (gvx rfl (bnotIt hc241))))) ?_
     refine s_nil (by kernel_rfl) ?_
     refine qn_then ?_
     obtain ⟨hb242, q243⟩ | ⟨hb242, q243⟩ := oi q239 <;> clear q239
     ·refine cw_t rfl hb242 (cw_sr (t_as rfl rfl (rwt_n ?_)))
      refine cw_ret ?_
      refine qr_block (qr_then (qr_then ?_))
      obtain rfl := hr172 _ (os q243)
      refine .inl (⟨_, rfl, ⟨rfl, ?_⟩⟩)
      exact ret1 rfl rfl ⟨rfl, (hm232.pick [] (by decide) rfl)⟩
     ·refine cw_f rfl hb242 (cw_skip ?_)
      refine qn_block (qn_then ?_)
      refine cw_region ?_
      obtain ⟨x244, h245, q246⟩ := ob q243; clear q243
      refine t_rd rfl (rd_add64 h245 rfl rfl) (t_mv rfl rfl (rwt_n ?_))
      refine ⟨_, (os q246), (by repeat (first | exact Sub.nil _ | refine Sub.cons rfl ?_)), (hm232.pick [0, 1] (by decide) rfl)⟩
    ·refine cw_f rfl hb179 ?_
     refine cw_exit ?_
     refine qx_then (qx_then ?_)
     obtain rfl := hr172 _ (os q180)
     exact .inr (⟨_, rfl, ⟨rfl, (by repeat (first | exact Sub.nil _ | refine Sub.cons rfl ?_)), (hm178.pick [] (by decide) rfl)⟩⟩)
   ·skip
    intro e env247 w248 hX249
    rcases hX249 with hX249 | hX249
    ·obtain ⟨p251, rfl, hX249⟩ := hX249
     obtain ⟨rfl, hq253⟩ := hX249
     exact qr_block (qr_then ((by have e := os q175; subst e; exact hq253)))
    ·obtain ⟨p254, rfl, hX249⟩ := hX249
     obtain ⟨rfl, hs255, hm256⟩ := hX249
     refine qx_same (qn_then ?_)
     refine cw_sub hs255 ?_
     refine cw_sr (t_as rfl rfl (rwt_n ?_))
     refine cw_ret ?_
     obtain rfl := os q175
     exact ret1 rfl rfl ⟨rfl, (hm256.pick [] (by decide) rfl)⟩

theorem rollin_start_ok {N : Nat} {a0_Items : List T_Item} {a0_Weight : Int} {a1_Steps : Int} {a1_Codes : List Int} {res : Int × Int × List (List Int) × List (List Int) × Int × Int} (h : rollin_start N a0_Items a0_Weight a1_Steps a1_Codes = some res) {w : World} {v0_Items : Value} {v1_Codes : Value} (hv0_Items : Sl (Old w No) w v0_Items a0_Items) (hv1_Codes : Sl (Old w No) w v1_Codes a1_Codes) :
  CallsR Tryz.prog 85 [(Value.agg #[v0_Items, (Value.int .i64 a0_Weight)]), (Value.agg #[(Value.int .i64 a1_Steps), v1_Codes])] w (fun u w' => ∃ gr : Nat, ∃ (zy0 : List Hdr) (y1 : Value) (zy2 : List Hdr) (y3 : Value), u = (Value.pointer (some ⟨gr, 0, none⟩)) ∧ Mem w No [blk gr 131 [v0_Items, (Value.int .i64 res.1), (Value.int .i64 res.2.1), v1_Codes, y1, y3, (Value.int .i64 res.2.2.2.2.1), (Value.int .i64 res.2.2.2.2.2)], ownL 22 y1 (zy0 : List Hdr), rowsC 3 zy0 (res.2.2.1 : List (List Int)) none, ownL 22 y3 (zy2 : List Hdr), rowsC 3 zy2 (res.2.2.2.1 : List (List Int)) none] w') := by
 unfold rollin_start at h
 refine fn_ok Tryz.func85 rfl rfl rfl ?_
 have hm0 := Mem.nil w
 refine cw_sr ?_
 refine t_ef rfl (ef_box hm0 rfl rfl) ?_
 rintro _ w536 ⟨g534, rfl, hm535⟩
 refine t_ef rfl (ef_box hm535 rfl rfl) ?_
 rintro _ w539 ⟨g537, rfl, hm538⟩
 refine t_as rfl rfl (rwt_n (cw_seq ?_))
 obtain ⟨w551, he553⟩ : ∃ q, q = w539.drew := ⟨_, rfl⟩
 have hm552 := hm538.drew; rw [← he553] at hm552
 refine cw_region_s (fun q => (blk g534 27 [v0_Items, (Value.int .i64 a0_Weight)]).φ q ∧ (blk g537 30 [(Value.int .i64 a1_Steps), v1_Codes]).φ q) (cls [4] [6]) mixed ?_
 rintro _ rfl; rw [← he553]
 refine s_rd (i := 0) rfl (by kernel_rfl) rfl (fun w550 hS => (rd_ld tA27 rfl (cells_blk hS.1) rfl)) ⟨(hm552.get (k := 1) rfl), (hm552.get (k := 0) rfl)⟩ ?_
 refine s_rd (i := 1) rfl (by kernel_rfl) rfl (fun w550 hS => (rd_ld tA30 rfl (cells_blk hS.2) rfl)) ⟨(hm552.get (k := 1) rfl), (hm552.get (k := 0) rfl)⟩ ?_
 refine s_rp (i := 2) rfl (by kernel_rfl) rfl (fun _ => (rd_fld tF30_0 rfl)) ?_
 refine s_rd (i := 3) rfl (by kernel_rfl) rfl (fun w550 hS => (rd_ld1 tO3 rfl (cells_blk hS.2) (off := 0) rfl)) ⟨(hm552.get (k := 1) rfl), (hm552.get (k := 0) rfl)⟩ ?_
 obtain ⟨l564, h565, q566⟩ := ob h; clear h
 refine s_ef (i := 4) rfl (by kernel_rfl) rfl (ef_make (z := nilH) hm552 tS41 tE22 rfl rfl rfl (mkL_h h565)) (by decide) ?_ ?_
 ·intro v567 w569 hm568
  have hm570 := hm568.rowsRep (α := Int) 3 h565
  intro _
  exact ⟨(hm570.get (k := 3) rfl), (hm570.get (k := 2) rfl)⟩
 intro v567 w569 hm568
 have hm570 := hm568.rowsRep (α := Int) 3 h565
 refine s_rp (i := 5) rfl (by kernel_rfl) rfl (fun _ => (rd_build (cs := #[v0_Items, (Value.int .i64 a0_Weight), (Value.int .i64 a1_Steps), v1_Codes, v567, (Value.slice none 0 0), (Value.int .i64 0), (Value.int .i64 0)]) rfl (by obtain ⟨_, _, e⟩ := ((hv0_Items.of_old hm570)).val; rw [e]; clear e; obtain ⟨_, _, e⟩ := ((hv1_Codes.of_old hm570)).val; rw [e]; clear e; obtain ⟨_, _, e⟩ := (((Nl.mk (hm570.sl_call 1 rfl) (hm570.rows_call 0 rfl)).sl)).val; rw [e]; clear e; kernel_rfl))) ?_
 refine s_ef (i := 6) rfl (by kernel_rfl) rfl (ef_box hm570 rfl rfl) (by decide) (fun _ _ _ q => absurd q (by decide)) ?_
 rintro _ w573 ⟨g571, rfl, hm572⟩
 refine s_rp (i := 7) rfl (by kernel_rfl) rfl (fun _ => (rd_assign rfl)) ?_
 refine s_nil (by kernel_rfl) ?_
 refine qn_then (cw_seq (cw_sr (t_rd rfl (rd_fld tF27_0 rfl) ?_)))
 refine t_rd rfl (rd_ld1 tO25 rfl (hm572.blk 4 rfl) (off := 0) rfl) ?_
 refine t_rd rfl (rd_lenS tS25 rfl (hv0_Items.of_old hm572)) ?_
 refine t_mv rfl rfl (rwt_n (cw_block ?_))
 have hm711 := hm572.addNil (α := Hdr) 22
 have hm712 := hm711.rowsNil (α := Int) 3
 obtain ⟨r949, hit950, q951⟩ := ob q566; clear q566
 refine cw_loop2 (I := fun q envq wq => ∃ (v941 : Value) (zs942 : List Hdr), Sub [(5, (Value.pointer (some ⟨g571, 0, none⟩))), (16, v0_Items), (17, (Value.int .i64 (List.length a0_Items : Int))), (18, (Value.int .i64 q.1))] envq ∧ Mem w No [rowsC 3 zs942 (q.2 : List (List Int)) none, ownL 22 v941 (zs942 : List Hdr), blk g571 131 [v0_Items, (Value.int .i64 a0_Weight), (Value.int .i64 a1_Steps), v1_Codes, v567, v941, (Value.int .i64 0), (Value.int .i64 0)], rowsC 3 (List.replicate (Int.toNat a1_Steps) nilH) (l564 : List (List Int)) none, ownL 22 v567 ((List.replicate (Int.toNat a1_Steps) nilH) : List Hdr)] wq) (X := fun eq envq wq => eq = .exit 0 ∧ ∃ (v937 : Value) (zs938 : List Hdr), Sub [(5, (Value.pointer (some ⟨g571, 0, none⟩)))] envq ∧ Mem w No [rowsC 3 zs938 (r949 : List (List Int)) none, ownL 22 v937 (zs938 : List Hdr), blk g571 131 [v0_Items, (Value.int .i64 a0_Weight), (Value.int .i64 a1_Steps), v1_Codes, v567, v937, (Value.int .i64 0), (Value.int .i64 0)], rowsC 3 (List.replicate (Int.toNat a1_Steps) nilH) (l564 : List (List Int)) none, ownL 22 v567 ((List.replicate (Int.toNat a1_Steps) nilH) : List Hdr)] wq) hit950 ⟨(Value.slice none 0 0), [], (by repeat (first | exact Sub.nil _ | refine Sub.cons rfl ?_)), (hm712.pick [0, 1, 2, 3, 4] (by decide) rfl)⟩ ?_ ?_
 ·rintro ⟨i939, l940⟩ x944 env945 w946 hf947 hr948 ⟨v941, zs942, hs_, hm_⟩
  have hs_ : Sub [(5, (Value.pointer (some ⟨g571, 0, none⟩))), (16, v0_Items), (17, (Value.int .i64 (List.length a0_Items : Int))), (18, (Value.int .i64 i939))] env945 := hs_
  have hm952 : Mem w No [rowsC 3 zs942 (l940 : List (List Int)) none, ownL 22 v941 (zs942 : List Hdr), blk g571 131 [v0_Items, (Value.int .i64 a0_Weight), (Value.int .i64 a1_Steps), v1_Codes, v567, v941, (Value.int .i64 0), (Value.int .i64 0)], rowsC 3 (List.replicate (Int.toNat a1_Steps) nilH) (l564 : List (List Int)) none, ownL 22 v567 ((List.replicate (Int.toNat a1_Steps) nilH) : List Hdr)] w946 := hm_
  refine cw_sub hs_ ?_
  clear hs_ hm_ q951
  have h : rollin_start_l4 N a0_Items i939 l940 = some x944 := hf947
  clear hf947
  refine cw_sr (t_rd rfl (rd_lss rfl rfl) (rwt_n (cw_seq ?_)))
  obtain ⟨hb953, q954⟩ | ⟨hb953, q954⟩ := oi h <;> clear h
  ·refine cw_t rfl hb953 (cw_skip (qn_then (cw_seq (cw_block (cw_sr ?_)))))
   obtain ⟨x955, h956, q957⟩ := ob q954; clear q954
   refine t_rd rfl (rd_index tS25 rfl rfl (hv0_Items.of_old hm952) h956) ?_
   refine t_rd rfl (rd_ld tA40 rfl ((hv0_Items.of_old hm952).cells h956) rfl) ?_
   refine t_ef rfl (ef_alloc hm952 tZ40 rfl) ?_
   rintro _ w960 ⟨g958, rfl, hm959⟩
   refine t_ef0 (ef_stw (k := 0) hm959 tA40 rfl rfl (oc_cons rfl (oc_cons rfl (oc_cons rfl (oc_cons rfl oc_nil)))) rfl rfl rfl) ?_
   intro _ w962 hm961
   refine rwt_n (cw_block ?_)
   obtain ⟨r1026, hit1027, q1028⟩ := ob q957; clear q957
   refine cw_loop2 (I := fun q envq wq => ∃ (v1018 : Value) (zs1019 : List Hdr), Sub [(5, (Value.pointer (some ⟨g571, 0, none⟩))), (7, (Value.pointer (some ⟨g958, 0, none⟩))), (16, v0_Items), (17, (Value.int .i64 (List.length a0_Items : Int))), (18, (Value.int .i64 i939))] envq ∧ Mem w No [blk g958 40 [(Value.int .i64 x955.Train), (Value.int .i64 x955.Block), (Value.int .i64 x955.Round), (Value.int .i64 x955.Length)], rowsC 3 zs1019 (q : List (List Int)) none, ownL 22 v1018 (zs1019 : List Hdr), blk g571 131 [v0_Items, (Value.int .i64 a0_Weight), (Value.int .i64 a1_Steps), v1_Codes, v567, v1018, (Value.int .i64 0), (Value.int .i64 0)], rowsC 3 (List.replicate (Int.toNat a1_Steps) nilH) (l564 : List (List Int)) none, ownL 22 v567 ((List.replicate (Int.toNat a1_Steps) nilH) : List Hdr)] wq) (X := fun eq envq wq => eq = .exit 2 ∧ ∃ (v1015 : Value) (zs1016 : List Hdr), Sub [(5, (Value.pointer (some ⟨g571, 0, none⟩))), (16, v0_Items), (17, (Value.int .i64 (List.length a0_Items : Int))), (18, (Value.int .i64 i939))] envq ∧ Mem w No [rowsC 3 zs1016 (r1026 : List (List Int)) none, ownL 22 v1015 (zs1016 : List Hdr), blk g571 131 [v0_Items, (Value.int .i64 a0_Weight), (Value.int .i64 a1_Steps), v1_Codes, v567, v1015, (Value.int .i64 0), (Value.int .i64 0)], rowsC 3 (List.replicate (Int.toNat a1_Steps) nilH) (l564 : List (List Int)) none, ownL 22 v567 ((List.replicate (Int.toNat a1_Steps) nilH) : List Hdr)] wq) hit1027 ⟨v941, zs942, (by repeat (first | exact Sub.nil _ | refine Sub.cons rfl ?_)), (hm961.pick [0, 1, 2, 3, 4, 5] (by decide) rfl)⟩ ?_ ?_
   ·rintro l1017 x1021 env1022 w1023 hf1024 hr1025 ⟨v1018, zs1019, hs_, hm_⟩
    have hs_ : Sub [(5, (Value.pointer (some ⟨g571, 0, none⟩))), (7, (Value.pointer (some ⟨g958, 0, none⟩))), (16, v0_Items), (17, (Value.int .i64 (List.length a0_Items : Int))), (18, (Value.int .i64 i939))] env1022 := hs_
    have hm1029 : Mem w No [blk g958 40 [(Value.int .i64 x955.Train), (Value.int .i64 x955.Block), (Value.int .i64 x955.Round), (Value.int .i64 x955.Length)], rowsC 3 zs1019 (l1017 : List (List Int)) none, ownL 22 v1018 (zs1019 : List Hdr), blk g571 131 [v0_Items, (Value.int .i64 a0_Weight), (Value.int .i64 a1_Steps), v1_Codes, v567, v1018, (Value.int .i64 0), (Value.int .i64 0)], rowsC 3 (List.replicate (Int.toNat a1_Steps) nilH) (l564 : List (List Int)) none, ownL 22 v567 ((List.replicate (Int.toNat a1_Steps) nilH) : List Hdr)] w1023 := hm_
    refine cw_sub hs_ ?_
    clear hs_ hm_ q1028
    have h : rollin_start_l5 N x955 l1017 = some x1021 := hf1024
    clear hf1024
    refine cw_seq (cw_seq ?_)
    obtain ⟨w1031, he1033⟩ : ∃ q, q = w1023.drew := ⟨_, rfl⟩
    have hm1032 := hm1029.drew; rw [← he1033] at hm1032
    refine cw_region_s (fun q => q = w1031) (cls [] []) mixed ?_
    rintro _ rfl; rw [← he1033]
    refine s_rp (i := 0) rfl (by kernel_rfl) rfl (fun _ => (rd_move rfl)) ?_
    refine s_rp (i := 1) rfl (by kernel_rfl) rfl (fun _ => (rd_nilCheck rfl)) ?_
    refine s_rp (i := 2) rfl (by kernel_rfl) rfl (fun _ => (rd_fld tF131_3 rfl)) ?_
    refine s_rd (i := 3) rfl (by kernel_rfl) rfl (fun _ hS => by rw [hS]; exact (rd_ld1 tO41 rfl (hm1032.blk 3 rfl) (off := 5) rfl)) rfl ?_
    refine s_rp (i := 4) rfl (by kernel_rfl) rfl (fun _ => (rd_lenS tS41 rfl ((Nl.mk (hm1032.sl_call 2 rfl) (hm1032.rows_call 1 rfl)).sl))) ?_
    refine s_rp (i := 5) rfl (by kernel_rfl) rfl (fun _ => (rd_fld tF40_0 rfl)) ?_
    refine s_rd (i := 6) rfl (by kernel_rfl) rfl (fun _ hS => by rw [hS]; exact (rd_ld1 tO3 rfl (hm1032.blk 0 rfl) (off := 0) rfl)) rfl ?_
    refine s_rp (i := 7) rfl (by kernel_rfl) rfl (fun _ => (rd_leq rfl rfl)) ?_
    refine s_nil (by kernel_rfl) ?_
    refine qn_then ?_
    obtain ⟨hb1034, q1035⟩ | ⟨hb1034, q1035⟩ := oi h <;> clear h
    ·refine cw_t rfl hb1034 (cw_skip (qn_then (cw_block ?_)))
     refine cw_region ?_
     refine t_mv rfl rfl (t_mv rfl rfl ?_)
     refine t_rd rfl (rd_nilCheck rfl) ?_
     refine t_rd rfl (rd_fld tF131_3 rfl) ?_
     refine t_rd rfl (rd_ld1 tO41 rfl (hm1032.blk 3 rfl) (off := 5) rfl) ?_
     obtain ⟨zd1036, ez1037⟩ : ∃ z : Hdr, z.1 = (Value.slice none 0 0) := ⟨⟨(Value.slice none 0 0), sl_one (Sl.nil (α := Int) No w1031)⟩, rfl⟩
     refine t_ef rfl (ef_bslice (l := ([zd1036] : List Hdr)) hm1032 tS41 rfl (cs := #[(Value.slice none 0 0)]) (by unfold bsl; kernel_rfl) (by show [zd1036.1] = [(Value.slice none 0 0)]; rw [ez1037]) rfl) ?_
     intro v1038 w1040 hm1039
     have hm1041 := hm1039.addNil (α := Int) 3
     obtain ⟨l1042, h1043, q1044⟩ := ob q1035; clear q1035
     obtain ⟨ha1045, he1046⟩ := app_h h1043 (hm1041.get (k := 3) rfl).1 ((Nl.mk (hm1041.sl_call 1 rfl) (Rows.cons (hm1041.sl_call 0 rfl) ez1037 Rows.nil))).rows.1
     refine t_ef rfl (ef_append (k := 4) hm1041 tS41 tE22 rfl rfl rfl rfl ((Nl.mk (hm1041.sl_call 1 rfl) (Rows.cons (hm1041.sl_call 0 rfl) ez1037 Rows.nil))).sp ha1045) ?_
     intro v1047 w1049 hm1048
     have hm1050 := hm1048.pick [3, 0, 1, 2, 4, 5, 6, 7] (L' := [rowsC 3 zs1019 (l1017 : List (List Int)) none, ownL 3 (Value.slice none 0 0) ([] : List Int), ownL 22 v1038 ([zd1036] : List Hdr), blk g958 40 [(Value.int .i64 x955.Train), (Value.int .i64 x955.Block), (Value.int .i64 x955.Round), (Value.int .i64 x955.Length)], ownL 22 v1047 ((zs1019 ++ [zd1036]) : List Hdr), blk g571 131 [v0_Items, (Value.int .i64 a0_Weight), (Value.int .i64 a1_Steps), v1_Codes, v567, v1018, (Value.int .i64 0), (Value.int .i64 0)], rowsC 3 (List.replicate (Int.toNat a1_Steps) nilH) (l564 : List (List Int)) none, ownL 22 v567 ((List.replicate (Int.toNat a1_Steps) nilH) : List Hdr)]) (by decide) rfl
     have hm1051 := hm1050.absorb ez1037 he1046
     refine t_rd rfl (rd_nilCheck rfl) ?_
     refine t_rd rfl (rd_fld tF131_3 rfl) ?_
     refine t_ef0 (ef_st1 (k := 4) (off := 5) hm1051 tO41 rfl rfl rfl (sl_one ((Nl.mk (hm1051.sl_call 3 rfl) (hm1051.rows_call 0 rfl)).sl)) rfl rfl) ?_
     intro _ w1053 hm1052
     refine rwt_nil ?_
     refine qn_block (qn_then ?_)
     refine ⟨_, (os q1044), v1047, (zs1019 ++ [zd1036]), (by repeat (first | exact Sub.nil _ | refine Sub.cons rfl ?_)), (hm1052.pick [2, 0, 3, 4, 5, 6] (by decide) rfl)⟩
    ·refine cw_f rfl hb1034 ?_
     refine cw_exit ?_
     refine qx_then (qx_then ?_)
     obtain rfl := hr1025 _ (os q1035)
     exact ⟨rfl, v1018, zs1019, (by repeat (first | exact Sub.nil _ | refine Sub.cons rfl ?_)), (hm1032.pick [1, 2, 3, 4, 5] (by decide) rfl)⟩
   ·skip
    intro e env1054 w1055 hX1056
    obtain ⟨rfl, v1015, zs1016, hs1057, hm1058⟩ := hX1056
    refine qx_same (qn_block (qn_then ?_))
    refine cw_sub hs1057 ?_
    refine cw_region ?_
    obtain ⟨x1059, h1060, q1061⟩ := ob q1028; clear q1028
    refine t_rd rfl (rd_add64 h1060 rfl rfl) (t_mv rfl rfl (rwt_n ?_))
    refine ⟨_, (os q1061), v1015, zs1016, (by repeat (first | exact Sub.nil _ | refine Sub.cons rfl ?_)), (hm1058.pick [0, 1, 2, 3, 4] (by decide) rfl)⟩
  ·refine cw_f rfl hb953 ?_
   refine cw_exit ?_
   refine qx_then (qx_then ?_)
   obtain rfl := hr948 _ (os q954)
   exact ⟨rfl, v941, zs942, (by repeat (first | exact Sub.nil _ | refine Sub.cons rfl ?_)), (hm952.pick [0, 1, 2, 3, 4] (by decide) rfl)⟩
 ·skip
  intro e env1062 w1063 hX1064
  obtain ⟨rfl, v937, zs938, hs1065, hm1066⟩ := hX1064
  refine qx_same (qn_then ?_)
  refine cw_sub hs1065 ?_
  refine cw_sr (t_mv rfl rfl (t_as rfl rfl (rwt_n ?_)))
  refine cw_ret ?_
  obtain rfl := os q951
  exact ret1 rfl rfl ⟨g571, (List.replicate (Int.toNat a1_Steps) nilH), v567, zs938, v937, rfl, (hm1066.pick [2, 4, 3, 1, 0] (by decide) rfl)⟩

theorem machine_push_ok {N : Nat} {a0_j_Items : List T_Item} {a0_j_Weight : Int} {a0_p_Steps : Int} {a0_p_Codes : List Int} {a0_steps : List (List Int)} {a0_trains : List (List Int)} {a0_moves : Int} {a0_pushes : Int} {a1 : Int} {a2 : Int} {res : List (List Int) × List (List Int) × Int} (h : machine_push N a0_j_Items a0_j_Weight a0_p_Steps a0_p_Codes a0_steps a0_trains a0_moves a0_pushes a1 a2 = some res) {w : World} {g0 : Nat} {v0_j_Items : Value} {v0_p_Codes : Value} {v0_steps : Value} {zs_a0_steps : List Hdr} {v0_trains : Value} {zs_a0_trains : List Hdr} (hv0_j_Items : Sl (Old w (bunC [blk g0 131 [v0_j_Items, (Value.int .i64 a0_j_Weight), (Value.int .i64 a0_p_Steps), v0_p_Codes, v0_steps, v0_trains, (Value.int .i64 a0_moves), (Value.int .i64 a0_pushes)], ownL 22 v0_steps (zs_a0_steps : List Hdr), rowsC 3 zs_a0_steps (a0_steps : List (List Int)) none, ownL 22 v0_trains (zs_a0_trains : List Hdr), rowsC 3 zs_a0_trains (a0_trains : List (List Int)) none]).D) w v0_j_Items a0_j_Items) (hv0_p_Codes : Sl (Old w (bunC [blk g0 131 [v0_j_Items, (Value.int .i64 a0_j_Weight), (Value.int .i64 a0_p_Steps), v0_p_Codes, v0_steps, v0_trains, (Value.int .i64 a0_moves), (Value.int .i64 a0_pushes)], ownL 22 v0_steps (zs_a0_steps : List Hdr), rowsC 3 zs_a0_steps (a0_steps : List (List Int)) none, ownL 22 v0_trains (zs_a0_trains : List Hdr), rowsC 3 zs_a0_trains (a0_trains : List (List Int)) none]).D) w v0_p_Codes a0_p_Codes) (hkb : (bunC [blk g0 131 [v0_j_Items, (Value.int .i64 a0_j_Weight), (Value.int .i64 a0_p_Steps), v0_p_Codes, v0_steps, v0_trains, (Value.int .i64 a0_moves), (Value.int .i64 a0_pushes)], ownL 22 v0_steps (zs_a0_steps : List Hdr), rowsC 3 zs_a0_steps (a0_steps : List (List Int)) none, ownL 22 v0_trains (zs_a0_trains : List Hdr), rowsC 3 zs_a0_trains (a0_trains : List (List Int)) none]).φ w) :
  CallsR Tryz.prog 101 [(Value.pointer (some ⟨g0, 0, none⟩)), (Value.int .i64 a1), (Value.int .i64 a2)] w (fun u w' => ∃ (zy0 : List Hdr) (zy1 : List Hdr), u = (Value.tuple #[]) ∧ Mem w (bunC [blk g0 131 [v0_j_Items, (Value.int .i64 a0_j_Weight), (Value.int .i64 a0_p_Steps), v0_p_Codes, v0_steps, v0_trains, (Value.int .i64 a0_moves), (Value.int .i64 a0_pushes)], ownL 22 v0_steps (zs_a0_steps : List Hdr), rowsC 3 zs_a0_steps (a0_steps : List (List Int)) none, ownL 22 v0_trains (zs_a0_trains : List Hdr), rowsC 3 zs_a0_trains (a0_trains : List (List Int)) none]).D [bunC [blk g0 131 [v0_j_Items, (Value.int .i64 a0_j_Weight), (Value.int .i64 a0_p_Steps), v0_p_Codes, v0_steps, v0_trains, (Value.int .i64 res.2.2), (Value.int .i64 a0_pushes)], ownL 22 v0_steps (zy0 : List Hdr), rowsC 3 zy0 (res.1 : List (List Int)) none, ownL 22 v0_trains (zy1 : List Hdr), rowsC 3 zy1 (res.2.1 : List (List Int)) none]] w') := by
 unfold machine_push at h
 refine fn_ok Tryz.func101 rfl rfl rfl ?_
 have hm0 := Mem.opened hkb
 refine cw_sr (t_mv rfl rfl ?_)
 refine t_rd rfl (rd_nilCheck rfl) ?_
 refine t_rd rfl (rd_fld tF131_4 rfl) ?_
 refine t_rd rfl (rd_ld1 tO3 rfl (hm0.blk 0 rfl) (off := 6) rfl) ?_
 obtain ⟨x397, h398, q399⟩ := ob h; clear h
 refine t_rd rfl (rd_add64 h398 rfl rfl) ?_
 refine t_rd rfl (rd_nilCheck rfl) ?_
 refine t_rd rfl (rd_fld tF131_4 rfl) ?_
 refine t_ef0 (ef_st1 (k := 0) (off := 6) hm0 tO3 rfl rfl rfl rfl rfl rfl) ?_
 intro _ w401 hm400
 refine rwt_n (cw_seq (cw_sr (t_mv rfl rfl (t_as rfl rfl (rwt_n ?_)))))
 refine cw_block ?_
 obtain ⟨r600, hit601, q602⟩ := ob q399; clear q399
 refine cw_loop2 (I := fun q envq wq => Sub [(0, (Value.pointer (some ⟨g0, 0, none⟩))), (1, (Value.int .i64 a1)), (6, (Value.int .i64 q))] envq ∧ Mem w (bunC [blk g0 131 [v0_j_Items, (Value.int .i64 a0_j_Weight), (Value.int .i64 a0_p_Steps), v0_p_Codes, v0_steps, v0_trains, (Value.int .i64 a0_moves), (Value.int .i64 a0_pushes)], ownL 22 v0_steps (zs_a0_steps : List Hdr), rowsC 3 zs_a0_steps (a0_steps : List (List Int)) none, ownL 22 v0_trains (zs_a0_trains : List Hdr), rowsC 3 zs_a0_trains (a0_trains : List (List Int)) none]).D [blk g0 131 [v0_j_Items, (Value.int .i64 a0_j_Weight), (Value.int .i64 a0_p_Steps), v0_p_Codes, v0_steps, v0_trains, (Value.int .i64 x397), (Value.int .i64 a0_pushes)], ownL 22 v0_steps (zs_a0_steps : List Hdr), rowsC 3 zs_a0_steps (a0_steps : List (List Int)) none, ownL 22 v0_trains (zs_a0_trains : List Hdr), rowsC 3 zs_a0_trains (a0_trains : List (List Int)) none] wq) (X := fun eq envq wq => (∃ p603, r600 = (Sum.inl p603) ∧ eq = .ret ∧ retQ Tryz.prog 78 Tryz.f101 (fun u w' => ∃ (zy0 : List Hdr) (zy1 : List Hdr), u = (Value.tuple #[]) ∧ Mem w (bunC [blk g0 131 [v0_j_Items, (Value.int .i64 a0_j_Weight), (Value.int .i64 a0_p_Steps), v0_p_Codes, v0_steps, v0_trains, (Value.int .i64 a0_moves), (Value.int .i64 a0_pushes)], ownL 22 v0_steps (zs_a0_steps : List Hdr), rowsC 3 zs_a0_steps (a0_steps : List (List Int)) none, ownL 22 v0_trains (zs_a0_trains : List Hdr), rowsC 3 zs_a0_trains (a0_trains : List (List Int)) none]).D [bunC [blk g0 131 [v0_j_Items, (Value.int .i64 a0_j_Weight), (Value.int .i64 a0_p_Steps), v0_p_Codes, v0_steps, v0_trains, (Value.int .i64 p603.2.2), (Value.int .i64 a0_pushes)], ownL 22 v0_steps (zy0 : List Hdr), rowsC 3 zy0 (p603.1 : List (List Int)) none, ownL 22 v0_trains (zy1 : List Hdr), rowsC 3 zy1 (p603.2.1 : List (List Int)) none]] w') .ret envq wq) ∨ (∃ p604, r600 = (Sum.inr p604) ∧ eq = .exit 0 ∧ Sub [(0, (Value.pointer (some ⟨g0, 0, none⟩))), (1, (Value.int .i64 a1))] envq ∧ Mem w (bunC [blk g0 131 [v0_j_Items, (Value.int .i64 a0_j_Weight), (Value.int .i64 a0_p_Steps), v0_p_Codes, v0_steps, v0_trains, (Value.int .i64 a0_moves), (Value.int .i64 a0_pushes)], ownL 22 v0_steps (zs_a0_steps : List Hdr), rowsC 3 zs_a0_steps (a0_steps : List (List Int)) none, ownL 22 v0_trains (zs_a0_trains : List Hdr), rowsC 3 zs_a0_trains (a0_trains : List (List Int)) none]).D [blk g0 131 [v0_j_Items, (Value.int .i64 a0_j_Weight), (Value.int .i64 a0_p_Steps), v0_p_Codes, v0_steps, v0_trains, (Value.int .i64 x397), (Value.int .i64 a0_pushes)], ownL 22 v0_steps (zs_a0_steps : List Hdr), rowsC 3 zs_a0_steps (a0_steps : List (List Int)) none, ownL 22 v0_trains (zs_a0_trains : List Hdr), rowsC 3 zs_a0_trains (a0_trains : List (List Int)) none] wq)) hit601 ⟨(by repeat (first | exact Sub.nil _ | refine Sub.cons rfl ?_)), (hm400.pick [0, 1, 2, 3, 4] (by decide) rfl)⟩ ?_ ?_
 ·rintro i593 x595 env596 w597 hf598 hr599 ⟨hs_, hm_⟩
  have hs_ : Sub [(0, (Value.pointer (some ⟨g0, 0, none⟩))), (1, (Value.int .i64 a1)), (6, (Value.int .i64 i593))] env596 := hs_
  have hm605 : Mem w (bunC [blk g0 131 [v0_j_Items, (Value.int .i64 a0_j_Weight), (Value.int .i64 a0_p_Steps), v0_p_Codes, v0_steps, v0_trains, (Value.int .i64 a0_moves), (Value.int .i64 a0_pushes)], ownL 22 v0_steps (zs_a0_steps : List Hdr), rowsC 3 zs_a0_steps (a0_steps : List (List Int)) none, ownL 22 v0_trains (zs_a0_trains : List Hdr), rowsC 3 zs_a0_trains (a0_trains : List (List Int)) none]).D [blk g0 131 [v0_j_Items, (Value.int .i64 a0_j_Weight), (Value.int .i64 a0_p_Steps), v0_p_Codes, v0_steps, v0_trains, (Value.int .i64 x397), (Value.int .i64 a0_pushes)], ownL 22 v0_steps (zs_a0_steps : List Hdr), rowsC 3 zs_a0_steps (a0_steps : List (List Int)) none, ownL 22 v0_trains (zs_a0_trains : List Hdr), rowsC 3 zs_a0_trains (a0_trains : List (List Int)) none] w597 := hm_
  refine cw_sub hs_ ?_
  clear hs_ hm_ q602
  have h : machine_push_l1 N a0_p_Steps a0_p_Codes a0_steps a0_trains a1 x397 i593 = some x595 := hf598
  clear hf598
  refine cw_seq (cw_sr (t_mv rfl rfl (t_mv rfl rfl ?_)))
  refine t_rd rfl (rd_nilCheck rfl) ?_
  refine t_rd rfl (rd_fld tF131_1 rfl) (t_rd rfl (rd_fld tF30_0 rfl) ?_)
  refine t_rd rfl (rd_ld1 tO3 rfl (hm605.blk 0 rfl) (off := 2) rfl) ?_
  refine t_rd rfl (rd_lss rfl rfl) (rwt_n ?_)
  obtain ⟨hb606, q607⟩ | ⟨hb606, q607⟩ := oi h <;> clear h
  ·refine cw_t rfl hb606 (cw_skip (qn_then (cw_seq (cw_block (cw_sr ?_)))))
   refine t_mv rfl rfl ?_
   refine t_rd rfl (rd_nilCheck rfl) ?_
   refine t_rd rfl (rd_fld tF131_1 rfl) (t_rd rfl (rd_fld tF30_1 rfl) ?_)
   refine t_rd rfl (rd_ld1 tO22 rfl (hm605.blk 0 rfl) (off := 3) rfl) ?_
   refine t_mv rfl rfl ?_
   obtain ⟨x608, h609, q610⟩ := ob q607; clear q607
   refine t_rd rfl (rd_index tS22 rfl rfl (hv0_p_Codes.of_old hm605) h609) ?_
   refine t_rd rfl (rd_ld1 tO3 rfl ((hv0_p_Codes.of_old hm605).cells h609) (off := 0) rfl) ?_
   refine t_mv rfl rfl ?_
   obtain ⟨x611, h612, q613⟩ := ob q610; clear q610
   refine t_rd rfl (rd_shr_i64 h612 rfl rfl) ?_
   obtain ⟨x614, h615, q616⟩ := ob q613; clear q613
   refine t_rd rfl (rd_bits_and_i64 h615 rfl rfl) ?_
   refine t_rd rfl (rd_eql rfl rfl) ?_
   refine rwt_n ?_
   obtain ⟨hb617, q618⟩ | ⟨hb617, q618⟩ := oi q616 <;> clear q616
   ·refine cw_t rfl hb617 (cw_seq ?_)
    obtain ⟨w645, he647⟩ : ∃ q, q = w597.drew := ⟨_, rfl⟩
    have hm646 := hm605.drew; rw [← he647] at hm646
    refine cw_region_s (fun q => (blk g0 131 [v0_j_Items, (Value.int .i64 a0_j_Weight), (Value.int .i64 a0_p_Steps), v0_p_Codes, v0_steps, v0_trains, (Value.int .i64 x397), (Value.int .i64 a0_pushes)]).φ q ∧ (ownL 22 v0_steps (zs_a0_steps : List Hdr)).φ q) (cls [13, 14] [16]) mixed ?_
    rintro _ rfl; rw [← he647]
    refine s_rp (i := 0) rfl (by kernel_rfl) rfl (fun _ => (rd_move rfl)) ?_
    refine s_rp (i := 1) rfl (by kernel_rfl) rfl (fun _ => (rd_nilCheck rfl)) ?_
    refine s_rp (i := 2) rfl (by kernel_rfl) rfl (fun _ => (rd_fld tF131_2 rfl)) ?_
    refine s_rd (i := 3) rfl (by kernel_rfl) rfl (fun w644 hS => (rd_ld1 tO41 rfl (cells_blk hS.1) (off := 4) rfl)) ⟨(hm646.get (k := 0) rfl), (hm646.get (k := 1) rfl)⟩ ?_
    refine s_rp (i := 4) rfl (by kernel_rfl) rfl (fun _ => (rd_move rfl)) ?_
    refine s_rp (i := 5) rfl (by kernel_rfl) rfl (fun _ => (rd_move rfl)) ?_
    refine s_rp (i := 6) rfl (by kernel_rfl) rfl (fun _ => (rd_nilCheck rfl)) ?_
    refine s_rp (i := 7) rfl (by kernel_rfl) rfl (fun _ => (rd_fld tF131_2 rfl)) ?_
    refine s_rd (i := 8) rfl (by kernel_rfl) rfl (fun w644 hS => (rd_ld1 tO41 rfl (cells_blk hS.1) (off := 4) rfl)) ⟨(hm646.get (k := 0) rfl), (hm646.get (k := 1) rfl)⟩ ?_
    refine s_rp (i := 9) rfl (by kernel_rfl) rfl (fun _ => (rd_move rfl)) ?_
    obtain ⟨x673, h674, q675⟩ := ob q618; clear q618
    refine s_rp (i := 10) rfl (by kernel_rfl) rfl (fun _ => (rd_index tS41 rfl rfl ((Nl.mk (hm646.sl_call 1 rfl) (hm646.rows_call 2 rfl)).sl) h674)) ?_
    obtain ⟨zd676, hz677⟩ := (Nl.mk (hm646.sl_call 1 rfl) (hm646.rows_call 2 rfl)).row h674
    refine s_rd (i := 11) rfl (by kernel_rfl) rfl (fun w644 hS => (rd_ld1 tO22 rfl ((sl_of_own hS.2).cells hz677) (off := 0) rfl)) ⟨(hm646.get (k := 0) rfl), (hm646.get (k := 1) rfl)⟩ ?_
    refine s_rp (i := 12) rfl (by kernel_rfl) rfl (fun _ => (rd_move rfl)) ?_
    refine s_ef (i := 13) rfl (by kernel_rfl) rfl (ef_bslice (l := ([a1] : List Int)) hm646 tS22 rfl (cs := #[(Value.int .i64 a1)]) (by unfold bsl; kernel_rfl) rfl rfl) (by decide) ?_ ?_
    ·intro v678 w680 hm679
     intro _
     exact ⟨(hm679.get (k := 1) rfl), (hm679.get (k := 2) rfl)⟩
    intro v678 w680 hm679
    have hm681 := hm679.pick [3, 0, 1, 2, 4, 5] (L' := [rowsC 3 zs_a0_steps (a0_steps : List (List Int)) none, ownL 3 v678 ([a1] : List Int), blk g0 131 [v0_j_Items, (Value.int .i64 a0_j_Weight), (Value.int .i64 a0_p_Steps), v0_p_Codes, v0_steps, v0_trains, (Value.int .i64 x397), (Value.int .i64 a0_pushes)], ownL 22 v0_steps (zs_a0_steps : List Hdr), ownL 22 v0_trains (zs_a0_trains : List Hdr), rowsC 3 zs_a0_trains (a0_trains : List (List Int)) none]) (by decide) rfl
    have hm682 := hm681.focus hz677 h674
    obtain ⟨l683, h684, q685⟩ := ob q675; clear q675
    refine s_ef (i := 14) rfl (by kernel_rfl) rfl (ef_append (k := 1) hm682 tS22 tE3 rfl rfl rfl rfl (hm682.sl 2 rfl) h684) (by decide) ?_ ?_
    ·intro v686 w688 hm687
     intro _
     exact ⟨(hm687.get (k := 3) rfl), (hm687.get (k := 4) rfl)⟩
    intro v686 w688 hm687
    obtain ⟨zd689, hz690⟩ := rowI (hm687.get (k := 0) rfl).1 h674
    refine s_rp (i := 15) rfl (by kernel_rfl) rfl (fun _ => (rd_index (α := Hdr) tS41 rfl rfl (hm687.sl 4 rfl) hz690)) ?_
    obtain ⟨zd691, ez692⟩ : ∃ z : Hdr, z.1 = v686 := ⟨⟨v686, sl_one (hm687.sl 1 rfl)⟩, rfl⟩
    obtain ⟨zd693, hz694⟩ := rowI (hm687.get (k := 0) rfl).1 h674
    refine s_ef0 (i := 16) rfl (by kernel_rfl) (ef_stl (k := 4) (off := 0) (x' := zd691) hm687 tO22 rfl rfl (sl_one (hm687.sl 1 rfl)) rfl hz694 (by show [v686] = [zd691.1]; rw [ez692]) rfl) (by decide) (fun _ _ _ q => absurd q (by decide)) ?_
    intro _ w696 hm695
    have hm697 := hm695.fill ez692
    refine s_nil (by kernel_rfl) ?_
    refine qn_then ?_
    refine cw_ret ?_
    refine qr_block (qr_then (qr_then ?_))
    obtain rfl := hr599 _ (os q685)
    refine .inl (⟨_, rfl, ⟨rfl, ?_⟩⟩)
    exact ret0 rfl ⟨(List.set zs_a0_steps (Int.toNat i593) zd691), zs_a0_trains, rfl, (Mem.bundle [blk g0 131 [v0_j_Items, (Value.int .i64 a0_j_Weight), (Value.int .i64 a0_p_Steps), v0_p_Codes, v0_steps, v0_trains, (Value.int .i64 x397), (Value.int .i64 a0_pushes)], ownL 22 v0_steps ((List.set zs_a0_steps (Int.toNat i593) zd691) : List Hdr), rowsC 3 (List.set zs_a0_steps (Int.toNat i593) zd691) ((List.set a0_steps (Int.toNat i593) l683) : List (List Int)) none, ownL 22 v0_trains (zs_a0_trains : List Hdr), rowsC 3 zs_a0_trains (a0_trains : List (List Int)) none] [] (hm697.pick (L' := [blk g0 131 [v0_j_Items, (Value.int .i64 a0_j_Weight), (Value.int .i64 a0_p_Steps), v0_p_Codes, v0_steps, v0_trains, (Value.int .i64 x397), (Value.int .i64 a0_pushes)], ownL 22 v0_steps ((List.set zs_a0_steps (Int.toNat i593) zd691) : List Hdr), rowsC 3 (List.set zs_a0_steps (Int.toNat i593) zd691) ((List.set a0_steps (Int.toNat i593) l683) : List (List Int)) none, ownL 22 v0_trains (zs_a0_trains : List Hdr), rowsC 3 zs_a0_trains (a0_trains : List (List Int)) none]) [2, 3, 0, 4, 5] (by decide) rfl))⟩
   ·refine cw_f rfl hb617 (cw_skip ?_)
    refine qn_block (qn_then ?_)
    refine cw_region ?_
    refine t_mv rfl rfl ?_
    obtain ⟨x698, h699, q700⟩ := ob q618; clear q618
    refine t_rd rfl (rd_add64 h699 rfl rfl) (t_as rfl rfl (rwt_n ?_))
    refine ⟨_, (os q700), (by repeat (first | exact Sub.nil _ | refine Sub.cons rfl ?_)), (hm605.pick [0, 1, 2, 3, 4] (by decide) rfl)⟩
  ·refine cw_f rfl hb606 ?_
   refine cw_exit ?_
   refine qx_then (qx_then ?_)
   obtain rfl := hr599 _ (os q607)
   exact .inr (⟨_, rfl, ⟨rfl, (by repeat (first | exact Sub.nil _ | refine Sub.cons rfl ?_)), (hm605.pick [0, 1, 2, 3, 4] (by decide) rfl)⟩⟩)
 ·skip
  intro e env701 w702 hX703
  rcases hX703 with hX703 | hX703
  ·obtain ⟨p705, rfl, hX703⟩ := hX703
   obtain ⟨rfl, hq707⟩ := hX703
   exact qr_block (qr_then ((by have e := os q602; subst e; exact hq707)))
  ·obtain ⟨p708, rfl, hX703⟩ := hX703
   obtain ⟨rfl, hs709, hm710⟩ := hX703
   refine qx_same (qn_then ?_)
   refine cw_sub hs709 ?_
   refine cw_sr (t_mv rfl rfl ?_)
   refine t_rd rfl (rd_nilCheck rfl) ?_
   refine t_rd rfl (rd_fld tF131_0 rfl) (t_rd rfl (rd_fld tF27_0 rfl) ?_)
   refine t_rd rfl (rd_ld1 tO25 rfl (hm710.blk 0 rfl) (off := 0) rfl) ?_
   refine t_mv rfl rfl ?_
   obtain ⟨x711, h712, q713⟩ := ob q602; clear q602
   refine t_rd rfl (rd_index tS25 rfl rfl (hv0_j_Items.of_old hm710) h712) ?_
   refine t_rd rfl (rd_fld tF40_0 rfl) ?_
   refine t_rd rfl (rd_ld1 tO3 rfl ((hv0_j_Items.of_old hm710).cells h712) (off := 0) rfl) ?_
   refine t_as rfl rfl (rwt_n ?_)
   obtain ⟨w740, he742⟩ : ∃ q, q = w702.drew := ⟨_, rfl⟩
   have hm741 := hm710.drew; rw [← he742] at hm741
   refine cw_region_s (fun q => (blk g0 131 [v0_j_Items, (Value.int .i64 a0_j_Weight), (Value.int .i64 a0_p_Steps), v0_p_Codes, v0_steps, v0_trains, (Value.int .i64 x397), (Value.int .i64 a0_pushes)]).φ q ∧ (ownL 22 v0_trains (zs_a0_trains : List Hdr)).φ q) (cls [13, 14] [16]) mixed ?_
   rintro _ rfl; rw [← he742]
   refine s_rp (i := 0) rfl (by kernel_rfl) rfl (fun _ => (rd_move rfl)) ?_
   refine s_rp (i := 1) rfl (by kernel_rfl) rfl (fun _ => (rd_nilCheck rfl)) ?_
   refine s_rp (i := 2) rfl (by kernel_rfl) rfl (fun _ => (rd_fld tF131_3 rfl)) ?_
   refine s_rd (i := 3) rfl (by kernel_rfl) rfl (fun w739 hS => (rd_ld1 tO41 rfl (cells_blk hS.1) (off := 5) rfl)) ⟨(hm741.get (k := 0) rfl), (hm741.get (k := 3) rfl)⟩ ?_
   refine s_rp (i := 4) rfl (by kernel_rfl) rfl (fun _ => (rd_move rfl)) ?_
   refine s_rp (i := 5) rfl (by kernel_rfl) rfl (fun _ => (rd_move rfl)) ?_
   refine s_rp (i := 6) rfl (by kernel_rfl) rfl (fun _ => (rd_nilCheck rfl)) ?_
   refine s_rp (i := 7) rfl (by kernel_rfl) rfl (fun _ => (rd_fld tF131_3 rfl)) ?_
   refine s_rd (i := 8) rfl (by kernel_rfl) rfl (fun w739 hS => (rd_ld1 tO41 rfl (cells_blk hS.1) (off := 5) rfl)) ⟨(hm741.get (k := 0) rfl), (hm741.get (k := 3) rfl)⟩ ?_
   refine s_rp (i := 9) rfl (by kernel_rfl) rfl (fun _ => (rd_move rfl)) ?_
   obtain ⟨x768, h769, q770⟩ := ob q713; clear q713
   refine s_rp (i := 10) rfl (by kernel_rfl) rfl (fun _ => (rd_index tS41 rfl rfl ((Nl.mk (hm741.sl_call 3 rfl) (hm741.rows_call 4 rfl)).sl) h769)) ?_
   obtain ⟨zd771, hz772⟩ := (Nl.mk (hm741.sl_call 3 rfl) (hm741.rows_call 4 rfl)).row h769
   refine s_rd (i := 11) rfl (by kernel_rfl) rfl (fun w739 hS => (rd_ld1 tO22 rfl ((sl_of_own hS.2).cells hz772) (off := 0) rfl)) ⟨(hm741.get (k := 0) rfl), (hm741.get (k := 3) rfl)⟩ ?_
   refine s_rp (i := 12) rfl (by kernel_rfl) rfl (fun _ => (rd_move rfl)) ?_
   refine s_ef (i := 13) rfl (by kernel_rfl) rfl (ef_bslice (l := ([a1] : List Int)) hm741 tS22 rfl (cs := #[(Value.int .i64 a1)]) (by unfold bsl; kernel_rfl) rfl rfl) (by decide) ?_ ?_
   ·intro v773 w775 hm774
    intro _
    exact ⟨(hm774.get (k := 1) rfl), (hm774.get (k := 4) rfl)⟩
   intro v773 w775 hm774
   have hm776 := hm774.pick [5, 0, 1, 2, 3, 4] (L' := [rowsC 3 zs_a0_trains (a0_trains : List (List Int)) none, ownL 3 v773 ([a1] : List Int), blk g0 131 [v0_j_Items, (Value.int .i64 a0_j_Weight), (Value.int .i64 a0_p_Steps), v0_p_Codes, v0_steps, v0_trains, (Value.int .i64 x397), (Value.int .i64 a0_pushes)], ownL 22 v0_steps (zs_a0_steps : List Hdr), rowsC 3 zs_a0_steps (a0_steps : List (List Int)) none, ownL 22 v0_trains (zs_a0_trains : List Hdr)]) (by decide) rfl
   have hm777 := hm776.focus hz772 h769
   obtain ⟨l778, h779, q780⟩ := ob q770; clear q770
   refine s_ef (i := 14) rfl (by kernel_rfl) rfl (ef_append (k := 1) hm777 tS22 tE3 rfl rfl rfl rfl (hm777.sl 2 rfl) h779) (by decide) ?_ ?_
   ·intro v781 w783 hm782
    intro _
    exact ⟨(hm782.get (k := 3) rfl), (hm782.get (k := 6) rfl)⟩
   intro v781 w783 hm782
   obtain ⟨zd784, hz785⟩ := rowI (hm782.get (k := 0) rfl).1 h769
   refine s_rp (i := 15) rfl (by kernel_rfl) rfl (fun _ => (rd_index (α := Hdr) tS41 rfl rfl (hm782.sl 6 rfl) hz785)) ?_
   obtain ⟨zd786, ez787⟩ : ∃ z : Hdr, z.1 = v781 := ⟨⟨v781, sl_one (hm782.sl 1 rfl)⟩, rfl⟩
   obtain ⟨zd788, hz789⟩ := rowI (hm782.get (k := 0) rfl).1 h769
   refine s_ef0 (i := 16) rfl (by kernel_rfl) (ef_stl (k := 6) (off := 0) (x' := zd786) hm782 tO22 rfl rfl (sl_one (hm782.sl 1 rfl)) rfl hz789 (by show [v781] = [zd786.1]; rw [ez787]) rfl) (by decide) (fun _ _ _ q => absurd q (by decide)) ?_
   intro _ w791 hm790
   have hm792 := hm790.fill ez787
   refine s_nil (by kernel_rfl) ?_
   obtain rfl := os q780
   refine retn ?_
   exact ret0 rfl ⟨zs_a0_steps, (List.set zs_a0_trains (Int.toNat x711.Train) zd786), rfl, (Mem.bundle [blk g0 131 [v0_j_Items, (Value.int .i64 a0_j_Weight), (Value.int .i64 a0_p_Steps), v0_p_Codes, v0_steps, v0_trains, (Value.int .i64 x397), (Value.int .i64 a0_pushes)], ownL 22 v0_steps (zs_a0_steps : List Hdr), rowsC 3 zs_a0_steps (a0_steps : List (List Int)) none, ownL 22 v0_trains ((List.set zs_a0_trains (Int.toNat x711.Train) zd786) : List Hdr), rowsC 3 (List.set zs_a0_trains (Int.toNat x711.Train) zd786) ((List.set a0_trains (Int.toNat x711.Train) l778) : List (List Int)) none] [] (hm792.pick (L' := [blk g0 131 [v0_j_Items, (Value.int .i64 a0_j_Weight), (Value.int .i64 a0_p_Steps), v0_p_Codes, v0_steps, v0_trains, (Value.int .i64 x397), (Value.int .i64 a0_pushes)], ownL 22 v0_steps (zs_a0_steps : List Hdr), rowsC 3 zs_a0_steps (a0_steps : List (List Int)) none, ownL 22 v0_trains ((List.set zs_a0_trains (Int.toNat x711.Train) zd786) : List Hdr), rowsC 3 (List.set zs_a0_trains (Int.toNat x711.Train) zd786) ((List.set a0_trains (Int.toNat x711.Train) l778) : List (List Int)) none]) [2, 3, 4, 5, 0] (by decide) rfl))⟩

theorem machine_at_ok {N : Nat} {a0_j_Items : List T_Item} {a0_j_Weight : Int} {a0_p_Steps : Int} {a0_p_Codes : List Int} {a0_steps : List (List Int)} {a0_trains : List (List Int)} {a0_moves : Int} {a0_pushes : Int} {a1 : Int} {res : List (List Int) × List (List Int) × Int × Int} (h : machine_at N a0_j_Items a0_j_Weight a0_p_Steps a0_p_Codes a0_steps a0_trains a0_moves a0_pushes a1 = some res) {w : World} {g0 : Nat} {v0_j_Items : Value} {v0_p_Codes : Value} {v0_steps : Value} {zs_a0_steps : List Hdr} {v0_trains : Value} {zs_a0_trains : List Hdr} (hv0_j_Items : Sl (Old w (bunC [blk g0 131 [v0_j_Items, (Value.int .i64 a0_j_Weight), (Value.int .i64 a0_p_Steps), v0_p_Codes, v0_steps, v0_trains, (Value.int .i64 a0_moves), (Value.int .i64 a0_pushes)], ownL 22 v0_steps (zs_a0_steps : List Hdr), rowsC 3 zs_a0_steps (a0_steps : List (List Int)) none, ownL 22 v0_trains (zs_a0_trains : List Hdr), rowsC 3 zs_a0_trains (a0_trains : List (List Int)) none]).D) w v0_j_Items a0_j_Items) (hv0_p_Codes : Sl (Old w (bunC [blk g0 131 [v0_j_Items, (Value.int .i64 a0_j_Weight), (Value.int .i64 a0_p_Steps), v0_p_Codes, v0_steps, v0_trains, (Value.int .i64 a0_moves), (Value.int .i64 a0_pushes)], ownL 22 v0_steps (zs_a0_steps : List Hdr), rowsC 3 zs_a0_steps (a0_steps : List (List Int)) none, ownL 22 v0_trains (zs_a0_trains : List Hdr), rowsC 3 zs_a0_trains (a0_trains : List (List Int)) none]).D) w v0_p_Codes a0_p_Codes) (hkb : (bunC [blk g0 131 [v0_j_Items, (Value.int .i64 a0_j_Weight), (Value.int .i64 a0_p_Steps), v0_p_Codes, v0_steps, v0_trains, (Value.int .i64 a0_moves), (Value.int .i64 a0_pushes)], ownL 22 v0_steps (zs_a0_steps : List Hdr), rowsC 3 zs_a0_steps (a0_steps : List (List Int)) none, ownL 22 v0_trains (zs_a0_trains : List Hdr), rowsC 3 zs_a0_trains (a0_trains : List (List Int)) none]).φ w) :
  CallsR Tryz.prog 87 [(Value.pointer (some ⟨g0, 0, none⟩)), (Value.int .i64 a1)] w (fun u w' => ∃ (zy0 : List Hdr) (y1 : Value) (zy2 : List Hdr) (y3 : Value), u = (Value.tuple #[]) ∧ Mem w (bunC [blk g0 131 [v0_j_Items, (Value.int .i64 a0_j_Weight), (Value.int .i64 a0_p_Steps), v0_p_Codes, v0_steps, v0_trains, (Value.int .i64 a0_moves), (Value.int .i64 a0_pushes)], ownL 22 v0_steps (zs_a0_steps : List Hdr), rowsC 3 zs_a0_steps (a0_steps : List (List Int)) none, ownL 22 v0_trains (zs_a0_trains : List Hdr), rowsC 3 zs_a0_trains (a0_trains : List (List Int)) none]).D [bunC [blk g0 131 [v0_j_Items, (Value.int .i64 a0_j_Weight), (Value.int .i64 a0_p_Steps), v0_p_Codes, y1, y3, (Value.int .i64 res.2.2.1), (Value.int .i64 res.2.2.2)], ownL 22 y1 (zy0 : List Hdr), rowsC 3 zy0 (res.1 : List (List Int)) none, ownL 22 y3 (zy2 : List Hdr), rowsC 3 zy2 (res.2.1 : List (List Int)) none]] w') := by
 unfold machine_at at h
 refine fn_ok Tryz.func87 rfl rfl rfl ?_
 have hm0 := Mem.opened hkb
 refine cw_sr (t_mv rfl rfl ?_)
 refine t_rd rfl (rd_nilCheck rfl) ?_
 refine t_rd rfl (rd_fld tF131_4 rfl) ?_
 refine t_rd rfl (rd_ld1 tO3 rfl (hm0.blk 0 rfl) (off := 6) rfl) ?_
 refine t_as rfl rfl (rwt_n (cw_seq (cw_sr (t_mv rfl rfl ?_))))
 refine t_rd rfl (rd_gtr rfl rfl) ?_
 refine rwt_n ?_
 obtain ⟨j503, hit504, q505⟩ := ob h; clear h
 refine cw_join (X := fun eq envq wq => eq = .normal ∧ ∃ (v497 : Value) (zs498 : List Hdr) (v500 : Value) (zs501 : List Hdr), Sub [(0, (Value.pointer (some ⟨g0, 0, none⟩))), (1, (Value.int .i64 a1)), (4, (Value.int .i64 a0_moves))] envq ∧ Mem w (bunC [blk g0 131 [v0_j_Items, (Value.int .i64 a0_j_Weight), (Value.int .i64 a0_p_Steps), v0_p_Codes, v0_steps, v0_trains, (Value.int .i64 a0_moves), (Value.int .i64 a0_pushes)], ownL 22 v0_steps (zs_a0_steps : List Hdr), rowsC 3 zs_a0_steps (a0_steps : List (List Int)) none, ownL 22 v0_trains (zs_a0_trains : List Hdr), rowsC 3 zs_a0_trains (a0_trains : List (List Int)) none]).D [blk g0 131 [v0_j_Items, (Value.int .i64 a0_j_Weight), (Value.int .i64 a0_p_Steps), v0_p_Codes, v497, v500, (Value.int .i64 j503.2.2), (Value.int .i64 a0_pushes)], ownL 22 v497 (zs498 : List Hdr), rowsC 3 zs498 (j503.1 : List (List Int)) none, ownL 22 v500 (zs501 : List Hdr), rowsC 3 zs501 (j503.2.1 : List (List Int)) none] wq) ?_ ?_
 ·clear q505
  obtain ⟨hb506, q507⟩ | ⟨hb506, q507⟩ := oi hit504 <;> clear hit504
  ·refine cw_t rfl hb506 (cw_sr (t_mv rfl rfl ?_))
   refine t_rd rfl (rd_nilCheck rfl) ?_
   refine t_rd rfl (rd_fld tF131_2 rfl) ?_
   refine t_rd rfl (rd_ld1 tO41 rfl (hm0.blk 0 rfl) (off := 4) rfl) ?_
   refine t_mv rfl rfl ?_
   obtain ⟨x508, h509, q510⟩ := ob q507; clear q507
   refine t_rd rfl (rd_sub64 h509 rfl rfl) ?_
   obtain ⟨x511, h512, q513⟩ := ob q510; clear q510
   refine t_rd rfl (rd_index tS41 rfl rfl ((Nl.mk (hm0.sl_call 1 rfl) (hm0.rows_call 2 rfl)).sl) h512) ?_
   obtain ⟨zd514, hz515⟩ := (Nl.mk (hm0.sl_call 1 rfl) (hm0.rows_call 2 rfl)).row h512
   refine t_rd rfl (rd_ld1 tO22 rfl ((Nl.mk (hm0.sl_call 1 rfl) (hm0.rows_call 2 rfl)).cells hz515) (off := 0) rfl) ?_
   refine t_as rfl rfl (rwt_n (cw_sr (t_mv rfl rfl ?_)))
   refine t_rd rfl (rd_nilCheck rfl) ?_
   refine t_rd rfl (rd_fld tF131_2 rfl) ?_
   refine t_rd rfl (rd_ld1 tO41 rfl (hm0.blk 0 rfl) (off := 4) rfl) ?_
   refine t_mv rfl rfl ?_
   refine t_rd rfl (rd_sub64 h509 rfl rfl) ?_
   refine t_rd rfl (rd_index tS41 rfl rfl ((Nl.mk (hm0.sl_call 1 rfl) (hm0.rows_call 2 rfl)).sl) h512) ?_
   have hm516 := hm0.addNil (α := Int) 3
   obtain ⟨zd517, ez518⟩ : ∃ z : Hdr, z.1 = (Value.slice none 0 0) := ⟨⟨(Value.slice none 0 0), sl_one (hm516.sl 0 rfl)⟩, rfl⟩
   have hm521 := hm516.pick [3, 0, 1, 2, 4, 5] (L' := [rowsC 3 zs_a0_steps (a0_steps : List (List Int)) none, ownL 3 (Value.slice none 0 0) ([] : List Int), blk g0 131 [v0_j_Items, (Value.int .i64 a0_j_Weight), (Value.int .i64 a0_p_Steps), v0_p_Codes, v0_steps, v0_trains, (Value.int .i64 a0_moves), (Value.int .i64 a0_pushes)], ownL 22 v0_steps (zs_a0_steps : List Hdr), ownL 22 v0_trains (zs_a0_trains : List Hdr), rowsC 3 zs_a0_trains (a0_trains : List (List Int)) none]) (by decide) rfl
   have hm522 := hm521.focus hz515 h512
   obtain ⟨zd519, hz520⟩ := rowI (hm522.get (k := 0) rfl).1 h512
   refine t_ef0 (ef_stl (k := 4) (off := 0) (x' := zd517) hm522 tO22 rfl rfl (sl_one (hm522.sl 2 rfl)) rfl hz520 (by show [(Value.slice none 0 0)] = [zd517.1]; rw [ez518]) rfl) ?_
   intro _ w524 hm523
   have hm525 := hm523.pick [0, 2, 1, 3, 4, 5, 6] (L' := [rowsC 3 zs_a0_steps (a0_steps : List (List Int)) (some (Int.toNat x508)), ownL 3 (Value.slice none 0 0) ([] : List Int), ownL 3 zd514.1 (x511 : List Int), blk g0 131 [v0_j_Items, (Value.int .i64 a0_j_Weight), (Value.int .i64 a0_p_Steps), v0_p_Codes, v0_steps, v0_trains, (Value.int .i64 a0_moves), (Value.int .i64 a0_pushes)], ownL 22 v0_steps ((List.set zs_a0_steps (Int.toNat x508) zd517) : List Hdr), ownL 22 v0_trains (zs_a0_trains : List Hdr), rowsC 3 zs_a0_trains (a0_trains : List (List Int)) none]) (by decide) rfl
   have hm526 := hm525.fill ez518
   refine rwt_n (cw_sr (t_mv rfl rfl ?_))
   refine t_rd rfl (rd_lenS tS22 rfl (hm526.sl 1 rfl)) ?_
   refine t_mv rfl rfl (rwt_n (cw_block ?_))
   obtain ⟨r594, hit595, q596⟩ := ob q513; clear q513
   refine cw_loop2 (I := fun q envq wq => ∃ (v582 : Value) (zs583 : List Hdr) (v585 : Value) (zs586 : List Hdr), Sub [(0, (Value.pointer (some ⟨g0, 0, none⟩))), (1, (Value.int .i64 a1)), (4, (Value.int .i64 a0_moves)), (31, zd514.1), (32, (Value.int .i64 (List.length x511 : Int))), (33, (Value.int .i64 q.1))] envq ∧ Mem w (bunC [blk g0 131 [v0_j_Items, (Value.int .i64 a0_j_Weight), (Value.int .i64 a0_p_Steps), v0_p_Codes, v0_steps, v0_trains, (Value.int .i64 a0_moves), (Value.int .i64 a0_pushes)], ownL 22 v0_steps (zs_a0_steps : List Hdr), rowsC 3 zs_a0_steps (a0_steps : List (List Int)) none, ownL 22 v0_trains (zs_a0_trains : List Hdr), rowsC 3 zs_a0_trains (a0_trains : List (List Int)) none]).D [rowsC 3 zs583 (q.2.1 : List (List Int)) none, ownL 3 zd514.1 (x511 : List Int), blk g0 131 [v0_j_Items, (Value.int .i64 a0_j_Weight), (Value.int .i64 a0_p_Steps), v0_p_Codes, v582, v585, (Value.int .i64 q.2.2.2), (Value.int .i64 a0_pushes)], ownL 22 v582 (zs583 : List Hdr), ownL 22 v585 (zs586 : List Hdr), rowsC 3 zs586 (q.2.2.1 : List (List Int)) none] wq) (X := fun eq envq wq => eq = .exit 0 ∧ ∃ (v574 : Value) (zs575 : List Hdr) (v577 : Value) (zs578 : List Hdr), Sub [(0, (Value.pointer (some ⟨g0, 0, none⟩))), (1, (Value.int .i64 a1)), (4, (Value.int .i64 a0_moves))] envq ∧ Mem w (bunC [blk g0 131 [v0_j_Items, (Value.int .i64 a0_j_Weight), (Value.int .i64 a0_p_Steps), v0_p_Codes, v0_steps, v0_trains, (Value.int .i64 a0_moves), (Value.int .i64 a0_pushes)], ownL 22 v0_steps (zs_a0_steps : List Hdr), rowsC 3 zs_a0_steps (a0_steps : List (List Int)) none, ownL 22 v0_trains (zs_a0_trains : List Hdr), rowsC 3 zs_a0_trains (a0_trains : List (List Int)) none]).D [rowsC 3 zs575 (r594.1 : List (List Int)) none, blk g0 131 [v0_j_Items, (Value.int .i64 a0_j_Weight), (Value.int .i64 a0_p_Steps), v0_p_Codes, v574, v577, (Value.int .i64 r594.2.2), (Value.int .i64 a0_pushes)], ownL 22 v574 (zs575 : List Hdr), ownL 22 v577 (zs578 : List Hdr), rowsC 3 zs578 (r594.2.1 : List (List Int)) none] wq) hit595 ⟨v0_steps, (List.set zs_a0_steps (Int.toNat x508) zd517), v0_trains, zs_a0_trains, (by repeat (first | exact Sub.nil _ | refine Sub.cons rfl ?_)), (hm526.pick [0, 1, 2, 3, 4, 5] (by decide) rfl)⟩ ?_ ?_
   ·rintro ⟨i580, l581, l584, i587⟩ x589 env590 w591 hf592 hr593 ⟨v582, zs583, v585, zs586, hs_, hm_⟩
    have hs_ : Sub [(0, (Value.pointer (some ⟨g0, 0, none⟩))), (1, (Value.int .i64 a1)), (4, (Value.int .i64 a0_moves)), (31, zd514.1), (32, (Value.int .i64 (List.length x511 : Int))), (33, (Value.int .i64 i580))] env590 := hs_
    have hm597 : Mem w (bunC [blk g0 131 [v0_j_Items, (Value.int .i64 a0_j_Weight), (Value.int .i64 a0_p_Steps), v0_p_Codes, v0_steps, v0_trains, (Value.int .i64 a0_moves), (Value.int .i64 a0_pushes)], ownL 22 v0_steps (zs_a0_steps : List Hdr), rowsC 3 zs_a0_steps (a0_steps : List (List Int)) none, ownL 22 v0_trains (zs_a0_trains : List Hdr), rowsC 3 zs_a0_trains (a0_trains : List (List Int)) none]).D [rowsC 3 zs583 (l581 : List (List Int)) none, ownL 3 zd514.1 (x511 : List Int), blk g0 131 [v0_j_Items, (Value.int .i64 a0_j_Weight), (Value.int .i64 a0_p_Steps), v0_p_Codes, v582, v585, (Value.int .i64 i587), (Value.int .i64 a0_pushes)], ownL 22 v582 (zs583 : List Hdr), ownL 22 v585 (zs586 : List Hdr), rowsC 3 zs586 (l584 : List (List Int)) none] w591 := hm_
    refine cw_sub hs_ ?_
    clear hs_ hm_ q596
    have h : machine_at_l2 N a0_j_Items a0_j_Weight a0_p_Steps a0_p_Codes a0_pushes a1 x511 i580 l581 l584 i587 = some x589 := hf592
    clear hf592
    refine cw_sr (t_rd rfl (rd_lss rfl rfl) (rwt_n (cw_seq ?_)))
    obtain ⟨hb598, q599⟩ | ⟨hb598, q599⟩ := oi h <;> clear h
    ·refine cw_t rfl hb598 (cw_skip (qn_then (cw_seq (cw_block (cw_sr ?_)))))
     obtain ⟨x600, h601, q602⟩ := ob q599; clear q599
     refine t_rd rfl (rd_index tS22 rfl rfl (hm597.sl 1 rfl) h601) ?_
     refine t_rd rfl (rd_ld1 tO3 rfl ((hm597.sl 1 rfl).cells h601) (off := 0) rfl) ?_
     refine t_as rfl rfl (rwt_n ?_)
     refine cw_region ?_
     refine t_mv rfl rfl (t_mv rfl rfl (t_mv rfl rfl ?_))
     have hm603 := hm597.pick [2, 3, 0, 4, 5, 1] (L' := [blk g0 131 [v0_j_Items, (Value.int .i64 a0_j_Weight), (Value.int .i64 a0_p_Steps), v0_p_Codes, v582, v585, (Value.int .i64 i587), (Value.int .i64 a0_pushes)], ownL 22 v582 (zs583 : List Hdr), rowsC 3 zs583 (l581 : List (List Int)) none, ownL 22 v585 (zs586 : List Hdr), rowsC 3 zs586 (l584 : List (List Int)) none, ownL 3 zd514.1 (x511 : List Int)]) (by decide) rfl
     have hm604 := hm603.bundle [blk g0 131 [v0_j_Items, (Value.int .i64 a0_j_Weight), (Value.int .i64 a0_p_Steps), v0_p_Codes, v582, v585, (Value.int .i64 i587), (Value.int .i64 a0_pushes)], ownL 22 v582 (zs583 : List Hdr), rowsC 3 zs583 (l581 : List (List Int)) none, ownL 22 v585 (zs586 : List Hdr), rowsC 3 zs586 (l584 : List (List Int)) none] [ownL 3 zd514.1 (x511 : List Int)]
     obtain ⟨r605, h606, q607⟩ := ob q602; clear q602
     refine t_ef rfl (ef_call tf101 rfl (machine_push_ok h606 (hv0_j_Items.to_callT (k := 0) hm604 rfl) (hv0_p_Codes.to_callT (k := 0) hm604 rfl) (hm604.get (k := 0) rfl))) ?_
     rintro _ w611 ⟨zs608, zs609, e_, hm610⟩
     obtain rfl := e_.symm
     have hm612 := hm604.callM (k := 0) rfl (fun _ h => h) hm610
     have hm613 := hm612.unbundle [blk g0 131 [v0_j_Items, (Value.int .i64 a0_j_Weight), (Value.int .i64 a0_p_Steps), v0_p_Codes, v582, v585, (Value.int .i64 r605.2.2), (Value.int .i64 a0_pushes)], ownL 22 v582 (zs608 : List Hdr), rowsC 3 zs608 (r605.1 : List (List Int)) none, ownL 22 v585 (zs609 : List Hdr), rowsC 3 zs609 (r605.2.1 : List (List Int)) none] [ownL 3 zd514.1 (x511 : List Int)]
     refine rwt_nil ?_
     refine qn_block (qn_then ?_)
     refine cw_region ?_
     obtain ⟨x614, h615, q616⟩ := ob q607; clear q607
     refine t_rd rfl (rd_add64 h615 rfl rfl) (t_mv rfl rfl (rwt_n ?_))
     refine ⟨_, (os q616), v582, zs608, v585, zs609, (by repeat (first | exact Sub.nil _ | refine Sub.cons rfl ?_)), (hm613.pick [2, 5, 0, 1, 3, 4] (by decide) rfl)⟩
    ·refine cw_f rfl hb598 ?_
     refine cw_exit ?_
     refine qx_then (qx_then ?_)
     obtain rfl := hr593 _ (os q599)
     exact ⟨rfl, v582, zs583, v585, zs586, (by repeat (first | exact Sub.nil _ | refine Sub.cons rfl ?_)), (hm597.pick [0, 2, 3, 4, 5] (by decide) rfl)⟩
   ·skip
    intro e env617 w618 hX619
    obtain ⟨rfl, v574, zs575, v577, zs578, hs620, hm621⟩ := hX619
    refine qx_same ?_
    obtain rfl := os q596
    exact ⟨rfl, v574, zs575, v577, zs578, (Sub.tr (by repeat (first | exact Sub.nil _ | refine Sub.cons rfl ?_)) hs620), (hm621.pick [1, 2, 0, 3, 4] (by decide) rfl)⟩
  ·refine cw_f rfl hb506 (cw_skip ?_)
   obtain rfl := os q507
   exact ⟨rfl, v0_steps, zs_a0_steps, v0_trains, zs_a0_trains, (by repeat (first | exact Sub.nil _ | refine Sub.cons rfl ?_)), (hm0.pick [0, 1, 2, 3, 4] (by decide) rfl)⟩
 ·clear hit504
  intro e env622 w623 hX624
  obtain ⟨rfl, v497, zs498, v500, zs501, hs625, hm626⟩ := hX624
  refine qn_then ?_
  refine cw_sub hs625 ?_
  refine cw_seq (cw_sr (t_mv rfl rfl ?_))
  refine t_rd rfl (rd_nilCheck rfl) ?_
  refine t_rd rfl (rd_fld tF131_0 rfl) (t_rd rfl (rd_fld tF27_0 rfl) ?_)
  refine t_rd rfl (rd_ld1 tO25 rfl (hm626.blk 0 rfl) (off := 0) rfl) ?_
  refine t_rd rfl (rd_lenS tS25 rfl (hv0_j_Items.of_old hm626)) ?_
  refine t_mv rfl rfl (rwt_n (cw_block ?_))
  obtain ⟨r714, hit715, q716⟩ := ob q505; clear q505
  refine cw_loop2 (I := fun q envq wq => ∃ (v702 : Value) (zs703 : List Hdr) (v705 : Value) (zs706 : List Hdr), Sub [(0, (Value.pointer (some ⟨g0, 0, none⟩))), (1, (Value.int .i64 a1)), (4, (Value.int .i64 a0_moves)), (46, v0_j_Items), (47, (Value.int .i64 (List.length a0_j_Items : Int))), (48, (Value.int .i64 q.1))] envq ∧ Mem w (bunC [blk g0 131 [v0_j_Items, (Value.int .i64 a0_j_Weight), (Value.int .i64 a0_p_Steps), v0_p_Codes, v0_steps, v0_trains, (Value.int .i64 a0_moves), (Value.int .i64 a0_pushes)], ownL 22 v0_steps (zs_a0_steps : List Hdr), rowsC 3 zs_a0_steps (a0_steps : List (List Int)) none, ownL 22 v0_trains (zs_a0_trains : List Hdr), rowsC 3 zs_a0_trains (a0_trains : List (List Int)) none]).D [blk g0 131 [v0_j_Items, (Value.int .i64 a0_j_Weight), (Value.int .i64 a0_p_Steps), v0_p_Codes, v702, v705, (Value.int .i64 q.2.2.2), (Value.int .i64 a0_pushes)], ownL 22 v702 (zs703 : List Hdr), rowsC 3 zs703 (q.2.1 : List (List Int)) none, ownL 22 v705 (zs706 : List Hdr), rowsC 3 zs706 (q.2.2.1 : List (List Int)) none] wq) (X := fun eq envq wq => eq = .exit 2 ∧ ∃ (v694 : Value) (zs695 : List Hdr) (v697 : Value) (zs698 : List Hdr), Sub [(0, (Value.pointer (some ⟨g0, 0, none⟩))), (4, (Value.int .i64 a0_moves))] envq ∧ Mem w (bunC [blk g0 131 [v0_j_Items, (Value.int .i64 a0_j_Weight), (Value.int .i64 a0_p_Steps), v0_p_Codes, v0_steps, v0_trains, (Value.int .i64 a0_moves), (Value.int .i64 a0_pushes)], ownL 22 v0_steps (zs_a0_steps : List Hdr), rowsC 3 zs_a0_steps (a0_steps : List (List Int)) none, ownL 22 v0_trains (zs_a0_trains : List Hdr), rowsC 3 zs_a0_trains (a0_trains : List (List Int)) none]).D [blk g0 131 [v0_j_Items, (Value.int .i64 a0_j_Weight), (Value.int .i64 a0_p_Steps), v0_p_Codes, v694, v697, (Value.int .i64 r714.2.2), (Value.int .i64 a0_pushes)], ownL 22 v694 (zs695 : List Hdr), rowsC 3 zs695 (r714.1 : List (List Int)) none, ownL 22 v697 (zs698 : List Hdr), rowsC 3 zs698 (r714.2.1 : List (List Int)) none] wq) hit715 ⟨v497, zs498, v500, zs501, (by repeat (first | exact Sub.nil _ | refine Sub.cons rfl ?_)), (hm626.pick [0, 1, 2, 3, 4] (by decide) rfl)⟩ ?_ ?_
  ·rintro ⟨i700, l701, l704, i707⟩ x709 env710 w711 hf712 hr713 ⟨v702, zs703, v705, zs706, hs_, hm_⟩
   have hs_ : Sub [(0, (Value.pointer (some ⟨g0, 0, none⟩))), (1, (Value.int .i64 a1)), (4, (Value.int .i64 a0_moves)), (46, v0_j_Items), (47, (Value.int .i64 (List.length a0_j_Items : Int))), (48, (Value.int .i64 i700))] env710 := hs_
   have hm717 : Mem w (bunC [blk g0 131 [v0_j_Items, (Value.int .i64 a0_j_Weight), (Value.int .i64 a0_p_Steps), v0_p_Codes, v0_steps, v0_trains, (Value.int .i64 a0_moves), (Value.int .i64 a0_pushes)], ownL 22 v0_steps (zs_a0_steps : List Hdr), rowsC 3 zs_a0_steps (a0_steps : List (List Int)) none, ownL 22 v0_trains (zs_a0_trains : List Hdr), rowsC 3 zs_a0_trains (a0_trains : List (List Int)) none]).D [blk g0 131 [v0_j_Items, (Value.int .i64 a0_j_Weight), (Value.int .i64 a0_p_Steps), v0_p_Codes, v702, v705, (Value.int .i64 i707), (Value.int .i64 a0_pushes)], ownL 22 v702 (zs703 : List Hdr), rowsC 3 zs703 (l701 : List (List Int)) none, ownL 22 v705 (zs706 : List Hdr), rowsC 3 zs706 (l704 : List (List Int)) none] w711 := hm_
   refine cw_sub hs_ ?_
   clear hs_ hm_ q716
   have h : machine_at_l3 N a0_j_Items a0_j_Weight a0_p_Steps a0_p_Codes a0_pushes a1 i700 l701 l704 i707 = some x709 := hf712
   clear hf712
   refine cw_sr (t_rd rfl (rd_lss rfl rfl) (rwt_n (cw_seq ?_)))
   obtain ⟨hb718, q719⟩ | ⟨hb718, q719⟩ := oi h <;> clear h
   ·refine cw_t rfl hb718 (cw_skip (qn_then (cw_seq (cw_block (cw_sr ?_)))))
    refine t_mv rfl rfl ?_
    obtain ⟨x720, h721, q722⟩ := ob q719; clear q719
    refine t_rd rfl (rd_index tS25 rfl rfl (hv0_j_Items.of_old hm717) h721) ?_
    refine t_rd rfl (rd_ld tA40 rfl ((hv0_j_Items.of_old hm717).cells h721) rfl) ?_
    refine t_ef rfl (ef_alloc hm717 tZ40 rfl) ?_
    rintro _ w725 ⟨g723, rfl, hm724⟩
    refine t_as rfl rfl ?_
    refine t_ef0 (ef_stw (k := 0) hm724 tA40 rfl rfl (oc_cons rfl (oc_cons rfl (oc_cons rfl (oc_cons rfl oc_nil)))) rfl rfl rfl) ?_
    intro _ w727 hm726
    refine rwt_n (cw_sr (t_rd rfl (rd_fld tF40_2 rfl) ?_))
    refine t_rd rfl (rd_ld1 tO3 rfl (hm726.blk 0 rfl) (off := 2) rfl) ?_
    refine t_mv rfl rfl ?_
    refine t_rd rfl (rd_eql rfl rfl) ?_
    refine rwt_n ?_
    obtain ⟨hb728, q729⟩ | ⟨hb728, q729⟩ := oi q722 <;> clear q722
    ·refine cw_t rfl hb728 ?_
     refine cw_region ?_
     refine t_mv rfl rfl (t_mv rfl rfl (t_mv rfl rfl ?_))
     have hm730 := hm726.pick [1, 2, 3, 4, 5, 0] (L' := [blk g0 131 [v0_j_Items, (Value.int .i64 a0_j_Weight), (Value.int .i64 a0_p_Steps), v0_p_Codes, v702, v705, (Value.int .i64 i707), (Value.int .i64 a0_pushes)], ownL 22 v702 (zs703 : List Hdr), rowsC 3 zs703 (l701 : List (List Int)) none, ownL 22 v705 (zs706 : List Hdr), rowsC 3 zs706 (l704 : List (List Int)) none, blk g723 40 [(Value.int .i64 x720.Train), (Value.int .i64 x720.Block), (Value.int .i64 x720.Round), (Value.int .i64 x720.Length)]]) (by decide) rfl
     have hm731 := hm730.bundle [blk g0 131 [v0_j_Items, (Value.int .i64 a0_j_Weight), (Value.int .i64 a0_p_Steps), v0_p_Codes, v702, v705, (Value.int .i64 i707), (Value.int .i64 a0_pushes)], ownL 22 v702 (zs703 : List Hdr), rowsC 3 zs703 (l701 : List (List Int)) none, ownL 22 v705 (zs706 : List Hdr), rowsC 3 zs706 (l704 : List (List Int)) none] [blk g723 40 [(Value.int .i64 x720.Train), (Value.int .i64 x720.Block), (Value.int .i64 x720.Round), (Value.int .i64 x720.Length)]]
     obtain ⟨r732, h733, q734⟩ := ob q729; clear q729
     refine t_ef rfl (ef_call tf101 rfl (machine_push_ok h733 (hv0_j_Items.to_callT (k := 0) hm731 rfl) (hv0_p_Codes.to_callT (k := 0) hm731 rfl) (hm731.get (k := 0) rfl))) ?_
     rintro _ w738 ⟨zs735, zs736, e_, hm737⟩
     obtain rfl := e_.symm
     have hm739 := hm731.callM (k := 0) rfl (fun _ h => h) hm737
     have hm740 := hm739.unbundle [blk g0 131 [v0_j_Items, (Value.int .i64 a0_j_Weight), (Value.int .i64 a0_p_Steps), v0_p_Codes, v702, v705, (Value.int .i64 r732.2.2), (Value.int .i64 a0_pushes)], ownL 22 v702 (zs735 : List Hdr), rowsC 3 zs735 (r732.1 : List (List Int)) none, ownL 22 v705 (zs736 : List Hdr), rowsC 3 zs736 (r732.2.1 : List (List Int)) none] [blk g723 40 [(Value.int .i64 x720.Train), (Value.int .i64 x720.Block), (Value.int .i64 x720.Round), (Value.int .i64 x720.Length)]]
     refine rwt_nil ?_
     refine qn_block (qn_then ?_)
     refine cw_region ?_
     obtain ⟨x741, h742, q743⟩ := ob q734; clear q734
     refine t_rd rfl (rd_add64 h742 rfl rfl) (t_mv rfl rfl (rwt_n ?_))
     refine ⟨_, (os q743), v702, zs735, v705, zs736, (by repeat (first | exact Sub.nil _ | refine Sub.cons rfl ?_)), (hm740.pick [0, 1, 2, 3, 4] (by decide) rfl)⟩
    ·refine cw_f rfl hb728 (cw_skip ?_)
     refine qn_block (qn_then ?_)
     refine cw_region ?_
     obtain ⟨x744, h745, q746⟩ := ob q729; clear q729
     refine t_rd rfl (rd_add64 h745 rfl rfl) (t_mv rfl rfl (rwt_n ?_))
     refine ⟨_, (os q746), v702, zs703, v705, zs706, (by repeat (first | exact Sub.nil _ | refine Sub.cons rfl ?_)), (hm726.pick [1, 2, 3, 4, 5] (by decide) rfl)⟩
   ·refine cw_f rfl hb718 ?_
    refine cw_exit ?_
    refine qx_then (qx_then ?_)
    obtain rfl := hr713 _ (os q719)
    exact ⟨rfl, v702, zs703, v705, zs706, (by repeat (first | exact Sub.nil _ | refine Sub.cons rfl ?_)), (hm717.pick [0, 1, 2, 3, 4] (by decide) rfl)⟩
  ·skip
   intro e env747 w748 hX749
   obtain ⟨rfl, v694, zs695, v697, zs698, hs750, hm751⟩ := hX749
   refine qx_same (qn_then ?_)
   refine cw_sub hs750 ?_
   refine cw_sr (t_mv rfl rfl ?_)
   refine t_rd rfl (rd_nilCheck rfl) ?_
   refine t_rd rfl (rd_fld tF131_4 rfl) ?_
   refine t_rd rfl (rd_ld1 tO3 rfl (hm751.blk 0 rfl) (off := 6) rfl) ?_
   refine t_mv rfl rfl ?_
   refine t_rd rfl (rd_gtr rfl rfl) ?_
   refine rwt_n ?_
   obtain ⟨hb752, q753⟩ | ⟨hb752, q753⟩ := oi q716 <;> clear q716
   ·refine cw_t rfl hb752 ?_
    refine cw_region ?_
    refine t_mv rfl rfl ?_
    refine t_rd rfl (rd_nilCheck rfl) ?_
    refine t_rd rfl (rd_fld tF131_5 rfl) ?_
    refine t_rd rfl (rd_ld1 tO3 rfl (hm751.blk 0 rfl) (off := 7) rfl) ?_
    obtain ⟨x754, h755, q756⟩ := ob q753; clear q753
    refine t_rd rfl (rd_add64 h755 rfl rfl) ?_
    refine t_rd rfl (rd_nilCheck rfl) ?_
    refine t_rd rfl (rd_fld tF131_5 rfl) ?_
    refine t_ef0 (ef_st1 (k := 0) (off := 7) hm751 tO3 rfl rfl rfl rfl rfl rfl) ?_
    intro _ w758 hm757
    refine rwt_nil ?_
    obtain rfl := os q756
    refine retn ?_
    exact ret0 rfl ⟨zs695, v694, zs698, v697, rfl, (Mem.bundle [blk g0 131 [v0_j_Items, (Value.int .i64 a0_j_Weight), (Value.int .i64 a0_p_Steps), v0_p_Codes, v694, v697, (Value.int .i64 r714.2.2), (Value.int .i64 x754)], ownL 22 v694 (zs695 : List Hdr), rowsC 3 zs695 (r714.1 : List (List Int)) none, ownL 22 v697 (zs698 : List Hdr), rowsC 3 zs698 (r714.2.1 : List (List Int)) none] [] (hm757.pick (L' := [blk g0 131 [v0_j_Items, (Value.int .i64 a0_j_Weight), (Value.int .i64 a0_p_Steps), v0_p_Codes, v694, v697, (Value.int .i64 r714.2.2), (Value.int .i64 x754)], ownL 22 v694 (zs695 : List Hdr), rowsC 3 zs695 (r714.1 : List (List Int)) none, ownL 22 v697 (zs698 : List Hdr), rowsC 3 zs698 (r714.2.1 : List (List Int)) none]) [0, 1, 2, 3, 4] (by decide) rfl))⟩
   ·refine cw_f rfl hb752 (cw_skip ?_)
    obtain rfl := os q753
    refine retn ?_
    exact ret0 rfl ⟨zs695, v694, zs698, v697, rfl, (Mem.bundle [blk g0 131 [v0_j_Items, (Value.int .i64 a0_j_Weight), (Value.int .i64 a0_p_Steps), v0_p_Codes, v694, v697, (Value.int .i64 r714.2.2), (Value.int .i64 a0_pushes)], ownL 22 v694 (zs695 : List Hdr), rowsC 3 zs695 (r714.1 : List (List Int)) none, ownL 22 v697 (zs698 : List Hdr), rowsC 3 zs698 (r714.2.1 : List (List Int)) none] [] (hm751.pick (L' := [blk g0 131 [v0_j_Items, (Value.int .i64 a0_j_Weight), (Value.int .i64 a0_p_Steps), v0_p_Codes, v694, v697, (Value.int .i64 r714.2.2), (Value.int .i64 a0_pushes)], ownL 22 v694 (zs695 : List Hdr), rowsC 3 zs695 (r714.1 : List (List Int)) none, ownL 22 v697 (zs698 : List Hdr), rowsC 3 zs698 (r714.2.1 : List (List Int)) none]) [0, 1, 2, 3, 4] (by decide) rfl))⟩

end Go.Proofs.YtlpkbkbjohhleaaGreat
