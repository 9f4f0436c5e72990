/- Each call computes what its mirror does; written by a program of mine (gowalk.py). -/
import Derived.Test.YtlpkbkbjohhleaaGreatWkc
namespace Go.Proofs.YtlpkbkbjohhleaaGreat
open Go.Gv Go.RowKit
set_option linter.unusedVariables false
set_option maxRecDepth 100000

theorem leastcode_Bound_ok {N : Nat} {a0_Items : List T_Item} {a0_Weight : Int} {a1 : List Int} {res : Int × Int} (h : leastcode_Bound N a0_Items a0_Weight a1 = some res) {w : World} {v0_Items : Value} {v1 : Value} (hv0_Items : Sl (Old w No) w v0_Items a0_Items) (hv1 : Sl (Old w No) w v1 a1) :
    CallsR Tryz.prog 33 [(Value.agg #[v0_Items, (Value.int .i64 a0_Weight)]), v1] w (fun u w' => u = (Value.tuple #[(Value.int .i64 res.1), (Value.int .i64 res.2)]) ∧ Mem w No [] w') := by
  unfold leastcode_Bound at h
  refine fn_ok Tryz.func33 rfl rfl rfl ?_
  have hm0 := Mem.nil w
  refine cw_seq ?_
  refine cw_region ?_
  refine t_ef rfl (ef_box hm0 rfl rfl) ?_
  rintro _ w3 ⟨g1, rfl, hm2⟩
  refine t_rd rfl (rd_assign rfl) ?_
  refine t_rd rfl (rd_assign rfl) ?_
  refine rwt_nil ?_
  refine qn_then ?_
  refine cw_seq ?_
  refine cw_seq ?_
  refine cw_region ?_
  refine t_rd rfl (rd_ld tA27 rfl (hm2.blk 0 rfl) rfl) ?_
  obtain ⟨r4, h5, q6⟩ := ob h; clear h
  refine t_ef rfl (ef_call tf59 rfl (job_Valid_ok h5 (hv0_Items.to_call hm2))) ?_
  rintro _ w8 ⟨e_, hm7⟩
  obtain rfl := e_.symm
  have hm9 := hm2.call hm7
  refine t_rd rfl (rd_assign rfl) ?_
  refine rwt_nil ?_
  refine qn_then ?_
  refine cw_seq ?_
  refine cw_region ?_
  refine t_rd rfl (rd_move rfl) ?_
  refine t_rd rfl (rd_neq rfl rfl) ?_
  refine rwt_nil ?_
  refine qn_then ?_
  obtain ⟨hb10, q11⟩ | ⟨hb10, q11⟩ := oi q6 <;> clear q6
  · refine cw_t rfl hb10 ?_
    refine cw_seq ?_
    refine cw_region ?_
    refine t_rd rfl (rd_move rfl) ?_
    refine t_rd rfl (rd_assign rfl) ?_
    refine t_rd rfl (rd_assign rfl) ?_
    refine rwt_nil ?_
    refine qn_then ?_
    refine cw_ret ?_
    refine qr_then ?_
    obtain rfl := os q11
    exact ret2 rfl rfl rfl ⟨rfl, (hm9.pick [] (by decide) rfl)⟩
  · refine cw_f rfl hb10 ?_
    refine cw_skip ?_
    refine qn_then ?_
    refine cw_seq ?_
    refine cw_region ?_
    refine t_rd rfl (rd_ld tA27 rfl (hm9.blk 0 rfl) rfl) ?_
    obtain ⟨r12, h13, q14⟩ := ob q11; clear q11
    refine t_ef rfl (ef_call tf61 rfl (leastcode_relations_ok h13 (hv0_Items.to_call hm9))) ?_
    rintro _ w18 ⟨zs16, v15, e_, hm17⟩
    obtain rfl := e_.symm
    have hm19 := hm9.call hm17
    refine t_rd rfl (rd_assign rfl) ?_
    refine rwt_nil ?_
    refine qn_then ?_
    refine cw_seq ?_
    refine cw_seq ?_
    refine cw_region ?_
    refine t_rd rfl (rd_move rfl) ?_
    refine t_rd rfl (rd_lenS tS22 rfl (hv1.of_old hm19)) ?_
    refine t_rd rfl (rd_move rfl) ?_
    refine rwt_nil ?_
    refine qn_then ?_
    refine cw_block ?_
    obtain ⟨r124, hit125, q126⟩ := ob q14; clear q14
    refine cw_loop2 (I := fun q envq wq => Sub [(1, v1), (2, (Value.pointer (some ⟨g1, 0, none⟩))), (7, v15), (22, v1), (23, (Value.int .i64 (List.length a1 : Int))), (24, (Value.int .i64 q))] envq ∧ Mem w No [ownL 22 v15 (zs16 : List Hdr), rowsC 3 zs16 (r12 : List (List Int)) none, blk g1 27 [v0_Items, (Value.int .i64 a0_Weight)]] wq) (X := fun eq envq wq => (∃ p127, r124 = (Sum.inl p127) ∧ eq = .ret ∧ retQ Tryz.prog 99 Tryz.f33 (fun u w' => u = (Value.tuple #[(Value.int .i64 p127.1), (Value.int .i64 p127.2)]) ∧ Mem w No [] w') .ret envq wq) ∨ (∃ p128, r124 = (Sum.inr p128) ∧ eq = .exit 0 ∧ Sub [(1, v1), (2, (Value.pointer (some ⟨g1, 0, none⟩))), (7, v15)] envq ∧ Mem w No [ownL 22 v15 (zs16 : List Hdr), rowsC 3 zs16 (r12 : List (List Int)) none, blk g1 27 [v0_Items, (Value.int .i64 a0_Weight)]] wq)) hit125 ⟨(by repeat (first | exact Sub.nil _ | refine Sub.cons rfl ?_)), (hm19.pick [0, 1, 2] (by decide) rfl)⟩ ?_ ?_
    · rintro i117 x119 env120 w121 hf122 hr123 ⟨hs_, hm_⟩
      have hs_ : Sub [(1, v1), (2, (Value.pointer (some ⟨g1, 0, none⟩))), (7, v15), (22, v1), (23, (Value.int .i64 (List.length a1 : Int))), (24, (Value.int .i64 i117))] env120 := hs_
      have hm129 : Mem w No [ownL 22 v15 (zs16 : List Hdr), rowsC 3 zs16 (r12 : List (List Int)) none, blk g1 27 [v0_Items, (Value.int .i64 a0_Weight)]] w121 := hm_
      refine cw_sub hs_ ?_
      clear hs_ hm_ q126
      have h : leastcode_Bound_l1 N a0_Items a1 r12 i117 = some x119 := hf122
      clear hf122
      refine cw_seq ?_
      refine cw_region ?_
      refine t_rd rfl (rd_lss rfl rfl) ?_
      refine rwt_nil ?_
      refine qn_then ?_
      refine cw_seq ?_
      obtain ⟨hb130, q131⟩ | ⟨hb130, q131⟩ := oi h <;> clear h
      · refine cw_t rfl hb130 ?_
        refine cw_skip ?_
        refine qn_then ?_
        refine cw_seq ?_
        refine cw_block ?_
        refine cw_seq ?_
        refine cw_region ?_
        refine t_rd rfl (rd_move rfl) ?_
        obtain ⟨x132, h133, q134⟩ := ob q131; clear q131
        refine t_rd rfl (rd_index tS22 rfl rfl (hv1.of_old hm129) h133) ?_
        refine t_rd rfl (rd_ld1 tO3 rfl ((hv1.of_old hm129).cells h133) (off := 0) rfl) ?_
        refine t_rd rfl (rd_assign rfl) ?_
        refine t_rd rfl (rd_assign rfl) ?_
        refine rwt_nil ?_
        refine qn_then ?_
        refine cw_seq ?_
        refine cw_region ?_
        refine t_rd rfl (rd_move rfl) ?_
        refine t_rd rfl (rd_lss rfl rfl) ?_
        refine t_rd rfl (rd_move rfl) ?_
        refine t_rdg rfl rfl rfl rfl (gv_f _) (fun hg135 => (rd_move rfl)) ?_
        refine t_rdg rfl rfl rfl rfl (gv_f _) (fun hg136 => (rd_fld tF27_0 rfl)) ?_
        refine t_rdg rfl rfl rfl rfl (gv_f _) (fun hg137 => (rd_ld1 tO25 (gvx rfl hg137) (hm129.blk 2 rfl) (off := 0) rfl)) ?_
        refine t_rdg rfl rfl rfl rfl (gv_f _) (fun hg138 => (rd_lenS tS25 (gvx rfl hg138) (hv0_Items.of_old hm129))) ?_
        refine t_rdg rfl rfl rfl rfl (gv_f _) (fun hg139 => (rd_geq (gvx rfl hg139) (gvx rfl hg139))) ?_
        refine t_rd rfl (rd_or rfl (fun hc140 => (gvx rfl (bnotIt hc140)))) ?_
        refine t_rd rfl (rd_move rfl) ?_
        refine t_rdg rfl rfl rfl rfl (gv_f _) (fun hg141 => (rd_move rfl)) ?_
        refine t_rdg rfl rfl rfl rfl (gv_f _) (fun hg142 => (rd_gtr (gvx rfl hg142) rfl)) ?_
        refine t_rdg rfl rfl rfl rfl (gv_f _) (fun hg143 => (rd_move (gvx rfl hg143))) ?_
        refine t_rdg rfl rfl rfl rfl (gv_nt _ _) (fun hg144 => (rd_move rfl)) ?_
        refine t_rdg rfl rfl rfl rfl (gv_nt _ _) (fun hg145 => (rd_move rfl)) ?_
        refine t_rdg rfl rfl rfl rfl (gv_nt _ _) (fun hg146 => (rd_move rfl)) ?_
        obtain ⟨x148, h149, q150⟩ := ob q134; clear q134
        refine t_rdg rfl rfl rfl rfl (gv_nt _ _) (fun hg147 => (rd_sub64 (gO_t h149 hg147) (gvx rfl hg147) rfl)) ?_
        obtain ⟨x152, h153, q154⟩ := ob q150; clear q150
        refine t_rdg rfl rfl rfl rfl (gv_nt _ _) (fun hg151 => (rd_index tS22 (gvx rfl hg151) (gvx rfl hg151) (hv1.of_old hm129) (gO_t h153 hg151))) ?_
        refine t_rdg rfl rfl rfl rfl (gv_nt _ _) (fun hg155 => (rd_ld1 tO3 (gvx rfl hg155) ((hv1.of_old hm129).cells (gO_t h153 hg155)) (off := 0) rfl)) ?_
        obtain ⟨x157, h158, q159⟩ := ob q154; clear q154
        refine t_rdg rfl rfl rfl rfl (gv_nt _ _) (fun hg156 => (rd_index tS41 (gvx rfl hg156) (gvx rfl hg156) ((Nl.mk (hm129.sl_call 0 rfl) (hm129.rows_call 1 rfl)).sl) (gO_t h158 hg156))) ?_
        obtain ⟨zd161, hz162⟩ := (Nl.mk (hm129.sl_call 0 rfl) (hm129.rows_call 1 rfl)).rowg (g := ((!(decide (x132 < 0) || decide ((List.length a0_Items : Int) ≤ x132))) && decide (0 < i117))) (fun q => gO_t h158 q)
        refine t_rdg rfl rfl rfl rfl (gv_nt _ _) (fun hg160 => (rd_ld1 tO22 (gvx rfl hg160) ((Nl.mk (hm129.sl_call 0 rfl) (hm129.rows_call 1 rfl)).cells (hz162 hg160)) (off := 0) rfl)) ?_
        refine t_rdg rfl rfl rfl rfl (gv_nt _ _) (fun hg163 => (rd_move rfl)) ?_
        obtain ⟨x165, h166, q167⟩ := ob q159; clear q159
        refine t_rdg rfl rfl rfl rfl (gv_nt _ _) (fun hg164 => (rd_index tS22 (gvx rfl hg164) (gvx rfl hg164) ((Nl.mk (hm129.sl_call 0 rfl) (hm129.rows_call 1 rfl)).get (hz162 hg164) (gO_t h158 hg164)) (gO_t h166 hg164))) ?_
        refine t_rdg rfl rfl rfl rfl (gv_nt _ _) (fun hg168 => (rd_ld1 tO3 (gvx rfl hg168) (((Nl.mk (hm129.sl_call 0 rfl) (hm129.rows_call 1 rfl)).get (hz162 hg168) (gO_t h158 hg168)).cells (gO_t h166 hg168)) (off := 0) rfl)) ?_
        refine t_rdg rfl rfl rfl rfl (gv_nt _ _) (fun hg169 => (rd_eql (gvx rfl hg169) rfl)) ?_
        refine t_rdg rfl rfl rfl rfl (gv_f _) (fun hg170 => (rd_and (gvx rfl hg170) (fun hc171 => (gvx rfl (band hg170 hc171))))) ?_
        refine t_rd rfl (rd_or rfl (fun hc172 => (gvx rfl (bnotIt hc172)))) ?_
        refine rwt_nil ?_
        refine qn_then ?_
        obtain ⟨hb173, q174⟩ | ⟨hb173, q174⟩ := oi q167 <;> clear q167
        · refine cw_t rfl hb173 ?_
          refine cw_seq ?_
          refine cw_region ?_
          refine t_rd rfl (rd_assign rfl) ?_
          refine t_rd rfl (rd_assign rfl) ?_
          refine rwt_nil ?_
          refine qn_then ?_
          refine cw_ret ?_
          refine qr_block (qr_then (qr_then ?_))
          obtain rfl := hr123 _ (os q174)
          refine .inl (⟨_, rfl, ⟨rfl, ?_⟩⟩)
          exact ret2 rfl rfl rfl ⟨rfl, (hm129.pick [] (by decide) rfl)⟩
        · refine cw_f rfl hb173 ?_
          refine cw_skip ?_
          refine qn_block (qn_then ?_)
          refine cw_region ?_
          obtain ⟨x175, h176, q177⟩ := ob q174; clear q174
          refine t_rd rfl (rd_add64 h176 rfl rfl) ?_
          refine t_rd rfl (rd_move rfl) ?_
          refine rwt_nil ?_
          refine qn_then ?_
          refine ⟨_, (os q177), (by repeat (first | exact Sub.nil _ | refine Sub.cons rfl ?_)), (hm129.pick [0, 1, 2] (by decide) rfl)⟩
      · refine cw_f rfl hb130 ?_
        refine cw_exit ?_
        refine qx_then (qx_then ?_)
        obtain rfl := hr123 _ (os q131)
        exact .inr (⟨_, rfl, ⟨rfl, (by repeat (first | exact Sub.nil _ | refine Sub.cons rfl ?_)), (hm129.pick [0, 1, 2] (by decide) rfl)⟩⟩)
    · skip
      intro e env178 w179 hX180
      rcases hX180 with hX180 | hX180
      · obtain ⟨p182, rfl, hX180⟩ := hX180
        obtain ⟨rfl, hq184⟩ := hX180
        exact qr_block (qr_then ((by have e := os q126; subst e; exact hq184)))
      · obtain ⟨p185, rfl, hX180⟩ := hX180
        obtain ⟨rfl, hs186, hm187⟩ := hX180
        refine qx_same (qn_then ?_)
        refine cw_sub hs186 ?_
        refine cw_seq ?_
        refine cw_region ?_
        refine t_rd rfl (rd_assign rfl) ?_
        refine rwt_nil ?_
        refine qn_then ?_
        refine cw_seq ?_
        refine cw_seq ?_
        refine cw_region ?_
        refine t_rd rfl (rd_move rfl) ?_
        refine t_rd rfl (rd_lenS tS22 rfl (hv1.of_old hm187)) ?_
        refine t_rd rfl (rd_move rfl) ?_
        refine rwt_nil ?_
        refine qn_then ?_
        refine cw_block ?_
        obtain ⟨r369, hit370, q371⟩ := ob q126; clear q126
        refine cw_loop2 (I := fun q envq wq => Sub [(1, v1), (2, (Value.pointer (some ⟨g1, 0, none⟩))), (7, v15), (10, (Value.int .i64 q.1)), (57, v1), (58, (Value.int .i64 (List.length a1 : Int))), (59, (Value.int .i64 q.2))] envq ∧ Mem w No [ownL 22 v15 (zs16 : List Hdr), rowsC 3 zs16 (r12 : List (List Int)) none, blk g1 27 [v0_Items, (Value.int .i64 a0_Weight)]] wq) (X := fun eq envq wq => (∃ p372, r369 = (Sum.inl p372) ∧ eq = .ret ∧ retQ Tryz.prog 99 Tryz.f33 (fun u w' => u = (Value.tuple #[(Value.int .i64 p372.1), (Value.int .i64 p372.2)]) ∧ Mem w No [] w') .ret envq wq) ∨ (∃ p373, r369 = (Sum.inr p373) ∧ eq = .exit 2 ∧ Sub [(10, (Value.int .i64 p373))] envq ∧ Mem w No [] wq)) hit370 ⟨(by repeat (first | exact Sub.nil _ | refine Sub.cons rfl ?_)), (hm187.pick [0, 1, 2] (by decide) rfl)⟩ ?_ ?_
        · rintro ⟨i361, i362⟩ x364 env365 w366 hf367 hr368 ⟨hs_, hm_⟩
          have hs_ : Sub [(1, v1), (2, (Value.pointer (some ⟨g1, 0, none⟩))), (7, v15), (10, (Value.int .i64 i361)), (57, v1), (58, (Value.int .i64 (List.length a1 : Int))), (59, (Value.int .i64 i362))] env365 := hs_
          have hm374 : Mem w No [ownL 22 v15 (zs16 : List Hdr), rowsC 3 zs16 (r12 : List (List Int)) none, blk g1 27 [v0_Items, (Value.int .i64 a0_Weight)]] w366 := hm_
          refine cw_sub hs_ ?_
          clear hs_ hm_ q371
          have h : leastcode_Bound_l2 N a0_Items a0_Weight a1 r12 i361 i362 = some x364 := hf367
          clear hf367
          refine cw_seq ?_
          refine cw_region ?_
          refine t_rd rfl (rd_lss rfl rfl) ?_
          refine rwt_nil ?_
          refine qn_then ?_
          refine cw_seq ?_
          obtain ⟨hb375, q376⟩ | ⟨hb375, q376⟩ := oi h <;> clear h
          · refine cw_t rfl hb375 ?_
            refine cw_skip ?_
            refine qn_then ?_
            refine cw_seq ?_
            refine cw_block ?_
            refine cw_seq ?_
            refine cw_region ?_
            refine t_rd rfl (rd_move rfl) ?_
            obtain ⟨x377, h378, q379⟩ := ob q376; clear q376
            refine t_rd rfl (rd_index tS22 rfl rfl (hv1.of_old hm374) h378) ?_
            refine t_rd rfl (rd_ld1 tO3 rfl ((hv1.of_old hm374).cells h378) (off := 0) rfl) ?_
            refine t_rd rfl (rd_assign rfl) ?_
            refine t_rd rfl (rd_assign rfl) ?_
            refine rwt_nil ?_
            refine qn_then ?_
            refine cw_seq ?_
            refine cw_seq ?_
            refine cw_region ?_
            refine t_rd rfl (rd_move rfl) ?_
            refine t_rd rfl (rd_gtr rfl rfl) ?_
            refine rwt_nil ?_
            refine qn_then ?_
            obtain ⟨j403, hit404, q405⟩ := ob q379; clear q379
            refine cw_join (X := fun eq envq wq => eq = .normal ∧ Sub [(1, v1), (2, (Value.pointer (some ⟨g1, 0, none⟩))), (7, v15), (10, (Value.int .i64 j403)), (12, (Value.int .i64 x377)), (57, v1), (58, (Value.int .i64 (List.length a1 : Int))), (59, (Value.int .i64 i362))] envq ∧ Mem w No [ownL 22 v15 (zs16 : List Hdr), rowsC 3 zs16 (r12 : List (List Int)) none, blk g1 27 [v0_Items, (Value.int .i64 a0_Weight)]] wq) ?_ ?_
            · clear q405
              obtain ⟨hb406, q407⟩ | ⟨hb406, q407⟩ := oi hit404 <;> clear hit404
              · refine cw_t rfl hb406 ?_
                refine cw_region ?_
                refine t_rd rfl (rd_move rfl) ?_
                refine t_rd rfl (rd_move rfl) ?_
                refine t_rd rfl (rd_move rfl) ?_
                refine t_rd rfl (rd_move rfl) ?_
                obtain ⟨x408, h409, q410⟩ := ob q407; clear q407
                refine t_rd rfl (rd_sub64 h409 rfl rfl) ?_
                obtain ⟨x411, h412, q413⟩ := ob q410; clear q410
                refine t_rd rfl (rd_index tS22 rfl rfl (hv1.of_old hm374) h412) ?_
                refine t_rd rfl (rd_ld1 tO3 rfl ((hv1.of_old hm374).cells h412) (off := 0) rfl) ?_
                obtain ⟨x414, h415, q416⟩ := ob q413; clear q413
                refine t_rd rfl (rd_index tS41 rfl rfl ((Nl.mk (hm374.sl_call 0 rfl) (hm374.rows_call 1 rfl)).sl) h415) ?_
                obtain ⟨zd417, hz418⟩ := (Nl.mk (hm374.sl_call 0 rfl) (hm374.rows_call 1 rfl)).row h415
                refine t_rd rfl (rd_ld1 tO22 rfl ((Nl.mk (hm374.sl_call 0 rfl) (hm374.rows_call 1 rfl)).cells hz418) (off := 0) rfl) ?_
                refine t_rd rfl (rd_move rfl) ?_
                obtain ⟨x419, h420, q421⟩ := ob q416; clear q416
                refine t_rd rfl (rd_index tS22 rfl rfl ((Nl.mk (hm374.sl_call 0 rfl) (hm374.rows_call 1 rfl)).get hz418 h415) h420) ?_
                refine t_rd rfl (rd_ld1 tO3 rfl (((Nl.mk (hm374.sl_call 0 rfl) (hm374.rows_call 1 rfl)).get hz418 h415).cells h420) (off := 0) rfl) ?_
                obtain ⟨x422, h423, q424⟩ := ob q421; clear q421
                refine t_rd rfl (rd_sub64 h423 rfl rfl) ?_
                obtain ⟨x425, h426, q427⟩ := ob q424; clear q424
                refine t_rd rfl (rd_add64 h426 rfl rfl) ?_
                refine t_rd rfl (rd_assign rfl) ?_
                refine rwt_nil ?_
                obtain rfl := os q427
                exact ⟨rfl, (by repeat (first | exact Sub.nil _ | refine Sub.cons rfl ?_)), (hm374.pick [0, 1, 2] (by decide) rfl)⟩
              · refine cw_f rfl hb406 ?_
                refine cw_skip ?_
                obtain rfl := os q407
                exact ⟨rfl, (by repeat (first | exact Sub.nil _ | refine Sub.cons rfl ?_)), (hm374.pick [0, 1, 2] (by decide) rfl)⟩
            · clear hit404
              intro e env428 w429 hX430
              obtain ⟨rfl, hs431, hm432⟩ := hX430
              refine qn_then ?_
              refine cw_sub hs431 ?_
              refine cw_seq ?_
              obtain ⟨w443, he445⟩ : ∃ q, q = w429.drew := ⟨_, rfl⟩
              have hm444 := hm432.drew; rw [← he445] at hm444
              refine cw_region_s (fun q => q = w443) (cls [] [9]) mixed ?_
              rintro _ rfl; rw [← he445]
              refine s_rp (i := 0) rfl (by kernel_rfl) rfl (fun _ => (rd_move rfl)) ?_
              refine s_rp (i := 1) rfl (by kernel_rfl) rfl (fun _ => (rd_fld tF27_0 rfl)) ?_
              refine s_rd (i := 2) rfl (by kernel_rfl) rfl (fun _ hS => by rw [hS]; exact (rd_ld1 tO25 rfl (hm444.blk 2 rfl) (off := 0) rfl)) rfl ?_
              refine s_rp (i := 3) rfl (by kernel_rfl) rfl (fun _ => (rd_move rfl)) ?_
              obtain ⟨x446, h447, q448⟩ := ob q405; clear q405
              refine s_rp (i := 4) rfl (by kernel_rfl) rfl (fun _ => (rd_index tS25 rfl rfl (hv0_Items.of_old hm444) h447)) ?_
              refine s_rp (i := 5) rfl (by kernel_rfl) rfl (fun _ => (rd_fld tF40_2 rfl)) ?_
              refine s_rd (i := 6) rfl (by kernel_rfl) rfl (fun _ hS => by rw [hS]; exact (rd_ld1 tO3 rfl ((hv0_Items.of_old hm444).cells h447) (off := 2) rfl)) rfl ?_
              refine s_rp (i := 7) rfl (by kernel_rfl) rfl (fun _ => (rd_fld tF27_1 rfl)) ?_
              refine s_rd (i := 8) rfl (by kernel_rfl) rfl (fun _ hS => by rw [hS]; exact (rd_ld1 tO3 rfl (hm444.blk 2 rfl) (off := 1) rfl)) rfl ?_
              obtain ⟨r449, h450, q451⟩ := ob q448; clear q448
              refine s_ef (i := 9) rfl (by kernel_rfl) rfl (ef_call tf69 rfl (code_Next_ok h450)) (by decide) (fun _ _ _ q => absurd q (by decide)) ?_
              rintro _ w453 ⟨e_, hm452⟩
              obtain rfl := e_.symm
              have hm454 := hm444.call hm452
              refine s_rp (i := 10) rfl (by kernel_rfl) rfl (fun _ => (rd_move rfl)) ?_
              refine s_rp (i := 11) rfl (by kernel_rfl) rfl (fun _ => (rd_extract rfl rfl)) ?_
              refine s_rp (i := 12) rfl (by kernel_rfl) rfl (fun _ => (rd_extract rfl rfl)) ?_
              refine s_rp (i := 13) rfl (by kernel_rfl) rfl (fun _ => (rd_assign rfl)) ?_
              refine s_rp (i := 14) rfl (by kernel_rfl) rfl (fun _ => (rd_assign rfl)) ?_
              refine s_nil (by kernel_rfl) ?_
              refine qn_then ?_
              refine cw_seq ?_
              refine cw_seq ?_
              refine cw_region ?_
              refine t_rd rfl (rd_move rfl) ?_
              refine t_rd rfl (rd_neq rfl rfl) ?_
              refine rwt_nil ?_
              refine qn_then ?_
              obtain ⟨hb455, q456⟩ | ⟨hb455, q456⟩ := oi q451 <;> clear q451
              · refine cw_t rfl hb455 ?_
                refine cw_seq ?_
                refine cw_region ?_
                refine t_rd rfl (rd_move rfl) ?_
                refine t_rd rfl (rd_assign rfl) ?_
                refine t_rd rfl (rd_assign rfl) ?_
                refine rwt_nil ?_
                refine qn_then ?_
                refine cw_ret ?_
                refine qr_then (qr_block (qr_then (qr_then ?_)))
                obtain rfl := hr368 _ (os q456)
                refine .inl (⟨_, rfl, ⟨rfl, ?_⟩⟩)
                exact ret2 rfl rfl rfl ⟨rfl, (hm454.pick [] (by decide) rfl)⟩
              · refine cw_f rfl hb455 ?_
                refine cw_skip ?_
                refine qn_then ?_
                refine cw_region ?_
                refine t_rd rfl (rd_move rfl) ?_
                refine t_rd rfl (rd_assign rfl) ?_
                refine rwt_nil ?_
                refine qn_block (qn_then ?_)
                refine cw_region ?_
                obtain ⟨x457, h458, q459⟩ := ob q456; clear q456
                refine t_rd rfl (rd_add64 h458 rfl rfl) ?_
                refine t_rd rfl (rd_move rfl) ?_
                refine rwt_nil ?_
                refine qn_then ?_
                refine ⟨_, (os q459), (by repeat (first | exact Sub.nil _ | refine Sub.cons rfl ?_)), (hm454.pick [0, 1, 2] (by decide) rfl)⟩
          · refine cw_f rfl hb375 ?_
            refine cw_exit ?_
            refine qx_then (qx_then ?_)
            obtain rfl := hr368 _ (os q376)
            exact .inr (⟨_, rfl, ⟨rfl, (by repeat (first | exact Sub.nil _ | refine Sub.cons rfl ?_)), (hm374.pick [] (by decide) rfl)⟩⟩)
        · skip
          intro e env460 w461 hX462
          rcases hX462 with hX462 | hX462
          · obtain ⟨p464, rfl, hX462⟩ := hX462
            obtain ⟨rfl, hq466⟩ := hX462
            exact qr_block (qr_then ((by have e := os q371; subst e; exact hq466)))
          · obtain ⟨p467, rfl, hX462⟩ := hX462
            obtain ⟨rfl, hs468, hm469⟩ := hX462
            refine qx_same (qn_then ?_)
            refine cw_sub hs468 ?_
            refine cw_seq ?_
            refine cw_region ?_
            refine t_rd rfl (rd_move rfl) ?_
            refine t_rd rfl (rd_assign rfl) ?_
            refine t_rd rfl (rd_assign rfl) ?_
            refine rwt_nil ?_
            refine qn_then ?_
            refine cw_ret ?_
            obtain rfl := os q371
            exact ret2 rfl rfl rfl ⟨rfl, (hm469.pick [] (by decide) rfl)⟩

theorem certificate_Check_ok {N : Nat} {a0_Items : List T_Item} {a0_Weight : Int} {a1_Plan_Steps : Int} {a1_Plan_Codes : List Int} {a1_Chain : List Int} {res : Int} (h : certificate_Check N a0_Items a0_Weight a1_Plan_Steps a1_Plan_Codes a1_Chain = some res) {w : World} {v0_Items : Value} {v1_Plan_Codes : Value} {v1_Chain : Value} (hv0_Items : Sl (Old w No) w v0_Items a0_Items) (hv1_Plan_Codes : Sl (Old w No) w v1_Plan_Codes a1_Plan_Codes) (hv1_Chain : Sl (Old w No) w v1_Chain a1_Chain) :
    CallsR Tryz.prog 10 [(Value.agg #[v0_Items, (Value.int .i64 a0_Weight)]), (Value.agg #[(Value.int .i64 a1_Plan_Steps), v1_Plan_Codes, v1_Chain])] w (fun u w' => u = (Value.int .i64 res) ∧ Mem w No [] w') := by
  unfold certificate_Check at h
  refine fn_ok Tryz.func10 rfl rfl rfl ?_
  have hm0 := Mem.nil w
  refine cw_seq ?_
  refine cw_region ?_
  refine t_ef rfl (ef_box hm0 rfl rfl) ?_
  rintro _ w3 ⟨g1, rfl, hm2⟩
  refine t_ef rfl (ef_box hm2 rfl rfl) ?_
  rintro _ w6 ⟨g4, rfl, hm5⟩
  refine t_rd rfl (rd_assign rfl) ?_
  refine rwt_nil ?_
  refine qn_then ?_
  refine cw_seq ?_
  refine cw_seq ?_
  refine cw_region ?_
  refine t_rd rfl (rd_ld tA27 rfl (hm5.blk 1 rfl) rfl) ?_
  refine t_rd rfl (rd_fld tF32_0 rfl) ?_
  refine t_rd rfl (rd_ldp (cs' := [(Value.int .i64 a1_Plan_Steps), v1_Plan_Codes]) tA30 rfl (hm5.blk 0 rfl) (off := 0) rfl rfl) ?_
  obtain ⟨r7, h8, q9⟩ := ob h; clear h
  refine t_ef rfl (ef_call tf31 rfl (rollin_Valid_ok h8 (hv0_Items.to_call hm5) (hv1_Plan_Codes.to_call hm5))) ?_
  rintro _ w11 ⟨e_, hm10⟩
  obtain rfl := e_.symm
  have hm12 := hm5.call hm10
  refine t_rd rfl (rd_assign rfl) ?_
  refine rwt_nil ?_
  refine qn_then ?_
  refine cw_seq ?_
  refine cw_region ?_
  refine t_rd rfl (rd_move rfl) ?_
  refine t_rd rfl (rd_neq rfl rfl) ?_
  refine rwt_nil ?_
  refine qn_then ?_
  obtain ⟨hb13, q14⟩ | ⟨hb13, q14⟩ := oi q9 <;> clear q9
  · refine cw_t rfl hb13 ?_
    refine cw_seq ?_
    refine cw_region ?_
    refine t_rd rfl (rd_move rfl) ?_
    refine t_rd rfl (rd_assign rfl) ?_
    refine rwt_nil ?_
    refine qn_then ?_
    refine cw_ret ?_
    refine qr_then ?_
    obtain rfl := os q14
    exact ret1 rfl rfl ⟨rfl, (hm12.pick [] (by decide) rfl)⟩
  · refine cw_f rfl hb13 ?_
    refine cw_skip ?_
    refine qn_then ?_
    refine cw_seq ?_
    refine cw_seq ?_
    refine cw_region ?_
    refine t_rd rfl (rd_fld tF27_0 rfl) ?_
    refine t_rd rfl (rd_ld1 tO25 rfl (hm12.blk 1 rfl) (off := 0) rfl) ?_
    refine t_rd rfl (rd_lenS tS25 rfl (hv0_Items.of_old hm12)) ?_
    refine t_rd rfl (rd_move rfl) ?_
    refine rwt_nil ?_
    refine qn_then ?_
    refine cw_block ?_
    obtain ⟨r543, hit544, q545⟩ := ob q14; clear q14
    refine cw_loop2 (I := fun q envq wq => Sub [(2, (Value.pointer (some ⟨g1, 0, none⟩))), (3, (Value.pointer (some ⟨g4, 0, none⟩))), (23, (Value.int .i64 (List.length a0_Items : Int))), (24, (Value.int .i64 q))] envq ∧ Mem w No [blk g4 32 [(Value.int .i64 a1_Plan_Steps), v1_Plan_Codes, v1_Chain], blk g1 27 [v0_Items, (Value.int .i64 a0_Weight)]] wq) (X := fun eq envq wq => (∃ p546, r543 = (Sum.inl p546) ∧ eq = .ret ∧ retQ Tryz.prog 89 Tryz.f10 (fun u w' => u = (Value.int .i64 p546) ∧ Mem w No [] w') .ret envq wq) ∨ (∃ p547, r543 = (Sum.inr p547) ∧ eq = .exit 0 ∧ Sub [(2, (Value.pointer (some ⟨g1, 0, none⟩))), (3, (Value.pointer (some ⟨g4, 0, none⟩)))] envq ∧ Mem w No [blk g4 32 [(Value.int .i64 a1_Plan_Steps), v1_Plan_Codes, v1_Chain], blk g1 27 [v0_Items, (Value.int .i64 a0_Weight)]] wq)) hit544 ⟨(by repeat (first | exact Sub.nil _ | refine Sub.cons rfl ?_)), (hm12.pick [0, 1] (by decide) rfl)⟩ ?_ ?_
    · rintro i536 x538 env539 w540 hf541 hr542 ⟨hs_, hm_⟩
      have hs_ : Sub [(2, (Value.pointer (some ⟨g1, 0, none⟩))), (3, (Value.pointer (some ⟨g4, 0, none⟩))), (23, (Value.int .i64 (List.length a0_Items : Int))), (24, (Value.int .i64 i536))] env539 := hs_
      have hm548 : Mem w No [blk g4 32 [(Value.int .i64 a1_Plan_Steps), v1_Plan_Codes, v1_Chain], blk g1 27 [v0_Items, (Value.int .i64 a0_Weight)]] w540 := hm_
      refine cw_sub hs_ ?_
      clear hs_ hm_ q545
      have h : certificate_Check_l3 N a0_Items a0_Weight a1_Plan_Codes i536 = some x538 := hf541
      clear hf541
      refine cw_seq ?_
      refine cw_region ?_
      refine t_rd rfl (rd_lss rfl rfl) ?_
      refine rwt_nil ?_
      refine qn_then ?_
      refine cw_seq ?_
      obtain ⟨hb549, q550⟩ | ⟨hb549, q550⟩ := oi h <;> clear h
      · refine cw_t rfl hb549 ?_
        refine cw_skip ?_
        refine qn_then ?_
        refine cw_seq ?_
        refine cw_block ?_
        refine cw_seq ?_
        refine cw_region ?_
        refine t_rd rfl (rd_move rfl) ?_
        refine t_rd rfl (rd_assign rfl) ?_
        refine rwt_nil ?_
        refine qn_then ?_
        refine cw_seq ?_
        refine cw_region ?_
        refine t_rd rfl (rd_fld tF27_0 rfl) ?_
        refine t_rd rfl (rd_ld1 tO25 rfl (hm548.blk 1 rfl) (off := 0) rfl) ?_
        refine t_rd rfl (rd_lenS tS25 rfl (hv0_Items.of_old hm548)) ?_
        refine t_rd rfl (rd_move rfl) ?_
        refine rwt_nil ?_
        refine qn_then ?_
        refine cw_block ?_
        obtain ⟨r713, hit714, q715⟩ := ob q550; clear q550
        refine cw_loop2 (I := fun q envq wq => Sub [(2, (Value.pointer (some ⟨g1, 0, none⟩))), (3, (Value.pointer (some ⟨g4, 0, none⟩))), (6, (Value.int .i64 i536)), (23, (Value.int .i64 (List.length a0_Items : Int))), (24, (Value.int .i64 i536)), (29, (Value.int .i64 (List.length a0_Items : Int))), (30, (Value.int .i64 q))] envq ∧ Mem w No [blk g4 32 [(Value.int .i64 a1_Plan_Steps), v1_Plan_Codes, v1_Chain], blk g1 27 [v0_Items, (Value.int .i64 a0_Weight)]] wq) (X := fun eq envq wq => (∃ p716, r713 = (Sum.inl p716) ∧ eq = .ret ∧ retQ Tryz.prog 89 Tryz.f10 (fun u w' => u = (Value.int .i64 p716) ∧ Mem w No [] w') .ret envq wq) ∨ (∃ p717, r713 = (Sum.inr p717) ∧ eq = .exit 2 ∧ Sub [(2, (Value.pointer (some ⟨g1, 0, none⟩))), (3, (Value.pointer (some ⟨g4, 0, none⟩))), (23, (Value.int .i64 (List.length a0_Items : Int))), (24, (Value.int .i64 i536))] envq ∧ Mem w No [blk g4 32 [(Value.int .i64 a1_Plan_Steps), v1_Plan_Codes, v1_Chain], blk g1 27 [v0_Items, (Value.int .i64 a0_Weight)]] wq)) hit714 ⟨(by repeat (first | exact Sub.nil _ | refine Sub.cons rfl ?_)), (hm548.pick [0, 1] (by decide) rfl)⟩ ?_ ?_
        · rintro i706 x708 env709 w710 hf711 hr712 ⟨hs_, hm_⟩
          have hs_ : Sub [(2, (Value.pointer (some ⟨g1, 0, none⟩))), (3, (Value.pointer (some ⟨g4, 0, none⟩))), (6, (Value.int .i64 i536)), (23, (Value.int .i64 (List.length a0_Items : Int))), (24, (Value.int .i64 i536)), (29, (Value.int .i64 (List.length a0_Items : Int))), (30, (Value.int .i64 i706))] env709 := hs_
          have hm718 : Mem w No [blk g4 32 [(Value.int .i64 a1_Plan_Steps), v1_Plan_Codes, v1_Chain], blk g1 27 [v0_Items, (Value.int .i64 a0_Weight)]] w710 := hm_
          refine cw_sub hs_ ?_
          clear hs_ hm_ q715
          have h : certificate_Check_l4 N a0_Items a0_Weight a1_Plan_Codes i536 i706 = some x708 := hf711
          clear hf711
          refine cw_seq ?_
          refine cw_region ?_
          refine t_rd rfl (rd_lss rfl rfl) ?_
          refine rwt_nil ?_
          refine qn_then ?_
          refine cw_seq ?_
          obtain ⟨hb719, q720⟩ | ⟨hb719, q720⟩ := oi h <;> clear h
          · refine cw_t rfl hb719 ?_
            refine cw_skip ?_
            refine qn_then ?_
            refine cw_seq ?_
            refine cw_block ?_
            refine cw_seq ?_
            refine cw_region ?_
            refine t_rd rfl (rd_move rfl) ?_
            refine t_rd rfl (rd_assign rfl) ?_
            refine rwt_nil ?_
            refine qn_then ?_
            refine cw_seq ?_
            refine cw_region ?_
            refine t_rd rfl (rd_ld tA27 rfl (hm718.blk 1 rfl) rfl) ?_
            refine t_rd rfl (rd_move rfl) ?_
            refine t_rd rfl (rd_move rfl) ?_
            obtain ⟨r721, h722, q723⟩ := ob q720; clear q720
            refine t_ef rfl (ef_call tf32 rfl (job_Relation_ok h722 (hv0_Items.to_call hm718))) ?_
            rintro _ w725 ⟨e_, hm724⟩
            obtain rfl := e_.symm
            have hm726 := hm718.call hm724
            refine t_rd rfl (rd_move rfl) ?_
            refine t_rd rfl (rd_extract rfl rfl) ?_
            refine t_rd rfl (rd_extract rfl rfl) ?_
            refine t_rd rfl (rd_assign rfl) ?_
            refine t_rd rfl (rd_assign rfl) ?_
            refine rwt_nil ?_
            refine qn_then ?_
            refine cw_seq ?_
            refine cw_seq ?_
            refine cw_region ?_
            refine t_rd rfl (rd_move rfl) ?_
            refine t_rd rfl (rd_neq rfl rfl) ?_
            refine rwt_nil ?_
            refine qn_then ?_
            obtain ⟨hb727, q728⟩ | ⟨hb727, q728⟩ := oi q723 <;> clear q723
            · refine cw_t rfl hb727 ?_
              refine cw_seq ?_
              refine cw_region ?_
              refine t_rd rfl (rd_move rfl) ?_
              refine t_rd rfl (rd_assign rfl) ?_
              refine rwt_nil ?_
              refine qn_then ?_
              refine cw_ret ?_
              refine qr_then (qr_block (qr_then (qr_then ?_)))
              obtain rfl := hr712 _ (os q728)
              refine .inl (⟨_, rfl, ⟨rfl, ?_⟩⟩)
              exact ret1 rfl rfl ⟨rfl, (hm726.pick [] (by decide) rfl)⟩
            · refine cw_f rfl hb727 ?_
              refine cw_skip ?_
              refine qn_then ?_
              refine cw_seq ?_
              obtain ⟨w759, he761⟩ : ∃ q, q = w725.drew := ⟨_, rfl⟩
              have hm760 := hm726.drew; rw [← he761] at hm760
              refine cw_region_s (fun q => q = w759) (cls [] []) mixed ?_
              rintro _ rfl; rw [← he761]
              refine s_rp (i := 0) rfl (by kernel_rfl) rfl (fun _ => (rd_move rfl)) ?_
              refine s_rp (i := 1) rfl (by kernel_rfl) rfl (fun _ => (rd_gtr rfl rfl)) ?_
              refine s_rp (i := 2) rfl (by kernel_rfl) rfl (fun _ => (rd_move rfl)) ?_
              refine s_rpg (i := 3) rfl (by kernel_rfl) rfl rfl rfl rfl (gv_t _) (fun hg762 _ => (rd_fld tF32_0 rfl)) ?_
              refine s_rpg (i := 4) rfl (by kernel_rfl) rfl rfl rfl rfl (gv_t _) (fun hg763 _ => (rd_fld tF30_1 (gvx rfl hg763))) ?_
              refine s_rdg (i := 5) rfl (by kernel_rfl) rfl rfl rfl rfl (gv_t _) (fun hg764 => (fun _ hS => by rw [hS]; exact (rd_ld1 tO22 (gvx rfl hg764) (hm760.blk 0 rfl) (off := 1) rfl))) rfl ?_
              refine s_rpg (i := 6) rfl (by kernel_rfl) rfl rfl rfl rfl (gv_t _) (fun hg765 _ => (rd_move rfl)) ?_
              obtain ⟨x767, h768, q769⟩ := ob q728; clear q728
              refine s_rpg (i := 7) rfl (by kernel_rfl) rfl rfl rfl rfl (gv_t _) (fun hg766 _ => (rd_index tS22 (gvx rfl hg766) (gvx rfl hg766) (hv1_Plan_Codes.of_old hm760) (gO_t h768 hg766))) ?_
              refine s_rdg (i := 8) rfl (by kernel_rfl) rfl rfl rfl rfl (gv_t _) (fun hg770 => (fun _ hS => by rw [hS]; exact (rd_ld1 tO3 (gvx rfl hg770) ((hv1_Plan_Codes.of_old hm760).cells (gO_t h768 hg770)) (off := 0) rfl))) rfl ?_
              refine s_rpg (i := 9) rfl (by kernel_rfl) rfl rfl rfl rfl (gv_t _) (fun hg771 _ => (rd_move rfl)) ?_
              obtain ⟨x773, h774, q775⟩ := ob q769; clear q769
              refine s_rpg (i := 10) rfl (by kernel_rfl) rfl rfl rfl rfl (gv_t _) (fun hg772 _ => (rd_add64 (gO_t h774 hg772) (gvx rfl hg772) (gvx rfl hg772))) ?_
              obtain ⟨x777, h778, q779⟩ := ob q775; clear q775
              refine s_rpg (i := 11) rfl (by kernel_rfl) rfl rfl rfl rfl (gv_t _) (fun hg776 _ => (rd_sub64 (gO_t h778 hg776) (gvx rfl hg776) rfl)) ?_
              refine s_rpg (i := 12) rfl (by kernel_rfl) rfl rfl rfl rfl (gv_t _) (fun hg780 _ => (rd_fld tF32_0 rfl)) ?_
              refine s_rpg (i := 13) rfl (by kernel_rfl) rfl rfl rfl rfl (gv_t _) (fun hg781 _ => (rd_fld tF30_1 (gvx rfl hg781))) ?_
              refine s_rdg (i := 14) rfl (by kernel_rfl) rfl rfl rfl rfl (gv_t _) (fun hg782 => (fun _ hS => by rw [hS]; exact (rd_ld1 tO22 (gvx rfl hg782) (hm760.blk 0 rfl) (off := 1) rfl))) rfl ?_
              refine s_rpg (i := 15) rfl (by kernel_rfl) rfl rfl rfl rfl (gv_t _) (fun hg783 _ => (rd_move rfl)) ?_
              obtain ⟨x785, h786, q787⟩ := ob q779; clear q779
              refine s_rpg (i := 16) rfl (by kernel_rfl) rfl rfl rfl rfl (gv_t _) (fun hg784 _ => (rd_index tS22 (gvx rfl hg784) (gvx rfl hg784) (hv1_Plan_Codes.of_old hm760) (gO_t h786 hg784))) ?_
              refine s_rdg (i := 17) rfl (by kernel_rfl) rfl rfl rfl rfl (gv_t _) (fun hg788 => (fun _ hS => by rw [hS]; exact (rd_ld1 tO3 (gvx rfl hg788) ((hv1_Plan_Codes.of_old hm760).cells (gO_t h786 hg788)) (off := 0) rfl))) rfl ?_
              refine s_rpg (i := 18) rfl (by kernel_rfl) rfl rfl rfl rfl (gv_t _) (fun hg789 _ => (rd_gtr (gvx rfl hg789) (gvx rfl hg789))) ?_
              refine s_rp (i := 19) rfl (by kernel_rfl) rfl (fun _ => (rd_and rfl (fun hc790 => (gvx rfl hc790)))) ?_
              refine s_nil (by kernel_rfl) ?_
              refine qn_then ?_
              obtain ⟨hb791, q792⟩ | ⟨hb791, q792⟩ := oi q787 <;> clear q787
              · refine cw_t rfl hb791 ?_
                refine cw_seq ?_
                refine cw_region ?_
                refine t_rd rfl (rd_assign rfl) ?_
                refine rwt_nil ?_
                refine qn_then ?_
                refine cw_ret ?_
                refine qr_block (qr_then (qr_then ?_))
                obtain rfl := hr712 _ (os q792)
                refine .inl (⟨_, rfl, ⟨rfl, ?_⟩⟩)
                exact ret1 rfl rfl ⟨rfl, (hm760.pick [] (by decide) rfl)⟩
              · refine cw_f rfl hb791 ?_
                refine cw_skip ?_
                refine qn_block (qn_then ?_)
                refine cw_region ?_
                obtain ⟨x793, h794, q795⟩ := ob q792; clear q792
                refine t_rd rfl (rd_add64 h794 rfl rfl) ?_
                refine t_rd rfl (rd_move rfl) ?_
                refine rwt_nil ?_
                refine qn_then ?_
                refine ⟨_, (os q795), (by repeat (first | exact Sub.nil _ | refine Sub.cons rfl ?_)), (hm760.pick [0, 1] (by decide) rfl)⟩
          · refine cw_f rfl hb719 ?_
            refine cw_exit ?_
            refine qx_then (qx_then ?_)
            obtain rfl := hr712 _ (os q720)
            exact .inr (⟨_, rfl, ⟨rfl, (by repeat (first | exact Sub.nil _ | refine Sub.cons rfl ?_)), (hm718.pick [0, 1] (by decide) rfl)⟩⟩)
        · skip
          intro e env796 w797 hX798
          rcases hX798 with hX798 | hX798
          · obtain ⟨p800, rfl, hX798⟩ := hX798
            obtain ⟨rfl, hq802⟩ := hX798
            obtain rfl := hr542 _ (os q715)
            exact qr_block (qr_block (qr_then (qr_then (.inl (⟨_, rfl, ⟨rfl, hq802⟩⟩)))))
          · obtain ⟨p803, rfl, hX798⟩ := hX798
            obtain ⟨rfl, hs804, hm805⟩ := hX798
            refine qx_same (qn_block (qn_then ?_))
            refine cw_sub hs804 ?_
            refine cw_region ?_
            obtain ⟨x806, h807, q808⟩ := ob q715; clear q715
            refine t_rd rfl (rd_add64 h807 rfl rfl) ?_
            refine t_rd rfl (rd_move rfl) ?_
            refine rwt_nil ?_
            refine qn_then ?_
            refine ⟨_, (os q808), (by repeat (first | exact Sub.nil _ | refine Sub.cons rfl ?_)), (hm805.pick [0, 1] (by decide) rfl)⟩
      · refine cw_f rfl hb549 ?_
        refine cw_exit ?_
        refine qx_then (qx_then ?_)
        obtain rfl := hr542 _ (os q550)
        exact .inr (⟨_, rfl, ⟨rfl, (by repeat (first | exact Sub.nil _ | refine Sub.cons rfl ?_)), (hm548.pick [0, 1] (by decide) rfl)⟩⟩)
    · skip
      intro e env809 w810 hX811
      rcases hX811 with hX811 | hX811
      · obtain ⟨p813, rfl, hX811⟩ := hX811
        obtain ⟨rfl, hq815⟩ := hX811
        exact qr_block (qr_then ((by have e := os q545; subst e; exact hq815)))
      · obtain ⟨p816, rfl, hX811⟩ := hX811
        obtain ⟨rfl, hs817, hm818⟩ := hX811
        refine qx_same (qn_then ?_)
        refine cw_sub hs817 ?_
        refine cw_seq ?_
        refine cw_region ?_
        refine t_rd rfl (rd_ld tA27 rfl (hm818.blk 1 rfl) rfl) ?_
        refine t_rd rfl (rd_fld tF32_1 rfl) ?_
        refine t_rd rfl (rd_ld1 tO22 rfl (hm818.blk 0 rfl) (off := 2) rfl) ?_
        obtain ⟨r819, h820, q821⟩ := ob q545; clear q545
        refine t_ef rfl (ef_call tf33 rfl (leastcode_Bound_ok h820 (hv0_Items.to_call hm818) (hv1_Chain.to_call hm818))) ?_
        rintro _ w823 ⟨e_, hm822⟩
        obtain rfl := e_.symm
        have hm824 := hm818.call hm822
        refine t_rd rfl (rd_move rfl) ?_
        refine t_rd rfl (rd_extract rfl rfl) ?_
        refine t_rd rfl (rd_extract rfl rfl) ?_
        refine t_rd rfl (rd_assign rfl) ?_
        refine t_rd rfl (rd_assign rfl) ?_
        refine rwt_nil ?_
        refine qn_then ?_
        refine cw_seq ?_
        refine cw_seq ?_
        refine cw_region ?_
        refine t_rd rfl (rd_move rfl) ?_
        refine t_rd rfl (rd_neq rfl rfl) ?_
        refine rwt_nil ?_
        refine qn_then ?_
        obtain ⟨hb825, q826⟩ | ⟨hb825, q826⟩ := oi q821 <;> clear q821
        · refine cw_t rfl hb825 ?_
          refine cw_seq ?_
          refine cw_region ?_
          refine t_rd rfl (rd_move rfl) ?_
          refine t_rd rfl (rd_assign rfl) ?_
          refine rwt_nil ?_
          refine qn_then ?_
          refine cw_ret ?_
          refine qr_then ?_
          obtain rfl := os q826
          exact ret1 rfl rfl ⟨rfl, (hm824.pick [] (by decide) rfl)⟩
        · refine cw_f rfl hb825 ?_
          refine cw_skip ?_
          refine qn_then ?_
          refine cw_seq ?_
          refine cw_seq ?_
          refine cw_region ?_
          refine t_rd rfl (rd_move rfl) ?_
          obtain ⟨r827, h828, q829⟩ := ob q826; clear q826
          refine t_ef rfl (ef_call tf34 rfl (code_Steps_ok h828)) ?_
          rintro _ w831 ⟨e_, hm830⟩
          obtain rfl := e_.symm
          have hm832 := hm824.call hm830
          refine t_rd rfl (rd_move rfl) ?_
          refine t_rd rfl (rd_extract rfl rfl) ?_
          refine t_rd rfl (rd_extract rfl rfl) ?_
          refine t_rd rfl (rd_assign rfl) ?_
          refine t_rd rfl (rd_assign rfl) ?_
          refine rwt_nil ?_
          refine qn_then ?_
          refine cw_seq ?_
          refine cw_region ?_
          refine t_rd rfl (rd_move rfl) ?_
          refine t_rd rfl (rd_neq rfl rfl) ?_
          refine t_rd rfl (rd_move rfl) ?_
          refine t_rdg rfl rfl rfl rfl (gv_f _) (fun hg833 => (rd_move rfl)) ?_
          refine t_rdg rfl rfl rfl rfl (gv_f _) (fun hg834 => (rd_fld tF32_0 rfl)) ?_
          refine t_rdg rfl rfl rfl rfl (gv_f _) (fun hg835 => (rd_fld tF30_0 (gvx rfl hg835))) ?_
          refine t_rdg rfl rfl rfl rfl (gv_f _) (fun hg836 => (rd_ld1 tO3 (gvx rfl hg836) (hm832.blk 0 rfl) (off := 0) rfl)) ?_
          refine t_rdg rfl rfl rfl rfl (gv_f _) (fun hg837 => (rd_neq (gvx rfl hg837) (gvx rfl hg837))) ?_
          refine t_rd rfl (rd_or rfl (fun hc838 => (gvx rfl (bnotIt hc838)))) ?_
          refine rwt_nil ?_
          refine qn_then ?_
          obtain ⟨hb839, q840⟩ | ⟨hb839, q840⟩ := oi q829 <;> clear q829
          · refine cw_t rfl hb839 ?_
            refine cw_seq ?_
            refine cw_region ?_
            refine t_rd rfl (rd_assign rfl) ?_
            refine rwt_nil ?_
            refine qn_then ?_
            refine cw_ret ?_
            refine qr_then ?_
            obtain rfl := os q840
            exact ret1 rfl rfl ⟨rfl, (hm832.pick [] (by decide) rfl)⟩
          · refine cw_f rfl hb839 ?_
            refine cw_skip ?_
            refine qn_then ?_
            refine cw_seq ?_
            refine cw_region ?_
            refine t_rd rfl (rd_assign rfl) ?_
            refine rwt_nil ?_
            refine qn_then ?_
            refine cw_ret ?_
            obtain rfl := os q840
            exact ret1 rfl rfl ⟨rfl, (hm832.pick [] (by decide) rfl)⟩

theorem r12_form_ok {N : Nat} {a0 : Int} {a1 : Int} {res : Bool} (h : r12_form N a0 a1 = some res) {w : World}   :
    CallsR Tryz.prog 35 [(Value.int .i64 a0), (Value.int .i64 a1)] w (fun u w' => u = (Value.bool res) ∧ Mem w No [] w') := by
  unfold r12_form at h
  refine fn_ok Tryz.func35 rfl rfl rfl ?_
  have hm0 := Mem.nil w
  refine cw_seq ?_
  refine cw_region ?_
  refine t_rd rfl (rd_assign rfl) ?_
  refine rwt_nil ?_
  refine qn_then ?_
  refine cw_seq ?_
  refine cw_region ?_
  refine t_rd rfl (rd_move rfl) ?_
  refine t_rd rfl (rd_geq rfl rfl) ?_
  refine t_rd rfl (rd_move rfl) ?_
  refine t_rdg rfl rfl rfl rfl (gv_t _) (fun hg1 => (rd_move rfl)) ?_
  refine t_rdg rfl rfl rfl rfl (gv_t _) (fun hg2 => (rd_lss (gvx rfl hg2) rfl)) ?_
  refine t_rd rfl (rd_and rfl (fun hc3 => (gvx rfl hc3))) ?_
  refine t_rd rfl (rd_move rfl) ?_
  refine t_rdg rfl rfl rfl rfl (gv_t _) (fun hg4 => (rd_move rfl)) ?_
  refine t_rdg rfl rfl rfl rfl (gv_t _) (fun hg5 => (rd_geq (gvx rfl hg5) rfl)) ?_
  refine t_rd rfl (rd_and rfl (fun hc6 => (gvx rfl hc6))) ?_
  refine t_rd rfl (rd_move rfl) ?_
  refine t_rdg rfl rfl rfl rfl (gv_t _) (fun hg7 => (rd_move rfl)) ?_
  refine t_rdg rfl rfl rfl rfl (gv_t _) (fun hg8 => (rd_leq (gvx rfl hg8) rfl)) ?_
  refine t_rd rfl (rd_and rfl (fun hc9 => (gvx rfl hc9))) ?_
  refine t_rd rfl (rd_assign rfl) ?_
  refine rwt_nil ?_
  refine qn_then ?_
  refine cw_ret ?_
  obtain rfl := os h
  exact ret1 rfl rfl ⟨rfl, (hm0.pick [] (by decide) rfl)⟩

theorem r12_Is_ok {N : Nat} {a0 : Int} {a1 : Int} {a2 : Int} {res : Bool} (h : r12_Is N a0 a1 a2 = some res) {w : World}   :
    CallsR Tryz.prog 11 [(Value.int .i64 a0), (Value.int .i64 a1), (Value.int .i64 a2)] w (fun u w' => u = (Value.bool res) ∧ Mem w No [] w') := by
  unfold r12_Is at h
  refine fn_ok Tryz.func11 rfl rfl rfl ?_
  have hm0 := Mem.nil w
  refine cw_seq ?_
  refine cw_region ?_
  refine t_rd rfl (rd_assign rfl) ?_
  refine rwt_nil ?_
  refine qn_then ?_
  refine cw_seq ?_
  refine cw_seq ?_
  obtain ⟨w35, he37⟩ : ∃ q, q = w.drew := ⟨_, rfl⟩
  have hm36 := hm0.drew; rw [← he37] at hm36
  refine cw_region_s (fun q => q = w35) (cls [] [2]) mixed ?_
  rintro _ rfl; rw [← he37]
  refine s_rp (i := 0) rfl (by kernel_rfl) rfl (fun _ => (rd_move rfl)) ?_
  refine s_rp (i := 1) rfl (by kernel_rfl) rfl (fun _ => (rd_move rfl)) ?_
  obtain ⟨r38, h39, q40⟩ := ob h; clear h
  refine s_ef (i := 2) rfl (by kernel_rfl) rfl (ef_call tf35 rfl (r12_form_ok h39)) (by decide) (fun _ _ _ q => absurd q (by decide)) ?_
  rintro _ w42 ⟨e_, hm41⟩
  obtain rfl := e_.symm
  have hm43 := hm36.call hm41
  refine s_rp (i := 3) rfl (by kernel_rfl) rfl (fun _ => (rd_not rfl)) ?_
  refine s_rp (i := 4) rfl (by kernel_rfl) rfl (fun _ => (rd_move rfl)) ?_
  refine s_rpg (i := 5) rfl (by kernel_rfl) rfl rfl rfl rfl (gv_f _) (fun hg44 _ => (rd_move rfl)) ?_
  refine s_rpg (i := 6) rfl (by kernel_rfl) rfl rfl rfl rfl (gv_f _) (fun hg45 _ => (rd_lss (gvx rfl hg45) rfl)) ?_
  refine s_rp (i := 7) rfl (by kernel_rfl) rfl (fun _ => (rd_or rfl (fun hc46 => (gvx rfl (bnotIt hc46))))) ?_
  refine s_rp (i := 8) rfl (by kernel_rfl) rfl (fun _ => (rd_move rfl)) ?_
  refine s_rpg (i := 9) rfl (by kernel_rfl) rfl rfl rfl rfl (gv_f _) (fun hg47 _ => (rd_move rfl)) ?_
  refine s_rpg (i := 10) rfl (by kernel_rfl) rfl rfl rfl rfl (gv_f _) (fun hg48 _ => (rd_geq (gvx rfl hg48) rfl)) ?_
  refine s_rp (i := 11) rfl (by kernel_rfl) rfl (fun _ => (rd_or rfl (fun hc49 => (gvx rfl (bnotIt hc49))))) ?_
  refine s_rp (i := 12) rfl (by kernel_rfl) rfl (fun _ => (rd_move rfl)) ?_
  refine s_rpg (i := 13) rfl (by kernel_rfl) rfl rfl rfl rfl (gv_f _) (fun hg50 _ => (rd_move rfl)) ?_
  refine s_rpg (i := 14) rfl (by kernel_rfl) rfl rfl rfl rfl (gv_f _) (fun hg51 _ => (rd_move rfl)) ?_
  obtain ⟨x53, h54, q55⟩ := ob q40; clear q40
  refine s_rpg (i := 15) rfl (by kernel_rfl) rfl rfl rfl rfl (gv_f _) (fun hg52 _ => (rd_shl_i64 (gO_t h54 hg52) rfl (gvx rfl hg52))) ?_
  obtain ⟨x57, h58, q59⟩ := ob q55; clear q55
  refine s_rpg (i := 16) rfl (by kernel_rfl) rfl rfl rfl rfl (gv_f _) (fun hg56 _ => (rd_rem64 (gO_t h58 hg56) (gvx rfl hg56) (gvx rfl hg56))) ?_
  refine s_rpg (i := 17) rfl (by kernel_rfl) rfl rfl rfl rfl (gv_f _) (fun hg60 _ => (rd_move rfl)) ?_
  obtain ⟨x62, h63, q64⟩ := ob q59; clear q59
  refine s_rpg (i := 18) rfl (by kernel_rfl) rfl rfl rfl rfl (gv_f _) (fun hg61 _ => (rd_shl_i64 (gO_t h63 hg61) rfl (gvx rfl hg61))) ?_
  obtain ⟨x66, h67, q68⟩ := ob q64; clear q64
  refine s_rpg (i := 19) rfl (by kernel_rfl) rfl rfl rfl rfl (gv_f _) (fun hg65 _ => (rd_sub64 (gO_t h67 hg65) (gvx rfl hg65) rfl)) ?_
  refine s_rpg (i := 20) rfl (by kernel_rfl) rfl rfl rfl rfl (gv_f _) (fun hg69 _ => (rd_neq (gvx rfl hg69) (gvx rfl hg69))) ?_
  refine s_rp (i := 21) rfl (by kernel_rfl) rfl (fun _ => (rd_or rfl (fun hc70 => (gvx rfl (bnotIt hc70))))) ?_
  refine s_nil (by kernel_rfl) ?_
  refine qn_then ?_
  obtain ⟨hb71, q72⟩ | ⟨hb71, q72⟩ := oi q68 <;> clear q68
  · refine cw_t rfl hb71 ?_
    refine cw_seq ?_
    refine cw_region ?_
    refine t_rd rfl (rd_assign rfl) ?_
    refine rwt_nil ?_
    refine qn_then ?_
    refine cw_ret ?_
    refine qr_then ?_
    obtain rfl := os q72
    exact ret1 rfl rfl ⟨rfl, (hm43.pick [] (by decide) rfl)⟩
  · refine cw_f rfl hb71 ?_
    refine cw_skip ?_
    refine qn_then ?_
    refine cw_seq ?_
    refine cw_region ?_
    refine t_rd rfl (rd_assign rfl) ?_
    refine rwt_nil ?_
    refine qn_then ?_
    refine cw_seq ?_
    refine cw_seq ?_
    refine cw_region ?_
    refine t_rd rfl (rd_move rfl) ?_
    refine t_rd rfl (rd_move rfl) ?_
    obtain ⟨x73, h74, q75⟩ := ob q72; clear q72
    refine t_rd rfl (rd_shr_i64 h74 rfl rfl) ?_
    refine t_rd rfl (rd_assign rfl) ?_
    refine rwt_nil ?_
    refine qn_then ?_
    refine cw_block ?_
    obtain ⟨r103, hit104, q105⟩ := ob q75; clear q75
    refine cw_loop2 (I := fun q envq wq => Sub [(2, (Value.int .i64 a2)), (7, (Value.int .i64 q.1)), (8, (Value.int .i64 q.2))] envq ∧ Mem w No [] wq) (X := fun eq envq wq => eq = .exit 0 ∧ Sub [(2, (Value.int .i64 a2)), (7, (Value.int .i64 r103))] envq ∧ Mem w No [] wq) hit104 ⟨(by repeat (first | exact Sub.nil _ | refine Sub.cons rfl ?_)), (hm43.pick [] (by decide) rfl)⟩ ?_ ?_
    · rintro ⟨i95, i96⟩ x98 env99 w100 hf101 hr102 ⟨hs_, hm_⟩
      have hs_ : Sub [(2, (Value.int .i64 a2)), (7, (Value.int .i64 i95)), (8, (Value.int .i64 i96))] env99 := hs_
      have hm106 : Mem w No [] w100 := hm_
      refine cw_sub hs_ ?_
      clear hs_ hm_ q105
      have h : r12_Is_l1 N i95 i96 = some x98 := hf101
      clear hf101
      refine cw_seq ?_
      refine cw_seq ?_
      refine cw_region ?_
      refine t_rd rfl (rd_move rfl) ?_
      refine t_rd rfl (rd_gtr rfl rfl) ?_
      refine rwt_nil ?_
      refine qn_then ?_
      obtain ⟨hb107, q108⟩ | ⟨hb107, q108⟩ := oi h <;> clear h
      · refine cw_t rfl hb107 ?_
        refine cw_skip ?_
        refine qn_then ?_
        refine cw_seq ?_
        refine cw_block ?_
        refine cw_region ?_
        refine t_rd rfl (rd_move rfl) ?_
        refine t_rd rfl (rd_move rfl) ?_
        refine t_rd rfl (rd_rem rfl rfl (by decide)) ?_
        obtain ⟨x109, h110, q111⟩ := ob q108; clear q108
        refine t_rd rfl (rd_add64 h110 rfl rfl) ?_
        refine t_rd rfl (rd_assign rfl) ?_
        refine rwt_nil ?_
        refine qn_block (qn_then ?_)
        refine cw_region ?_
        refine t_rd rfl (rd_move rfl) ?_
        obtain ⟨x112, h113, q114⟩ := ob q111; clear q111
        refine t_rd rfl (rd_quo64 h113 rfl rfl) ?_
        refine t_rd rfl (rd_assign rfl) ?_
        refine rwt_nil ?_
        refine qn_then ?_
        refine ⟨_, (os q114), (by repeat (first | exact Sub.nil _ | refine Sub.cons rfl ?_)), (hm106.pick [] (by decide) rfl)⟩
      · refine cw_f rfl hb107 ?_
        refine cw_exit ?_
        refine qx_then (qx_then ?_)
        obtain rfl := hr102 _ (os q108)
        exact ⟨rfl, (by repeat (first | exact Sub.nil _ | refine Sub.cons rfl ?_)), (hm106.pick [] (by decide) rfl)⟩
    · skip
      intro e env115 w116 hX117
      obtain ⟨rfl, hs118, hm119⟩ := hX117
      refine qx_same (qn_then ?_)
      refine cw_sub hs118 ?_
      refine cw_seq ?_
      refine cw_region ?_
      refine t_rd rfl (rd_move rfl) ?_
      refine t_rd rfl (rd_move rfl) ?_
      refine t_rd rfl (rd_leq rfl rfl) ?_
      refine t_rd rfl (rd_assign rfl) ?_
      refine rwt_nil ?_
      refine qn_then ?_
      refine cw_ret ?_
      obtain rfl := os q105
      exact ret1 rfl rfl ⟨rfl, (hm119.pick [] (by decide) rfl)⟩

theorem r14_trains_ok {N : Nat} {a0_Items : List T_Item} {a0_Weight : Int} {res : Int} (h : r14_trains N a0_Items a0_Weight = some res) {w : World} {v0_Items : Value} (hv0_Items : Sl (Old w No) w v0_Items a0_Items) :
    CallsR Tryz.prog 36 [(Value.agg #[v0_Items, (Value.int .i64 a0_Weight)])] w (fun u w' => u = (Value.int .i64 res) ∧ Mem w No [] w') := by
  unfold r14_trains at h
  refine fn_ok Tryz.func36 rfl rfl rfl ?_
  have hm0 := Mem.nil w
  refine cw_seq ?_
  refine cw_region ?_
  refine t_ef rfl (ef_box hm0 rfl rfl) ?_
  rintro _ w3 ⟨g1, rfl, hm2⟩
  refine t_rd rfl (rd_assign rfl) ?_
  refine rwt_nil ?_
  refine qn_then ?_
  refine cw_seq ?_
  refine cw_region ?_
  refine t_rd rfl (rd_assign rfl) ?_
  refine rwt_nil ?_
  refine qn_then ?_
  refine cw_seq ?_
  refine cw_seq ?_
  refine cw_region ?_
  refine t_rd rfl (rd_assign rfl) ?_
  refine rwt_nil ?_
  refine qn_then ?_
  refine cw_block ?_
  obtain ⟨r37, hit38, q39⟩ := ob h; clear h
  refine cw_loop2 (I := fun q envq wq => Sub [(1, (Value.pointer (some ⟨g1, 0, none⟩))), (3, (Value.int .i64 q.1)), (4, (Value.int .i64 q.2))] envq ∧ Mem w No [blk g1 27 [v0_Items, (Value.int .i64 a0_Weight)]] wq) (X := fun eq envq wq => eq = .exit 0 ∧ Sub [(3, (Value.int .i64 r37))] envq ∧ Mem w No [] wq) hit38 ⟨(by repeat (first | exact Sub.nil _ | refine Sub.cons rfl ?_)), (hm2.pick [0] (by decide) rfl)⟩ ?_ ?_
  · rintro ⟨i29, i30⟩ x32 env33 w34 hf35 hr36 ⟨hs_, hm_⟩
    have hs_ : Sub [(1, (Value.pointer (some ⟨g1, 0, none⟩))), (3, (Value.int .i64 i29)), (4, (Value.int .i64 i30))] env33 := hs_
    have hm40 : Mem w No [blk g1 27 [v0_Items, (Value.int .i64 a0_Weight)]] w34 := hm_
    refine cw_sub hs_ ?_
    clear hs_ hm_ q39
    have h : r14_trains_l1 N a0_Items i29 i30 = some x32 := hf35
    clear hf35
    refine cw_seq ?_
    refine cw_seq ?_
    refine cw_region ?_
    refine t_rd rfl (rd_move rfl) ?_
    refine t_rd rfl (rd_fld tF27_0 rfl) ?_
    refine t_rd rfl (rd_ld1 tO25 rfl (hm40.blk 0 rfl) (off := 0) rfl) ?_
    refine t_rd rfl (rd_lenS tS25 rfl (hv0_Items.of_old hm40)) ?_
    refine t_rd rfl (rd_lss rfl rfl) ?_
    refine rwt_nil ?_
    refine qn_then ?_
    obtain ⟨hb41, q42⟩ | ⟨hb41, q42⟩ := oi h <;> clear h
    · refine cw_t rfl hb41 ?_
      refine cw_skip ?_
      refine qn_then ?_
      refine cw_seq ?_
      refine cw_block ?_
      refine cw_region ?_
      refine t_rd rfl (rd_move rfl) ?_
      refine t_rd rfl (rd_fld tF27_0 rfl) ?_
      refine t_rd rfl (rd_ld1 tO25 rfl (hm40.blk 0 rfl) (off := 0) rfl) ?_
      refine t_rd rfl (rd_move rfl) ?_
      obtain ⟨x43, h44, q45⟩ := ob q42; clear q42
      refine t_rd rfl (rd_index tS25 rfl rfl (hv0_Items.of_old hm40) h44) ?_
      refine t_rd rfl (rd_fld tF40_0 rfl) ?_
      refine t_rd rfl (rd_ld1 tO3 rfl ((hv0_Items.of_old hm40).cells h44) (off := 0) rfl) ?_
      obtain ⟨x46, h47, q48⟩ := ob q45; clear q45
      refine t_rd rfl (rd_add64 h47 rfl rfl) ?_
      refine t_rd rfl (rd_max rfl rfl) ?_
      refine t_rd rfl (rd_assign rfl) ?_
      refine rwt_nil ?_
      refine qn_block (qn_then ?_)
      refine cw_region ?_
      refine t_rd rfl (rd_move rfl) ?_
      obtain ⟨x49, h50, q51⟩ := ob q48; clear q48
      refine t_rd rfl (rd_add64 h50 rfl rfl) ?_
      refine t_rd rfl (rd_assign rfl) ?_
      refine rwt_nil ?_
      refine qn_then ?_
      refine ⟨_, (os q51), (by repeat (first | exact Sub.nil _ | refine Sub.cons rfl ?_)), (hm40.pick [0] (by decide) rfl)⟩
    · refine cw_f rfl hb41 ?_
      refine cw_exit ?_
      refine qx_then (qx_then ?_)
      obtain rfl := hr36 _ (os q42)
      exact ⟨rfl, (by repeat (first | exact Sub.nil _ | refine Sub.cons rfl ?_)), (hm40.pick [] (by decide) rfl)⟩
  · skip
    intro e env52 w53 hX54
    obtain ⟨rfl, hs55, hm56⟩ := hX54
    refine qx_same (qn_then ?_)
    refine cw_sub hs55 ?_
    refine cw_seq ?_
    refine cw_region ?_
    refine t_rd rfl (rd_move rfl) ?_
    refine t_rd rfl (rd_assign rfl) ?_
    refine rwt_nil ?_
    refine qn_then ?_
    refine cw_ret ?_
    obtain rfl := os q39
    exact ret1 rfl rfl ⟨rfl, (hm56.pick [] (by decide) rfl)⟩

theorem Yard_push_ok {N : Nat} {a0_Steps : List (List Int)} {a0_Trains : List (List Int)} {a0_Moves : Int} {a0_Pushes : Int} {a1_Items : List T_Item} {a1_Weight : Int} {a2_Steps : Int} {a2_Codes : List Int} {a3 : Int} {a4 : Int} {res : List (List Int) × List (List Int) × Int} (h : Yard_push N a0_Steps a0_Trains a0_Moves a0_Pushes a1_Items a1_Weight a2_Steps a2_Codes a3 a4 = some res) {w : World} {g0 : Nat} {v0_Steps : Value} {zs_a0_Steps : List Hdr} {v0_Trains : Value} {zs_a0_Trains : List Hdr} {v1_Items : Value} {v2_Codes : Value} (hv1_Items : Sl (Old w (bunC [blk g0 43 [v0_Steps, v0_Trains, (Value.int .i64 a0_Moves), (Value.int .i64 a0_Pushes)], ownL 22 v0_Steps (zs_a0_Steps : List Hdr), rowsC 3 zs_a0_Steps (a0_Steps : List (List Int)) none, ownL 22 v0_Trains (zs_a0_Trains : List Hdr), rowsC 3 zs_a0_Trains (a0_Trains : List (List Int)) none]).D) w v1_Items a1_Items) (hv2_Codes : Sl (Old w (bunC [blk g0 43 [v0_Steps, v0_Trains, (Value.int .i64 a0_Moves), (Value.int .i64 a0_Pushes)], ownL 22 v0_Steps (zs_a0_Steps : List Hdr), rowsC 3 zs_a0_Steps (a0_Steps : List (List Int)) none, ownL 22 v0_Trains (zs_a0_Trains : List Hdr), rowsC 3 zs_a0_Trains (a0_Trains : List (List Int)) none]).D) w v2_Codes a2_Codes) (hkb : (bunC [blk g0 43 [v0_Steps, v0_Trains, (Value.int .i64 a0_Moves), (Value.int .i64 a0_Pushes)], ownL 22 v0_Steps (zs_a0_Steps : List Hdr), rowsC 3 zs_a0_Steps (a0_Steps : List (List Int)) none, ownL 22 v0_Trains (zs_a0_Trains : List Hdr), rowsC 3 zs_a0_Trains (a0_Trains : List (List Int)) none]).φ w) :
    CallsR Tryz.prog 37 [(Value.pointer (some ⟨g0, 0, none⟩)), (Value.agg #[v1_Items, (Value.int .i64 a1_Weight)]), (Value.agg #[(Value.int .i64 a2_Steps), v2_Codes]), (Value.int .i64 a3), (Value.int .i64 a4)] w (fun u w' => ∃ (zy0 : List Hdr) (zy1 : List Hdr), u = (Value.tuple #[]) ∧ Mem w (bunC [blk g0 43 [v0_Steps, v0_Trains, (Value.int .i64 a0_Moves), (Value.int .i64 a0_Pushes)], ownL 22 v0_Steps (zs_a0_Steps : List Hdr), rowsC 3 zs_a0_Steps (a0_Steps : List (List Int)) none, ownL 22 v0_Trains (zs_a0_Trains : List Hdr), rowsC 3 zs_a0_Trains (a0_Trains : List (List Int)) none]).D [bunC [blk g0 43 [v0_Steps, v0_Trains, (Value.int .i64 res.2.2), (Value.int .i64 a0_Pushes)], ownL 22 v0_Steps (zy0 : List Hdr), rowsC 3 zy0 (res.1 : List (List Int)) none, ownL 22 v0_Trains (zy1 : List Hdr), rowsC 3 zy1 (res.2.1 : List (List Int)) none]] w') := by
  unfold Yard_push at h
  refine fn_ok Tryz.func37 rfl rfl rfl ?_
  have hm0 := Mem.opened hkb
  refine cw_seq ?_
  refine cw_region ?_
  refine t_ef rfl (ef_box hm0 rfl rfl) ?_
  rintro _ w405 ⟨g403, rfl, hm404⟩
  refine t_ef rfl (ef_box hm404 rfl rfl) ?_
  rintro _ w408 ⟨g406, rfl, hm407⟩
  refine rwt_nil ?_
  refine qn_then ?_
  refine cw_seq ?_
  refine cw_region ?_
  refine t_rd rfl (rd_move rfl) ?_
  refine t_rd rfl (rd_nilCheck rfl) ?_
  refine t_rd rfl (rd_fld tF43_2 rfl) ?_
  refine t_rd rfl (rd_ld1 tO3 rfl (hm407.blk 2 rfl) (off := 2) rfl) ?_
  obtain ⟨x409, h410, q411⟩ := ob h; clear h
  refine t_rd rfl (rd_add64 h410 rfl rfl) ?_
  refine t_rd rfl (rd_nilCheck rfl) ?_
  refine t_rd rfl (rd_fld tF43_2 rfl) ?_
  refine t_ef0 (ef_st1 (k := 2) (off := 2) hm407 tO3 rfl rfl rfl rfl rfl rfl) ?_
  intro _ w413 hm412
  refine rwt_nil ?_
  refine qn_then ?_
  refine cw_seq ?_
  refine cw_seq ?_
  refine cw_region ?_
  refine t_rd rfl (rd_move rfl) ?_
  refine t_rd rfl (rd_assign rfl) ?_
  refine rwt_nil ?_
  refine qn_then ?_
  refine cw_block ?_
  obtain ⟨r612, hit613, q614⟩ := ob q411; clear q411
  refine cw_loop2 (I := fun q envq wq => Sub [(0, (Value.pointer (some ⟨g0, 0, none⟩))), (3, (Value.int .i64 a3)), (6, (Value.pointer (some ⟨g403, 0, none⟩))), (7, (Value.pointer (some ⟨g406, 0, none⟩))), (10, (Value.int .i64 q))] envq ∧ Mem w (bunC [blk g0 43 [v0_Steps, v0_Trains, (Value.int .i64 a0_Moves), (Value.int .i64 a0_Pushes)], ownL 22 v0_Steps (zs_a0_Steps : List Hdr), rowsC 3 zs_a0_Steps (a0_Steps : List (List Int)) none, ownL 22 v0_Trains (zs_a0_Trains : List Hdr), rowsC 3 zs_a0_Trains (a0_Trains : List (List Int)) none]).D [blk g406 30 [(Value.int .i64 a2_Steps), v2_Codes], blk g403 27 [v1_Items, (Value.int .i64 a1_Weight)], blk g0 43 [v0_Steps, v0_Trains, (Value.int .i64 x409), (Value.int .i64 a0_Pushes)], ownL 22 v0_Steps (zs_a0_Steps : List Hdr), rowsC 3 zs_a0_Steps (a0_Steps : List (List Int)) none, ownL 22 v0_Trains (zs_a0_Trains : List Hdr), rowsC 3 zs_a0_Trains (a0_Trains : List (List Int)) none] wq) (X := fun eq envq wq => (∃ p615, r612 = (Sum.inl p615) ∧ eq = .ret ∧ retQ Tryz.prog 73 Tryz.f37 (fun u w' => ∃ (zy0 : List Hdr) (zy1 : List Hdr), u = (Value.tuple #[]) ∧ Mem w (bunC [blk g0 43 [v0_Steps, v0_Trains, (Value.int .i64 a0_Moves), (Value.int .i64 a0_Pushes)], ownL 22 v0_Steps (zs_a0_Steps : List Hdr), rowsC 3 zs_a0_Steps (a0_Steps : List (List Int)) none, ownL 22 v0_Trains (zs_a0_Trains : List Hdr), rowsC 3 zs_a0_Trains (a0_Trains : List (List Int)) none]).D [bunC [blk g0 43 [v0_Steps, v0_Trains, (Value.int .i64 p615.2.2), (Value.int .i64 a0_Pushes)], ownL 22 v0_Steps (zy0 : List Hdr), rowsC 3 zy0 (p615.1 : List (List Int)) none, ownL 22 v0_Trains (zy1 : List Hdr), rowsC 3 zy1 (p615.2.1 : List (List Int)) none]] w') .ret envq wq) ∨ (∃ p616, r612 = (Sum.inr p616) ∧ eq = .exit 0 ∧ Sub [(0, (Value.pointer (some ⟨g0, 0, none⟩))), (3, (Value.int .i64 a3)), (6, (Value.pointer (some ⟨g403, 0, none⟩)))] envq ∧ Mem w (bunC [blk g0 43 [v0_Steps, v0_Trains, (Value.int .i64 a0_Moves), (Value.int .i64 a0_Pushes)], ownL 22 v0_Steps (zs_a0_Steps : List Hdr), rowsC 3 zs_a0_Steps (a0_Steps : List (List Int)) none, ownL 22 v0_Trains (zs_a0_Trains : List Hdr), rowsC 3 zs_a0_Trains (a0_Trains : List (List Int)) none]).D [blk g403 27 [v1_Items, (Value.int .i64 a1_Weight)], blk g0 43 [v0_Steps, v0_Trains, (Value.int .i64 x409), (Value.int .i64 a0_Pushes)], ownL 22 v0_Steps (zs_a0_Steps : List Hdr), rowsC 3 zs_a0_Steps (a0_Steps : List (List Int)) none, ownL 22 v0_Trains (zs_a0_Trains : List Hdr), rowsC 3 zs_a0_Trains (a0_Trains : List (List Int)) none] wq)) hit613 ⟨(by repeat (first | exact Sub.nil _ | refine Sub.cons rfl ?_)), (hm412.pick [0, 1, 2, 3, 4, 5, 6] (by decide) rfl)⟩ ?_ ?_
  · rintro i605 x607 env608 w609 hf610 hr611 ⟨hs_, hm_⟩
    have hs_ : Sub [(0, (Value.pointer (some ⟨g0, 0, none⟩))), (3, (Value.int .i64 a3)), (6, (Value.pointer (some ⟨g403, 0, none⟩))), (7, (Value.pointer (some ⟨g406, 0, none⟩))), (10, (Value.int .i64 i605))] env608 := hs_
    have hm617 : Mem w (bunC [blk g0 43 [v0_Steps, v0_Trains, (Value.int .i64 a0_Moves), (Value.int .i64 a0_Pushes)], ownL 22 v0_Steps (zs_a0_Steps : List Hdr), rowsC 3 zs_a0_Steps (a0_Steps : List (List Int)) none, ownL 22 v0_Trains (zs_a0_Trains : List Hdr), rowsC 3 zs_a0_Trains (a0_Trains : List (List Int)) none]).D [blk g406 30 [(Value.int .i64 a2_Steps), v2_Codes], blk g403 27 [v1_Items, (Value.int .i64 a1_Weight)], blk g0 43 [v0_Steps, v0_Trains, (Value.int .i64 x409), (Value.int .i64 a0_Pushes)], ownL 22 v0_Steps (zs_a0_Steps : List Hdr), rowsC 3 zs_a0_Steps (a0_Steps : List (List Int)) none, ownL 22 v0_Trains (zs_a0_Trains : List Hdr), rowsC 3 zs_a0_Trains (a0_Trains : List (List Int)) none] w609 := hm_
    refine cw_sub hs_ ?_
    clear hs_ hm_ q614
    have h : Yard_push_l1 N a0_Steps a0_Trains a2_Steps a2_Codes a3 x409 i605 = some x607 := hf610
    clear hf610
    refine cw_seq ?_
    refine cw_seq ?_
    refine cw_region ?_
    refine t_rd rfl (rd_move rfl) ?_
    refine t_rd rfl (rd_fld tF30_0 rfl) ?_
    refine t_rd rfl (rd_ld1 tO3 rfl (hm617.blk 0 rfl) (off := 0) rfl) ?_
    refine t_rd rfl (rd_lss rfl rfl) ?_
    refine rwt_nil ?_
    refine qn_then ?_
    obtain ⟨hb618, q619⟩ | ⟨hb618, q619⟩ := oi h <;> clear h
    · refine cw_t rfl hb618 ?_
      refine cw_skip ?_
      refine qn_then ?_
      refine cw_seq ?_
      refine cw_block ?_
      refine cw_seq ?_
      refine cw_region ?_
      refine t_rd rfl (rd_fld tF30_1 rfl) ?_
      refine t_rd rfl (rd_ld1 tO22 rfl (hm617.blk 0 rfl) (off := 1) rfl) ?_
      refine t_rd rfl (rd_move rfl) ?_
      obtain ⟨x620, h621, q622⟩ := ob q619; clear q619
      refine t_rd rfl (rd_index tS22 rfl rfl (hv2_Codes.of_old hm617) h621) ?_
      refine t_rd rfl (rd_ld1 tO3 rfl ((hv2_Codes.of_old hm617).cells h621) (off := 0) rfl) ?_
      refine t_rd rfl (rd_move rfl) ?_
      obtain ⟨x623, h624, q625⟩ := ob q622; clear q622
      refine t_rd rfl (rd_shr_i64 h624 rfl rfl) ?_
      obtain ⟨x626, h627, q628⟩ := ob q625; clear q625
      refine t_rd rfl (rd_bits_and_i64 h627 rfl rfl) ?_
      refine t_rd rfl (rd_eql rfl rfl) ?_
      refine rwt_nil ?_
      refine qn_then ?_
      obtain ⟨hb629, q630⟩ | ⟨hb629, q630⟩ := oi q628 <;> clear q628
      · refine cw_t rfl hb629 ?_
        refine cw_seq ?_
        obtain ⟨w657, he659⟩ : ∃ q, q = w609.drew := ⟨_, rfl⟩
        have hm658 := hm617.drew; rw [← he659] at hm658
        refine cw_region_s (fun q => (blk g0 43 [v0_Steps, v0_Trains, (Value.int .i64 x409), (Value.int .i64 a0_Pushes)]).φ q ∧ (ownL 22 v0_Steps (zs_a0_Steps : List Hdr)).φ q) (cls [13, 14] [16]) mixed ?_
        rintro _ rfl; rw [← he659]
        refine s_rp (i := 0) rfl (by kernel_rfl) rfl (fun _ => (rd_move rfl)) ?_
        refine s_rp (i := 1) rfl (by kernel_rfl) rfl (fun _ => (rd_nilCheck rfl)) ?_
        refine s_rp (i := 2) rfl (by kernel_rfl) rfl (fun _ => (rd_fld tF43_0 rfl)) ?_
        refine s_rd (i := 3) rfl (by kernel_rfl) rfl (fun w656 hS => (rd_ld1 tO41 rfl (cells_blk hS.1) (off := 0) rfl)) ⟨(hm658.get (k := 2) rfl), (hm658.get (k := 3) rfl)⟩ ?_
        refine s_rp (i := 4) rfl (by kernel_rfl) rfl (fun _ => (rd_move rfl)) ?_
        refine s_rp (i := 5) rfl (by kernel_rfl) rfl (fun _ => (rd_move rfl)) ?_
        refine s_rp (i := 6) rfl (by kernel_rfl) rfl (fun _ => (rd_nilCheck rfl)) ?_
        refine s_rp (i := 7) rfl (by kernel_rfl) rfl (fun _ => (rd_fld tF43_0 rfl)) ?_
        refine s_rd (i := 8) rfl (by kernel_rfl) rfl (fun w656 hS => (rd_ld1 tO41 rfl (cells_blk hS.1) (off := 0) rfl)) ⟨(hm658.get (k := 2) rfl), (hm658.get (k := 3) rfl)⟩ ?_
        refine s_rp (i := 9) rfl (by kernel_rfl) rfl (fun _ => (rd_move rfl)) ?_
        obtain ⟨x685, h686, q687⟩ := ob q630; clear q630
        refine s_rp (i := 10) rfl (by kernel_rfl) rfl (fun _ => (rd_index tS41 rfl rfl ((Nl.mk (hm658.sl_call 3 rfl) (hm658.rows_call 4 rfl)).sl) h686)) ?_
        obtain ⟨zd688, hz689⟩ := (Nl.mk (hm658.sl_call 3 rfl) (hm658.rows_call 4 rfl)).row h686
        refine s_rd (i := 11) rfl (by kernel_rfl) rfl (fun w656 hS => (rd_ld1 tO22 rfl ((sl_of_own hS.2).cells hz689) (off := 0) rfl)) ⟨(hm658.get (k := 2) rfl), (hm658.get (k := 3) rfl)⟩ ?_
        refine s_rp (i := 12) rfl (by kernel_rfl) rfl (fun _ => (rd_move rfl)) ?_
        refine s_ef (i := 13) rfl (by kernel_rfl) rfl (ef_bslice (l := ([a3] : List Int)) hm658 tS22 rfl (cs := #[(Value.int .i64 a3)]) (by unfold bsl; kernel_rfl) rfl rfl) (by decide) ?_ ?_
        · intro v690 w692 hm691
          intro _
          exact ⟨(hm691.get (k := 3) rfl), (hm691.get (k := 4) rfl)⟩
        intro v690 w692 hm691
        have hm693 := hm691.pick [5, 0, 1, 2, 3, 4, 6, 7] (L' := [rowsC 3 zs_a0_Steps (a0_Steps : List (List Int)) none, ownL 3 v690 ([a3] : List Int), blk g406 30 [(Value.int .i64 a2_Steps), v2_Codes], blk g403 27 [v1_Items, (Value.int .i64 a1_Weight)], blk g0 43 [v0_Steps, v0_Trains, (Value.int .i64 x409), (Value.int .i64 a0_Pushes)], ownL 22 v0_Steps (zs_a0_Steps : List Hdr), ownL 22 v0_Trains (zs_a0_Trains : List Hdr), rowsC 3 zs_a0_Trains (a0_Trains : List (List Int)) none]) (by decide) rfl
        have hm694 := hm693.focus hz689 h686
        obtain ⟨l695, h696, q697⟩ := ob q687; clear q687
        refine s_ef (i := 14) rfl (by kernel_rfl) rfl (ef_append (k := 1) hm694 tS22 tE3 rfl rfl rfl rfl (hm694.sl 2 rfl) h696) (by decide) ?_ ?_
        · intro v698 w700 hm699
          intro _
          exact ⟨(hm699.get (k := 5) rfl), (hm699.get (k := 6) rfl)⟩
        intro v698 w700 hm699
        obtain ⟨zd701, hz702⟩ := rowI (hm699.get (k := 0) rfl).1 h686
        refine s_rp (i := 15) rfl (by kernel_rfl) rfl (fun _ => (rd_index (α := Hdr) tS41 rfl rfl (hm699.sl 6 rfl) hz702)) ?_
        obtain ⟨zd703, ez704⟩ : ∃ z : Hdr, z.1 = v698 := ⟨⟨v698, sl_one (hm699.sl 1 rfl)⟩, rfl⟩
        obtain ⟨zd705, hz706⟩ := rowI (hm699.get (k := 0) rfl).1 h686
        refine s_ef0 (i := 16) rfl (by kernel_rfl) (ef_stl (k := 6) (off := 0) (x' := zd703) hm699 tO22 rfl rfl (sl_one (hm699.sl 1 rfl)) rfl hz706 (by show [v698] = [zd703.1]; rw [ez704]) rfl) (by decide) (fun _ _ _ q => absurd q (by decide)) ?_
        intro _ w708 hm707
        have hm709 := hm707.fill ez704
        refine s_nil (by kernel_rfl) ?_
        refine qn_then ?_
        refine cw_ret ?_
        refine qr_block (qr_then (qr_then ?_))
        obtain rfl := hr611 _ (os q697)
        refine .inl (⟨_, rfl, ⟨rfl, ?_⟩⟩)
        exact ret0 rfl ⟨(List.set zs_a0_Steps (Int.toNat i605) zd703), zs_a0_Trains, rfl, (Mem.bundle [blk g0 43 [v0_Steps, v0_Trains, (Value.int .i64 x409), (Value.int .i64 a0_Pushes)], ownL 22 v0_Steps ((List.set zs_a0_Steps (Int.toNat i605) zd703) : List Hdr), rowsC 3 (List.set zs_a0_Steps (Int.toNat i605) zd703) ((List.set a0_Steps (Int.toNat i605) l695) : List (List Int)) none, ownL 22 v0_Trains (zs_a0_Trains : List Hdr), rowsC 3 zs_a0_Trains (a0_Trains : List (List Int)) none] [] (hm709.pick (L' := [blk g0 43 [v0_Steps, v0_Trains, (Value.int .i64 x409), (Value.int .i64 a0_Pushes)], ownL 22 v0_Steps ((List.set zs_a0_Steps (Int.toNat i605) zd703) : List Hdr), rowsC 3 (List.set zs_a0_Steps (Int.toNat i605) zd703) ((List.set a0_Steps (Int.toNat i605) l695) : List (List Int)) none, ownL 22 v0_Trains (zs_a0_Trains : List Hdr), rowsC 3 zs_a0_Trains (a0_Trains : List (List Int)) none]) [4, 5, 0, 6, 7] (by decide) rfl))⟩
      · refine cw_f rfl hb629 ?_
        refine cw_skip ?_
        refine qn_block (qn_then ?_)
        refine cw_region ?_
        refine t_rd rfl (rd_move rfl) ?_
        obtain ⟨x710, h711, q712⟩ := ob q630; clear q630
        refine t_rd rfl (rd_add64 h711 rfl rfl) ?_
        refine t_rd rfl (rd_assign rfl) ?_
        refine rwt_nil ?_
        refine qn_then ?_
        refine ⟨_, (os q712), (by repeat (first | exact Sub.nil _ | refine Sub.cons rfl ?_)), (hm617.pick [0, 1, 2, 3, 4, 5, 6] (by decide) rfl)⟩
    · refine cw_f rfl hb618 ?_
      refine cw_exit ?_
      refine qx_then (qx_then ?_)
      obtain rfl := hr611 _ (os q619)
      exact .inr (⟨_, rfl, ⟨rfl, (by repeat (first | exact Sub.nil _ | refine Sub.cons rfl ?_)), (hm617.pick [1, 2, 3, 4, 5, 6] (by decide) rfl)⟩⟩)
  · skip
    intro e env713 w714 hX715
    rcases hX715 with hX715 | hX715
    · obtain ⟨p717, rfl, hX715⟩ := hX715
      obtain ⟨rfl, hq719⟩ := hX715
      exact qr_block (qr_then ((by have e := os q614; subst e; exact hq719)))
    · obtain ⟨p720, rfl, hX715⟩ := hX715
      obtain ⟨rfl, hs721, hm722⟩ := hX715
      refine qx_same (qn_then ?_)
      refine cw_sub hs721 ?_
      refine cw_seq ?_
      refine cw_region ?_
      refine t_rd rfl (rd_fld tF27_0 rfl) ?_
      refine t_rd rfl (rd_ld1 tO25 rfl (hm722.blk 0 rfl) (off := 0) rfl) ?_
      refine t_rd rfl (rd_move rfl) ?_
      obtain ⟨x723, h724, q725⟩ := ob q614; clear q614
      refine t_rd rfl (rd_index tS25 rfl rfl (hv1_Items.of_old hm722) h724) ?_
      refine t_rd rfl (rd_fld tF40_0 rfl) ?_
      refine t_rd rfl (rd_ld1 tO3 rfl ((hv1_Items.of_old hm722).cells h724) (off := 0) rfl) ?_
      refine t_rd rfl (rd_assign rfl) ?_
      refine rwt_nil ?_
      refine qn_then ?_
      obtain ⟨w752, he754⟩ : ∃ q, q = w714.drew := ⟨_, rfl⟩
      have hm753 := hm722.drew; rw [← he754] at hm753
      refine cw_region_s (fun q => (blk g0 43 [v0_Steps, v0_Trains, (Value.int .i64 x409), (Value.int .i64 a0_Pushes)]).φ q ∧ (ownL 22 v0_Trains (zs_a0_Trains : List Hdr)).φ q) (cls [13, 14] [16]) mixed ?_
      rintro _ rfl; rw [← he754]
      refine s_rp (i := 0) rfl (by kernel_rfl) rfl (fun _ => (rd_move rfl)) ?_
      refine s_rp (i := 1) rfl (by kernel_rfl) rfl (fun _ => (rd_nilCheck rfl)) ?_
      refine s_rp (i := 2) rfl (by kernel_rfl) rfl (fun _ => (rd_fld tF43_1 rfl)) ?_
      refine s_rd (i := 3) rfl (by kernel_rfl) rfl (fun w751 hS => (rd_ld1 tO41 rfl (cells_blk hS.1) (off := 1) rfl)) ⟨(hm753.get (k := 1) rfl), (hm753.get (k := 4) rfl)⟩ ?_
      refine s_rp (i := 4) rfl (by kernel_rfl) rfl (fun _ => (rd_move rfl)) ?_
      refine s_rp (i := 5) rfl (by kernel_rfl) rfl (fun _ => (rd_move rfl)) ?_
      refine s_rp (i := 6) rfl (by kernel_rfl) rfl (fun _ => (rd_nilCheck rfl)) ?_
      refine s_rp (i := 7) rfl (by kernel_rfl) rfl (fun _ => (rd_fld tF43_1 rfl)) ?_
      refine s_rd (i := 8) rfl (by kernel_rfl) rfl (fun w751 hS => (rd_ld1 tO41 rfl (cells_blk hS.1) (off := 1) rfl)) ⟨(hm753.get (k := 1) rfl), (hm753.get (k := 4) rfl)⟩ ?_
      refine s_rp (i := 9) rfl (by kernel_rfl) rfl (fun _ => (rd_move rfl)) ?_
      obtain ⟨x780, h781, q782⟩ := ob q725; clear q725
      refine s_rp (i := 10) rfl (by kernel_rfl) rfl (fun _ => (rd_index tS41 rfl rfl ((Nl.mk (hm753.sl_call 4 rfl) (hm753.rows_call 5 rfl)).sl) h781)) ?_
      obtain ⟨zd783, hz784⟩ := (Nl.mk (hm753.sl_call 4 rfl) (hm753.rows_call 5 rfl)).row h781
      refine s_rd (i := 11) rfl (by kernel_rfl) rfl (fun w751 hS => (rd_ld1 tO22 rfl ((sl_of_own hS.2).cells hz784) (off := 0) rfl)) ⟨(hm753.get (k := 1) rfl), (hm753.get (k := 4) rfl)⟩ ?_
      refine s_rp (i := 12) rfl (by kernel_rfl) rfl (fun _ => (rd_move rfl)) ?_
      refine s_ef (i := 13) rfl (by kernel_rfl) rfl (ef_bslice (l := ([a3] : List Int)) hm753 tS22 rfl (cs := #[(Value.int .i64 a3)]) (by unfold bsl; kernel_rfl) rfl rfl) (by decide) ?_ ?_
      · intro v785 w787 hm786
        intro _
        exact ⟨(hm786.get (k := 2) rfl), (hm786.get (k := 5) rfl)⟩
      intro v785 w787 hm786
      have hm788 := hm786.pick [6, 0, 1, 2, 3, 4, 5] (L' := [rowsC 3 zs_a0_Trains (a0_Trains : List (List Int)) none, ownL 3 v785 ([a3] : List Int), blk g403 27 [v1_Items, (Value.int .i64 a1_Weight)], blk g0 43 [v0_Steps, v0_Trains, (Value.int .i64 x409), (Value.int .i64 a0_Pushes)], ownL 22 v0_Steps (zs_a0_Steps : List Hdr), rowsC 3 zs_a0_Steps (a0_Steps : List (List Int)) none, ownL 22 v0_Trains (zs_a0_Trains : List Hdr)]) (by decide) rfl
      have hm789 := hm788.focus hz784 h781
      obtain ⟨l790, h791, q792⟩ := ob q782; clear q782
      refine s_ef (i := 14) rfl (by kernel_rfl) rfl (ef_append (k := 1) hm789 tS22 tE3 rfl rfl rfl rfl (hm789.sl 2 rfl) h791) (by decide) ?_ ?_
      · intro v793 w795 hm794
        intro _
        exact ⟨(hm794.get (k := 4) rfl), (hm794.get (k := 7) rfl)⟩
      intro v793 w795 hm794
      obtain ⟨zd796, hz797⟩ := rowI (hm794.get (k := 0) rfl).1 h781
      refine s_rp (i := 15) rfl (by kernel_rfl) rfl (fun _ => (rd_index (α := Hdr) tS41 rfl rfl (hm794.sl 7 rfl) hz797)) ?_
      obtain ⟨zd798, ez799⟩ : ∃ z : Hdr, z.1 = v793 := ⟨⟨v793, sl_one (hm794.sl 1 rfl)⟩, rfl⟩
      obtain ⟨zd800, hz801⟩ := rowI (hm794.get (k := 0) rfl).1 h781
      refine s_ef0 (i := 16) rfl (by kernel_rfl) (ef_stl (k := 7) (off := 0) (x' := zd798) hm794 tO22 rfl rfl (sl_one (hm794.sl 1 rfl)) rfl hz801 (by show [v793] = [zd798.1]; rw [ez799]) rfl) (by decide) (fun _ _ _ q => absurd q (by decide)) ?_
      intro _ w803 hm802
      have hm804 := hm802.fill ez799
      refine s_nil (by kernel_rfl) ?_
      obtain rfl := os q792
      refine retn ?_
      exact ret0 rfl ⟨zs_a0_Steps, (List.set zs_a0_Trains (Int.toNat x723.Train) zd798), rfl, (Mem.bundle [blk g0 43 [v0_Steps, v0_Trains, (Value.int .i64 x409), (Value.int .i64 a0_Pushes)], ownL 22 v0_Steps (zs_a0_Steps : List Hdr), rowsC 3 zs_a0_Steps (a0_Steps : List (List Int)) none, ownL 22 v0_Trains ((List.set zs_a0_Trains (Int.toNat x723.Train) zd798) : List Hdr), rowsC 3 (List.set zs_a0_Trains (Int.toNat x723.Train) zd798) ((List.set a0_Trains (Int.toNat x723.Train) l790) : List (List Int)) none] [] (hm804.pick (L' := [blk g0 43 [v0_Steps, v0_Trains, (Value.int .i64 x409), (Value.int .i64 a0_Pushes)], ownL 22 v0_Steps (zs_a0_Steps : List Hdr), rowsC 3 zs_a0_Steps (a0_Steps : List (List Int)) none, ownL 22 v0_Trains ((List.set zs_a0_Trains (Int.toNat x723.Train) zd798) : List Hdr), rowsC 3 (List.set zs_a0_Trains (Int.toNat x723.Train) zd798) ((List.set a0_Trains (Int.toNat x723.Train) l790) : List (List Int)) none]) [3, 4, 5, 6, 0] (by decide) rfl))⟩

theorem r14_At_ok {N : Nat} {a0_Items : List T_Item} {a0_Weight : Int} {a1_Steps : Int} {a1_Codes : List Int} {a2 : Int} {res : List (List Int) × List (List Int) × Int × Int} (h : r14_At N a0_Items a0_Weight a1_Steps a1_Codes a2 = some res) {w : World} {v0_Items : Value} {v1_Codes : Value} (hv0_Items : Sl (Old w No) w v0_Items a0_Items) (hv1_Codes : Sl (Old w No) w v1_Codes a1_Codes) :
    CallsR Tryz.prog 12 [(Value.agg #[v0_Items, (Value.int .i64 a0_Weight)]), (Value.agg #[(Value.int .i64 a1_Steps), v1_Codes]), (Value.int .i64 a2)] w (fun u w' => ∃ (zy0 : List Hdr) (y1 : Value) (zy2 : List Hdr) (y3 : Value), u = (Value.agg #[y1, y3, (Value.int .i64 res.2.2.1), (Value.int .i64 res.2.2.2)]) ∧ Mem w No [ownL 22 y1 (zy0 : List Hdr), rowsC 3 zy0 (res.1 : List (List Int)) none, ownL 22 y3 (zy2 : List Hdr), rowsC 3 zy2 (res.2.1 : List (List Int)) none] w') := by
  unfold r14_At at h
  refine fn_ok Tryz.func12 rfl rfl rfl ?_
  have hm0 := Mem.nil w
  refine cw_seq ?_
  refine cw_region ?_
  refine t_ef rfl (ef_box hm0 rfl rfl) ?_
  rintro _ w3 ⟨g1, rfl, hm2⟩
  refine t_ef rfl (ef_box hm2 rfl rfl) ?_
  rintro _ w6 ⟨g4, rfl, hm5⟩
  refine t_ef rfl (ef_alloc hm5 tZ43 rfl) ?_
  rintro _ w9 ⟨g7, rfl, hm8⟩
  refine rwt_nil ?_
  refine qn_then ?_
  refine cw_seq ?_
  obtain ⟨j260, hit261, q262⟩ := ob h; clear h
  refine cw_join (X := fun eq envq wq => eq = .normal ∧ ∃ (v255 : Value) (zs256 : List Hdr) (v258 : Value) (zs259 : List Hdr) (g253 : Nat), Sub [(2, (Value.int .i64 a2)), (3, (Value.pointer (some ⟨g1, 0, none⟩))), (4, (Value.pointer (some ⟨g4, 0, none⟩))), (6, (Value.pointer (some ⟨g7, 0, none⟩))), (7, (Value.pointer (some ⟨g253, 0, none⟩)))] envq ∧ Mem w No [ownL 22 v255 (zs256 : List Hdr), rowsC 3 zs256 (j260.1 : List (List Int)) none, ownL 22 v258 (zs259 : List Hdr), rowsC 3 zs259 (j260.2 : List (List Int)) none, blk g253 43 [v255, v258, (Value.int .i64 0), (Value.int .i64 0)], blk g7 43 [(Value.slice none 0 0), (Value.slice none 0 0), (Value.int .i64 0), (Value.int .i64 0)], blk g4 30 [(Value.int .i64 a1_Steps), v1_Codes], blk g1 27 [v0_Items, (Value.int .i64 a0_Weight)]] wq) ?_ ?_
  · clear q262
    obtain ⟨w289, he291⟩ : ∃ q, q = w9.drew := ⟨_, rfl⟩
    have hm290 := hm8.drew; rw [← he291] at hm290
    refine cw_region_s (fun q => (blk g4 30 [(Value.int .i64 a1_Steps), v1_Codes]).φ q ∧ (blk g1 27 [v0_Items, (Value.int .i64 a0_Weight)]).φ q) (cls [2, 4, 5, 7] [8]) mixed ?_
    rintro _ rfl; rw [← he291]
    refine s_rp (i := 0) rfl (by kernel_rfl) rfl (fun _ => (rd_fld tF30_0 rfl)) ?_
    refine s_rd (i := 1) rfl (by kernel_rfl) rfl (fun w288 hS => (rd_ld1 tO3 rfl (cells_blk hS.1) (off := 0) rfl)) ⟨(hm290.get (k := 1) rfl), (hm290.get (k := 2) rfl)⟩ ?_
    refine s_rd (i := 3) rfl (by kernel_rfl) rfl (fun w288 hS => (rd_ld tA27 rfl (cells_blk hS.2) rfl)) ⟨(hm290.get (k := 1) rfl), (hm290.get (k := 2) rfl)⟩ ?_
    refine s_br3 (i := 2) (j := 4) (m := 7) (by kernel_rfl) ?_ ?_ ?_
    · skip
      obtain ⟨l317, h318, q319⟩ := ob hit261; clear hit261
      refine e_ef (i := 2) rfl rfl (ef_make (z := nilH) hm290 tS41 tE22 rfl rfl rfl (mkL_h h318)) (by decide) ?_ ?_
      · intro v320 w322 hm321
        have hm323 := hm321.rowsRep (α := Int) 3 h318
        intro _
        exact ⟨(hm323.get (k := 3) rfl), (hm323.get (k := 4) rfl)⟩
      intro v320 w322 hm321
      have hm323 := hm321.rowsRep (α := Int) 3 h318
      refine s_br2 (i := 4) (j := 7) (by kernel_rfl) ?_ ?_
      · skip
        obtain ⟨r324, h325, q326⟩ := ob q319; clear q319
        refine e_ef (i := 4) rfl rfl (ef_call tf36 rfl (r14_trains_ok h325 (hv0_Items.to_call hm323))) (by decide) ?_ ?_
        · rintro _ w328 ⟨e_, hm327⟩
          obtain rfl := e_.symm
          have hm329 := hm323.call hm327
          intro _
          exact ⟨(hm329.get (k := 3) rfl), (hm329.get (k := 4) rfl)⟩
        rintro _ w328 ⟨e_, hm327⟩
        obtain rfl := e_.symm
        have hm329 := hm323.call hm327
        refine s_br2 (i := 5) (j := 7) (by kernel_rfl) ?_ ?_
        · skip
          obtain ⟨l330, h331, q332⟩ := ob q326; clear q326
          refine e_ef (i := 5) rfl rfl (ef_make (z := nilH) hm329 tS41 tE22 rfl rfl rfl (mkL_h h331)) (by decide) ?_ ?_
          · intro v333 w335 hm334
            have hm336 := hm334.rowsRep (α := Int) 3 h331
            intro _
            exact ⟨(hm336.get (k := 5) rfl), (hm336.get (k := 6) rfl)⟩
          intro v333 w335 hm334
          have hm336 := hm334.rowsRep (α := Int) 3 h331
          refine s_rp (i := 6) rfl (by kernel_rfl) rfl (fun _ => (rd_build (cs := #[v320, v333, (Value.int .i64 0), (Value.int .i64 0)]) rfl (by obtain ⟨_, _, e⟩ := (((Nl.mk (hm336.sl_call 3 rfl) (hm336.rows_call 2 rfl)).sl)).val; rw [e]; clear e; obtain ⟨_, _, e⟩ := (((Nl.mk (hm336.sl_call 1 rfl) (hm336.rows_call 0 rfl)).sl)).val; rw [e]; clear e; kernel_rfl))) ?_
          refine s_ef (i := 7) rfl (by kernel_rfl) rfl (ef_alloc hm336 tZ43 rfl) (by decide) ?_ ?_
          · rintro _ w339 ⟨g337, rfl, hm338⟩
            intro _
            exact ⟨(hm338.get (k := 6) rfl), (hm338.get (k := 7) rfl)⟩
          rintro _ w339 ⟨g337, rfl, hm338⟩
          refine s_ef0 (i := 8) rfl (by kernel_rfl) (ef_stw (k := 0) hm338 tA43 rfl rfl (oc_cons (sl_one ((Nl.mk (hm338.sl_call 4 rfl) (hm338.rows_call 3 rfl)).sl)) (oc_cons (sl_one ((Nl.mk (hm338.sl_call 2 rfl) (hm338.rows_call 1 rfl)).sl)) (oc_cons rfl (oc_cons rfl oc_nil)))) rfl rfl rfl) (by decide) (fun _ _ _ q => absurd q (by decide)) ?_
          intro _ w341 hm340
          refine s_nil (by kernel_rfl) ?_
          obtain rfl := os q332
          exact ⟨rfl, v320, (List.replicate (Int.toNat a1_Steps) nilH), v333, (List.replicate (Int.toNat r324) nilH), g337, (by repeat (first | exact Sub.nil _ | refine Sub.cons rfl ?_)), (hm340.pick [4, 3, 2, 1, 0, 5, 6, 7] (by decide) rfl)⟩
        · skip
          refine e_ef (i := 7) rfl rfl (ef_alloc hm329 tZ43 rfl) (by decide) ?_ ?_
          · rintro _ w344 ⟨g342, rfl, hm343⟩
            intro _
            exact ⟨(hm343.get (k := 4) rfl), (hm343.get (k := 5) rfl)⟩
          rintro _ w344 ⟨g342, rfl, hm343⟩
          obtain ⟨l330, h345, q346⟩ := ob q326; clear q326
          refine s_ef (i := 5) rfl (by kernel_rfl) rfl (ef_make (z := nilH) hm343 tS41 tE22 rfl rfl rfl (mkL_h h345)) (by decide) ?_ ?_
          · intro v347 w349 hm348
            have hm350 := hm348.rowsRep (α := Int) 3 h345
            intro _
            exact ⟨(hm350.get (k := 6) rfl), (hm350.get (k := 7) rfl)⟩
          intro v347 w349 hm348
          have hm350 := hm348.rowsRep (α := Int) 3 h345
          refine s_rp (i := 6) rfl (by kernel_rfl) rfl (fun _ => (rd_build (cs := #[v320, v347, (Value.int .i64 0), (Value.int .i64 0)]) rfl (by obtain ⟨_, _, e⟩ := (((Nl.mk (hm350.sl_call 4 rfl) (hm350.rows_call 3 rfl)).sl)).val; rw [e]; clear e; obtain ⟨_, _, e⟩ := (((Nl.mk (hm350.sl_call 1 rfl) (hm350.rows_call 0 rfl)).sl)).val; rw [e]; clear e; kernel_rfl))) ?_
          refine s_ef0 (i := 8) rfl (by kernel_rfl) (ef_stw (k := 2) hm350 tA43 rfl rfl (oc_cons (sl_one ((Nl.mk (hm350.sl_call 4 rfl) (hm350.rows_call 3 rfl)).sl)) (oc_cons (sl_one ((Nl.mk (hm350.sl_call 1 rfl) (hm350.rows_call 0 rfl)).sl)) (oc_cons rfl (oc_cons rfl oc_nil)))) rfl rfl rfl) (by decide) (fun _ _ _ q => absurd q (by decide)) ?_
          intro _ w352 hm351
          refine s_nil (by kernel_rfl) ?_
          obtain rfl := os q346
          exact ⟨rfl, v320, (List.replicate (Int.toNat a1_Steps) nilH), v347, (List.replicate (Int.toNat r324) nilH), g342, (by repeat (first | exact Sub.nil _ | refine Sub.cons rfl ?_)), (hm351.pick [4, 3, 1, 0, 2, 5, 6, 7] (by decide) rfl)⟩
      · skip
        refine e_ef (i := 7) rfl rfl (ef_alloc hm323 tZ43 rfl) (by decide) ?_ ?_
        · rintro _ w355 ⟨g353, rfl, hm354⟩
          intro _
          exact ⟨(hm354.get (k := 4) rfl), (hm354.get (k := 5) rfl)⟩
        rintro _ w355 ⟨g353, rfl, hm354⟩
        obtain ⟨r324, h356, q357⟩ := ob q319; clear q319
        refine s_ef (i := 4) rfl (by kernel_rfl) rfl (ef_call tf36 rfl (r14_trains_ok h356 (hv0_Items.to_call hm354))) (by decide) ?_ ?_
        · rintro _ w359 ⟨e_, hm358⟩
          obtain rfl := e_.symm
          have hm360 := hm354.call hm358
          intro _
          exact ⟨(hm360.get (k := 4) rfl), (hm360.get (k := 5) rfl)⟩
        rintro _ w359 ⟨e_, hm358⟩
        obtain rfl := e_.symm
        have hm360 := hm354.call hm358
        obtain ⟨l330, h361, q362⟩ := ob q357; clear q357
        refine s_ef (i := 5) rfl (by kernel_rfl) rfl (ef_make (z := nilH) hm360 tS41 tE22 rfl rfl rfl (mkL_h h361)) (by decide) ?_ ?_
        · intro v363 w365 hm364
          have hm366 := hm364.rowsRep (α := Int) 3 h361
          intro _
          exact ⟨(hm366.get (k := 6) rfl), (hm366.get (k := 7) rfl)⟩
        intro v363 w365 hm364
        have hm366 := hm364.rowsRep (α := Int) 3 h361
        refine s_rp (i := 6) rfl (by kernel_rfl) rfl (fun _ => (rd_build (cs := #[v320, v363, (Value.int .i64 0), (Value.int .i64 0)]) rfl (by obtain ⟨_, _, e⟩ := (((Nl.mk (hm366.sl_call 4 rfl) (hm366.rows_call 3 rfl)).sl)).val; rw [e]; clear e; obtain ⟨_, _, e⟩ := (((Nl.mk (hm366.sl_call 1 rfl) (hm366.rows_call 0 rfl)).sl)).val; rw [e]; clear e; kernel_rfl))) ?_
        refine s_ef0 (i := 8) rfl (by kernel_rfl) (ef_stw (k := 2) hm366 tA43 rfl rfl (oc_cons (sl_one ((Nl.mk (hm366.sl_call 4 rfl) (hm366.rows_call 3 rfl)).sl)) (oc_cons (sl_one ((Nl.mk (hm366.sl_call 1 rfl) (hm366.rows_call 0 rfl)).sl)) (oc_cons rfl (oc_cons rfl oc_nil)))) rfl rfl rfl) (by decide) (fun _ _ _ q => absurd q (by decide)) ?_
        intro _ w368 hm367
        refine s_nil (by kernel_rfl) ?_
        obtain rfl := os q362
        exact ⟨rfl, v320, (List.replicate (Int.toNat a1_Steps) nilH), v363, (List.replicate (Int.toNat r324) nilH), g353, (by repeat (first | exact Sub.nil _ | refine Sub.cons rfl ?_)), (hm367.pick [4, 3, 1, 0, 2, 5, 6, 7] (by decide) rfl)⟩
    · skip
      obtain ⟨l317, h369, q370⟩ := ob hit261; clear hit261
      obtain ⟨r324, h371, q372⟩ := ob q370; clear q370
      refine e_ef (i := 4) rfl rfl (ef_call tf36 rfl (r14_trains_ok h371 (hv0_Items.to_call hm290))) (by decide) ?_ ?_
      · rintro _ w374 ⟨e_, hm373⟩
        obtain rfl := e_.symm
        have hm375 := hm290.call hm373
        intro _
        exact ⟨(hm375.get (k := 1) rfl), (hm375.get (k := 2) rfl)⟩
      rintro _ w374 ⟨e_, hm373⟩
      obtain rfl := e_.symm
      have hm375 := hm290.call hm373
      refine s_br3 (i := 2) (j := 5) (m := 7) (by kernel_rfl) ?_ ?_ ?_
      · skip
        refine e_ef (i := 2) rfl rfl (ef_make (z := nilH) hm375 tS41 tE22 rfl rfl rfl (mkL_h h369)) (by decide) ?_ ?_
        · intro v376 w378 hm377
          have hm379 := hm377.rowsRep (α := Int) 3 h369
          intro _
          exact ⟨(hm379.get (k := 3) rfl), (hm379.get (k := 4) rfl)⟩
        intro v376 w378 hm377
        have hm379 := hm377.rowsRep (α := Int) 3 h369
        refine s_br2 (i := 5) (j := 7) (by kernel_rfl) ?_ ?_
        · skip
          obtain ⟨l330, h380, q381⟩ := ob q372; clear q372
          refine e_ef (i := 5) rfl rfl (ef_make (z := nilH) hm379 tS41 tE22 rfl rfl rfl (mkL_h h380)) (by decide) ?_ ?_
          · intro v382 w384 hm383
            have hm385 := hm383.rowsRep (α := Int) 3 h380
            intro _
            exact ⟨(hm385.get (k := 5) rfl), (hm385.get (k := 6) rfl)⟩
          intro v382 w384 hm383
          have hm385 := hm383.rowsRep (α := Int) 3 h380
          refine s_rp (i := 6) rfl (by kernel_rfl) rfl (fun _ => (rd_build (cs := #[v376, v382, (Value.int .i64 0), (Value.int .i64 0)]) rfl (by obtain ⟨_, _, e⟩ := (((Nl.mk (hm385.sl_call 3 rfl) (hm385.rows_call 2 rfl)).sl)).val; rw [e]; clear e; obtain ⟨_, _, e⟩ := (((Nl.mk (hm385.sl_call 1 rfl) (hm385.rows_call 0 rfl)).sl)).val; rw [e]; clear e; kernel_rfl))) ?_
          refine s_ef (i := 7) rfl (by kernel_rfl) rfl (ef_alloc hm385 tZ43 rfl) (by decide) ?_ ?_
          · rintro _ w388 ⟨g386, rfl, hm387⟩
            intro _
            exact ⟨(hm387.get (k := 6) rfl), (hm387.get (k := 7) rfl)⟩
          rintro _ w388 ⟨g386, rfl, hm387⟩
          refine s_ef0 (i := 8) rfl (by kernel_rfl) (ef_stw (k := 0) hm387 tA43 rfl rfl (oc_cons (sl_one ((Nl.mk (hm387.sl_call 4 rfl) (hm387.rows_call 3 rfl)).sl)) (oc_cons (sl_one ((Nl.mk (hm387.sl_call 2 rfl) (hm387.rows_call 1 rfl)).sl)) (oc_cons rfl (oc_cons rfl oc_nil)))) rfl rfl rfl) (by decide) (fun _ _ _ q => absurd q (by decide)) ?_
          intro _ w390 hm389
          refine s_nil (by kernel_rfl) ?_
          obtain rfl := os q381
          exact ⟨rfl, v376, (List.replicate (Int.toNat a1_Steps) nilH), v382, (List.replicate (Int.toNat r324) nilH), g386, (by repeat (first | exact Sub.nil _ | refine Sub.cons rfl ?_)), (hm389.pick [4, 3, 2, 1, 0, 5, 6, 7] (by decide) rfl)⟩
        · skip
          refine e_ef (i := 7) rfl rfl (ef_alloc hm379 tZ43 rfl) (by decide) ?_ ?_
          · rintro _ w393 ⟨g391, rfl, hm392⟩
            intro _
            exact ⟨(hm392.get (k := 4) rfl), (hm392.get (k := 5) rfl)⟩
          rintro _ w393 ⟨g391, rfl, hm392⟩
          obtain ⟨l330, h394, q395⟩ := ob q372; clear q372
          refine s_ef (i := 5) rfl (by kernel_rfl) rfl (ef_make (z := nilH) hm392 tS41 tE22 rfl rfl rfl (mkL_h h394)) (by decide) ?_ ?_
          · intro v396 w398 hm397
            have hm399 := hm397.rowsRep (α := Int) 3 h394
            intro _
            exact ⟨(hm399.get (k := 6) rfl), (hm399.get (k := 7) rfl)⟩
          intro v396 w398 hm397
          have hm399 := hm397.rowsRep (α := Int) 3 h394
          refine s_rp (i := 6) rfl (by kernel_rfl) rfl (fun _ => (rd_build (cs := #[v376, v396, (Value.int .i64 0), (Value.int .i64 0)]) rfl (by obtain ⟨_, _, e⟩ := (((Nl.mk (hm399.sl_call 4 rfl) (hm399.rows_call 3 rfl)).sl)).val; rw [e]; clear e; obtain ⟨_, _, e⟩ := (((Nl.mk (hm399.sl_call 1 rfl) (hm399.rows_call 0 rfl)).sl)).val; rw [e]; clear e; kernel_rfl))) ?_
          refine s_ef0 (i := 8) rfl (by kernel_rfl) (ef_stw (k := 2) hm399 tA43 rfl rfl (oc_cons (sl_one ((Nl.mk (hm399.sl_call 4 rfl) (hm399.rows_call 3 rfl)).sl)) (oc_cons (sl_one ((Nl.mk (hm399.sl_call 1 rfl) (hm399.rows_call 0 rfl)).sl)) (oc_cons rfl (oc_cons rfl oc_nil)))) rfl rfl rfl) (by decide) (fun _ _ _ q => absurd q (by decide)) ?_
          intro _ w401 hm400
          refine s_nil (by kernel_rfl) ?_
          obtain rfl := os q395
          exact ⟨rfl, v376, (List.replicate (Int.toNat a1_Steps) nilH), v396, (List.replicate (Int.toNat r324) nilH), g391, (by repeat (first | exact Sub.nil _ | refine Sub.cons rfl ?_)), (hm400.pick [4, 3, 1, 0, 2, 5, 6, 7] (by decide) rfl)⟩
      · skip
        obtain ⟨l330, h402, q403⟩ := ob q372; clear q372
        refine e_ef (i := 5) rfl rfl (ef_make (z := nilH) hm375 tS41 tE22 rfl rfl rfl (mkL_h h402)) (by decide) ?_ ?_
        · intro v404 w406 hm405
          have hm407 := hm405.rowsRep (α := Int) 3 h402
          intro _
          exact ⟨(hm407.get (k := 3) rfl), (hm407.get (k := 4) rfl)⟩
        intro v404 w406 hm405
        have hm407 := hm405.rowsRep (α := Int) 3 h402
        refine s_br2 (i := 2) (j := 7) (by kernel_rfl) ?_ ?_
        · skip
          refine e_ef (i := 2) rfl rfl (ef_make (z := nilH) hm407 tS41 tE22 rfl rfl rfl (mkL_h h369)) (by decide) ?_ ?_
          · intro v408 w410 hm409
            have hm411 := hm409.rowsRep (α := Int) 3 h369
            intro _
            exact ⟨(hm411.get (k := 5) rfl), (hm411.get (k := 6) rfl)⟩
          intro v408 w410 hm409
          have hm411 := hm409.rowsRep (α := Int) 3 h369
          refine s_rp (i := 6) rfl (by kernel_rfl) rfl (fun _ => (rd_build (cs := #[v408, v404, (Value.int .i64 0), (Value.int .i64 0)]) rfl (by obtain ⟨_, _, e⟩ := (((Nl.mk (hm411.sl_call 1 rfl) (hm411.rows_call 0 rfl)).sl)).val; rw [e]; clear e; obtain ⟨_, _, e⟩ := (((Nl.mk (hm411.sl_call 3 rfl) (hm411.rows_call 2 rfl)).sl)).val; rw [e]; clear e; kernel_rfl))) ?_
          refine s_ef (i := 7) rfl (by kernel_rfl) rfl (ef_alloc hm411 tZ43 rfl) (by decide) ?_ ?_
          · rintro _ w414 ⟨g412, rfl, hm413⟩
            intro _
            exact ⟨(hm413.get (k := 6) rfl), (hm413.get (k := 7) rfl)⟩
          rintro _ w414 ⟨g412, rfl, hm413⟩
          refine s_ef0 (i := 8) rfl (by kernel_rfl) (ef_stw (k := 0) hm413 tA43 rfl rfl (oc_cons (sl_one ((Nl.mk (hm413.sl_call 2 rfl) (hm413.rows_call 1 rfl)).sl)) (oc_cons (sl_one ((Nl.mk (hm413.sl_call 4 rfl) (hm413.rows_call 3 rfl)).sl)) (oc_cons rfl (oc_cons rfl oc_nil)))) rfl rfl rfl) (by decide) (fun _ _ _ q => absurd q (by decide)) ?_
          intro _ w416 hm415
          refine s_nil (by kernel_rfl) ?_
          obtain rfl := os q403
          exact ⟨rfl, v408, (List.replicate (Int.toNat a1_Steps) nilH), v404, (List.replicate (Int.toNat r324) nilH), g412, (by repeat (first | exact Sub.nil _ | refine Sub.cons rfl ?_)), (hm415.pick [2, 1, 4, 3, 0, 5, 6, 7] (by decide) rfl)⟩
        · skip
          refine e_ef (i := 7) rfl rfl (ef_alloc hm407 tZ43 rfl) (by decide) ?_ ?_
          · rintro _ w419 ⟨g417, rfl, hm418⟩
            intro _
            exact ⟨(hm418.get (k := 4) rfl), (hm418.get (k := 5) rfl)⟩
          rintro _ w419 ⟨g417, rfl, hm418⟩
          refine s_ef (i := 2) rfl (by kernel_rfl) rfl (ef_make (z := nilH) hm418 tS41 tE22 rfl rfl rfl (mkL_h h369)) (by decide) ?_ ?_
          · intro v420 w422 hm421
            have hm423 := hm421.rowsRep (α := Int) 3 h369
            intro _
            exact ⟨(hm423.get (k := 6) rfl), (hm423.get (k := 7) rfl)⟩
          intro v420 w422 hm421
          have hm423 := hm421.rowsRep (α := Int) 3 h369
          refine s_rp (i := 6) rfl (by kernel_rfl) rfl (fun _ => (rd_build (cs := #[v420, v404, (Value.int .i64 0), (Value.int .i64 0)]) rfl (by obtain ⟨_, _, e⟩ := (((Nl.mk (hm423.sl_call 1 rfl) (hm423.rows_call 0 rfl)).sl)).val; rw [e]; clear e; obtain ⟨_, _, e⟩ := (((Nl.mk (hm423.sl_call 4 rfl) (hm423.rows_call 3 rfl)).sl)).val; rw [e]; clear e; kernel_rfl))) ?_
          refine s_ef0 (i := 8) rfl (by kernel_rfl) (ef_stw (k := 2) hm423 tA43 rfl rfl (oc_cons (sl_one ((Nl.mk (hm423.sl_call 1 rfl) (hm423.rows_call 0 rfl)).sl)) (oc_cons (sl_one ((Nl.mk (hm423.sl_call 4 rfl) (hm423.rows_call 3 rfl)).sl)) (oc_cons rfl (oc_cons rfl oc_nil)))) rfl rfl rfl) (by decide) (fun _ _ _ q => absurd q (by decide)) ?_
          intro _ w425 hm424
          refine s_nil (by kernel_rfl) ?_
          obtain rfl := os q403
          exact ⟨rfl, v420, (List.replicate (Int.toNat a1_Steps) nilH), v404, (List.replicate (Int.toNat r324) nilH), g417, (by repeat (first | exact Sub.nil _ | refine Sub.cons rfl ?_)), (hm424.pick [1, 0, 4, 3, 2, 5, 6, 7] (by decide) rfl)⟩
      · skip
        refine e_ef (i := 7) rfl rfl (ef_alloc hm375 tZ43 rfl) (by decide) ?_ ?_
        · rintro _ w428 ⟨g426, rfl, hm427⟩
          intro _
          exact ⟨(hm427.get (k := 2) rfl), (hm427.get (k := 3) rfl)⟩
        rintro _ w428 ⟨g426, rfl, hm427⟩
        refine s_br2 (i := 2) (j := 5) (by kernel_rfl) ?_ ?_
        · skip
          refine e_ef (i := 2) rfl rfl (ef_make (z := nilH) hm427 tS41 tE22 rfl rfl rfl (mkL_h h369)) (by decide) ?_ ?_
          · intro v429 w431 hm430
            have hm432 := hm430.rowsRep (α := Int) 3 h369
            intro _
            exact ⟨(hm432.get (k := 4) rfl), (hm432.get (k := 5) rfl)⟩
          intro v429 w431 hm430
          have hm432 := hm430.rowsRep (α := Int) 3 h369
          obtain ⟨l330, h433, q434⟩ := ob q372; clear q372
          refine s_ef (i := 5) rfl (by kernel_rfl) rfl (ef_make (z := nilH) hm432 tS41 tE22 rfl rfl rfl (mkL_h h433)) (by decide) ?_ ?_
          · intro v435 w437 hm436
            have hm438 := hm436.rowsRep (α := Int) 3 h433
            intro _
            exact ⟨(hm438.get (k := 6) rfl), (hm438.get (k := 7) rfl)⟩
          intro v435 w437 hm436
          have hm438 := hm436.rowsRep (α := Int) 3 h433
          refine s_rp (i := 6) rfl (by kernel_rfl) rfl (fun _ => (rd_build (cs := #[v429, v435, (Value.int .i64 0), (Value.int .i64 0)]) rfl (by obtain ⟨_, _, e⟩ := (((Nl.mk (hm438.sl_call 3 rfl) (hm438.rows_call 2 rfl)).sl)).val; rw [e]; clear e; obtain ⟨_, _, e⟩ := (((Nl.mk (hm438.sl_call 1 rfl) (hm438.rows_call 0 rfl)).sl)).val; rw [e]; clear e; kernel_rfl))) ?_
          refine s_ef0 (i := 8) rfl (by kernel_rfl) (ef_stw (k := 4) hm438 tA43 rfl rfl (oc_cons (sl_one ((Nl.mk (hm438.sl_call 3 rfl) (hm438.rows_call 2 rfl)).sl)) (oc_cons (sl_one ((Nl.mk (hm438.sl_call 1 rfl) (hm438.rows_call 0 rfl)).sl)) (oc_cons rfl (oc_cons rfl oc_nil)))) rfl rfl rfl) (by decide) (fun _ _ _ q => absurd q (by decide)) ?_
          intro _ w440 hm439
          refine s_nil (by kernel_rfl) ?_
          obtain rfl := os q434
          exact ⟨rfl, v429, (List.replicate (Int.toNat a1_Steps) nilH), v435, (List.replicate (Int.toNat r324) nilH), g426, (by repeat (first | exact Sub.nil _ | refine Sub.cons rfl ?_)), (hm439.pick [3, 2, 1, 0, 4, 5, 6, 7] (by decide) rfl)⟩
        · skip
          obtain ⟨l330, h441, q442⟩ := ob q372; clear q372
          refine e_ef (i := 5) rfl rfl (ef_make (z := nilH) hm427 tS41 tE22 rfl rfl rfl (mkL_h h441)) (by decide) ?_ ?_
          · intro v443 w445 hm444
            have hm446 := hm444.rowsRep (α := Int) 3 h441
            intro _
            exact ⟨(hm446.get (k := 4) rfl), (hm446.get (k := 5) rfl)⟩
          intro v443 w445 hm444
          have hm446 := hm444.rowsRep (α := Int) 3 h441
          refine s_ef (i := 2) rfl (by kernel_rfl) rfl (ef_make (z := nilH) hm446 tS41 tE22 rfl rfl rfl (mkL_h h369)) (by decide) ?_ ?_
          · intro v447 w449 hm448
            have hm450 := hm448.rowsRep (α := Int) 3 h369
            intro _
            exact ⟨(hm450.get (k := 6) rfl), (hm450.get (k := 7) rfl)⟩
          intro v447 w449 hm448
          have hm450 := hm448.rowsRep (α := Int) 3 h369
          refine s_rp (i := 6) rfl (by kernel_rfl) rfl (fun _ => (rd_build (cs := #[v447, v443, (Value.int .i64 0), (Value.int .i64 0)]) rfl (by obtain ⟨_, _, e⟩ := (((Nl.mk (hm450.sl_call 1 rfl) (hm450.rows_call 0 rfl)).sl)).val; rw [e]; clear e; obtain ⟨_, _, e⟩ := (((Nl.mk (hm450.sl_call 3 rfl) (hm450.rows_call 2 rfl)).sl)).val; rw [e]; clear e; kernel_rfl))) ?_
          refine s_ef0 (i := 8) rfl (by kernel_rfl) (ef_stw (k := 4) hm450 tA43 rfl rfl (oc_cons (sl_one ((Nl.mk (hm450.sl_call 1 rfl) (hm450.rows_call 0 rfl)).sl)) (oc_cons (sl_one ((Nl.mk (hm450.sl_call 3 rfl) (hm450.rows_call 2 rfl)).sl)) (oc_cons rfl (oc_cons rfl oc_nil)))) rfl rfl rfl) (by decide) (fun _ _ _ q => absurd q (by decide)) ?_
          intro _ w452 hm451
          refine s_nil (by kernel_rfl) ?_
          obtain rfl := os q442
          exact ⟨rfl, v447, (List.replicate (Int.toNat a1_Steps) nilH), v443, (List.replicate (Int.toNat r324) nilH), g426, (by repeat (first | exact Sub.nil _ | refine Sub.cons rfl ?_)), (hm451.pick [1, 0, 3, 2, 4, 5, 6, 7] (by decide) rfl)⟩
    · skip
      refine e_ef (i := 7) rfl rfl (ef_alloc hm290 tZ43 rfl) (by decide) ?_ ?_
      · rintro _ w455 ⟨g453, rfl, hm454⟩
        intro _
        exact ⟨(hm454.get (k := 2) rfl), (hm454.get (k := 3) rfl)⟩
      rintro _ w455 ⟨g453, rfl, hm454⟩
      refine s_br2 (i := 2) (j := 4) (by kernel_rfl) ?_ ?_
      · skip
        obtain ⟨l317, h456, q457⟩ := ob hit261; clear hit261
        refine e_ef (i := 2) rfl rfl (ef_make (z := nilH) hm454 tS41 tE22 rfl rfl rfl (mkL_h h456)) (by decide) ?_ ?_
        · intro v458 w460 hm459
          have hm461 := hm459.rowsRep (α := Int) 3 h456
          intro _
          exact ⟨(hm461.get (k := 4) rfl), (hm461.get (k := 5) rfl)⟩
        intro v458 w460 hm459
        have hm461 := hm459.rowsRep (α := Int) 3 h456
        obtain ⟨r324, h462, q463⟩ := ob q457; clear q457
        refine s_ef (i := 4) rfl (by kernel_rfl) rfl (ef_call tf36 rfl (r14_trains_ok h462 (hv0_Items.to_call hm461))) (by decide) ?_ ?_
        · rintro _ w465 ⟨e_, hm464⟩
          obtain rfl := e_.symm
          have hm466 := hm461.call hm464
          intro _
          exact ⟨(hm466.get (k := 4) rfl), (hm466.get (k := 5) rfl)⟩
        rintro _ w465 ⟨e_, hm464⟩
        obtain rfl := e_.symm
        have hm466 := hm461.call hm464
        obtain ⟨l330, h467, q468⟩ := ob q463; clear q463
        refine s_ef (i := 5) rfl (by kernel_rfl) rfl (ef_make (z := nilH) hm466 tS41 tE22 rfl rfl rfl (mkL_h h467)) (by decide) ?_ ?_
        · intro v469 w471 hm470
          have hm472 := hm470.rowsRep (α := Int) 3 h467
          intro _
          exact ⟨(hm472.get (k := 6) rfl), (hm472.get (k := 7) rfl)⟩
        intro v469 w471 hm470
        have hm472 := hm470.rowsRep (α := Int) 3 h467
        refine s_rp (i := 6) rfl (by kernel_rfl) rfl (fun _ => (rd_build (cs := #[v458, v469, (Value.int .i64 0), (Value.int .i64 0)]) rfl (by obtain ⟨_, _, e⟩ := (((Nl.mk (hm472.sl_call 3 rfl) (hm472.rows_call 2 rfl)).sl)).val; rw [e]; clear e; obtain ⟨_, _, e⟩ := (((Nl.mk (hm472.sl_call 1 rfl) (hm472.rows_call 0 rfl)).sl)).val; rw [e]; clear e; kernel_rfl))) ?_
        refine s_ef0 (i := 8) rfl (by kernel_rfl) (ef_stw (k := 4) hm472 tA43 rfl rfl (oc_cons (sl_one ((Nl.mk (hm472.sl_call 3 rfl) (hm472.rows_call 2 rfl)).sl)) (oc_cons (sl_one ((Nl.mk (hm472.sl_call 1 rfl) (hm472.rows_call 0 rfl)).sl)) (oc_cons rfl (oc_cons rfl oc_nil)))) rfl rfl rfl) (by decide) (fun _ _ _ q => absurd q (by decide)) ?_
        intro _ w474 hm473
        refine s_nil (by kernel_rfl) ?_
        obtain rfl := os q468
        exact ⟨rfl, v458, (List.replicate (Int.toNat a1_Steps) nilH), v469, (List.replicate (Int.toNat r324) nilH), g453, (by repeat (first | exact Sub.nil _ | refine Sub.cons rfl ?_)), (hm473.pick [3, 2, 1, 0, 4, 5, 6, 7] (by decide) rfl)⟩
      · skip
        obtain ⟨l317, h475, q476⟩ := ob hit261; clear hit261
        obtain ⟨r324, h477, q478⟩ := ob q476; clear q476
        refine e_ef (i := 4) rfl rfl (ef_call tf36 rfl (r14_trains_ok h477 (hv0_Items.to_call hm454))) (by decide) ?_ ?_
        · rintro _ w480 ⟨e_, hm479⟩
          obtain rfl := e_.symm
          have hm481 := hm454.call hm479
          intro _
          exact ⟨(hm481.get (k := 2) rfl), (hm481.get (k := 3) rfl)⟩
        rintro _ w480 ⟨e_, hm479⟩
        obtain rfl := e_.symm
        have hm481 := hm454.call hm479
        refine s_br2 (i := 2) (j := 5) (by kernel_rfl) ?_ ?_
        · skip
          refine e_ef (i := 2) rfl rfl (ef_make (z := nilH) hm481 tS41 tE22 rfl rfl rfl (mkL_h h475)) (by decide) ?_ ?_
          · intro v482 w484 hm483
            have hm485 := hm483.rowsRep (α := Int) 3 h475
            intro _
            exact ⟨(hm485.get (k := 4) rfl), (hm485.get (k := 5) rfl)⟩
          intro v482 w484 hm483
          have hm485 := hm483.rowsRep (α := Int) 3 h475
          obtain ⟨l330, h486, q487⟩ := ob q478; clear q478
          refine s_ef (i := 5) rfl (by kernel_rfl) rfl (ef_make (z := nilH) hm485 tS41 tE22 rfl rfl rfl (mkL_h h486)) (by decide) ?_ ?_
          · intro v488 w490 hm489
            have hm491 := hm489.rowsRep (α := Int) 3 h486
            intro _
            exact ⟨(hm491.get (k := 6) rfl), (hm491.get (k := 7) rfl)⟩
          intro v488 w490 hm489
          have hm491 := hm489.rowsRep (α := Int) 3 h486
          refine s_rp (i := 6) rfl (by kernel_rfl) rfl (fun _ => (rd_build (cs := #[v482, v488, (Value.int .i64 0), (Value.int .i64 0)]) rfl (by obtain ⟨_, _, e⟩ := (((Nl.mk (hm491.sl_call 3 rfl) (hm491.rows_call 2 rfl)).sl)).val; rw [e]; clear e; obtain ⟨_, _, e⟩ := (((Nl.mk (hm491.sl_call 1 rfl) (hm491.rows_call 0 rfl)).sl)).val; rw [e]; clear e; kernel_rfl))) ?_
          refine s_ef0 (i := 8) rfl (by kernel_rfl) (ef_stw (k := 4) hm491 tA43 rfl rfl (oc_cons (sl_one ((Nl.mk (hm491.sl_call 3 rfl) (hm491.rows_call 2 rfl)).sl)) (oc_cons (sl_one ((Nl.mk (hm491.sl_call 1 rfl) (hm491.rows_call 0 rfl)).sl)) (oc_cons rfl (oc_cons rfl oc_nil)))) rfl rfl rfl) (by decide) (fun _ _ _ q => absurd q (by decide)) ?_
          intro _ w493 hm492
          refine s_nil (by kernel_rfl) ?_
          obtain rfl := os q487
          exact ⟨rfl, v482, (List.replicate (Int.toNat a1_Steps) nilH), v488, (List.replicate (Int.toNat r324) nilH), g453, (by repeat (first | exact Sub.nil _ | refine Sub.cons rfl ?_)), (hm492.pick [3, 2, 1, 0, 4, 5, 6, 7] (by decide) rfl)⟩
        · skip
          obtain ⟨l330, h494, q495⟩ := ob q478; clear q478
          refine e_ef (i := 5) rfl rfl (ef_make (z := nilH) hm481 tS41 tE22 rfl rfl rfl (mkL_h h494)) (by decide) ?_ ?_
          · intro v496 w498 hm497
            have hm499 := hm497.rowsRep (α := Int) 3 h494
            intro _
            exact ⟨(hm499.get (k := 4) rfl), (hm499.get (k := 5) rfl)⟩
          intro v496 w498 hm497
          have hm499 := hm497.rowsRep (α := Int) 3 h494
          refine s_ef (i := 2) rfl (by kernel_rfl) rfl (ef_make (z := nilH) hm499 tS41 tE22 rfl rfl rfl (mkL_h h475)) (by decide) ?_ ?_
          · intro v500 w502 hm501
            have hm503 := hm501.rowsRep (α := Int) 3 h475
            intro _
            exact ⟨(hm503.get (k := 6) rfl), (hm503.get (k := 7) rfl)⟩
          intro v500 w502 hm501
          have hm503 := hm501.rowsRep (α := Int) 3 h475
          refine s_rp (i := 6) rfl (by kernel_rfl) rfl (fun _ => (rd_build (cs := #[v500, v496, (Value.int .i64 0), (Value.int .i64 0)]) rfl (by obtain ⟨_, _, e⟩ := (((Nl.mk (hm503.sl_call 1 rfl) (hm503.rows_call 0 rfl)).sl)).val; rw [e]; clear e; obtain ⟨_, _, e⟩ := (((Nl.mk (hm503.sl_call 3 rfl) (hm503.rows_call 2 rfl)).sl)).val; rw [e]; clear e; kernel_rfl))) ?_
          refine s_ef0 (i := 8) rfl (by kernel_rfl) (ef_stw (k := 4) hm503 tA43 rfl rfl (oc_cons (sl_one ((Nl.mk (hm503.sl_call 1 rfl) (hm503.rows_call 0 rfl)).sl)) (oc_cons (sl_one ((Nl.mk (hm503.sl_call 3 rfl) (hm503.rows_call 2 rfl)).sl)) (oc_cons rfl (oc_cons rfl oc_nil)))) rfl rfl rfl) (by decide) (fun _ _ _ q => absurd q (by decide)) ?_
          intro _ w505 hm504
          refine s_nil (by kernel_rfl) ?_
          obtain rfl := os q495
          exact ⟨rfl, v500, (List.replicate (Int.toNat a1_Steps) nilH), v496, (List.replicate (Int.toNat r324) nilH), g453, (by repeat (first | exact Sub.nil _ | refine Sub.cons rfl ?_)), (hm504.pick [1, 0, 3, 2, 4, 5, 6, 7] (by decide) rfl)⟩
  · clear hit261
    intro e env506 w507 hX508
    obtain ⟨rfl, v255, zs256, v258, zs259, g253, hs509, hm510⟩ := hX508
    refine qn_then ?_
    refine cw_sub hs509 ?_
    refine cw_seq ?_
    refine cw_seq ?_
    refine cw_region ?_
    refine t_rd rfl (rd_assign rfl) ?_
    refine rwt_nil ?_
    refine qn_then ?_
    refine cw_block ?_
    obtain ⟨r1500, hit1501, q1502⟩ := ob q262; clear q262
    refine cw_loop2 (I := fun q envq wq => ∃ (v1489 : Value) (zs1490 : List Hdr) (v1492 : Value) (zs1493 : List Hdr), Sub [(2, (Value.int .i64 a2)), (3, (Value.pointer (some ⟨g1, 0, none⟩))), (4, (Value.pointer (some ⟨g4, 0, none⟩))), (6, (Value.pointer (some ⟨g7, 0, none⟩))), (7, (Value.pointer (some ⟨g253, 0, none⟩))), (8, (Value.int .i64 q.1))] envq ∧ Mem w No [ownL 22 v1489 (zs1490 : List Hdr), rowsC 3 zs1490 (q.2.2.2.1 : List (List Int)) none, ownL 22 v1492 (zs1493 : List Hdr), rowsC 3 zs1493 (q.2.2.2.2 : List (List Int)) none, blk g253 43 [v1489, v1492, (Value.int .i64 q.2.1), (Value.int .i64 q.2.2.1)], blk g7 43 [(Value.slice none 0 0), (Value.slice none 0 0), (Value.int .i64 0), (Value.int .i64 0)], blk g4 30 [(Value.int .i64 a1_Steps), v1_Codes], blk g1 27 [v0_Items, (Value.int .i64 a0_Weight)]] wq) (X := fun eq envq wq => eq = .exit 0 ∧ ∃ (v1480 : Value) (zs1481 : List Hdr) (v1483 : Value) (zs1484 : List Hdr), Sub [(6, (Value.pointer (some ⟨g7, 0, none⟩))), (7, (Value.pointer (some ⟨g253, 0, none⟩)))] envq ∧ Mem w No [ownL 22 v1480 (zs1481 : List Hdr), rowsC 3 zs1481 (r1500.2.2.1 : List (List Int)) none, ownL 22 v1483 (zs1484 : List Hdr), rowsC 3 zs1484 (r1500.2.2.2 : List (List Int)) none, blk g253 43 [v1480, v1483, (Value.int .i64 r1500.1), (Value.int .i64 r1500.2.1)], blk g7 43 [(Value.slice none 0 0), (Value.slice none 0 0), (Value.int .i64 0), (Value.int .i64 0)]] wq) hit1501 ⟨v255, zs256, v258, zs259, (by repeat (first | exact Sub.nil _ | refine Sub.cons rfl ?_)), (hm510.pick [0, 1, 2, 3, 4, 5, 6, 7] (by decide) rfl)⟩ ?_ ?_
    · rintro ⟨i1485, i1486, i1487, l1488, l1491⟩ x1495 env1496 w1497 hf1498 hr1499 ⟨v1489, zs1490, v1492, zs1493, hs_, hm_⟩
      have hs_ : Sub [(2, (Value.int .i64 a2)), (3, (Value.pointer (some ⟨g1, 0, none⟩))), (4, (Value.pointer (some ⟨g4, 0, none⟩))), (6, (Value.pointer (some ⟨g7, 0, none⟩))), (7, (Value.pointer (some ⟨g253, 0, none⟩))), (8, (Value.int .i64 i1485))] env1496 := hs_
      have hm1503 : Mem w No [ownL 22 v1489 (zs1490 : List Hdr), rowsC 3 zs1490 (l1488 : List (List Int)) none, ownL 22 v1492 (zs1493 : List Hdr), rowsC 3 zs1493 (l1491 : List (List Int)) none, blk g253 43 [v1489, v1492, (Value.int .i64 i1486), (Value.int .i64 i1487)], blk g7 43 [(Value.slice none 0 0), (Value.slice none 0 0), (Value.int .i64 0), (Value.int .i64 0)], blk g4 30 [(Value.int .i64 a1_Steps), v1_Codes], blk g1 27 [v0_Items, (Value.int .i64 a0_Weight)]] w1497 := hm_
      refine cw_sub hs_ ?_
      clear hs_ hm_ q1502
      have h : r14_At_l7 N a0_Items a0_Weight a1_Steps a1_Codes a2 i1485 i1486 i1487 l1488 l1491 = some x1495 := hf1498
      clear hf1498
      refine cw_seq ?_
      refine cw_seq ?_
      refine cw_region ?_
      refine t_rd rfl (rd_move rfl) ?_
      refine t_rd rfl (rd_move rfl) ?_
      refine t_rd rfl (rd_leq rfl rfl) ?_
      refine rwt_nil ?_
      refine qn_then ?_
      obtain ⟨hb1504, q1505⟩ | ⟨hb1504, q1505⟩ := oi h <;> clear h
      · refine cw_t rfl hb1504 ?_
        refine cw_skip ?_
        refine qn_then ?_
        refine cw_seq ?_
        refine cw_block ?_
        refine cw_seq ?_
        refine cw_region ?_
        refine t_rd rfl (rd_fld tF43_2 rfl) ?_
        refine t_rd rfl (rd_ld1 tO3 rfl (hm1503.blk 4 rfl) (off := 2) rfl) ?_
        refine t_rd rfl (rd_assign rfl) ?_
        refine rwt_nil ?_
        refine qn_then ?_
        refine cw_seq ?_
        refine cw_seq ?_
        refine cw_region ?_
        refine t_rd rfl (rd_move rfl) ?_
        refine t_rd rfl (rd_gtr rfl rfl) ?_
        refine rwt_nil ?_
        refine qn_then ?_
        obtain ⟨j1683, hit1684, q1685⟩ := ob q1505; clear q1505
        refine cw_join (X := fun eq envq wq => eq = .normal ∧ ∃ (v1678 : Value) (zs1679 : List Hdr) (v1681 : Value) (zs1682 : List Hdr), Sub [(2, (Value.int .i64 a2)), (3, (Value.pointer (some ⟨g1, 0, none⟩))), (4, (Value.pointer (some ⟨g4, 0, none⟩))), (6, (Value.pointer (some ⟨g7, 0, none⟩))), (7, (Value.pointer (some ⟨g253, 0, none⟩))), (8, (Value.int .i64 i1485)), (9, (Value.int .i64 i1486))] envq ∧ Mem w No [ownL 22 v1678 (zs1679 : List Hdr), rowsC 3 zs1679 (j1683.2.1 : List (List Int)) none, ownL 22 v1681 (zs1682 : List Hdr), rowsC 3 zs1682 (j1683.2.2 : List (List Int)) none, blk g253 43 [v1678, v1681, (Value.int .i64 j1683.1), (Value.int .i64 i1487)], blk g7 43 [(Value.slice none 0 0), (Value.slice none 0 0), (Value.int .i64 0), (Value.int .i64 0)], blk g4 30 [(Value.int .i64 a1_Steps), v1_Codes], blk g1 27 [v0_Items, (Value.int .i64 a0_Weight)]] wq) ?_ ?_
        · clear q1685
          obtain ⟨hb1686, q1687⟩ | ⟨hb1686, q1687⟩ := oi hit1684 <;> clear hit1684
          · refine cw_t rfl hb1686 ?_
            refine cw_seq ?_
            refine cw_region ?_
            refine t_rd rfl (rd_fld tF43_0 rfl) ?_
            refine t_rd rfl (rd_ld1 tO41 rfl (hm1503.blk 4 rfl) (off := 0) rfl) ?_
            refine t_rd rfl (rd_move rfl) ?_
            obtain ⟨x1688, h1689, q1690⟩ := ob q1687; clear q1687
            refine t_rd rfl (rd_sub64 h1689 rfl rfl) ?_
            obtain ⟨x1691, h1692, q1693⟩ := ob q1690; clear q1690
            refine t_rd rfl (rd_index tS41 rfl rfl ((Nl.mk (hm1503.sl_call 0 rfl) (hm1503.rows_call 1 rfl)).sl) h1692) ?_
            obtain ⟨zd1694, hz1695⟩ := (Nl.mk (hm1503.sl_call 0 rfl) (hm1503.rows_call 1 rfl)).row h1692
            refine t_rd rfl (rd_ld1 tO22 rfl ((Nl.mk (hm1503.sl_call 0 rfl) (hm1503.rows_call 1 rfl)).cells hz1695) (off := 0) rfl) ?_
            refine t_rd rfl (rd_assign rfl) ?_
            refine rwt_nil ?_
            refine qn_then ?_
            refine cw_seq ?_
            refine cw_region ?_
            refine t_rd rfl (rd_fld tF43_0 rfl) ?_
            refine t_rd rfl (rd_ld1 tO41 rfl (hm1503.blk 4 rfl) (off := 0) rfl) ?_
            refine t_rd rfl (rd_move rfl) ?_
            refine t_rd rfl (rd_sub64 h1689 rfl rfl) ?_
            refine t_rd rfl (rd_index tS41 rfl rfl ((Nl.mk (hm1503.sl_call 0 rfl) (hm1503.rows_call 1 rfl)).sl) h1692) ?_
            have hm1696 := hm1503.addNil (α := Int) 3
            obtain ⟨zd1697, ez1698⟩ : ∃ z : Hdr, z.1 = (Value.slice none 0 0) := ⟨⟨(Value.slice none 0 0), sl_one (hm1696.sl 0 rfl)⟩, rfl⟩
            have hm1701 := hm1696.pick [2, 0, 1, 3, 4, 5, 6, 7, 8] (L' := [rowsC 3 zs1490 (l1488 : List (List Int)) none, ownL 3 (Value.slice none 0 0) ([] : List Int), ownL 22 v1489 (zs1490 : List Hdr), ownL 22 v1492 (zs1493 : List Hdr), rowsC 3 zs1493 (l1491 : List (List Int)) none, blk g253 43 [v1489, v1492, (Value.int .i64 i1486), (Value.int .i64 i1487)], blk g7 43 [(Value.slice none 0 0), (Value.slice none 0 0), (Value.int .i64 0), (Value.int .i64 0)], blk g4 30 [(Value.int .i64 a1_Steps), v1_Codes], blk g1 27 [v0_Items, (Value.int .i64 a0_Weight)]]) (by decide) rfl
            have hm1702 := hm1701.focus hz1695 h1692
            obtain ⟨zd1699, hz1700⟩ := rowI (hm1702.get (k := 0) rfl).1 h1692
            refine t_ef0 (ef_stl (k := 3) (off := 0) (x' := zd1697) hm1702 tO22 rfl rfl (sl_one (hm1702.sl 2 rfl)) rfl hz1700 (by show [(Value.slice none 0 0)] = [zd1697.1]; rw [ez1698]) rfl) ?_
            intro _ w1704 hm1703
            have hm1705 := hm1703.pick [0, 2, 1, 3, 4, 5, 6, 7, 8, 9] (L' := [rowsC 3 zs1490 (l1488 : List (List Int)) (some (Int.toNat x1688)), ownL 3 (Value.slice none 0 0) ([] : List Int), ownL 3 zd1694.1 (x1691 : List Int), ownL 22 v1489 ((List.set zs1490 (Int.toNat x1688) zd1697) : List Hdr), ownL 22 v1492 (zs1493 : List Hdr), rowsC 3 zs1493 (l1491 : List (List Int)) none, blk g253 43 [v1489, v1492, (Value.int .i64 i1486), (Value.int .i64 i1487)], blk g7 43 [(Value.slice none 0 0), (Value.slice none 0 0), (Value.int .i64 0), (Value.int .i64 0)], blk g4 30 [(Value.int .i64 a1_Steps), v1_Codes], blk g1 27 [v0_Items, (Value.int .i64 a0_Weight)]]) (by decide) rfl
            have hm1706 := hm1705.fill ez1698
            refine rwt_nil ?_
            refine qn_then ?_
            refine cw_seq ?_
            refine cw_region ?_
            refine t_rd rfl (rd_assign rfl) ?_
            refine rwt_nil ?_
            refine qn_then ?_
            refine cw_block ?_
            obtain ⟨r1810, hit1811, q1812⟩ := ob q1693; clear q1693
            refine cw_loop2 (I := fun q envq wq => ∃ (v1799 : Value) (zs1800 : List Hdr) (v1802 : Value) (zs1803 : List Hdr), Sub [(2, (Value.int .i64 a2)), (3, (Value.pointer (some ⟨g1, 0, none⟩))), (4, (Value.pointer (some ⟨g4, 0, none⟩))), (6, (Value.pointer (some ⟨g7, 0, none⟩))), (7, (Value.pointer (some ⟨g253, 0, none⟩))), (8, (Value.int .i64 i1485)), (9, (Value.int .i64 i1486)), (10, zd1694.1), (11, (Value.int .i64 q.1))] envq ∧ Mem w No [rowsC 3 zs1800 (q.2.2.1 : List (List Int)) none, ownL 3 zd1694.1 (x1691 : List Int), ownL 22 v1799 (zs1800 : List Hdr), ownL 22 v1802 (zs1803 : List Hdr), rowsC 3 zs1803 (q.2.2.2 : List (List Int)) none, blk g253 43 [v1799, v1802, (Value.int .i64 q.2.1), (Value.int .i64 i1487)], blk g7 43 [(Value.slice none 0 0), (Value.slice none 0 0), (Value.int .i64 0), (Value.int .i64 0)], blk g4 30 [(Value.int .i64 a1_Steps), v1_Codes], blk g1 27 [v0_Items, (Value.int .i64 a0_Weight)]] wq) (X := fun eq envq wq => eq = .exit 2 ∧ ∃ (v1791 : Value) (zs1792 : List Hdr) (v1794 : Value) (zs1795 : List Hdr), Sub [(2, (Value.int .i64 a2)), (3, (Value.pointer (some ⟨g1, 0, none⟩))), (4, (Value.pointer (some ⟨g4, 0, none⟩))), (6, (Value.pointer (some ⟨g7, 0, none⟩))), (7, (Value.pointer (some ⟨g253, 0, none⟩))), (8, (Value.int .i64 i1485)), (9, (Value.int .i64 i1486))] envq ∧ Mem w No [rowsC 3 zs1792 (r1810.2.1 : List (List Int)) none, ownL 22 v1791 (zs1792 : List Hdr), ownL 22 v1794 (zs1795 : List Hdr), rowsC 3 zs1795 (r1810.2.2 : List (List Int)) none, blk g253 43 [v1791, v1794, (Value.int .i64 r1810.1), (Value.int .i64 i1487)], blk g7 43 [(Value.slice none 0 0), (Value.slice none 0 0), (Value.int .i64 0), (Value.int .i64 0)], blk g4 30 [(Value.int .i64 a1_Steps), v1_Codes], blk g1 27 [v0_Items, (Value.int .i64 a0_Weight)]] wq) hit1811 ⟨v1489, (List.set zs1490 (Int.toNat x1688) zd1697), v1492, zs1493, (by repeat (first | exact Sub.nil _ | refine Sub.cons rfl ?_)), (hm1706.pick [0, 1, 2, 3, 4, 5, 6, 7, 8] (by decide) rfl)⟩ ?_ ?_
            · rintro ⟨i1796, i1797, l1798, l1801⟩ x1805 env1806 w1807 hf1808 hr1809 ⟨v1799, zs1800, v1802, zs1803, hs_, hm_⟩
              have hs_ : Sub [(2, (Value.int .i64 a2)), (3, (Value.pointer (some ⟨g1, 0, none⟩))), (4, (Value.pointer (some ⟨g4, 0, none⟩))), (6, (Value.pointer (some ⟨g7, 0, none⟩))), (7, (Value.pointer (some ⟨g253, 0, none⟩))), (8, (Value.int .i64 i1485)), (9, (Value.int .i64 i1486)), (10, zd1694.1), (11, (Value.int .i64 i1796))] env1806 := hs_
              have hm1813 : Mem w No [rowsC 3 zs1800 (l1798 : List (List Int)) none, ownL 3 zd1694.1 (x1691 : List Int), ownL 22 v1799 (zs1800 : List Hdr), ownL 22 v1802 (zs1803 : List Hdr), rowsC 3 zs1803 (l1801 : List (List Int)) none, blk g253 43 [v1799, v1802, (Value.int .i64 i1797), (Value.int .i64 i1487)], blk g7 43 [(Value.slice none 0 0), (Value.slice none 0 0), (Value.int .i64 0), (Value.int .i64 0)], blk g4 30 [(Value.int .i64 a1_Steps), v1_Codes], blk g1 27 [v0_Items, (Value.int .i64 a0_Weight)]] w1807 := hm_
              refine cw_sub hs_ ?_
              clear hs_ hm_ q1812
              have h : r14_At_l9 N a0_Items a0_Weight a1_Steps a1_Codes i1485 i1487 x1691 i1796 i1797 l1798 l1801 = some x1805 := hf1808
              clear hf1808
              refine cw_seq ?_
              refine cw_seq ?_
              refine cw_region ?_
              refine t_rd rfl (rd_move rfl) ?_
              refine t_rd rfl (rd_move rfl) ?_
              refine t_rd rfl (rd_lenS tS22 rfl (hm1813.sl 1 rfl)) ?_
              refine t_rd rfl (rd_lss rfl rfl) ?_
              refine rwt_nil ?_
              refine qn_then ?_
              obtain ⟨hb1814, q1815⟩ | ⟨hb1814, q1815⟩ := oi h <;> clear h
              · refine cw_t rfl hb1814 ?_
                refine cw_skip ?_
                refine qn_then ?_
                refine cw_seq ?_
                refine cw_block ?_
                obtain ⟨w1831, he1833⟩ : ∃ q, q = w1807.drew := ⟨_, rfl⟩
                have hm1832 := hm1813.drew; rw [← he1833] at hm1832
                refine cw_region_s (fun q => q = w1831) (cls [] [7]) mixed ?_
                rintro _ rfl; rw [← he1833]
                refine s_rd (i := 0) rfl (by kernel_rfl) rfl (fun _ hS => by rw [hS]; exact (rd_ld tA27 rfl (hm1832.blk 8 rfl) rfl)) rfl ?_
                refine s_rd (i := 1) rfl (by kernel_rfl) rfl (fun _ hS => by rw [hS]; exact (rd_ld tA30 rfl (hm1832.blk 7 rfl) rfl)) rfl ?_
                refine s_rp (i := 2) rfl (by kernel_rfl) rfl (fun _ => (rd_move rfl)) ?_
                refine s_rp (i := 3) rfl (by kernel_rfl) rfl (fun _ => (rd_move rfl)) ?_
                obtain ⟨x1834, h1835, q1836⟩ := ob q1815; clear q1815
                refine s_rp (i := 4) rfl (by kernel_rfl) rfl (fun _ => (rd_index tS22 rfl rfl (hm1832.sl 1 rfl) h1835)) ?_
                refine s_rd (i := 5) rfl (by kernel_rfl) rfl (fun _ hS => by rw [hS]; exact (rd_ld1 tO3 rfl ((hm1832.sl 1 rfl).cells h1835) (off := 0) rfl)) rfl ?_
                refine s_rp (i := 6) rfl (by kernel_rfl) rfl (fun _ => (rd_move rfl)) ?_
                have hm1837 := hm1832.pick [5, 2, 0, 3, 4, 1, 6, 7, 8] (L' := [blk g253 43 [v1799, v1802, (Value.int .i64 i1797), (Value.int .i64 i1487)], ownL 22 v1799 (zs1800 : List Hdr), rowsC 3 zs1800 (l1798 : List (List Int)) none, ownL 22 v1802 (zs1803 : List Hdr), rowsC 3 zs1803 (l1801 : List (List Int)) none, ownL 3 zd1694.1 (x1691 : List Int), blk g7 43 [(Value.slice none 0 0), (Value.slice none 0 0), (Value.int .i64 0), (Value.int .i64 0)], blk g4 30 [(Value.int .i64 a1_Steps), v1_Codes], blk g1 27 [v0_Items, (Value.int .i64 a0_Weight)]]) (by decide) rfl
                have hm1838 := hm1837.bundle [blk g253 43 [v1799, v1802, (Value.int .i64 i1797), (Value.int .i64 i1487)], ownL 22 v1799 (zs1800 : List Hdr), rowsC 3 zs1800 (l1798 : List (List Int)) none, ownL 22 v1802 (zs1803 : List Hdr), rowsC 3 zs1803 (l1801 : List (List Int)) none] [ownL 3 zd1694.1 (x1691 : List Int), blk g7 43 [(Value.slice none 0 0), (Value.slice none 0 0), (Value.int .i64 0), (Value.int .i64 0)], blk g4 30 [(Value.int .i64 a1_Steps), v1_Codes], blk g1 27 [v0_Items, (Value.int .i64 a0_Weight)]]
                obtain ⟨r1839, h1840, q1841⟩ := ob q1836; clear q1836
                refine s_ef (i := 7) rfl (by kernel_rfl) rfl (ef_call tf37 rfl (Yard_push_ok h1840 (hv0_Items.to_callT (k := 0) hm1838 rfl) (hv1_Codes.to_callT (k := 0) hm1838 rfl) (hm1838.get (k := 0) rfl))) (by decide) (fun _ _ _ q => absurd q (by decide)) ?_
                rintro _ w1845 ⟨zs1842, zs1843, e_, hm1844⟩
                obtain rfl := e_.symm
                have hm1846 := hm1838.callM (k := 0) rfl (fun _ h => h) hm1844
                have hm1847 := hm1846.unbundle [blk g253 43 [v1799, v1802, (Value.int .i64 r1839.2.2), (Value.int .i64 i1487)], ownL 22 v1799 (zs1842 : List Hdr), rowsC 3 zs1842 (r1839.1 : List (List Int)) none, ownL 22 v1802 (zs1843 : List Hdr), rowsC 3 zs1843 (r1839.2.1 : List (List Int)) none] [ownL 3 zd1694.1 (x1691 : List Int), blk g7 43 [(Value.slice none 0 0), (Value.slice none 0 0), (Value.int .i64 0), (Value.int .i64 0)], blk g4 30 [(Value.int .i64 a1_Steps), v1_Codes], blk g1 27 [v0_Items, (Value.int .i64 a0_Weight)]]
                refine s_nil (by kernel_rfl) ?_
                refine qn_block (qn_then ?_)
                refine cw_region ?_
                refine t_rd rfl (rd_move rfl) ?_
                obtain ⟨x1848, h1849, q1850⟩ := ob q1841; clear q1841
                refine t_rd rfl (rd_add64 h1849 rfl rfl) ?_
                refine t_rd rfl (rd_assign rfl) ?_
                refine rwt_nil ?_
                refine qn_then ?_
                refine ⟨_, (os q1850), v1799, zs1842, v1802, zs1843, (by repeat (first | exact Sub.nil _ | refine Sub.cons rfl ?_)), (hm1847.pick [2, 5, 1, 3, 4, 0, 6, 7, 8] (by decide) rfl)⟩
              · refine cw_f rfl hb1814 ?_
                refine cw_exit ?_
                refine qx_then (qx_then ?_)
                obtain rfl := hr1809 _ (os q1815)
                exact ⟨rfl, v1799, zs1800, v1802, zs1803, (by repeat (first | exact Sub.nil _ | refine Sub.cons rfl ?_)), (hm1813.pick [0, 2, 3, 4, 5, 6, 7, 8] (by decide) rfl)⟩
            · skip
              intro e env1851 w1852 hX1853
              obtain ⟨rfl, v1791, zs1792, v1794, zs1795, hs1854, hm1855⟩ := hX1853
              refine qx_same ?_
              obtain rfl := os q1812
              exact ⟨rfl, v1791, zs1792, v1794, zs1795, (Sub.tr (by repeat (first | exact Sub.nil _ | refine Sub.cons rfl ?_)) hs1854), (hm1855.pick [1, 0, 2, 3, 4, 5, 6, 7] (by decide) rfl)⟩
          · refine cw_f rfl hb1686 ?_
            refine cw_skip ?_
            obtain rfl := os q1687
            exact ⟨rfl, v1489, zs1490, v1492, zs1493, (by repeat (first | exact Sub.nil _ | refine Sub.cons rfl ?_)), (hm1503.pick [0, 1, 2, 3, 4, 5, 6, 7] (by decide) rfl)⟩
        · clear hit1684
          intro e env1856 w1857 hX1858
          obtain ⟨rfl, v1678, zs1679, v1681, zs1682, hs1859, hm1860⟩ := hX1858
          refine qn_then ?_
          refine cw_sub hs1859 ?_
          refine cw_seq ?_
          refine cw_seq ?_
          refine cw_region ?_
          refine t_rd rfl (rd_assign rfl) ?_
          refine rwt_nil ?_
          refine qn_then ?_
          refine cw_block ?_
          obtain ⟨r1938, hit1939, q1940⟩ := ob q1685; clear q1685
          refine cw_loop2 (I := fun q envq wq => ∃ (v1927 : Value) (zs1928 : List Hdr) (v1930 : Value) (zs1931 : List Hdr), Sub [(2, (Value.int .i64 a2)), (3, (Value.pointer (some ⟨g1, 0, none⟩))), (4, (Value.pointer (some ⟨g4, 0, none⟩))), (6, (Value.pointer (some ⟨g7, 0, none⟩))), (7, (Value.pointer (some ⟨g253, 0, none⟩))), (8, (Value.int .i64 i1485)), (9, (Value.int .i64 i1486)), (12, (Value.int .i64 q.1))] envq ∧ Mem w No [ownL 22 v1927 (zs1928 : List Hdr), rowsC 3 zs1928 (q.2.2.1 : List (List Int)) none, ownL 22 v1930 (zs1931 : List Hdr), rowsC 3 zs1931 (q.2.2.2 : List (List Int)) none, blk g253 43 [v1927, v1930, (Value.int .i64 q.2.1), (Value.int .i64 i1487)], blk g7 43 [(Value.slice none 0 0), (Value.slice none 0 0), (Value.int .i64 0), (Value.int .i64 0)], blk g4 30 [(Value.int .i64 a1_Steps), v1_Codes], blk g1 27 [v0_Items, (Value.int .i64 a0_Weight)]] wq) (X := fun eq envq wq => eq = .exit 4 ∧ ∃ (v1919 : Value) (zs1920 : List Hdr) (v1922 : Value) (zs1923 : List Hdr), Sub [(2, (Value.int .i64 a2)), (3, (Value.pointer (some ⟨g1, 0, none⟩))), (4, (Value.pointer (some ⟨g4, 0, none⟩))), (6, (Value.pointer (some ⟨g7, 0, none⟩))), (7, (Value.pointer (some ⟨g253, 0, none⟩))), (8, (Value.int .i64 i1485)), (9, (Value.int .i64 i1486))] envq ∧ Mem w No [ownL 22 v1919 (zs1920 : List Hdr), rowsC 3 zs1920 (r1938.2.1 : List (List Int)) none, ownL 22 v1922 (zs1923 : List Hdr), rowsC 3 zs1923 (r1938.2.2 : List (List Int)) none, blk g253 43 [v1919, v1922, (Value.int .i64 r1938.1), (Value.int .i64 i1487)], blk g7 43 [(Value.slice none 0 0), (Value.slice none 0 0), (Value.int .i64 0), (Value.int .i64 0)], blk g4 30 [(Value.int .i64 a1_Steps), v1_Codes], blk g1 27 [v0_Items, (Value.int .i64 a0_Weight)]] wq) hit1939 ⟨v1678, zs1679, v1681, zs1682, (by repeat (first | exact Sub.nil _ | refine Sub.cons rfl ?_)), (hm1860.pick [0, 1, 2, 3, 4, 5, 6, 7] (by decide) rfl)⟩ ?_ ?_
          · rintro ⟨i1924, i1925, l1926, l1929⟩ x1933 env1934 w1935 hf1936 hr1937 ⟨v1927, zs1928, v1930, zs1931, hs_, hm_⟩
            have hs_ : Sub [(2, (Value.int .i64 a2)), (3, (Value.pointer (some ⟨g1, 0, none⟩))), (4, (Value.pointer (some ⟨g4, 0, none⟩))), (6, (Value.pointer (some ⟨g7, 0, none⟩))), (7, (Value.pointer (some ⟨g253, 0, none⟩))), (8, (Value.int .i64 i1485)), (9, (Value.int .i64 i1486)), (12, (Value.int .i64 i1924))] env1934 := hs_
            have hm1941 : Mem w No [ownL 22 v1927 (zs1928 : List Hdr), rowsC 3 zs1928 (l1926 : List (List Int)) none, ownL 22 v1930 (zs1931 : List Hdr), rowsC 3 zs1931 (l1929 : List (List Int)) none, blk g253 43 [v1927, v1930, (Value.int .i64 i1925), (Value.int .i64 i1487)], blk g7 43 [(Value.slice none 0 0), (Value.slice none 0 0), (Value.int .i64 0), (Value.int .i64 0)], blk g4 30 [(Value.int .i64 a1_Steps), v1_Codes], blk g1 27 [v0_Items, (Value.int .i64 a0_Weight)]] w1935 := hm_
            refine cw_sub hs_ ?_
            clear hs_ hm_ q1940
            have h : r14_At_l10 N a0_Items a0_Weight a1_Steps a1_Codes i1485 i1487 i1924 i1925 l1926 l1929 = some x1933 := hf1936
            clear hf1936
            refine cw_seq ?_
            refine cw_seq ?_
            refine cw_region ?_
            refine t_rd rfl (rd_move rfl) ?_
            refine t_rd rfl (rd_fld tF27_0 rfl) ?_
            refine t_rd rfl (rd_ld1 tO25 rfl (hm1941.blk 7 rfl) (off := 0) rfl) ?_
            refine t_rd rfl (rd_lenS tS25 rfl (hv0_Items.of_old hm1941)) ?_
            refine t_rd rfl (rd_lss rfl rfl) ?_
            refine rwt_nil ?_
            refine qn_then ?_
            obtain ⟨hb1942, q1943⟩ | ⟨hb1942, q1943⟩ := oi h <;> clear h
            · refine cw_t rfl hb1942 ?_
              refine cw_skip ?_
              refine qn_then ?_
              refine cw_seq ?_
              refine cw_block ?_
              refine cw_seq ?_
              refine cw_region ?_
              refine t_rd rfl (rd_fld tF27_0 rfl) ?_
              refine t_rd rfl (rd_ld1 tO25 rfl (hm1941.blk 7 rfl) (off := 0) rfl) ?_
              refine t_rd rfl (rd_move rfl) ?_
              obtain ⟨x1944, h1945, q1946⟩ := ob q1943; clear q1943
              refine t_rd rfl (rd_index tS25 rfl rfl (hv0_Items.of_old hm1941) h1945) ?_
              refine t_rd rfl (rd_fld tF40_2 rfl) ?_
              refine t_rd rfl (rd_ld1 tO3 rfl ((hv0_Items.of_old hm1941).cells h1945) (off := 2) rfl) ?_
              refine t_rd rfl (rd_move rfl) ?_
              refine t_rd rfl (rd_eql rfl rfl) ?_
              refine rwt_nil ?_
              refine qn_then ?_
              obtain ⟨hb1947, q1948⟩ | ⟨hb1947, q1948⟩ := oi q1946 <;> clear q1946
              · refine cw_t rfl hb1947 ?_
                refine cw_region ?_
                refine t_rd rfl (rd_ld tA27 rfl (hm1941.blk 7 rfl) rfl) ?_
                refine t_rd rfl (rd_ld tA30 rfl (hm1941.blk 6 rfl) rfl) ?_
                refine t_rd rfl (rd_move rfl) ?_
                refine t_rd rfl (rd_move rfl) ?_
                have hm1949 := hm1941.pick [4, 0, 1, 2, 3, 5, 6, 7] (L' := [blk g253 43 [v1927, v1930, (Value.int .i64 i1925), (Value.int .i64 i1487)], ownL 22 v1927 (zs1928 : List Hdr), rowsC 3 zs1928 (l1926 : List (List Int)) none, ownL 22 v1930 (zs1931 : List Hdr), rowsC 3 zs1931 (l1929 : List (List Int)) none, blk g7 43 [(Value.slice none 0 0), (Value.slice none 0 0), (Value.int .i64 0), (Value.int .i64 0)], blk g4 30 [(Value.int .i64 a1_Steps), v1_Codes], blk g1 27 [v0_Items, (Value.int .i64 a0_Weight)]]) (by decide) rfl
                have hm1950 := hm1949.bundle [blk g253 43 [v1927, v1930, (Value.int .i64 i1925), (Value.int .i64 i1487)], ownL 22 v1927 (zs1928 : List Hdr), rowsC 3 zs1928 (l1926 : List (List Int)) none, ownL 22 v1930 (zs1931 : List Hdr), rowsC 3 zs1931 (l1929 : List (List Int)) none] [blk g7 43 [(Value.slice none 0 0), (Value.slice none 0 0), (Value.int .i64 0), (Value.int .i64 0)], blk g4 30 [(Value.int .i64 a1_Steps), v1_Codes], blk g1 27 [v0_Items, (Value.int .i64 a0_Weight)]]
                obtain ⟨r1951, h1952, q1953⟩ := ob q1948; clear q1948
                refine t_ef rfl (ef_call tf37 rfl (Yard_push_ok h1952 (hv0_Items.to_callT (k := 0) hm1950 rfl) (hv1_Codes.to_callT (k := 0) hm1950 rfl) (hm1950.get (k := 0) rfl))) ?_
                rintro _ w1957 ⟨zs1954, zs1955, e_, hm1956⟩
                obtain rfl := e_.symm
                have hm1958 := hm1950.callM (k := 0) rfl (fun _ h => h) hm1956
                have hm1959 := hm1958.unbundle [blk g253 43 [v1927, v1930, (Value.int .i64 r1951.2.2), (Value.int .i64 i1487)], ownL 22 v1927 (zs1954 : List Hdr), rowsC 3 zs1954 (r1951.1 : List (List Int)) none, ownL 22 v1930 (zs1955 : List Hdr), rowsC 3 zs1955 (r1951.2.1 : List (List Int)) none] [blk g7 43 [(Value.slice none 0 0), (Value.slice none 0 0), (Value.int .i64 0), (Value.int .i64 0)], blk g4 30 [(Value.int .i64 a1_Steps), v1_Codes], blk g1 27 [v0_Items, (Value.int .i64 a0_Weight)]]
                refine rwt_nil ?_
                refine qn_block (qn_then ?_)
                refine cw_region ?_
                refine t_rd rfl (rd_move rfl) ?_
                obtain ⟨x1960, h1961, q1962⟩ := ob q1953; clear q1953
                refine t_rd rfl (rd_add64 h1961 rfl rfl) ?_
                refine t_rd rfl (rd_assign rfl) ?_
                refine rwt_nil ?_
                refine qn_then ?_
                refine ⟨_, (os q1962), v1927, zs1954, v1930, zs1955, (by repeat (first | exact Sub.nil _ | refine Sub.cons rfl ?_)), (hm1959.pick [1, 2, 3, 4, 0, 5, 6, 7] (by decide) rfl)⟩
              · refine cw_f rfl hb1947 ?_
                refine cw_skip ?_
                refine qn_block (qn_then ?_)
                refine cw_region ?_
                refine t_rd rfl (rd_move rfl) ?_
                obtain ⟨x1963, h1964, q1965⟩ := ob q1948; clear q1948
                refine t_rd rfl (rd_add64 h1964 rfl rfl) ?_
                refine t_rd rfl (rd_assign rfl) ?_
                refine rwt_nil ?_
                refine qn_then ?_
                refine ⟨_, (os q1965), v1927, zs1928, v1930, zs1931, (by repeat (first | exact Sub.nil _ | refine Sub.cons rfl ?_)), (hm1941.pick [0, 1, 2, 3, 4, 5, 6, 7] (by decide) rfl)⟩
            · refine cw_f rfl hb1942 ?_
              refine cw_exit ?_
              refine qx_then (qx_then ?_)
              obtain rfl := hr1937 _ (os q1943)
              exact ⟨rfl, v1927, zs1928, v1930, zs1931, (by repeat (first | exact Sub.nil _ | refine Sub.cons rfl ?_)), (hm1941.pick [0, 1, 2, 3, 4, 5, 6, 7] (by decide) rfl)⟩
          · skip
            intro e env1966 w1967 hX1968
            obtain ⟨rfl, v1919, zs1920, v1922, zs1923, hs1969, hm1970⟩ := hX1968
            refine qx_same (qn_then ?_)
            refine cw_sub hs1969 ?_
            refine cw_seq ?_
            refine cw_region ?_
            refine t_rd rfl (rd_fld tF43_2 rfl) ?_
            refine t_rd rfl (rd_ld1 tO3 rfl (hm1970.blk 4 rfl) (off := 2) rfl) ?_
            refine t_rd rfl (rd_move rfl) ?_
            refine t_rd rfl (rd_gtr rfl rfl) ?_
            refine rwt_nil ?_
            refine qn_then ?_
            obtain ⟨hb1971, q1972⟩ | ⟨hb1971, q1972⟩ := oi q1940 <;> clear q1940
            · refine cw_t rfl hb1971 ?_
              refine cw_region ?_
              refine t_rd rfl (rd_fld tF43_3 rfl) ?_
              refine t_rd rfl (rd_ld1 tO3 rfl (hm1970.blk 4 rfl) (off := 3) rfl) ?_
              obtain ⟨x1973, h1974, q1975⟩ := ob q1972; clear q1972
              refine t_rd rfl (rd_add64 h1974 rfl rfl) ?_
              refine t_rd rfl (rd_fld tF43_3 rfl) ?_
              refine t_ef0 (ef_st1 (k := 4) (off := 3) hm1970 tO3 rfl rfl rfl rfl rfl rfl) ?_
              intro _ w1977 hm1976
              refine rwt_nil ?_
              refine qn_block (qn_then ?_)
              refine cw_region ?_
              refine t_rd rfl (rd_move rfl) ?_
              obtain ⟨x1978, h1979, q1980⟩ := ob q1975; clear q1975
              refine t_rd rfl (rd_add64 h1979 rfl rfl) ?_
              refine t_rd rfl (rd_assign rfl) ?_
              refine rwt_nil ?_
              refine qn_then ?_
              refine ⟨_, (os q1980), v1919, zs1920, v1922, zs1923, (by repeat (first | exact Sub.nil _ | refine Sub.cons rfl ?_)), (hm1976.pick [0, 1, 2, 3, 4, 5, 6, 7] (by decide) rfl)⟩
            · refine cw_f rfl hb1971 ?_
              refine cw_skip ?_
              refine qn_block (qn_then ?_)
              refine cw_region ?_
              refine t_rd rfl (rd_move rfl) ?_
              obtain ⟨x1981, h1982, q1983⟩ := ob q1972; clear q1972
              refine t_rd rfl (rd_add64 h1982 rfl rfl) ?_
              refine t_rd rfl (rd_assign rfl) ?_
              refine rwt_nil ?_
              refine qn_then ?_
              refine ⟨_, (os q1983), v1919, zs1920, v1922, zs1923, (by repeat (first | exact Sub.nil _ | refine Sub.cons rfl ?_)), (hm1970.pick [0, 1, 2, 3, 4, 5, 6, 7] (by decide) rfl)⟩
      · refine cw_f rfl hb1504 ?_
        refine cw_exit ?_
        refine qx_then (qx_then ?_)
        obtain rfl := hr1499 _ (os q1505)
        exact ⟨rfl, v1489, zs1490, v1492, zs1493, (by repeat (first | exact Sub.nil _ | refine Sub.cons rfl ?_)), (hm1503.pick [0, 1, 2, 3, 4, 5] (by decide) rfl)⟩
    · skip
      intro e env1984 w1985 hX1986
      obtain ⟨rfl, v1480, zs1481, v1483, zs1484, hs1987, hm1988⟩ := hX1986
      refine qx_same (qn_then ?_)
      refine cw_sub hs1987 ?_
      refine cw_seq ?_
      refine cw_region ?_
      refine t_rd rfl (rd_ld tA43 rfl (hm1988.blk 4 rfl) rfl) ?_
      refine t_ef0 (ef_stw (k := 5) hm1988 tA43 rfl rfl (oc_cons (sl_one ((Nl.mk (hm1988.sl_call 0 rfl) (hm1988.rows_call 1 rfl)).sl)) (oc_cons (sl_one ((Nl.mk (hm1988.sl_call 2 rfl) (hm1988.rows_call 3 rfl)).sl)) (oc_cons rfl (oc_cons rfl oc_nil)))) rfl rfl rfl) ?_
      intro _ w1990 hm1989
      refine rwt_nil ?_
      refine qn_then ?_
      refine cw_ret ?_
      obtain rfl := os q1502
      exact retL1 (rs := [.cell 6 43]) rfl (.rc rfl tA43 (hm1989.blk 5 rfl) rfl .rn) ⟨zs1481, v1480, zs1484, v1483, rfl, (hm1989.pick [0, 1, 2, 3] (by decide) rfl)⟩

theorem r11_Valid_ok {N : Nat} {a0_Items : List T_Item} {a0_Weight : Int} {res : Int} (h : r11_Valid N a0_Items a0_Weight = some res) {w : World} {v0_Items : Value} (hv0_Items : Sl (Old w No) w v0_Items a0_Items) :
    CallsR Tryz.prog 38 [(Value.agg #[v0_Items, (Value.int .i64 a0_Weight)])] w (fun u w' => u = (Value.int .i64 res) ∧ Mem w No [] w') := by
  unfold r11_Valid at h
  refine fn_ok Tryz.func38 rfl rfl rfl ?_
  have hm0 := Mem.nil w
  refine cw_seq ?_
  refine cw_region ?_
  refine t_ef rfl (ef_box hm0 rfl rfl) ?_
  rintro _ w3 ⟨g1, rfl, hm2⟩
  refine t_rd rfl (rd_assign rfl) ?_
  refine rwt_nil ?_
  refine qn_then ?_
  refine cw_seq ?_
  refine cw_seq ?_
  refine cw_region ?_
  refine t_rd rfl (rd_fld tF27_0 rfl) ?_
  refine t_rd rfl (rd_ld1 tO25 rfl (hm2.blk 0 rfl) (off := 0) rfl) ?_
  refine t_rd rfl (rd_lenS tS25 rfl (hv0_Items.of_old hm2)) ?_
  refine t_rd rfl (rd_gtr rfl rfl) ?_
  refine rwt_nil ?_
  refine qn_then ?_
  obtain ⟨hb4, q5⟩ | ⟨hb4, q5⟩ := oi h <;> clear h
  · refine cw_t rfl hb4 ?_
    refine cw_seq ?_
    refine cw_region ?_
    refine t_rd rfl (rd_assign rfl) ?_
    refine rwt_nil ?_
    refine qn_then ?_
    refine cw_ret ?_
    refine qr_then ?_
    obtain rfl := os q5
    exact ret1 rfl rfl ⟨rfl, (hm2.pick [] (by decide) rfl)⟩
  · refine cw_f rfl hb4 ?_
    refine cw_skip ?_
    refine qn_then ?_
    refine cw_seq ?_
    refine cw_seq ?_
    refine cw_region ?_
    refine t_rd rfl (rd_fld tF27_1 rfl) ?_
    refine t_rd rfl (rd_ld1 tO3 rfl (hm2.blk 0 rfl) (off := 1) rfl) ?_
    refine t_rd rfl (rd_lss rfl rfl) ?_
    refine t_rd rfl (rd_move rfl) ?_
    refine t_rdg rfl rfl rfl rfl (gv_f _) (fun hg6 => (rd_fld tF27_1 rfl)) ?_
    refine t_rdg rfl rfl rfl rfl (gv_f _) (fun hg7 => (rd_ld1 tO3 (gvx rfl hg7) (hm2.blk 0 rfl) (off := 1) rfl)) ?_
    refine t_rdg rfl rfl rfl rfl (gv_f _) (fun hg8 => (rd_gtr (gvx rfl hg8) rfl)) ?_
    refine t_rd rfl (rd_or rfl (fun hc9 => (gvx rfl (bnotIt hc9)))) ?_
    refine rwt_nil ?_
    refine qn_then ?_
    obtain ⟨hb10, q11⟩ | ⟨hb10, q11⟩ := oi q5 <;> clear q5
    · refine cw_t rfl hb10 ?_
      refine cw_seq ?_
      refine cw_region ?_
      refine t_rd rfl (rd_assign rfl) ?_
      refine rwt_nil ?_
      refine qn_then ?_
      refine cw_ret ?_
      refine qr_then ?_
      obtain rfl := os q11
      exact ret1 rfl rfl ⟨rfl, (hm2.pick [] (by decide) rfl)⟩
    · refine cw_f rfl hb10 ?_
      refine cw_skip ?_
      refine qn_then ?_
      refine cw_seq ?_
      refine cw_seq ?_
      refine cw_region ?_
      refine t_rd rfl (rd_assign rfl) ?_
      refine rwt_nil ?_
      refine qn_then ?_
      refine cw_block ?_
      obtain ⟨r186, hit187, q188⟩ := ob q11; clear q11
      refine cw_loop2 (I := fun q envq wq => Sub [(1, (Value.pointer (some ⟨g1, 0, none⟩))), (3, (Value.int .i64 q))] envq ∧ Mem w No [blk g1 27 [v0_Items, (Value.int .i64 a0_Weight)]] wq) (X := fun eq envq wq => (∃ p189, r186 = (Sum.inl p189) ∧ eq = .ret ∧ retQ Tryz.prog 81 Tryz.f38 (fun u w' => u = (Value.int .i64 p189) ∧ Mem w No [] w') .ret envq wq) ∨ (∃ p190, r186 = (Sum.inr p190) ∧ eq = .exit 0 ∧ Sub [] envq ∧ Mem w No [] wq)) hit187 ⟨(by repeat (first | exact Sub.nil _ | refine Sub.cons rfl ?_)), (hm2.pick [0] (by decide) rfl)⟩ ?_ ?_
      · rintro i179 x181 env182 w183 hf184 hr185 ⟨hs_, hm_⟩
        have hs_ : Sub [(1, (Value.pointer (some ⟨g1, 0, none⟩))), (3, (Value.int .i64 i179))] env182 := hs_
        have hm191 : Mem w No [blk g1 27 [v0_Items, (Value.int .i64 a0_Weight)]] w183 := hm_
        refine cw_sub hs_ ?_
        clear hs_ hm_ q188
        have h : r11_Valid_l1 N a0_Items i179 = some x181 := hf184
        clear hf184
        refine cw_seq ?_
        refine cw_seq ?_
        refine cw_region ?_
        refine t_rd rfl (rd_move rfl) ?_
        refine t_rd rfl (rd_fld tF27_0 rfl) ?_
        refine t_rd rfl (rd_ld1 tO25 rfl (hm191.blk 0 rfl) (off := 0) rfl) ?_
        refine t_rd rfl (rd_lenS tS25 rfl (hv0_Items.of_old hm191)) ?_
        refine t_rd rfl (rd_lss rfl rfl) ?_
        refine rwt_nil ?_
        refine qn_then ?_
        obtain ⟨hb192, q193⟩ | ⟨hb192, q193⟩ := oi h <;> clear h
        · refine cw_t rfl hb192 ?_
          refine cw_skip ?_
          refine qn_then ?_
          refine cw_seq ?_
          refine cw_block ?_
          refine cw_seq ?_
          refine cw_region ?_
          refine t_rd rfl (rd_fld tF27_0 rfl) ?_
          refine t_rd rfl (rd_ld1 tO25 rfl (hm191.blk 0 rfl) (off := 0) rfl) ?_
          refine t_rd rfl (rd_move rfl) ?_
          obtain ⟨x194, h195, q196⟩ := ob q193; clear q193
          refine t_rd rfl (rd_index tS25 rfl rfl (hv0_Items.of_old hm191) h195) ?_
          refine t_rd rfl (rd_ld tA40 rfl ((hv0_Items.of_old hm191).cells h195) rfl) ?_
          refine t_ef rfl (ef_alloc hm191 tZ40 rfl) ?_
          rintro _ w199 ⟨g197, rfl, hm198⟩
          refine t_ef0 (ef_stw (k := 0) hm198 tA40 rfl rfl (oc_cons rfl (oc_cons rfl (oc_cons rfl (oc_cons rfl oc_nil)))) rfl rfl rfl) ?_
          intro _ w201 hm200
          refine rwt_nil ?_
          refine qn_then ?_
          refine cw_seq ?_
          refine cw_seq ?_
          refine cw_region ?_
          refine t_rd rfl (rd_fld tF40_0 rfl) ?_
          refine t_rd rfl (rd_ld1 tO3 rfl (hm200.blk 0 rfl) (off := 0) rfl) ?_
          refine t_rd rfl (rd_lss rfl rfl) ?_
          refine t_rd rfl (rd_move rfl) ?_
          refine t_rdg rfl rfl rfl rfl (gv_f _) (fun hg202 => (rd_fld tF40_0 rfl)) ?_
          refine t_rdg rfl rfl rfl rfl (gv_f _) (fun hg203 => (rd_ld1 tO3 (gvx rfl hg203) (hm200.blk 0 rfl) (off := 0) rfl)) ?_
          refine t_rdg rfl rfl rfl rfl (gv_f _) (fun hg204 => (rd_geq (gvx rfl hg204) rfl)) ?_
          refine t_rd rfl (rd_or rfl (fun hc205 => (gvx rfl (bnotIt hc205)))) ?_
          refine t_rd rfl (rd_move rfl) ?_
          refine t_rdg rfl rfl rfl rfl (gv_f _) (fun hg206 => (rd_fld tF40_1 rfl)) ?_
          refine t_rdg rfl rfl rfl rfl (gv_f _) (fun hg207 => (rd_ld1 tO3 (gvx rfl hg207) (hm200.blk 0 rfl) (off := 1) rfl)) ?_
          refine t_rdg rfl rfl rfl rfl (gv_f _) (fun hg208 => (rd_lss (gvx rfl hg208) rfl)) ?_
          refine t_rd rfl (rd_or rfl (fun hc209 => (gvx rfl (bnotIt hc209)))) ?_
          refine t_rd rfl (rd_move rfl) ?_
          refine t_rdg rfl rfl rfl rfl (gv_f _) (fun hg210 => (rd_fld tF40_1 rfl)) ?_
          refine t_rdg rfl rfl rfl rfl (gv_f _) (fun hg211 => (rd_ld1 tO3 (gvx rfl hg211) (hm200.blk 0 rfl) (off := 1) rfl)) ?_
          refine t_rdg rfl rfl rfl rfl (gv_f _) (fun hg212 => (rd_geq (gvx rfl hg212) rfl)) ?_
          refine t_rd rfl (rd_or rfl (fun hc213 => (gvx rfl (bnotIt hc213)))) ?_
          refine t_rd rfl (rd_move rfl) ?_
          refine t_rdg rfl rfl rfl rfl (gv_f _) (fun hg214 => (rd_fld tF40_2 rfl)) ?_
          refine t_rdg rfl rfl rfl rfl (gv_f _) (fun hg215 => (rd_ld1 tO3 (gvx rfl hg215) (hm200.blk 0 rfl) (off := 2) rfl)) ?_
          refine t_rdg rfl rfl rfl rfl (gv_f _) (fun hg216 => (rd_lss (gvx rfl hg216) rfl)) ?_
          refine t_rd rfl (rd_or rfl (fun hc217 => (gvx rfl (bnotIt hc217)))) ?_
          refine t_rd rfl (rd_move rfl) ?_
          refine t_rdg rfl rfl rfl rfl (gv_f _) (fun hg218 => (rd_fld tF40_2 rfl)) ?_
          refine t_rdg rfl rfl rfl rfl (gv_f _) (fun hg219 => (rd_ld1 tO3 (gvx rfl hg219) (hm200.blk 0 rfl) (off := 2) rfl)) ?_
          refine t_rdg rfl rfl rfl rfl (gv_f _) (fun hg220 => (rd_geq (gvx rfl hg220) rfl)) ?_
          refine t_rd rfl (rd_or rfl (fun hc221 => (gvx rfl (bnotIt hc221)))) ?_
          refine t_rd rfl (rd_move rfl) ?_
          refine t_rdg rfl rfl rfl rfl (gv_f _) (fun hg222 => (rd_fld tF40_3 rfl)) ?_
          refine t_rdg rfl rfl rfl rfl (gv_f _) (fun hg223 => (rd_ld1 tO3 (gvx rfl hg223) (hm200.blk 0 rfl) (off := 3) rfl)) ?_
          refine t_rdg rfl rfl rfl rfl (gv_f _) (fun hg224 => (rd_lss (gvx rfl hg224) rfl)) ?_
          refine t_rd rfl (rd_or rfl (fun hc225 => (gvx rfl (bnotIt hc225)))) ?_
          refine t_rd rfl (rd_move rfl) ?_
          refine t_rdg rfl rfl rfl rfl (gv_f _) (fun hg226 => (rd_fld tF40_3 rfl)) ?_
          refine t_rdg rfl rfl rfl rfl (gv_f _) (fun hg227 => (rd_ld1 tO3 (gvx rfl hg227) (hm200.blk 0 rfl) (off := 3) rfl)) ?_
          refine t_rdg rfl rfl rfl rfl (gv_f _) (fun hg228 => (rd_gtr (gvx rfl hg228) rfl)) ?_
          refine t_rd rfl (rd_or rfl (fun hc229 => (gvx rfl (bnotIt hc229)))) ?_
          refine rwt_nil ?_
          refine qn_then ?_
          obtain ⟨hb230, q231⟩ | ⟨hb230, q231⟩ := oi q196 <;> clear q196
          · refine cw_t rfl hb230 ?_
            refine cw_seq ?_
            refine cw_region ?_
            refine t_rd rfl (rd_assign rfl) ?_
            refine rwt_nil ?_
            refine qn_then ?_
            refine cw_ret ?_
            refine qr_then (qr_block (qr_then (qr_then ?_)))
            obtain rfl := hr185 _ (os q231)
            refine .inl (⟨_, rfl, ⟨rfl, ?_⟩⟩)
            exact ret1 rfl rfl ⟨rfl, (hm200.pick [] (by decide) rfl)⟩
          · refine cw_f rfl hb230 ?_
            refine cw_skip ?_
            refine qn_then ?_
            refine cw_seq ?_
            obtain ⟨w250, he252⟩ : ∃ q, q = w201.drew := ⟨_, rfl⟩
            have hm251 := hm200.drew; rw [← he252] at hm251
            refine cw_region_s (fun q => q = w250) (cls [] []) mixed ?_
            rintro _ rfl; rw [← he252]
            refine s_rp (i := 0) rfl (by kernel_rfl) rfl (fun _ => (rd_move rfl)) ?_
            refine s_rp (i := 1) rfl (by kernel_rfl) rfl (fun _ => (rd_gtr rfl rfl)) ?_
            refine s_rp (i := 2) rfl (by kernel_rfl) rfl (fun _ => (rd_move rfl)) ?_
            refine s_rpg (i := 3) rfl (by kernel_rfl) rfl rfl rfl rfl (gv_t _) (fun hg253 _ => (rd_fld tF40_2 rfl)) ?_
            refine s_rdg (i := 4) rfl (by kernel_rfl) rfl rfl rfl rfl (gv_t _) (fun hg254 => (fun _ hS => by rw [hS]; exact (rd_ld1 tO3 (gvx rfl hg254) (hm251.blk 0 rfl) (off := 2) rfl))) rfl ?_
            refine s_rpg (i := 5) rfl (by kernel_rfl) rfl rfl rfl rfl (gv_t _) (fun hg255 _ => (rd_fld tF27_0 rfl)) ?_
            refine s_rdg (i := 6) rfl (by kernel_rfl) rfl rfl rfl rfl (gv_t _) (fun hg256 => (fun _ hS => by rw [hS]; exact (rd_ld1 tO25 (gvx rfl hg256) (hm251.blk 1 rfl) (off := 0) rfl))) rfl ?_
            refine s_rpg (i := 7) rfl (by kernel_rfl) rfl rfl rfl rfl (gv_t _) (fun hg257 _ => (rd_move rfl)) ?_
            obtain ⟨x259, h260, q261⟩ := ob q231; clear q231
            refine s_rpg (i := 8) rfl (by kernel_rfl) rfl rfl rfl rfl (gv_t _) (fun hg258 _ => (rd_sub64 (gO_t h260 hg258) (gvx rfl hg258) rfl)) ?_
            obtain ⟨x263, h264, q265⟩ := ob q261; clear q261
            refine s_rpg (i := 9) rfl (by kernel_rfl) rfl rfl rfl rfl (gv_t _) (fun hg262 _ => (rd_index tS25 (gvx rfl hg262) (gvx rfl hg262) (hv0_Items.of_old hm251) (gO_t h264 hg262))) ?_
            refine s_rpg (i := 10) rfl (by kernel_rfl) rfl rfl rfl rfl (gv_t _) (fun hg266 _ => (rd_fld tF40_2 (gvx rfl hg266))) ?_
            refine s_rdg (i := 11) rfl (by kernel_rfl) rfl rfl rfl rfl (gv_t _) (fun hg267 => (fun _ hS => by rw [hS]; exact (rd_ld1 tO3 (gvx rfl hg267) ((hv0_Items.of_old hm251).cells (gO_t h264 hg267)) (off := 2) rfl))) rfl ?_
            refine s_rpg (i := 12) rfl (by kernel_rfl) rfl rfl rfl rfl (gv_t _) (fun hg268 _ => (rd_lss (gvx rfl hg268) (gvx rfl hg268))) ?_
            refine s_rp (i := 13) rfl (by kernel_rfl) rfl (fun _ => (rd_and rfl (fun hc269 => (gvx rfl hc269)))) ?_
            refine s_nil (by kernel_rfl) ?_
            refine qn_then ?_
            obtain ⟨hb270, q271⟩ | ⟨hb270, q271⟩ := oi q265 <;> clear q265
            · refine cw_t rfl hb270 ?_
              refine cw_seq ?_
              refine cw_region ?_
              refine t_rd rfl (rd_assign rfl) ?_
              refine rwt_nil ?_
              refine qn_then ?_
              refine cw_ret ?_
              refine qr_block (qr_then (qr_then ?_))
              obtain rfl := hr185 _ (os q271)
              refine .inl (⟨_, rfl, ⟨rfl, ?_⟩⟩)
              exact ret1 rfl rfl ⟨rfl, (hm251.pick [] (by decide) rfl)⟩
            · refine cw_f rfl hb270 ?_
              refine cw_skip ?_
              refine qn_block (qn_then ?_)
              refine cw_region ?_
              refine t_rd rfl (rd_move rfl) ?_
              obtain ⟨x272, h273, q274⟩ := ob q271; clear q271
              refine t_rd rfl (rd_add64 h273 rfl rfl) ?_
              refine t_rd rfl (rd_assign rfl) ?_
              refine rwt_nil ?_
              refine qn_then ?_
              refine ⟨_, (os q274), (by repeat (first | exact Sub.nil _ | refine Sub.cons rfl ?_)), (hm251.pick [1] (by decide) rfl)⟩
        · refine cw_f rfl hb192 ?_
          refine cw_exit ?_
          refine qx_then (qx_then ?_)
          obtain rfl := hr185 _ (os q193)
          exact .inr (⟨_, rfl, ⟨rfl, (by repeat (first | exact Sub.nil _ | refine Sub.cons rfl ?_)), (hm191.pick [] (by decide) rfl)⟩⟩)
      · skip
        intro e env275 w276 hX277
        rcases hX277 with hX277 | hX277
        · obtain ⟨p279, rfl, hX277⟩ := hX277
          obtain ⟨rfl, hq281⟩ := hX277
          exact qr_block (qr_then ((by have e := os q188; subst e; exact hq281)))
        · obtain ⟨p282, rfl, hX277⟩ := hX277
          obtain ⟨rfl, hs283, hm284⟩ := hX277
          refine qx_same (qn_then ?_)
          refine cw_sub hs283 ?_
          refine cw_seq ?_
          refine cw_region ?_
          refine t_rd rfl (rd_assign rfl) ?_
          refine rwt_nil ?_
          refine qn_then ?_
          refine cw_ret ?_
          obtain rfl := os q188
          exact ret1 rfl rfl ⟨rfl, (hm284.pick [] (by decide) rfl)⟩

theorem r11_Sorted_ok {N : Nat} {a0_Items : List T_Item} {a0_Weight : Int} {a1 : List (List Int)} {res : Bool × Int} (h : r11_Sorted N a0_Items a0_Weight a1 = some res) {w : World} {v0_Items : Value} {v1 : Value} (hv0_Items : Sl (Old w No) w v0_Items a0_Items) (hv1 : Sl (Old w No) w v1 a1) :
    CallsR Tryz.prog 13 [(Value.agg #[v0_Items, (Value.int .i64 a0_Weight)]), v1] w (fun u w' => u = (Value.tuple #[(Value.bool res.1), (Value.int .i64 res.2)]) ∧ Mem w No [] w') := by
  unfold r11_Sorted at h
  refine fn_ok Tryz.func13 rfl rfl rfl ?_
  obtain ⟨zs_a1, hn1⟩ := hv1.nest
  have hm0 := Mem.nil w
  refine cw_seq ?_
  refine cw_region ?_
  refine t_ef rfl (ef_box hm0 rfl rfl) ?_
  rintro _ w3 ⟨g1, rfl, hm2⟩
  refine t_rd rfl (rd_assign rfl) ?_
  refine t_rd rfl (rd_assign rfl) ?_
  refine rwt_nil ?_
  refine qn_then ?_
  refine cw_seq ?_
  refine cw_seq ?_
  refine cw_region ?_
  refine t_rd rfl (rd_ld tA27 rfl (hm2.blk 0 rfl) rfl) ?_
  obtain ⟨r4, h5, q6⟩ := ob h; clear h
  refine t_ef rfl (ef_call tf38 rfl (r11_Valid_ok h5 (hv0_Items.to_call hm2))) ?_
  rintro _ w8 ⟨e_, hm7⟩
  obtain rfl := e_.symm
  have hm9 := hm2.call hm7
  refine t_rd rfl (rd_assign rfl) ?_
  refine rwt_nil ?_
  refine qn_then ?_
  refine cw_seq ?_
  refine cw_region ?_
  refine t_rd rfl (rd_move rfl) ?_
  refine t_rd rfl (rd_neq rfl rfl) ?_
  refine rwt_nil ?_
  refine qn_then ?_
  obtain ⟨hb10, q11⟩ | ⟨hb10, q11⟩ := oi q6 <;> clear q6
  · refine cw_t rfl hb10 ?_
    refine cw_seq ?_
    refine cw_region ?_
    refine t_rd rfl (rd_move rfl) ?_
    refine t_rd rfl (rd_assign rfl) ?_
    refine t_rd rfl (rd_assign rfl) ?_
    refine rwt_nil ?_
    refine qn_then ?_
    refine cw_ret ?_
    refine qr_then ?_
    obtain rfl := os q11
    exact ret2 rfl rfl rfl ⟨rfl, (hm9.pick [] (by decide) rfl)⟩
  · refine cw_f rfl hb10 ?_
    refine cw_skip ?_
    refine qn_then ?_
    refine cw_seq ?_
    refine cw_region ?_
    refine t_rd rfl (rd_fld tF27_0 rfl) ?_
    refine t_rd rfl (rd_ld1 tO25 rfl (hm9.blk 0 rfl) (off := 0) rfl) ?_
    refine t_rd rfl (rd_lenS tS25 rfl (hv0_Items.of_old hm9)) ?_
    obtain ⟨l12, h13, q14⟩ := ob q11; clear q11
    refine t_ef rfl (ef_make hm9 tS98 tE4 rfl rfl rfl h13) ?_
    intro v15 w17 hm16
    refine t_rd rfl (rd_assign rfl) ?_
    refine rwt_nil ?_
    refine qn_then ?_
    refine cw_seq ?_
    refine cw_region ?_
    refine t_rd rfl (rd_assign rfl) ?_
    refine rwt_nil ?_
    refine qn_then ?_
    refine cw_seq ?_
    refine cw_seq ?_
    refine cw_region ?_
    refine t_rd rfl (rd_assign rfl) ?_
    refine rwt_nil ?_
    refine qn_then ?_
    refine cw_block ?_
    obtain ⟨r1089, hit1090, q1091⟩ := ob q14; clear q14
    refine cw_loop2 (I := fun q envq wq => Sub [(1, v1), (2, (Value.pointer (some ⟨g1, 0, none⟩))), (7, v15), (8, (Value.int .i64 q.1)), (9, (Value.int .i64 q.2.1))] envq ∧ Mem w No [ownL 4 v15 (q.2.2 : List Bool), blk g1 27 [v0_Items, (Value.int .i64 a0_Weight)]] wq) (X := fun eq envq wq => (∃ p1092, r1089 = (Sum.inl p1092) ∧ eq = .ret ∧ retQ Tryz.prog 102 Tryz.f13 (fun u w' => u = (Value.tuple #[(Value.bool p1092.1), (Value.int .i64 p1092.2)]) ∧ Mem w No [] w') .ret envq wq) ∨ (∃ p1093, r1089 = (Sum.inr p1093) ∧ eq = .exit 0 ∧ Sub [(7, v15), (8, (Value.int .i64 p1093.1))] envq ∧ Mem w No [ownL 4 v15 (p1093.2 : List Bool)] wq)) hit1090 ⟨(by repeat (first | exact Sub.nil _ | refine Sub.cons rfl ?_)), (hm16.pick [0, 1] (by decide) rfl)⟩ ?_ ?_
    · rintro ⟨i1080, i1081, l1082⟩ x1084 env1085 w1086 hf1087 hr1088 ⟨hs_, hm_⟩
      have hs_ : Sub [(1, v1), (2, (Value.pointer (some ⟨g1, 0, none⟩))), (7, v15), (8, (Value.int .i64 i1080)), (9, (Value.int .i64 i1081))] env1085 := hs_
      have hm1094 : Mem w No [ownL 4 v15 (l1082 : List Bool), blk g1 27 [v0_Items, (Value.int .i64 a0_Weight)]] w1086 := hm_
      refine cw_sub hs_ ?_
      clear hs_ hm_ q1091
      have h : r11_Sorted_l3 N a0_Items a1 i1080 i1081 l1082 = some x1084 := hf1087
      clear hf1087
      refine cw_seq ?_
      refine cw_seq ?_
      refine cw_region ?_
      refine t_rd rfl (rd_move rfl) ?_
      refine t_rd rfl (rd_move rfl) ?_
      refine t_rd rfl (rd_lenS tS41 rfl ((hn1.of_old hm1094).sl)) ?_
      refine t_rd rfl (rd_lss rfl rfl) ?_
      refine rwt_nil ?_
      refine qn_then ?_
      obtain ⟨hb1095, q1096⟩ | ⟨hb1095, q1096⟩ := oi h <;> clear h
      · refine cw_t rfl hb1095 ?_
        refine cw_skip ?_
        refine qn_then ?_
        refine cw_seq ?_
        refine cw_block ?_
        refine cw_seq ?_
        refine cw_region ?_
        refine t_rd rfl (rd_assign rfl) ?_
        refine rwt_nil ?_
        refine qn_then ?_
        refine cw_block ?_
        obtain ⟨r1441, hit1442, q1443⟩ := ob q1096; clear q1096
        refine cw_loop2 (I := fun q envq wq => Sub [(1, v1), (2, (Value.pointer (some ⟨g1, 0, none⟩))), (7, v15), (8, (Value.int .i64 q.1)), (9, (Value.int .i64 i1081)), (10, (Value.int .i64 q.2.1))] envq ∧ Mem w No [ownL 4 v15 (q.2.2 : List Bool), blk g1 27 [v0_Items, (Value.int .i64 a0_Weight)]] wq) (X := fun eq envq wq => (∃ p1444, r1441 = (Sum.inl p1444) ∧ eq = .ret ∧ retQ Tryz.prog 102 Tryz.f13 (fun u w' => u = (Value.tuple #[(Value.bool p1444.1), (Value.int .i64 p1444.2)]) ∧ Mem w No [] w') .ret envq wq) ∨ (∃ p1445, r1441 = (Sum.inr p1445) ∧ eq = .exit 2 ∧ Sub [(1, v1), (2, (Value.pointer (some ⟨g1, 0, none⟩))), (7, v15), (8, (Value.int .i64 p1445.1)), (9, (Value.int .i64 i1081))] envq ∧ Mem w No [ownL 4 v15 (p1445.2 : List Bool), blk g1 27 [v0_Items, (Value.int .i64 a0_Weight)]] wq)) hit1442 ⟨(by repeat (first | exact Sub.nil _ | refine Sub.cons rfl ?_)), (hm1094.pick [0, 1] (by decide) rfl)⟩ ?_ ?_
        · rintro ⟨i1432, i1433, l1434⟩ x1436 env1437 w1438 hf1439 hr1440 ⟨hs_, hm_⟩
          have hs_ : Sub [(1, v1), (2, (Value.pointer (some ⟨g1, 0, none⟩))), (7, v15), (8, (Value.int .i64 i1432)), (9, (Value.int .i64 i1081)), (10, (Value.int .i64 i1433))] env1437 := hs_
          have hm1446 : Mem w No [ownL 4 v15 (l1434 : List Bool), blk g1 27 [v0_Items, (Value.int .i64 a0_Weight)]] w1438 := hm_
          refine cw_sub hs_ ?_
          clear hs_ hm_ q1443
          have h : r11_Sorted_l4 N a0_Items a1 i1081 i1432 i1433 l1434 = some x1436 := hf1439
          clear hf1439
          refine cw_seq ?_
          refine cw_seq ?_
          refine cw_region ?_
          refine t_rd rfl (rd_move rfl) ?_
          refine t_rd rfl (rd_move rfl) ?_
          refine t_rd rfl (rd_move rfl) ?_
          obtain ⟨x1447, h1448, q1449⟩ := ob h; clear h
          refine t_rd rfl (rd_index tS41 rfl rfl ((hn1.of_old hm1446).sl) h1448) ?_
          obtain ⟨zd1450, hz1451⟩ := (hn1.of_old hm1446).row h1448
          refine t_rd rfl (rd_ld1 tO22 rfl ((hn1.of_old hm1446).cells hz1451) (off := 0) rfl) ?_
          refine t_rd rfl (rd_lenS tS22 rfl ((hn1.of_old hm1446).get hz1451 h1448)) ?_
          refine t_rd rfl (rd_lss rfl rfl) ?_
          refine rwt_nil ?_
          refine qn_then ?_
          obtain ⟨hb1452, q1453⟩ | ⟨hb1452, q1453⟩ := oi q1449 <;> clear q1449
          · refine cw_t rfl hb1452 ?_
            refine cw_skip ?_
            refine qn_then ?_
            refine cw_seq ?_
            refine cw_block ?_
            refine cw_seq ?_
            refine cw_region ?_
            refine t_rd rfl (rd_move rfl) ?_
            refine t_rd rfl (rd_move rfl) ?_
            refine t_rd rfl (rd_index tS41 rfl rfl ((hn1.of_old hm1446).sl) h1448) ?_
            obtain ⟨zd1454, hz1455⟩ := (hn1.of_old hm1446).row h1448
            refine t_rd rfl (rd_ld1 tO22 rfl ((hn1.of_old hm1446).cells hz1455) (off := 0) rfl) ?_
            refine t_rd rfl (rd_move rfl) ?_
            obtain ⟨x1456, h1457, q1458⟩ := ob q1453; clear q1453
            refine t_rd rfl (rd_index tS22 rfl rfl ((hn1.of_old hm1446).get hz1455 h1448) h1457) ?_
            refine t_rd rfl (rd_ld1 tO3 rfl (((hn1.of_old hm1446).get hz1455 h1448).cells h1457) (off := 0) rfl) ?_
            refine t_rd rfl (rd_assign rfl) ?_
            refine rwt_nil ?_
            refine qn_then ?_
            refine cw_seq ?_
            refine cw_seq ?_
            obtain ⟨w1528, he1530⟩ : ∃ q, q = w1438.drew := ⟨_, rfl⟩
            have hm1529 := hm1446.drew; rw [← he1530] at hm1529
            refine cw_region_s (fun q => q = w1528) (cls [] []) mixed ?_
            rintro _ rfl; rw [← he1530]
            refine s_rp (i := 0) rfl (by kernel_rfl) rfl (fun _ => (rd_move rfl)) ?_
            refine s_rp (i := 1) rfl (by kernel_rfl) rfl (fun _ => (rd_lss rfl rfl)) ?_
            refine s_rp (i := 2) rfl (by kernel_rfl) rfl (fun _ => (rd_move rfl)) ?_
            refine s_rpg (i := 3) rfl (by kernel_rfl) rfl rfl rfl rfl (gv_f _) (fun hg1531 _ => (rd_move rfl)) ?_
            refine s_rpg (i := 4) rfl (by kernel_rfl) rfl rfl rfl rfl (gv_f _) (fun hg1532 _ => (rd_move rfl)) ?_
            refine s_rpg (i := 5) rfl (by kernel_rfl) rfl rfl rfl rfl (gv_f _) (fun hg1533 _ => (rd_lenS tS98 (gvx rfl hg1533) (hm1529.sl 0 rfl))) ?_
            refine s_rpg (i := 6) rfl (by kernel_rfl) rfl rfl rfl rfl (gv_f _) (fun hg1534 _ => (rd_geq (gvx rfl hg1534) (gvx rfl hg1534))) ?_
            refine s_rp (i := 7) rfl (by kernel_rfl) rfl (fun _ => (rd_or rfl (fun hc1535 => (gvx rfl (bnotIt hc1535))))) ?_
            refine s_rp (i := 8) rfl (by kernel_rfl) rfl (fun _ => (rd_move rfl)) ?_
            refine s_rpg (i := 9) rfl (by kernel_rfl) rfl rfl rfl rfl (gv_f _) (fun hg1536 _ => (rd_move rfl)) ?_
            refine s_rpg (i := 10) rfl (by kernel_rfl) rfl rfl rfl rfl (gv_f _) (fun hg1537 _ => (rd_move rfl)) ?_
            obtain ⟨x1539, h1540, q1541⟩ := ob q1458; clear q1458
            refine s_rpg (i := 11) rfl (by kernel_rfl) rfl rfl rfl rfl (gv_f _) (fun hg1538 _ => (rd_index tS98 (gvx rfl hg1538) (gvx rfl hg1538) (hm1529.sl 0 rfl) (gO_t h1540 hg1538))) ?_
            refine s_rdg (i := 12) rfl (by kernel_rfl) rfl rfl rfl rfl (gv_f _) (fun hg1542 => (fun _ hS => by rw [hS]; exact (rd_ld1 tO4 (gvx rfl hg1542) ((hm1529.sl 0 rfl).cells (gO_t h1540 hg1542)) (off := 0) rfl))) rfl ?_
            refine s_rp (i := 13) rfl (by kernel_rfl) rfl (fun _ => (rd_or rfl (fun hc1543 => (gvx rfl (bnotIt hc1543))))) ?_
            refine s_rp (i := 14) rfl (by kernel_rfl) rfl (fun _ => (rd_move rfl)) ?_
            refine s_rpg (i := 15) rfl (by kernel_rfl) rfl rfl rfl rfl (gv_f _) (fun hg1544 _ => (rd_fld tF27_0 rfl)) ?_
            refine s_rdg (i := 16) rfl (by kernel_rfl) rfl rfl rfl rfl (gv_f _) (fun hg1545 => (fun _ hS => by rw [hS]; exact (rd_ld1 tO25 (gvx rfl hg1545) (hm1529.blk 1 rfl) (off := 0) rfl))) rfl ?_
            refine s_rpg (i := 17) rfl (by kernel_rfl) rfl rfl rfl rfl (gv_f _) (fun hg1546 _ => (rd_move rfl)) ?_
            obtain ⟨x1548, h1549, q1550⟩ := ob q1541; clear q1541
            refine s_rpg (i := 18) rfl (by kernel_rfl) rfl rfl rfl rfl (gv_f _) (fun hg1547 _ => (rd_index tS25 (gvx rfl hg1547) (gvx rfl hg1547) (hv0_Items.of_old hm1529) (gO_t h1549 hg1547))) ?_
            refine s_rpg (i := 19) rfl (by kernel_rfl) rfl rfl rfl rfl (gv_f _) (fun hg1551 _ => (rd_fld tF40_0 (gvx rfl hg1551))) ?_
            refine s_rdg (i := 20) rfl (by kernel_rfl) rfl rfl rfl rfl (gv_f _) (fun hg1552 => (fun _ hS => by rw [hS]; exact (rd_ld1 tO3 (gvx rfl hg1552) ((hv0_Items.of_old hm1529).cells (gO_t h1549 hg1552)) (off := 0) rfl))) rfl ?_
            refine s_rpg (i := 21) rfl (by kernel_rfl) rfl rfl rfl rfl (gv_f _) (fun hg1553 _ => (rd_move rfl)) ?_
            refine s_rpg (i := 22) rfl (by kernel_rfl) rfl rfl rfl rfl (gv_f _) (fun hg1554 _ => (rd_neq (gvx rfl hg1554) (gvx rfl hg1554))) ?_
            refine s_rp (i := 23) rfl (by kernel_rfl) rfl (fun _ => (rd_or rfl (fun hc1555 => (gvx rfl (bnotIt hc1555))))) ?_
            refine s_rp (i := 24) rfl (by kernel_rfl) rfl (fun _ => (rd_move rfl)) ?_
            refine s_rpg (i := 25) rfl (by kernel_rfl) rfl rfl rfl rfl (gv_f _) (fun hg1556 _ => (rd_move rfl)) ?_
            refine s_rpg (i := 26) rfl (by kernel_rfl) rfl rfl rfl rfl (gv_f _) (fun hg1557 _ => (rd_gtr (gvx rfl hg1557) rfl)) ?_
            refine s_rpg (i := 27) rfl (by kernel_rfl) rfl rfl rfl rfl (gv_f _) (fun hg1558 _ => (rd_move (gvx rfl hg1558))) ?_
            refine s_rpg (i := 28) rfl (by kernel_rfl) rfl rfl rfl rfl (gv_nt _ _) (fun hg1559 _ => (rd_fld tF27_0 rfl)) ?_
            refine s_rdg (i := 29) rfl (by kernel_rfl) rfl rfl rfl rfl (gv_nt _ _) (fun hg1560 => (fun _ hS => by rw [hS]; exact (rd_ld1 tO25 (gvx rfl hg1560) (hm1529.blk 1 rfl) (off := 0) rfl))) rfl ?_
            refine s_rpg (i := 30) rfl (by kernel_rfl) rfl rfl rfl rfl (gv_nt _ _) (fun hg1561 _ => (rd_move rfl)) ?_
            obtain ⟨x1563, h1564, q1565⟩ := ob q1550; clear q1550
            refine s_rpg (i := 31) rfl (by kernel_rfl) rfl rfl rfl rfl (gv_nt _ _) (fun hg1562 _ => (rd_index tS25 (gvx rfl hg1562) (gvx rfl hg1562) (hv0_Items.of_old hm1529) (gO_t h1564 hg1562))) ?_
            refine s_rpg (i := 32) rfl (by kernel_rfl) rfl rfl rfl rfl (gv_nt _ _) (fun hg1566 _ => (rd_fld tF40_1 (gvx rfl hg1566))) ?_
            refine s_rdg (i := 33) rfl (by kernel_rfl) rfl rfl rfl rfl (gv_nt _ _) (fun hg1567 => (fun _ hS => by rw [hS]; exact (rd_ld1 tO3 (gvx rfl hg1567) ((hv0_Items.of_old hm1529).cells (gO_t h1564 hg1567)) (off := 1) rfl))) rfl ?_
            refine s_rpg (i := 34) rfl (by kernel_rfl) rfl rfl rfl rfl (gv_nt _ _) (fun hg1568 _ => (rd_fld tF27_0 rfl)) ?_
            refine s_rdg (i := 35) rfl (by kernel_rfl) rfl rfl rfl rfl (gv_nt _ _) (fun hg1569 => (fun _ hS => by rw [hS]; exact (rd_ld1 tO25 (gvx rfl hg1569) (hm1529.blk 1 rfl) (off := 0) rfl))) rfl ?_
            refine s_rpg (i := 36) rfl (by kernel_rfl) rfl rfl rfl rfl (gv_nt _ _) (fun hg1570 _ => (rd_move rfl)) ?_
            refine s_rpg (i := 37) rfl (by kernel_rfl) rfl rfl rfl rfl (gv_nt _ _) (fun hg1571 _ => (rd_move rfl)) ?_
            obtain ⟨x1573, h1574, q1575⟩ := ob q1565; clear q1565
            refine s_rpg (i := 38) rfl (by kernel_rfl) rfl rfl rfl rfl (gv_nt _ _) (fun hg1572 _ => (rd_index tS41 (gvx rfl hg1572) (gvx rfl hg1572) ((hn1.of_old hm1529).sl) (gO_t h1574 hg1572))) ?_
            obtain ⟨zd1577, hz1578⟩ := (hn1.of_old hm1529).rowg (g := ((!(((decide (x1456 < 0) || decide ((List.length l1434 : Int) ≤ x1456)) || x1539) || (!decide (x1548.Train = i1081)))) && decide (0 < i1433))) (fun q => gO_t h1574 q)
            refine s_rdg (i := 39) rfl (by kernel_rfl) rfl rfl rfl rfl (gv_nt _ _) (fun hg1576 => (fun _ hS => by rw [hS]; exact (rd_ld1 tO22 (gvx rfl hg1576) ((hn1.of_old hm1529).cells (hz1578 hg1576)) (off := 0) rfl))) rfl ?_
            refine s_rpg (i := 40) rfl (by kernel_rfl) rfl rfl rfl rfl (gv_nt _ _) (fun hg1579 _ => (rd_move rfl)) ?_
            obtain ⟨x1581, h1582, q1583⟩ := ob q1575; clear q1575
            refine s_rpg (i := 41) rfl (by kernel_rfl) rfl rfl rfl rfl (gv_nt _ _) (fun hg1580 _ => (rd_sub64 (gO_t h1582 hg1580) (gvx rfl hg1580) rfl)) ?_
            obtain ⟨x1585, h1586, q1587⟩ := ob q1583; clear q1583
            refine s_rpg (i := 42) rfl (by kernel_rfl) rfl rfl rfl rfl (gv_nt _ _) (fun hg1584 _ => (rd_index tS22 (gvx rfl hg1584) (gvx rfl hg1584) ((hn1.of_old hm1529).get (hz1578 hg1584) (gO_t h1574 hg1584)) (gO_t h1586 hg1584))) ?_
            refine s_rdg (i := 43) rfl (by kernel_rfl) rfl rfl rfl rfl (gv_nt _ _) (fun hg1588 => (fun _ hS => by rw [hS]; exact (rd_ld1 tO3 (gvx rfl hg1588) (((hn1.of_old hm1529).get (hz1578 hg1588) (gO_t h1574 hg1588)).cells (gO_t h1586 hg1588)) (off := 0) rfl))) rfl ?_
            obtain ⟨x1590, h1591, q1592⟩ := ob q1587; clear q1587
            refine s_rpg (i := 44) rfl (by kernel_rfl) rfl rfl rfl rfl (gv_nt _ _) (fun hg1589 _ => (rd_index tS25 (gvx rfl hg1589) (gvx rfl hg1589) (hv0_Items.of_old hm1529) (gO_t h1591 hg1589))) ?_
            refine s_rpg (i := 45) rfl (by kernel_rfl) rfl rfl rfl rfl (gv_nt _ _) (fun hg1593 _ => (rd_fld tF40_1 (gvx rfl hg1593))) ?_
            refine s_rdg (i := 46) rfl (by kernel_rfl) rfl rfl rfl rfl (gv_nt _ _) (fun hg1594 => (fun _ hS => by rw [hS]; exact (rd_ld1 tO3 (gvx rfl hg1594) ((hv0_Items.of_old hm1529).cells (gO_t h1591 hg1594)) (off := 1) rfl))) rfl ?_
            refine s_rpg (i := 47) rfl (by kernel_rfl) rfl rfl rfl rfl (gv_nt _ _) (fun hg1595 _ => (rd_lss (gvx rfl hg1595) (gvx rfl hg1595))) ?_
            refine s_rpg (i := 48) rfl (by kernel_rfl) rfl rfl rfl rfl (gv_f _) (fun hg1596 _ => (rd_and (gvx rfl hg1596) (fun hc1597 => (gvx rfl (band hg1596 hc1597))))) ?_
            refine s_rp (i := 49) rfl (by kernel_rfl) rfl (fun _ => (rd_or rfl (fun hc1598 => (gvx rfl (bnotIt hc1598))))) ?_
            refine s_nil (by kernel_rfl) ?_
            refine qn_then ?_
            obtain ⟨hb1599, q1600⟩ | ⟨hb1599, q1600⟩ := oi q1592 <;> clear q1592
            · refine cw_t rfl hb1599 ?_
              refine cw_seq ?_
              refine cw_region ?_
              refine t_rd rfl (rd_assign rfl) ?_
              refine t_rd rfl (rd_assign rfl) ?_
              refine rwt_nil ?_
              refine qn_then ?_
              refine cw_ret ?_
              refine qr_then (qr_block (qr_then (qr_then ?_)))
              obtain rfl := hr1440 _ (os q1600)
              refine .inl (⟨_, rfl, ⟨rfl, ?_⟩⟩)
              exact ret2 rfl rfl rfl ⟨rfl, (hm1529.pick [] (by decide) rfl)⟩
            · refine cw_f rfl hb1599 ?_
              refine cw_skip ?_
              refine qn_then ?_
              refine cw_seq ?_
              refine cw_region ?_
              refine t_rd rfl (rd_move rfl) ?_
              refine t_rd rfl (rd_move rfl) ?_
              obtain ⟨x1601, h1602, q1603⟩ := ob q1600; clear q1600
              refine t_rd rfl (rd_index tS98 rfl rfl (hm1529.sl 0 rfl) h1602) ?_
              refine t_ef0 (ef_stl (k := 0) (off := 0) (x' := true) hm1529 tO4 rfl rfl rfl rfl h1602 rfl rfl) ?_
              intro _ w1605 hm1604
              refine rwt_nil ?_
              refine qn_then ?_
              refine cw_region ?_
              refine t_rd rfl (rd_move rfl) ?_
              obtain ⟨x1606, h1607, q1608⟩ := ob q1603; clear q1603
              refine t_rd rfl (rd_add64 h1607 rfl rfl) ?_
              refine t_rd rfl (rd_assign rfl) ?_
              refine rwt_nil ?_
              refine qn_block (qn_then ?_)
              refine cw_region ?_
              refine t_rd rfl (rd_move rfl) ?_
              obtain ⟨x1609, h1610, q1611⟩ := ob q1608; clear q1608
              refine t_rd rfl (rd_add64 h1610 rfl rfl) ?_
              refine t_rd rfl (rd_assign rfl) ?_
              refine rwt_nil ?_
              refine qn_then ?_
              refine ⟨_, (os q1611), (by repeat (first | exact Sub.nil _ | refine Sub.cons rfl ?_)), (hm1604.pick [0, 1] (by decide) rfl)⟩
          · refine cw_f rfl hb1452 ?_
            refine cw_exit ?_
            refine qx_then (qx_then ?_)
            obtain rfl := hr1440 _ (os q1453)
            exact .inr (⟨_, rfl, ⟨rfl, (by repeat (first | exact Sub.nil _ | refine Sub.cons rfl ?_)), (hm1446.pick [0, 1] (by decide) rfl)⟩⟩)
        · skip
          intro e env1612 w1613 hX1614
          rcases hX1614 with hX1614 | hX1614
          · obtain ⟨p1616, rfl, hX1614⟩ := hX1614
            obtain ⟨rfl, hq1618⟩ := hX1614
            obtain rfl := hr1088 _ (os q1443)
            exact qr_block (qr_block (qr_then (qr_then (.inl (⟨_, rfl, ⟨rfl, hq1618⟩⟩)))))
          · obtain ⟨p1619, rfl, hX1614⟩ := hX1614
            obtain ⟨rfl, hs1620, hm1621⟩ := hX1614
            refine qx_same (qn_block (qn_then ?_))
            refine cw_sub hs1620 ?_
            refine cw_region ?_
            refine t_rd rfl (rd_move rfl) ?_
            obtain ⟨x1622, h1623, q1624⟩ := ob q1443; clear q1443
            refine t_rd rfl (rd_add64 h1623 rfl rfl) ?_
            refine t_rd rfl (rd_assign rfl) ?_
            refine rwt_nil ?_
            refine qn_then ?_
            refine ⟨_, (os q1624), (by repeat (first | exact Sub.nil _ | refine Sub.cons rfl ?_)), (hm1621.pick [0, 1] (by decide) rfl)⟩
      · refine cw_f rfl hb1095 ?_
        refine cw_exit ?_
        refine qx_then (qx_then ?_)
        obtain rfl := hr1088 _ (os q1096)
        exact .inr (⟨_, rfl, ⟨rfl, (by repeat (first | exact Sub.nil _ | refine Sub.cons rfl ?_)), (hm1094.pick [0] (by decide) rfl)⟩⟩)
    · skip
      intro e env1625 w1626 hX1627
      rcases hX1627 with hX1627 | hX1627
      · obtain ⟨p1629, rfl, hX1627⟩ := hX1627
        obtain ⟨rfl, hq1631⟩ := hX1627
        exact qr_block (qr_then ((by have e := os q1091; subst e; exact hq1631)))
      · obtain ⟨p1632, rfl, hX1627⟩ := hX1627
        obtain ⟨rfl, hs1633, hm1634⟩ := hX1627
        refine qx_same (qn_then ?_)
        refine cw_sub hs1633 ?_
        refine cw_seq ?_
        refine cw_region ?_
        refine t_rd rfl (rd_move rfl) ?_
        refine t_rd rfl (rd_move rfl) ?_
        refine t_rd rfl (rd_lenS tS98 rfl (hm1634.sl 0 rfl)) ?_
        refine t_rd rfl (rd_eql rfl rfl) ?_
        refine t_rd rfl (rd_assign rfl) ?_
        refine t_rd rfl (rd_assign rfl) ?_
        refine rwt_nil ?_
        refine qn_then ?_
        refine cw_ret ?_
        obtain rfl := os q1091
        exact ret2 rfl rfl rfl ⟨rfl, (hm1634.pick [] (by decide) rfl)⟩

end Go.Proofs.YtlpkbkbjohhleaaGreat
