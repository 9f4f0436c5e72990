/- Each call computes what its mirror does; written by a program of mine (gowalk.py). -/
import Derived.Test.YtlpkbkbjohhleaaGreatWkd
namespace Go.Proofs.YtlpkbkbjohhleaaGreat
open Go.Gv Go.RowKit
set_option linter.unusedVariables false
set_option maxRecDepth 100000

theorem humpyardtop_TopFewest_ok {N : Nat} {a0 : List Int} {res : Bool} (h : humpyardtop_TopFewest N a0 = some res) {w : World} {v0 : Value} (hv0 : Sl (Old w No) w v0 a0) :
    CallsR Tryz.prog 3 [v0] w (fun u w' => u = (Value.bool res) ∧ Mem w No [] w') := by
  unfold humpyardtop_TopFewest at h
  refine fn_ok Tryz.func3 rfl rfl rfl ?_
  have hm0 := Mem.nil w
  refine cw_seq ?_
  refine cw_region ?_
  refine t_rd rfl (rd_assign rfl) ?_
  refine rwt_nil ?_
  refine qn_then ?_
  refine cw_seq ?_
  refine cw_region ?_
  refine t_rd rfl (rd_move rfl) ?_
  obtain ⟨r1, h2, q3⟩ := ob h; clear h
  refine t_ef rfl (ef_call tf6 rfl (humpgen_New_ok h2 (hv0.to_call hm0))) ?_
  rintro _ w6 ⟨g4, e_, hm5⟩
  obtain rfl := e_.symm
  have hm7 := hm0.call hm5
  refine t_rd rfl (rd_assign rfl) ?_
  refine rwt_nil ?_
  refine qn_then ?_
  refine cw_seq ?_
  refine cw_region ?_
  refine t_rd rfl (rd_move rfl) ?_
  obtain ⟨r8, h9, q10⟩ := ob q3; clear q3
  refine t_ef rfl (ef_call tf7 rfl (Maker_Job_ok h9 (hv0.to_callT (k := 0) hm7 rfl) (hm7.get (k := 0) rfl))) ?_
  rintro _ w13 ⟨v11, e_, hm12⟩
  obtain rfl := e_.symm
  have hm14 := hm7.callT (k := 0) rfl (fun _ h => h) hm12 (fun _ => Iff.rfl)
  refine t_ef rfl (ef_alloc hm14 tZ27 rfl) ?_
  rintro _ w17 ⟨g15, rfl, hm16⟩
  refine t_ef0 (ef_stw (k := 0) hm16 tA27 rfl rfl (oc_cons (sl_one (hm16.sl 1 rfl)) (oc_cons rfl oc_nil)) rfl rfl rfl) ?_
  intro _ w19 hm18
  refine rwt_nil ?_
  refine qn_then ?_
  refine cw_seq ?_
  refine cw_region ?_
  refine t_rd rfl (rd_ld tA27 rfl (hm18.blk 0 rfl) rfl) ?_
  obtain ⟨r20, h21, q22⟩ := ob q10; clear q10
  refine t_ef rfl (ef_call tf8 rfl (certificate_Make_ok h21 (hm18.sl_call 1 rfl))) ?_
  rintro _ w26 ⟨v23, v24, e_, hm25⟩
  obtain rfl := e_.symm
  have hm27 := hm18.call hm25
  refine t_rd rfl (rd_move rfl) ?_
  refine t_rd rfl (rd_extract rfl rfl) ?_
  refine t_rd rfl (rd_extract rfl rfl) ?_
  refine t_ef rfl (ef_alloc hm27 tZ32 rfl) ?_
  rintro _ w30 ⟨g28, rfl, hm29⟩
  refine t_ef0 (ef_stw (k := 0) hm29 tA32 rfl rfl (oc_cons rfl (oc_cons (sl_one (hm29.sl 1 rfl)) (oc_cons (sl_one (hm29.sl 2 rfl)) oc_nil))) rfl rfl rfl) ?_
  intro _ w32 hm31
  refine t_rd rfl (rd_assign rfl) ?_
  refine rwt_nil ?_
  refine qn_then ?_
  refine cw_seq ?_
  refine cw_seq ?_
  refine cw_region ?_
  refine t_rd rfl (rd_move rfl) ?_
  refine t_rd rfl (rd_neq rfl rfl) ?_
  refine rwt_nil ?_
  refine qn_then ?_
  obtain ⟨hb33, q34⟩ | ⟨hb33, q34⟩ := oi q22 <;> clear q22
  · refine cw_t rfl hb33 ?_
    refine cw_seq ?_
    refine cw_region ?_
    refine t_rd rfl (rd_move rfl) ?_
    refine t_rd rfl (rd_eql rfl rfl) ?_
    refine t_rd rfl (rd_move rfl) ?_
    obtain ⟨r36, h37, q38⟩ := ob q34; clear q34
    refine t_efg rfl rfl rfl rfl (R := (fun v w' => v = gV (decide (r20.2.2.2 = 15)) (Value.bool r36) ∧ Mem w32 No [] w')) (gv_t _) (fun hg35 => (ef_call tf9 rfl (humpyardtop_awake_ok (gO_t h37 hg35))).mono (by rintro _ _ ⟨rfl, q⟩; exact ⟨(gV_t hg35).symm, q⟩)) (fun q => ⟨(gV_f q).symm, Mem.nil _⟩) ?_
    rintro _ w40 ⟨rfl, hm39⟩
    have hm41 := hm31.call hm39
    refine t_rd rfl (rd_and rfl (fun hc42 => (gvx rfl hc42))) ?_
    refine t_rd rfl (rd_assign rfl) ?_
    refine rwt_nil ?_
    refine qn_then ?_
    refine cw_ret ?_
    refine qr_then ?_
    obtain rfl := os q38
    exact ret1 rfl rfl ⟨rfl, (hm41.pick [] (by decide) rfl)⟩
  · refine cw_f rfl hb33 ?_
    refine cw_skip ?_
    refine qn_then ?_
    refine cw_seq ?_
    refine cw_seq ?_
    refine cw_region ?_
    refine t_rd rfl (rd_ld tA27 rfl (hm31.blk 3 rfl) rfl) ?_
    refine t_rd rfl (rd_ld tA32 rfl (hm31.blk 0 rfl) rfl) ?_
    obtain ⟨r43, h44, q45⟩ := ob q34; clear q34
    refine t_ef rfl (ef_call tf10 rfl (certificate_Check_ok h44 (hm31.sl_call 4 rfl) (hm31.sl_call 1 rfl) (hm31.sl_call 2 rfl))) ?_
    rintro _ w47 ⟨e_, hm46⟩
    obtain rfl := e_.symm
    have hm48 := hm31.call hm46
    refine t_rd rfl (rd_neq rfl rfl) ?_
    refine t_rd rfl (rd_move rfl) ?_
    refine t_rdg rfl rfl rfl rfl (gv_f _) (fun hg49 => (rd_fld tF32_0 rfl)) ?_
    refine t_rdg rfl rfl rfl rfl (gv_f _) (fun hg50 => (rd_fld tF30_0 (gvx rfl hg50))) ?_
    refine t_rdg rfl rfl rfl rfl (gv_f _) (fun hg51 => (rd_ld1 tO3 (gvx rfl hg51) (hm48.blk 0 rfl) (off := 0) rfl)) ?_
    refine t_rdg rfl rfl rfl rfl (gv_f _) (fun hg52 => (rd_gtr (gvx rfl hg52) rfl)) ?_
    refine t_rd rfl (rd_or rfl (fun hc53 => (gvx rfl (bnotIt hc53)))) ?_
    refine rwt_nil ?_
    refine qn_then ?_
    obtain ⟨hb54, q55⟩ | ⟨hb54, q55⟩ := oi q45 <;> clear q45
    · refine cw_t rfl hb54 ?_
      refine cw_seq ?_
      refine cw_region ?_
      refine t_rd rfl (rd_ld tA27 rfl (hm48.blk 3 rfl) rfl) ?_
      refine t_rd rfl (rd_ld tA32 rfl (hm48.blk 0 rfl) rfl) ?_
      refine t_ef rfl (ef_call tf10 rfl (certificate_Check_ok h44 (hm48.sl_call 4 rfl) (hm48.sl_call 1 rfl) (hm48.sl_call 2 rfl))) ?_
      rintro _ w57 ⟨e_, hm56⟩
      obtain rfl := e_.symm
      have hm58 := hm48.call hm56
      refine t_rd rfl (rd_eql rfl rfl) ?_
      refine t_rd rfl (rd_move rfl) ?_
      obtain ⟨r60, h61, q62⟩ := ob q55; clear q55
      refine t_efg rfl rfl rfl rfl (R := (fun v w' => v = gV (decide (r43 = 0)) (Value.bool r60) ∧ Mem w57 No [] w')) (gv_t _) (fun hg59 => (ef_call tf9 rfl (humpyardtop_awake_ok (gO_t h61 hg59))).mono (by rintro _ _ ⟨rfl, q⟩; exact ⟨(gV_t hg59).symm, q⟩)) (fun q => ⟨(gV_f q).symm, Mem.nil _⟩) ?_
      rintro _ w64 ⟨rfl, hm63⟩
      have hm65 := hm58.call hm63
      refine t_rd rfl (rd_and rfl (fun hc66 => (gvx rfl hc66))) ?_
      refine t_rd rfl (rd_assign rfl) ?_
      refine rwt_nil ?_
      refine qn_then ?_
      refine cw_ret ?_
      refine qr_then ?_
      obtain rfl := os q62
      exact ret1 rfl rfl ⟨rfl, (hm65.pick [] (by decide) rfl)⟩
    · refine cw_f rfl hb54 ?_
      refine cw_skip ?_
      refine qn_then ?_
      refine cw_seq ?_
      refine cw_seq ?_
      refine cw_region ?_
      refine t_rd rfl (rd_fld tF32_0 rfl) ?_
      refine t_rd rfl (rd_fld tF30_0 rfl) ?_
      refine t_rd rfl (rd_ld1 tO3 rfl (hm48.blk 0 rfl) (off := 0) rfl) ?_
      refine t_rd rfl (rd_eql rfl rfl) ?_
      refine rwt_nil ?_
      refine qn_then ?_
      obtain ⟨hb67, q68⟩ | ⟨hb67, q68⟩ := oi q55 <;> clear q55
      · refine cw_t rfl hb67 ?_
        refine cw_seq ?_
        refine cw_region ?_
        obtain ⟨r69, h70, q71⟩ := ob q68; clear q68
        refine t_ef rfl (ef_call tf9 rfl (humpyardtop_awake_ok h70)) ?_
        rintro _ w73 ⟨e_, hm72⟩
        obtain rfl := e_.symm
        have hm74 := hm48.call hm72
        refine t_rd rfl (rd_assign rfl) ?_
        refine rwt_nil ?_
        refine qn_then ?_
        refine cw_ret ?_
        refine qr_then ?_
        obtain rfl := os q71
        exact ret1 rfl rfl ⟨rfl, (hm74.pick [] (by decide) rfl)⟩
      · refine cw_f rfl hb67 ?_
        refine cw_skip ?_
        refine qn_then ?_
        refine cw_seq ?_
        obtain ⟨j136, hit137, q138⟩ := ob q68; clear q68
        refine cw_join (X := fun eq envq wq => eq = .normal ∧ ∃ (v135 : Value) (g131 : Nat), Sub [(4, (Value.pointer (some ⟨g15, 0, none⟩))), (7, (Value.pointer (some ⟨g131, 0, none⟩)))] envq ∧ Mem w No [ownL 3 v135 (j136.2 : List Int), blk g131 30 [(Value.int .i64 j136.1), v135], blk g15 27 [v11, (Value.int .i64 r8.2.2)], ownL 40 v11 (r8.2.1 : List T_Item)] wq) ?_ ?_
        · clear q138
          obtain ⟨w154, he156⟩ : ∃ q, q = w47.drew := ⟨_, rfl⟩
          have hm155 := hm48.drew; rw [← he156] at hm155
          refine cw_region_s (fun q => (blk g28 32 [(Value.int .i64 r20.1), v23, v24]).φ q ∧ (blk g15 27 [v11, (Value.int .i64 r8.2.2)]).φ q) (cls [7, 9] [10]) mixed ?_
          rintro _ rfl; rw [← he156]
          refine s_rp (i := 0) rfl (by kernel_rfl) rfl (fun _ => (rd_fld tF32_0 rfl)) ?_
          refine s_rp (i := 1) rfl (by kernel_rfl) rfl (fun _ => (rd_fld tF30_0 rfl)) ?_
          refine s_rd (i := 2) rfl (by kernel_rfl) rfl (fun w153 hS => (rd_ld1 tO3 rfl (cells_blk hS.1) (off := 0) rfl)) ⟨(hm155.get (k := 0) rfl), (hm155.get (k := 3) rfl)⟩ ?_
          obtain ⟨x171, h172, q173⟩ := ob hit137; clear hit137
          refine s_rp (i := 3) rfl (by kernel_rfl) rfl (fun _ => (rd_sub64 h172 rfl rfl)) ?_
          refine s_rp (i := 4) rfl (by kernel_rfl) rfl (fun _ => (rd_fld tF27_0 rfl)) ?_
          refine s_rd (i := 5) rfl (by kernel_rfl) rfl (fun w153 hS => (rd_ld1 tO25 rfl (cells_blk hS.2) (off := 0) rfl)) ⟨(hm155.get (k := 0) rfl), (hm155.get (k := 3) rfl)⟩ ?_
          refine s_rp (i := 6) rfl (by kernel_rfl) rfl (fun _ => (rd_lenS tS25 rfl (hm155.sl 4 rfl))) ?_
          refine s_br2 (i := 7) (j := 9) (by kernel_rfl) ?_ ?_
          · skip
            obtain ⟨l174, h175, q176⟩ := ob q173; clear q173
            refine e_ef (i := 7) rfl rfl (ef_make hm155 tS22 tE3 rfl rfl rfl h175) (by decide) ?_ ?_
            · intro v177 w179 hm178
              intro _
              exact ⟨(hm178.get (k := 1) rfl), (hm178.get (k := 4) rfl)⟩
            intro v177 w179 hm178
            refine s_rp (i := 8) rfl (by kernel_rfl) rfl (fun _ => (rd_build (cs := #[(Value.int .i64 x171), v177]) rfl (by obtain ⟨_, _, e⟩ := ((hm178.sl 0 rfl)).val; rw [e]; clear e; kernel_rfl))) ?_
            refine s_ef (i := 9) rfl (by kernel_rfl) rfl (ef_alloc hm178 tZ30 rfl) (by decide) ?_ ?_
            · rintro _ w182 ⟨g180, rfl, hm181⟩
              intro _
              exact ⟨(hm181.get (k := 2) rfl), (hm181.get (k := 5) rfl)⟩
            rintro _ w182 ⟨g180, rfl, hm181⟩
            refine s_ef0 (i := 10) rfl (by kernel_rfl) (ef_stw (k := 0) hm181 tA30 rfl rfl (oc_cons rfl (oc_cons (sl_one (hm181.sl 1 rfl)) oc_nil)) rfl rfl rfl) (by decide) (fun _ _ _ q => absurd q (by decide)) ?_
            intro _ w184 hm183
            refine s_nil (by kernel_rfl) ?_
            obtain rfl := os q176
            exact ⟨rfl, v177, g180, (by repeat (first | exact Sub.nil _ | refine Sub.cons rfl ?_)), (hm183.pick [1, 0, 5, 6] (by decide) rfl)⟩
          · skip
            refine e_ef (i := 9) rfl rfl (ef_alloc hm155 tZ30 rfl) (by decide) ?_ ?_
            · rintro _ w187 ⟨g185, rfl, hm186⟩
              intro _
              exact ⟨(hm186.get (k := 1) rfl), (hm186.get (k := 4) rfl)⟩
            rintro _ w187 ⟨g185, rfl, hm186⟩
            obtain ⟨l174, h188, q189⟩ := ob q173; clear q173
            refine s_ef (i := 7) rfl (by kernel_rfl) rfl (ef_make hm186 tS22 tE3 rfl rfl rfl h188) (by decide) ?_ ?_
            · intro v190 w192 hm191
              intro _
              exact ⟨(hm191.get (k := 2) rfl), (hm191.get (k := 5) rfl)⟩
            intro v190 w192 hm191
            refine s_rp (i := 8) rfl (by kernel_rfl) rfl (fun _ => (rd_build (cs := #[(Value.int .i64 x171), v190]) rfl (by obtain ⟨_, _, e⟩ := ((hm191.sl 0 rfl)).val; rw [e]; clear e; kernel_rfl))) ?_
            refine s_ef0 (i := 10) rfl (by kernel_rfl) (ef_stw (k := 1) hm191 tA30 rfl rfl (oc_cons rfl (oc_cons (sl_one (hm191.sl 0 rfl)) oc_nil)) rfl rfl rfl) (by decide) (fun _ _ _ q => absurd q (by decide)) ?_
            intro _ w194 hm193
            refine s_nil (by kernel_rfl) ?_
            obtain rfl := os q189
            exact ⟨rfl, v190, g185, (by repeat (first | exact Sub.nil _ | refine Sub.cons rfl ?_)), (hm193.pick [0, 1, 5, 6] (by decide) rfl)⟩
        · clear hit137
          intro e env195 w196 hX197
          obtain ⟨rfl, v135, g131, hs198, hm199⟩ := hX197
          refine qn_then ?_
          refine cw_sub hs198 ?_
          refine cw_seq ?_
          refine cw_region ?_
          refine t_rd rfl (rd_fld tF30_0 rfl) ?_
          refine t_rd rfl (rd_ld1 tO3 rfl (hm199.blk 1 rfl) (off := 0) rfl) ?_
          obtain ⟨x200, h201, q202⟩ := ob q138; clear q138
          refine t_rd rfl (rd_shl_i64 h201 rfl rfl) ?_
          refine t_rd rfl (rd_assign rfl) ?_
          refine rwt_nil ?_
          refine qn_then ?_
          refine cw_seq ?_
          refine cw_region ?_
          refine t_rd rfl (rd_assign rfl) ?_
          refine rwt_nil ?_
          refine qn_then ?_
          refine cw_seq ?_
          refine cw_seq ?_
          refine cw_region ?_
          refine t_rd rfl (rd_fld tF27_0 rfl) ?_
          refine t_rd rfl (rd_ld1 tO25 rfl (hm199.blk 2 rfl) (off := 0) rfl) ?_
          refine t_rd rfl (rd_lenS tS25 rfl (hm199.sl 3 rfl)) ?_
          refine t_rd rfl (rd_move rfl) ?_
          refine rwt_nil ?_
          refine qn_then ?_
          refine cw_block ?_
          obtain ⟨r230, hit231, q232⟩ := ob q202; clear q202
          refine cw_loop2 (I := fun q envq wq => Sub [(4, (Value.pointer (some ⟨g15, 0, none⟩))), (7, (Value.pointer (some ⟨g131, 0, none⟩))), (8, (Value.int .i64 x200)), (9, (Value.int .i64 q.1)), (69, (Value.int .i64 (List.length r8.2.1 : Int))), (70, (Value.int .i64 q.2))] envq ∧ Mem w No [ownL 3 v135 (j136.2 : List Int), blk g131 30 [(Value.int .i64 j136.1), v135], blk g15 27 [v11, (Value.int .i64 r8.2.2)], ownL 40 v11 (r8.2.1 : List T_Item)] wq) (X := fun eq envq wq => eq = .exit 0 ∧ Sub [(4, (Value.pointer (some ⟨g15, 0, none⟩))), (7, (Value.pointer (some ⟨g131, 0, none⟩))), (8, (Value.int .i64 x200)), (9, (Value.int .i64 r230))] envq ∧ Mem w No [ownL 3 v135 (j136.2 : List Int), blk g131 30 [(Value.int .i64 j136.1), v135], blk g15 27 [v11, (Value.int .i64 r8.2.2)], ownL 40 v11 (r8.2.1 : List T_Item)] wq) hit231 ⟨(by repeat (first | exact Sub.nil _ | refine Sub.cons rfl ?_)), (hm199.pick [0, 1, 2, 3] (by decide) rfl)⟩ ?_ ?_
          · rintro ⟨i222, i223⟩ x225 env226 w227 hf228 hr229 ⟨hs_, hm_⟩
            have hs_ : Sub [(4, (Value.pointer (some ⟨g15, 0, none⟩))), (7, (Value.pointer (some ⟨g131, 0, none⟩))), (8, (Value.int .i64 x200)), (9, (Value.int .i64 i222)), (69, (Value.int .i64 (List.length r8.2.1 : Int))), (70, (Value.int .i64 i223))] env226 := hs_
            have hm233 : Mem w No [ownL 3 v135 (j136.2 : List Int), blk g131 30 [(Value.int .i64 j136.1), v135], blk g15 27 [v11, (Value.int .i64 r8.2.2)], ownL 40 v11 (r8.2.1 : List T_Item)] w227 := hm_
            refine cw_sub hs_ ?_
            clear hs_ hm_ q232
            have h : humpyardtop_TopFewest_l1 N r8 x200 i222 i223 = some x225 := hf228
            clear hf228
            refine cw_seq ?_
            refine cw_region ?_
            refine t_rd rfl (rd_lss rfl rfl) ?_
            refine rwt_nil ?_
            refine qn_then ?_
            refine cw_seq ?_
            obtain ⟨hb234, q235⟩ | ⟨hb234, q235⟩ := oi h <;> clear h
            · refine cw_t rfl hb234 ?_
              refine cw_skip ?_
              refine qn_then ?_
              refine cw_seq ?_
              refine cw_block ?_
              refine cw_region ?_
              refine t_rd rfl (rd_move rfl) ?_
              refine t_rd rfl (rd_move rfl) ?_
              obtain ⟨x236, h237, q238⟩ := ob q235; clear q235
              refine t_rd rfl (rd_mul64 h237 rfl rfl) ?_
              refine t_rd rfl (rd_assign rfl) ?_
              refine rwt_nil ?_
              refine qn_block (qn_then ?_)
              refine cw_region ?_
              obtain ⟨x239, h240, q241⟩ := ob q238; clear q238
              refine t_rd rfl (rd_add64 h240 rfl rfl) ?_
              refine t_rd rfl (rd_move rfl) ?_
              refine rwt_nil ?_
              refine qn_then ?_
              refine ⟨_, (os q241), (by repeat (first | exact Sub.nil _ | refine Sub.cons rfl ?_)), (hm233.pick [0, 1, 2, 3] (by decide) rfl)⟩
            · refine cw_f rfl hb234 ?_
              refine cw_exit ?_
              refine qx_then (qx_then ?_)
              obtain rfl := hr229 _ (os q235)
              exact ⟨rfl, (by repeat (first | exact Sub.nil _ | refine Sub.cons rfl ?_)), (hm233.pick [0, 1, 2, 3] (by decide) rfl)⟩
          · skip
            intro e env242 w243 hX244
            obtain ⟨rfl, hs245, hm246⟩ := hX244
            refine qx_same (qn_then ?_)
            refine cw_sub hs245 ?_
            refine cw_seq ?_
            refine cw_seq ?_
            refine cw_region ?_
            refine t_rd rfl (rd_assign rfl) ?_
            refine rwt_nil ?_
            refine qn_then ?_
            refine cw_block ?_
            obtain ⟨r889, hit890, q891⟩ := ob q232; clear q232
            refine cw_loop2 (I := fun q envq wq => Sub [(4, (Value.pointer (some ⟨g15, 0, none⟩))), (7, (Value.pointer (some ⟨g131, 0, none⟩))), (8, (Value.int .i64 x200)), (9, (Value.int .i64 r230)), (10, (Value.int .i64 q.1))] envq ∧ Mem w No [ownL 3 v135 (q.2 : List Int), blk g131 30 [(Value.int .i64 j136.1), v135], blk g15 27 [v11, (Value.int .i64 r8.2.2)], ownL 40 v11 (r8.2.1 : List T_Item)] wq) (X := fun eq envq wq => (∃ p892, r889 = (Sum.inl p892) ∧ eq = .ret ∧ retQ Tryz.prog 132 Tryz.f3 (fun u w' => u = (Value.bool p892) ∧ Mem w No [] w') .ret envq wq) ∨ (∃ p893, r889 = (Sum.inr p893) ∧ eq = .exit 2 ∧ Sub [] envq ∧ Mem w No [] wq)) hit890 ⟨(by repeat (first | exact Sub.nil _ | refine Sub.cons rfl ?_)), (hm246.pick [0, 1, 2, 3] (by decide) rfl)⟩ ?_ ?_
            · rintro ⟨i881, l882⟩ x884 env885 w886 hf887 hr888 ⟨hs_, hm_⟩
              have hs_ : Sub [(4, (Value.pointer (some ⟨g15, 0, none⟩))), (7, (Value.pointer (some ⟨g131, 0, none⟩))), (8, (Value.int .i64 x200)), (9, (Value.int .i64 r230)), (10, (Value.int .i64 i881))] env885 := hs_
              have hm894 : Mem w No [ownL 3 v135 (l882 : List Int), blk g131 30 [(Value.int .i64 j136.1), v135], blk g15 27 [v11, (Value.int .i64 r8.2.2)], ownL 40 v11 (r8.2.1 : List T_Item)] w886 := hm_
              refine cw_sub hs_ ?_
              clear hs_ hm_ q891
              have h : humpyardtop_TopFewest_l4 N r8 j136 x200 r230 i881 l882 = some x884 := hf887
              clear hf887
              refine cw_seq ?_
              refine cw_seq ?_
              refine cw_region ?_
              refine t_rd rfl (rd_move rfl) ?_
              refine t_rd rfl (rd_move rfl) ?_
              refine t_rd rfl (rd_lss rfl rfl) ?_
              refine rwt_nil ?_
              refine qn_then ?_
              obtain ⟨hb895, q896⟩ | ⟨hb895, q896⟩ := oi h <;> clear h
              · refine cw_t rfl hb895 ?_
                refine cw_skip ?_
                refine qn_then ?_
                refine cw_seq ?_
                refine cw_block ?_
                refine cw_seq ?_
                refine cw_region ?_
                refine t_rd rfl (rd_move rfl) ?_
                refine t_rd rfl (rd_assign rfl) ?_
                refine rwt_nil ?_
                refine qn_then ?_
                refine cw_seq ?_
                refine cw_region ?_
                refine t_rd rfl (rd_assign rfl) ?_
                refine rwt_nil ?_
                refine qn_then ?_
                refine cw_seq ?_
                refine cw_seq ?_
                refine cw_region ?_
                refine t_rd rfl (rd_fld tF30_1 rfl) ?_
                refine t_rd rfl (rd_ld1 tO22 rfl (hm894.blk 1 rfl) (off := 1) rfl) ?_
                refine t_rd rfl (rd_lenS tS22 rfl (hm894.sl 0 rfl)) ?_
                refine t_rd rfl (rd_move rfl) ?_
                refine rwt_nil ?_
                refine qn_then ?_
                refine cw_block ?_
                obtain ⟨r1085, hit1086, q1087⟩ := ob q896; clear q896
                refine cw_loop2 (I := fun q envq wq => Sub [(4, (Value.pointer (some ⟨g15, 0, none⟩))), (7, (Value.pointer (some ⟨g131, 0, none⟩))), (8, (Value.int .i64 x200)), (9, (Value.int .i64 r230)), (10, (Value.int .i64 i881)), (11, (Value.int .i64 q.1)), (12, (Value.bool q.2.1)), (84, (Value.int .i64 (List.length l882 : Int))), (85, (Value.int .i64 q.2.2.1))] envq ∧ Mem w No [ownL 3 v135 (q.2.2.2 : List Int), blk g131 30 [(Value.int .i64 j136.1), v135], blk g15 27 [v11, (Value.int .i64 r8.2.2)], ownL 40 v11 (r8.2.1 : List T_Item)] wq) (X := fun eq envq wq => eq = .exit 4 ∧ Sub [(4, (Value.pointer (some ⟨g15, 0, none⟩))), (7, (Value.pointer (some ⟨g131, 0, none⟩))), (8, (Value.int .i64 x200)), (9, (Value.int .i64 r230)), (10, (Value.int .i64 i881)), (12, (Value.bool r1085.1))] envq ∧ Mem w No [ownL 3 v135 (r1085.2 : List Int), blk g131 30 [(Value.int .i64 j136.1), v135], blk g15 27 [v11, (Value.int .i64 r8.2.2)], ownL 40 v11 (r8.2.1 : List T_Item)] wq) hit1086 ⟨(by repeat (first | exact Sub.nil _ | refine Sub.cons rfl ?_)), (hm894.pick [0, 1, 2, 3] (by decide) rfl)⟩ ?_ ?_
                · rintro ⟨i1075, b1076, i1077, l1078⟩ x1080 env1081 w1082 hf1083 hr1084 ⟨hs_, hm_⟩
                  have hs_ : Sub [(4, (Value.pointer (some ⟨g15, 0, none⟩))), (7, (Value.pointer (some ⟨g131, 0, none⟩))), (8, (Value.int .i64 x200)), (9, (Value.int .i64 r230)), (10, (Value.int .i64 i881)), (11, (Value.int .i64 i1075)), (12, (Value.bool b1076)), (84, (Value.int .i64 (List.length l882 : Int))), (85, (Value.int .i64 i1077))] env1081 := hs_
                  have hm1088 : Mem w No [ownL 3 v135 (l1078 : List Int), blk g131 30 [(Value.int .i64 j136.1), v135], blk g15 27 [v11, (Value.int .i64 r8.2.2)], ownL 40 v11 (r8.2.1 : List T_Item)] w1082 := hm_
                  refine cw_sub hs_ ?_
                  clear hs_ hm_ q1087
                  have h : humpyardtop_TopFewest_l5 N r8 x200 l882 i1075 b1076 i1077 l1078 = some x1080 := hf1083
                  clear hf1083
                  refine cw_seq ?_
                  refine cw_region ?_
                  refine t_rd rfl (rd_lss rfl rfl) ?_
                  refine rwt_nil ?_
                  refine qn_then ?_
                  refine cw_seq ?_
                  obtain ⟨hb1089, q1090⟩ | ⟨hb1089, q1090⟩ := oi h <;> clear h
                  · refine cw_t rfl hb1089 ?_
                    refine cw_skip ?_
                    refine qn_then ?_
                    refine cw_seq ?_
                    refine cw_block ?_
                    refine cw_seq ?_
                    refine cw_region ?_
                    refine t_rd rfl (rd_move rfl) ?_
                    refine t_rd rfl (rd_assign rfl) ?_
                    refine rwt_nil ?_
                    refine qn_then ?_
                    refine cw_seq ?_
                    obtain ⟨w1100, he1102⟩ : ∃ q, q = w1082.drew := ⟨_, rfl⟩
                    have hm1101 := hm1088.drew; rw [← he1102] at hm1101
                    refine cw_region_s (fun q => q = w1100) (cls [] [7]) mixed ?_
                    rintro _ rfl; rw [← he1102]
                    refine s_rp (i := 0) rfl (by kernel_rfl) rfl (fun _ => (rd_fld tF30_1 rfl)) ?_
                    refine s_rd (i := 1) rfl (by kernel_rfl) rfl (fun _ hS => by rw [hS]; exact (rd_ld1 tO22 rfl (hm1101.blk 1 rfl) (off := 1) rfl)) rfl ?_
                    refine s_rp (i := 2) rfl (by kernel_rfl) rfl (fun _ => (rd_move rfl)) ?_
                    refine s_rp (i := 3) rfl (by kernel_rfl) rfl (fun _ => (rd_move rfl)) ?_
                    refine s_rp (i := 4) rfl (by kernel_rfl) rfl (fun _ => (rd_move rfl)) ?_
                    obtain ⟨x1103, h1104, q1105⟩ := ob q1090; clear q1090
                    refine s_rp (i := 5) rfl (by kernel_rfl) rfl (fun _ => (rd_rem64 h1104 rfl rfl)) ?_
                    obtain ⟨x1106, h1107, q1108⟩ := ob q1105; clear q1105
                    refine s_rp (i := 6) rfl (by kernel_rfl) rfl (fun _ => (rd_index tS22 rfl rfl (hm1101.sl 0 rfl) h1107)) ?_
                    refine s_ef0 (i := 7) rfl (by kernel_rfl) (ef_stl (k := 0) (off := 0) (x' := x1103) hm1101 tO3 rfl rfl rfl rfl h1107 rfl rfl) (by decide) (fun _ _ _ q => absurd q (by decide)) ?_
                    intro _ w1110 hm1109
                    refine s_nil (by kernel_rfl) ?_
                    refine qn_then ?_
                    refine cw_seq ?_
                    refine cw_region ?_
                    refine t_rd rfl (rd_move rfl) ?_
                    refine t_rd rfl (rd_move rfl) ?_
                    obtain ⟨x1111, h1112, q1113⟩ := ob q1108; clear q1108
                    refine t_rd rfl (rd_quo64 h1112 rfl rfl) ?_
                    refine t_rd rfl (rd_assign rfl) ?_
                    refine rwt_nil ?_
                    refine qn_then ?_
                    obtain ⟨w1142, he1144⟩ : ∃ q, q = w1110.drew := ⟨_, rfl⟩
                    have hm1143 := hm1109.drew; rw [← he1144] at hm1143
                    refine cw_region_s (fun q => q = w1142) (cls [] [15]) mixed ?_
                    rintro _ rfl; rw [← he1144]
                    refine s_rp (i := 0) rfl (by kernel_rfl) rfl (fun _ => (rd_move rfl)) ?_
                    refine s_rp (i := 1) rfl (by kernel_rfl) rfl (fun _ => (rd_move rfl)) ?_
                    refine s_rpg (i := 2) rfl (by kernel_rfl) rfl rfl rfl rfl (gv_t _) (fun hg1145 _ => (rd_fld tF30_1 rfl)) ?_
                    refine s_rdg (i := 3) rfl (by kernel_rfl) rfl rfl rfl rfl (gv_t _) (fun hg1146 => (fun _ hS => by rw [hS]; exact (rd_ld1 tO22 (gvx rfl hg1146) (hm1143.blk 1 rfl) (off := 1) rfl))) rfl ?_
                    refine s_rpg (i := 4) rfl (by kernel_rfl) rfl rfl rfl rfl (gv_t _) (fun hg1147 _ => (rd_move rfl)) ?_
                    obtain ⟨x1149, h1150, q1151⟩ := ob q1113; clear q1113
                    refine s_rpg (i := 5) rfl (by kernel_rfl) rfl rfl rfl rfl (gv_t _) (fun hg1148 _ => (rd_index tS22 (gvx rfl hg1148) (gvx rfl hg1148) (hm1143.sl 0 rfl) (gO_t h1150 hg1148))) ?_
                    refine s_rdg (i := 6) rfl (by kernel_rfl) rfl rfl rfl rfl (gv_t _) (fun hg1152 => (fun _ hS => by rw [hS]; exact (rd_ld1 tO3 (gvx rfl hg1152) ((hm1143.sl 0 rfl).cells (gO_t h1150 hg1152)) (off := 0) rfl))) rfl ?_
                    refine s_rpg (i := 7) rfl (by kernel_rfl) rfl rfl rfl rfl (gv_t _) (fun hg1153 _ => (rd_fld tF27_0 rfl)) ?_
                    refine s_rdg (i := 8) rfl (by kernel_rfl) rfl rfl rfl rfl (gv_t _) (fun hg1154 => (fun _ hS => by rw [hS]; exact (rd_ld1 tO25 (gvx rfl hg1154) (hm1143.blk 2 rfl) (off := 0) rfl))) rfl ?_
                    refine s_rpg (i := 9) rfl (by kernel_rfl) rfl rfl rfl rfl (gv_t _) (fun hg1155 _ => (rd_move rfl)) ?_
                    obtain ⟨x1157, h1158, q1159⟩ := ob q1151; clear q1151
                    refine s_rpg (i := 10) rfl (by kernel_rfl) rfl rfl rfl rfl (gv_t _) (fun hg1156 _ => (rd_index tS25 (gvx rfl hg1156) (gvx rfl hg1156) (hm1143.sl 3 rfl) (gO_t h1158 hg1156))) ?_
                    refine s_rpg (i := 11) rfl (by kernel_rfl) rfl rfl rfl rfl (gv_t _) (fun hg1160 _ => (rd_fld tF40_2 (gvx rfl hg1160))) ?_
                    refine s_rdg (i := 12) rfl (by kernel_rfl) rfl rfl rfl rfl (gv_t _) (fun hg1161 => (fun _ hS => by rw [hS]; exact (rd_ld1 tO3 (gvx rfl hg1161) ((hm1143.sl 3 rfl).cells (gO_t h1158 hg1161)) (off := 2) rfl))) rfl ?_
                    refine s_rpg (i := 13) rfl (by kernel_rfl) rfl rfl rfl rfl (gv_t _) (fun hg1162 _ => (rd_fld tF27_1 rfl)) ?_
                    refine s_rdg (i := 14) rfl (by kernel_rfl) rfl rfl rfl rfl (gv_t _) (fun hg1163 => (fun _ hS => by rw [hS]; exact (rd_ld1 tO3 (gvx rfl hg1163) (hm1143.blk 2 rfl) (off := 1) rfl))) rfl ?_
                    obtain ⟨r1165, h1166, q1167⟩ := ob q1159; clear q1159
                    refine s_efg (i := 15) rfl (by kernel_rfl) rfl rfl rfl rfl (R := (fun v w' => v = gV b1076 (Value.bool r1165) ∧ Mem w1142 No [] w')) (gv_t _) (fun hg1164 => (ef_call tf11 (evc (gvx rfl hg1164) (evc (gvx rfl hg1164) (evc (gvx rfl hg1164) evn))) (r12_Is_ok (gO_t h1166 hg1164))).mono (by rintro _ _ ⟨rfl, q⟩; exact ⟨(gV_t hg1164).symm, q⟩)) (fun q => ⟨(gV_f q).symm, Mem.nil _⟩) (by decide) (fun _ _ _ q => absurd q (by decide)) ?_
                    rintro _ w1169 ⟨rfl, hm1168⟩
                    have hm1170 := hm1143.call hm1168
                    refine s_rp (i := 16) rfl (by kernel_rfl) rfl (fun _ => (rd_and rfl (fun hc1171 => (gvx rfl hc1171)))) ?_
                    refine s_rp (i := 17) rfl (by kernel_rfl) rfl (fun _ => (rd_assign rfl)) ?_
                    refine s_nil (by kernel_rfl) ?_
                    refine qn_block (qn_then ?_)
                    refine cw_region ?_
                    obtain ⟨x1172, h1173, q1174⟩ := ob q1167; clear q1167
                    refine t_rd rfl (rd_add64 h1173 rfl rfl) ?_
                    refine t_rd rfl (rd_move rfl) ?_
                    refine rwt_nil ?_
                    refine qn_then ?_
                    refine ⟨_, (os q1174), (by repeat (first | exact Sub.nil _ | refine Sub.cons rfl ?_)), (hm1170.pick [0, 1, 2, 3] (by decide) rfl)⟩
                  · refine cw_f rfl hb1089 ?_
                    refine cw_exit ?_
                    refine qx_then (qx_then ?_)
                    obtain rfl := hr1084 _ (os q1090)
                    exact ⟨rfl, (by repeat (first | exact Sub.nil _ | refine Sub.cons rfl ?_)), (hm1088.pick [0, 1, 2, 3] (by decide) rfl)⟩
                · skip
                  intro e env1175 w1176 hX1177
                  obtain ⟨rfl, hs1178, hm1179⟩ := hX1177
                  refine qx_same (qn_then ?_)
                  refine cw_sub hs1178 ?_
                  refine cw_seq ?_
                  refine cw_seq ?_
                  refine cw_region ?_
                  refine t_rd rfl (rd_move rfl) ?_
                  refine t_rd rfl (rd_not rfl) ?_
                  refine rwt_nil ?_
                  refine qn_then ?_
                  obtain ⟨hb1180, q1181⟩ | ⟨hb1180, q1181⟩ := oi q1087 <;> clear q1087
                  · refine cw_t rfl hb1180 ?_
                    refine cw_exit ?_
                    refine qx_then (qx_same (qn_then ?_))
                    refine cw_region ?_
                    refine t_rd rfl (rd_move rfl) ?_
                    obtain ⟨x1182, h1183, q1184⟩ := ob q1181; clear q1181
                    refine t_rd rfl (rd_add64 h1183 rfl rfl) ?_
                    refine t_rd rfl (rd_assign rfl) ?_
                    refine rwt_nil ?_
                    refine qn_then ?_
                    refine ⟨_, (os q1184), (by repeat (first | exact Sub.nil _ | refine Sub.cons rfl ?_)), (hm1179.pick [0, 1, 2, 3] (by decide) rfl)⟩
                  · refine cw_f rfl hb1180 ?_
                    refine cw_skip ?_
                    refine qn_then ?_
                    refine cw_seq ?_
                    refine cw_region ?_
                    refine t_rd rfl (rd_ld tA27 rfl (hm1179.blk 2 rfl) rfl) ?_
                    refine t_rd rfl (rd_ld tA30 rfl (hm1179.blk 1 rfl) rfl) ?_
                    refine t_rd rfl (rd_fld tF30_0 rfl) ?_
                    refine t_rd rfl (rd_ld1 tO3 rfl (hm1179.blk 1 rfl) (off := 0) rfl) ?_
                    obtain ⟨r1185, h1186, q1187⟩ := ob q1181; clear q1181
                    refine t_ef rfl (ef_call tf12 rfl (r14_At_ok h1186 (hm1179.sl_call 3 rfl) (hm1179.sl_call 0 rfl))) ?_
                    rintro _ w1193 ⟨zs1189, v1188, zs1191, v1190, e_, hm1192⟩
                    obtain rfl := e_.symm
                    have hm1194 := hm1179.call hm1192
                    refine t_ef rfl (ef_alloc hm1194 tZ43 rfl) ?_
                    rintro _ w1197 ⟨g1195, rfl, hm1196⟩
                    refine t_ef0 (ef_stw (k := 0) hm1196 tA43 rfl rfl (oc_cons (sl_one ((Nl.mk (hm1196.sl_call 1 rfl) (hm1196.rows_call 2 rfl)).sl)) (oc_cons (sl_one ((Nl.mk (hm1196.sl_call 3 rfl) (hm1196.rows_call 4 rfl)).sl)) (oc_cons rfl (oc_cons rfl oc_nil)))) rfl rfl rfl) ?_
                    intro _ w1199 hm1198
                    refine rwt_nil ?_
                    refine qn_then ?_
                    refine cw_seq ?_
                    refine cw_region ?_
                    refine t_rd rfl (rd_ld tA27 rfl (hm1198.blk 7 rfl) rfl) ?_
                    refine t_rd rfl (rd_fld tF43_1 rfl) ?_
                    refine t_rd rfl (rd_ld1 tO41 rfl (hm1198.blk 0 rfl) (off := 1) rfl) ?_
                    obtain ⟨r1200, h1201, q1202⟩ := ob q1187; clear q1187
                    refine t_ef rfl (ef_call tf13 rfl (r11_Sorted_ok h1201 (hm1198.sl_call 8 rfl) ((Nl.mk (hm1198.sl_call 3 rfl) (hm1198.rows_call 4 rfl)).sl))) ?_
                    rintro _ w1204 ⟨e_, hm1203⟩
                    obtain rfl := e_.symm
                    have hm1205 := hm1198.call hm1203
                    refine t_rd rfl (rd_move rfl) ?_
                    refine t_rd rfl (rd_extract rfl rfl) ?_
                    refine t_rd rfl (rd_extract rfl rfl) ?_
                    refine t_rd rfl (rd_assign rfl) ?_
                    refine t_rd rfl (rd_assign rfl) ?_
                    refine rwt_nil ?_
                    refine qn_then ?_
                    refine cw_seq ?_
                    refine cw_region ?_
                    refine t_rd rfl (rd_move rfl) ?_
                    refine rwt_nil ?_
                    refine qn_then ?_
                    obtain ⟨hb1206, q1207⟩ | ⟨hb1206, q1207⟩ := oi q1202 <;> clear q1202
                    · refine cw_t rfl hb1206 ?_
                      refine cw_seq ?_
                      refine cw_region ?_
                      refine t_rd rfl (rd_assign rfl) ?_
                      refine rwt_nil ?_
                      refine qn_then ?_
                      refine cw_ret ?_
                      refine qr_block (qr_then (qr_then ?_))
                      obtain rfl := hr888 _ (os q1207)
                      refine .inl (⟨_, rfl, ⟨rfl, ?_⟩⟩)
                      exact ret1 rfl rfl ⟨rfl, (hm1205.pick [] (by decide) rfl)⟩
                    · refine cw_f rfl hb1206 ?_
                      refine cw_skip ?_
                      refine qn_block (qn_then ?_)
                      refine cw_region ?_
                      refine t_rd rfl (rd_move rfl) ?_
                      obtain ⟨x1208, h1209, q1210⟩ := ob q1207; clear q1207
                      refine t_rd rfl (rd_add64 h1209 rfl rfl) ?_
                      refine t_rd rfl (rd_assign rfl) ?_
                      refine rwt_nil ?_
                      refine qn_then ?_
                      refine ⟨_, (os q1210), (by repeat (first | exact Sub.nil _ | refine Sub.cons rfl ?_)), (hm1205.pick [5, 6, 7, 8] (by decide) rfl)⟩
              · refine cw_f rfl hb895 ?_
                refine cw_exit ?_
                refine qx_then (qx_then ?_)
                obtain rfl := hr888 _ (os q896)
                exact .inr (⟨_, rfl, ⟨rfl, (by repeat (first | exact Sub.nil _ | refine Sub.cons rfl ?_)), (hm894.pick [] (by decide) rfl)⟩⟩)
            · skip
              intro e env1211 w1212 hX1213
              rcases hX1213 with hX1213 | hX1213
              · obtain ⟨p1215, rfl, hX1213⟩ := hX1213
                obtain ⟨rfl, hq1217⟩ := hX1213
                exact qr_block (qr_then ((by have e := os q891; subst e; exact hq1217)))
              · obtain ⟨p1218, rfl, hX1213⟩ := hX1213
                obtain ⟨rfl, hs1219, hm1220⟩ := hX1213
                refine qx_same (qn_then ?_)
                refine cw_sub hs1219 ?_
                refine cw_seq ?_
                refine cw_region ?_
                obtain ⟨r1221, h1222, q1223⟩ := ob q891; clear q891
                refine t_ef rfl (ef_call tf9 rfl (humpyardtop_awake_ok h1222)) ?_
                rintro _ w1225 ⟨e_, hm1224⟩
                obtain rfl := e_.symm
                have hm1226 := hm1220.call hm1224
                refine t_rd rfl (rd_assign rfl) ?_
                refine rwt_nil ?_
                refine qn_then ?_
                refine cw_ret ?_
                obtain rfl := os q1223
                exact ret1 rfl rfl ⟨rfl, (hm1226.pick [] (by decide) rfl)⟩

end Go.Proofs.YtlpkbkbjohhleaaGreat
