/- Each call computes what its mirror does; written by a program of mine (gowalk.py). -/
import Derived.Test.YtcfihcaidbcmhaaTy
namespace Go.Proofs.Ytcfihcaidbcmhaa
open Go.Gv Go.RowKit
set_option linter.unusedVariables false
set_option maxRecDepth 100000

theorem yardgen_Place_ok {N : Nat} {a0 : Int} {a1 : Int} {res : Int} (h : yardgen_Place N a0 a1 = some res) {w : World}   :
    CallsR Try.prog 7 [(Value.int .i64 a0), (Value.int .i64 a1)] w (fun u w' => u = (Value.int .i64 res) ∧ Mem w No [] w') := by
  unfold yardgen_Place at h
  refine fn_ok Try.func7 rfl rfl rfl ?_
  have hm0 := Mem.nil w
  refine cw_seq ?_
  refine cw_region ?_
  refine t_rd rfl (rd_assign rfl) ?_
  refine rwt_nil ?_
  refine qn_then ?_
  refine cw_seq ?_
  refine cw_seq ?_
  refine cw_region ?_
  refine t_rd rfl (rd_move rfl) ?_
  refine t_rd rfl (rd_lss rfl rfl) ?_
  refine rwt_nil ?_
  refine qn_then ?_
  obtain ⟨hb1, q2⟩ | ⟨hb1, q2⟩ := oi h <;> clear h
  · refine cw_t rfl hb1 ?_
    refine cw_seq ?_
    refine cw_region ?_
    refine t_rd rfl (rd_assign rfl) ?_
    refine rwt_nil ?_
    refine qn_then ?_
    refine cw_ret ?_
    refine qr_then ?_
    obtain rfl := os q2
    exact ret1 rfl rfl ⟨rfl, (hm0.pick [] (by decide) rfl)⟩
  · refine cw_f rfl hb1 ?_
    refine cw_skip ?_
    refine qn_then ?_
    refine cw_seq ?_
    refine cw_region ?_
    refine t_rd rfl (rd_move rfl) ?_
    refine t_rd rfl (rd_move rfl) ?_
    obtain ⟨x3, h4, q5⟩ := ob q2; clear q2
    refine t_rd rfl (rd_rem64 h4 rfl rfl) ?_
    refine t_rd rfl (rd_assign rfl) ?_
    refine rwt_nil ?_
    refine qn_then ?_
    refine cw_seq ?_
    refine cw_seq ?_
    refine cw_region ?_
    refine t_rd rfl (rd_move rfl) ?_
    refine t_rd rfl (rd_lss rfl rfl) ?_
    refine rwt_nil ?_
    refine qn_then ?_
    obtain ⟨hb6, q7⟩ | ⟨hb6, q7⟩ := oi q5 <;> clear q5
    · refine cw_t rfl hb6 ?_
      refine cw_region ?_
      refine t_rd rfl (rd_move rfl) ?_
      refine t_rd rfl (rd_move rfl) ?_
      obtain ⟨x8, h9, q10⟩ := ob q7; clear q7
      refine t_rd rfl (rd_add64 h9 rfl rfl) ?_
      refine t_rd rfl (rd_assign rfl) ?_
      refine rwt_nil ?_
      refine qn_then ?_
      refine cw_seq ?_
      refine cw_region ?_
      refine t_rd rfl (rd_move rfl) ?_
      refine t_rd rfl (rd_assign rfl) ?_
      refine rwt_nil ?_
      refine qn_then ?_
      refine cw_ret ?_
      obtain rfl := os q10
      exact ret1 rfl rfl ⟨rfl, (hm0.pick [] (by decide) rfl)⟩
    · refine cw_f rfl hb6 ?_
      refine cw_skip ?_
      refine qn_then ?_
      refine cw_seq ?_
      refine cw_region ?_
      refine t_rd rfl (rd_move rfl) ?_
      refine t_rd rfl (rd_assign rfl) ?_
      refine rwt_nil ?_
      refine qn_then ?_
      refine cw_ret ?_
      obtain rfl := os q7
      exact ret1 rfl rfl ⟨rfl, (hm0.pick [] (by decide) rfl)⟩

theorem pointmachine_lies_ok {N : Nat} {a0 : Int} {res : Bool} (h : pointmachine_lies N a0 = some res) {w : World}   :
    CallsR Try.prog 19 [(Value.int .i64 a0)] w (fun u w' => u = (Value.bool res) ∧ Mem w No [] w') := by
  unfold pointmachine_lies at h
  refine fn_ok Try.func19 rfl rfl rfl ?_
  have hm0 := Mem.nil w
  refine cw_seq ?_
  refine cw_region ?_
  refine t_rd rfl (rd_assign rfl) ?_
  refine rwt_nil ?_
  refine qn_then ?_
  refine cw_seq ?_
  refine cw_region ?_
  refine t_rd rfl (rd_move rfl) ?_
  refine t_rd rfl (rd_eql rfl rfl) ?_
  refine t_rd rfl (rd_move rfl) ?_
  refine t_rdg rfl rfl rfl rfl (gv_f _) (fun hg1 => (rd_move rfl)) ?_
  refine t_rdg rfl rfl rfl rfl (gv_f _) (fun hg2 => (rd_eql (gvx rfl hg2) rfl)) ?_
  refine t_rd rfl (rd_or rfl (fun hc3 => (gvx rfl (bnotIt hc3)))) ?_
  refine t_rd rfl (rd_assign rfl) ?_
  refine rwt_nil ?_
  refine qn_then ?_
  refine cw_ret ?_
  obtain rfl := os h
  exact ret1 rfl rfl ⟨rfl, (hm0.pick [] (by decide) rfl)⟩

theorem pointmachine_time_ok {N : Nat} {a0 : Int} {res : Bool} (h : pointmachine_time N a0 = some res) {w : World}   :
    CallsR Try.prog 20 [(Value.int .i64 a0)] w (fun u w' => u = (Value.bool res) ∧ Mem w No [] w') := by
  unfold pointmachine_time at h
  refine fn_ok Try.func20 rfl rfl rfl ?_
  have hm0 := Mem.nil w
  refine cw_seq ?_
  refine cw_region ?_
  refine t_rd rfl (rd_assign rfl) ?_
  refine rwt_nil ?_
  refine qn_then ?_
  refine cw_seq ?_
  refine cw_region ?_
  refine t_rd rfl (rd_move rfl) ?_
  refine t_rd rfl (rd_geq rfl rfl) ?_
  refine t_rd rfl (rd_move rfl) ?_
  refine t_rdg rfl rfl rfl rfl (gv_t _) (fun hg1 => (rd_move rfl)) ?_
  refine t_rdg rfl rfl rfl rfl (gv_t _) (fun hg2 => (rd_leq (gvx rfl hg2) rfl)) ?_
  refine t_rd rfl (rd_and rfl (fun hc3 => (gvx rfl hc3))) ?_
  refine t_rd rfl (rd_assign rfl) ?_
  refine rwt_nil ?_
  refine qn_then ?_
  refine cw_ret ?_
  obtain rfl := os h
  exact ret1 rfl rfl ⟨rfl, (hm0.pick [] (by decide) rfl)⟩

theorem pointmachine_Valid_ok {N : Nat} {a0 : T_Machine} {res : Bool} (h : pointmachine_Valid N a0 = some res) {w : World}   :
    CallsR Try.prog 11 [(Value.agg (Flat.enc a0).toArray)] w (fun u w' => u = (Value.bool res) ∧ Mem w No [] w') := by
  unfold pointmachine_Valid at h
  refine fn_ok Try.func11 rfl rfl rfl ?_
  have hm0 := Mem.nil w
  refine cw_seq ?_
  refine cw_region ?_
  refine t_ef rfl (ef_box hm0 rfl rfl) ?_
  rintro _ w3 ⟨g1, rfl, hm2⟩
  refine t_rd rfl (rd_assign rfl) ?_
  refine rwt_nil ?_
  refine qn_then ?_
  refine cw_seq ?_
  refine cw_region ?_
  refine t_rd rfl (rd_fld tF24_0 rfl) ?_
  refine t_rd rfl (rd_ld1 tO3 rfl (hm2.blk 0 rfl) (off := 0) rfl) ?_
  obtain ⟨r4, h5, q6⟩ := ob h; clear h
  refine t_ef rfl (ef_call tf19 rfl (pointmachine_lies_ok h5)) ?_
  rintro _ w8 ⟨rfl, hm7⟩
  have hm9 := hm2.call hm7
  refine t_rd rfl (rd_move rfl) ?_
  refine t_rdg rfl rfl rfl rfl (gv_t _) (fun hg10 => (rd_fld tF24_1 rfl)) ?_
  refine t_rdg rfl rfl rfl rfl (gv_t _) (fun hg11 => (rd_ld1 tO3 (gvx rfl hg11) (hm9.blk 0 rfl) (off := 1) rfl)) ?_
  obtain ⟨r13, h14, q15⟩ := ob q6; clear q6
  refine t_efg rfl rfl rfl rfl (R := (fun v w' => v = gV r4 (Value.bool r13) ∧ Mem w8 No [] w')) (gv_t _) (fun hg12 => (ef_call tf20 (evc (gvx rfl hg12) evn) (pointmachine_time_ok (gO_t h14 hg12))).mono (by rintro _ _ ⟨rfl, q⟩; exact ⟨(gV_t hg12).symm, q⟩)) (fun q => ⟨(gV_f q).symm, Mem.nil _⟩) ?_
  rintro _ w17 ⟨rfl, hm16⟩
  have hm18 := hm9.call hm16
  refine t_rd rfl (rd_and rfl (fun hc19 => (gvx rfl hc19))) ?_
  refine t_rd rfl (rd_move rfl) ?_
  refine t_rdg rfl rfl rfl rfl (gv_t _) (fun hg20 => (rd_fld tF24_2 rfl)) ?_
  refine t_rdg rfl rfl rfl rfl (gv_t _) (fun hg21 => (rd_ld1 tO3 (gvx rfl hg21) (hm18.blk 0 rfl) (off := 2) rfl)) ?_
  refine t_rdg rfl rfl rfl rfl (gv_t _) (fun hg22 => (rd_geq (gvx rfl hg22) rfl)) ?_
  refine t_rd rfl (rd_and rfl (fun hc23 => (gvx rfl hc23))) ?_
  refine t_rd rfl (rd_move rfl) ?_
  refine t_rdg rfl rfl rfl rfl (gv_t _) (fun hg24 => (rd_fld tF24_2 rfl)) ?_
  refine t_rdg rfl rfl rfl rfl (gv_t _) (fun hg25 => (rd_ld1 tO3 (gvx rfl hg25) (hm18.blk 0 rfl) (off := 2) rfl)) ?_
  refine t_rdg rfl rfl rfl rfl (gv_t _) (fun hg26 => (rd_leq (gvx rfl hg26) rfl)) ?_
  refine t_rd rfl (rd_and rfl (fun hc27 => (gvx rfl hc27))) ?_
  refine t_rd rfl (rd_assign rfl) ?_
  refine rwt_nil ?_
  refine qn_then ?_
  refine cw_ret ?_
  obtain rfl := os q15
  exact ret1 rfl rfl ⟨rfl, (hm18.pick [] (by decide) rfl)⟩

theorem pointmachine_Throw_ok {N : Nat} {a0 : T_Machine} {a1 : Int} {a2 : Int} {a3 : Int} {res : T_Machine × Int} (h : pointmachine_Throw N a0 a1 a2 a3 = some res) {w : World}   :
    CallsR Try.prog 8 [(Value.agg (Flat.enc a0).toArray), (Value.int .i64 a1), (Value.int .i64 a2), (Value.int .i64 a3)] w (fun u w' => u = (Value.tuple #[(Value.agg (Flat.enc res.1).toArray), (Value.int .i64 res.2)]) ∧ Mem w No [] w') := by
  unfold pointmachine_Throw at h
  refine fn_ok Try.func8 rfl rfl rfl ?_
  have hm0 := Mem.nil w
  refine cw_seq ?_
  refine cw_region ?_
  refine t_ef rfl (ef_box hm0 rfl rfl) ?_
  rintro _ w3 ⟨g1, rfl, hm2⟩
  refine t_ef rfl (ef_alloc hm2 tZ24 rfl) ?_
  rintro _ w6 ⟨g4, rfl, hm5⟩
  refine t_rd rfl (rd_assign rfl) ?_
  refine rwt_nil ?_
  refine qn_then ?_
  refine cw_seq ?_
  refine cw_block ?_
  refine cw_seq ?_
  refine cw_region ?_
  refine t_rd rfl (rd_ld tA24 rfl (hm5.blk 1 rfl) rfl) ?_
  obtain ⟨r7, h8, q9⟩ := ob h; clear h
  refine t_ef rfl (ef_call tf11 rfl (pointmachine_Valid_ok h8)) ?_
  rintro _ w11 ⟨rfl, hm10⟩
  have hm12 := hm5.call hm10
  refine t_rd rfl (rd_not rfl) ?_
  refine t_rd rfl (rd_move rfl) ?_
  refine t_rdg rfl rfl rfl rfl (gv_f _) (fun hg13 => (rd_move rfl)) ?_
  obtain ⟨r15, h16, q17⟩ := ob q9; clear q9
  refine t_efg rfl rfl rfl rfl (R := (fun v w' => v = gV (!(!r7)) (Value.bool r15) ∧ Mem w11 No [] w')) (gv_f _) (fun hg14 => (ef_call tf19 (evc (gvx rfl hg14) evn) (pointmachine_lies_ok (gO_t h16 hg14))).mono (by rintro _ _ ⟨rfl, q⟩; exact ⟨(gV_t hg14).symm, q⟩)) (fun q => ⟨(gV_f q).symm, Mem.nil _⟩) ?_
  rintro _ w19 ⟨rfl, hm18⟩
  have hm20 := hm12.call hm18
  refine t_rdg rfl rfl rfl rfl (gv_f _) (fun hg21 => (rd_not (gvx rfl hg21))) ?_
  refine t_rd rfl (rd_or rfl (fun hc22 => (gvx rfl (bnotIt hc22)))) ?_
  refine t_rd rfl (rd_move rfl) ?_
  refine t_rdg rfl rfl rfl rfl (gv_f _) (fun hg23 => (rd_move rfl)) ?_
  obtain ⟨r25, h26, q27⟩ := ob q17; clear q17
  refine t_efg rfl rfl rfl rfl (R := (fun v w' => v = gV (!((!r7) || (!r15))) (Value.bool r25) ∧ Mem w19 No [] w')) (gv_f _) (fun hg24 => (ef_call tf20 (evc (gvx rfl hg24) evn) (pointmachine_time_ok (gO_t h26 hg24))).mono (by rintro _ _ ⟨rfl, q⟩; exact ⟨(gV_t hg24).symm, q⟩)) (fun q => ⟨(gV_f q).symm, Mem.nil _⟩) ?_
  rintro _ w29 ⟨rfl, hm28⟩
  have hm30 := hm20.call hm28
  refine t_rdg rfl rfl rfl rfl (gv_f _) (fun hg31 => (rd_not (gvx rfl hg31))) ?_
  refine t_rd rfl (rd_or rfl (fun hc32 => (gvx rfl (bnotIt hc32)))) ?_
  refine t_rd rfl (rd_move rfl) ?_
  refine t_rdg rfl rfl rfl rfl (gv_f _) (fun hg33 => (rd_move rfl)) ?_
  obtain ⟨r35, h36, q37⟩ := ob q27; clear q27
  refine t_efg rfl rfl rfl rfl (R := (fun v w' => v = gV (!(((!r7) || (!r15)) || (!r25))) (Value.bool r35) ∧ Mem w29 No [] w')) (gv_f _) (fun hg34 => (ef_call tf20 (evc (gvx rfl hg34) evn) (pointmachine_time_ok (gO_t h36 hg34))).mono (by rintro _ _ ⟨rfl, q⟩; exact ⟨(gV_t hg34).symm, q⟩)) (fun q => ⟨(gV_f q).symm, Mem.nil _⟩) ?_
  rintro _ w39 ⟨rfl, hm38⟩
  have hm40 := hm30.call hm38
  refine t_rdg rfl rfl rfl rfl (gv_f _) (fun hg41 => (rd_not (gvx rfl hg41))) ?_
  refine t_rd rfl (rd_or rfl (fun hc42 => (gvx rfl (bnotIt hc42)))) ?_
  refine t_rd rfl (rd_assign rfl) ?_
  refine rwt_nil ?_
  refine qn_then ?_
  obtain ⟨hb43, q44⟩ | ⟨hb43, q44⟩ := oi q37 <;> clear q37
  · refine cw_t rfl hb43 ?_
    refine cw_seq ?_
    refine cw_region ?_
    refine t_rd rfl (rd_build (cs := #[(Value.int .i64 0), (Value.int .i64 0), (Value.int .i64 0), (Value.bool false)]) rfl (by kernel_rfl)) ?_
    refine t_ef0 (ef_stw (k := 0) hm40 tA24 rfl rfl (oc_cons rfl (oc_cons rfl (oc_cons rfl (oc_cons rfl oc_nil)))) rfl rfl rfl) ?_
    intro _ w46 hm45
    refine t_rd rfl (rd_assign rfl) ?_
    refine rwt_nil ?_
    refine qn_then ?_
    refine cw_ret ?_
    refine qr_block (qr_then ?_)
    obtain rfl := os q44
    exact retLn (rs := [.cell 8 24, .tmp 9]) rfl (.rc rfl tA24 (hm45.blk 0 rfl) rfl (.rt rfl .rn)) rfl ⟨rfl, (hm45.pick [] (by decide) rfl)⟩
  · refine cw_f rfl hb43 ?_
    refine cw_seq ?_
    refine cw_region ?_
    refine t_rd rfl (rd_fld tF24_3 rfl) ?_
    refine t_rd rfl (rd_ld1 tO4 rfl (hm40.blk 1 rfl) (off := 3) rfl) ?_
    refine t_rd rfl (rd_assign rfl) ?_
    refine rwt_nil ?_
    refine qn_then ?_
    obtain ⟨hb47, q48⟩ | ⟨hb47, q48⟩ := oi q44 <;> clear q44
    · refine cw_t rfl hb47 ?_
      refine cw_seq ?_
      refine cw_region ?_
      refine t_rd rfl (rd_build (cs := #[(Value.int .i64 0), (Value.int .i64 0), (Value.int .i64 0), (Value.bool false)]) rfl (by kernel_rfl)) ?_
      refine t_ef0 (ef_stw (k := 0) hm40 tA24 rfl rfl (oc_cons rfl (oc_cons rfl (oc_cons rfl (oc_cons rfl oc_nil)))) rfl rfl rfl) ?_
      intro _ w50 hm49
      refine t_rd rfl (rd_assign rfl) ?_
      refine rwt_nil ?_
      refine qn_then ?_
      refine cw_ret ?_
      refine qr_block (qr_then ?_)
      obtain rfl := os q48
      exact retLn (rs := [.cell 8 24, .tmp 9]) rfl (.rc rfl tA24 (hm49.blk 0 rfl) rfl (.rt rfl .rn)) rfl ⟨rfl, (hm49.pick [] (by decide) rfl)⟩
    · refine cw_f rfl hb47 ?_
      refine cw_seq ?_
      refine cw_region ?_
      refine t_rd rfl (rd_fld tF24_2 rfl) ?_
      refine t_rd rfl (rd_ld1 tO3 rfl (hm40.blk 1 rfl) (off := 2) rfl) ?_
      refine t_rd rfl (rd_neq rfl rfl) ?_
      refine t_rd rfl (rd_move rfl) ?_
      refine t_rdg rfl rfl rfl rfl (gv_f _) (fun hg51 => (rd_fld tF24_1 rfl)) ?_
      refine t_rdg rfl rfl rfl rfl (gv_f _) (fun hg52 => (rd_ld1 tO3 (gvx rfl hg52) (hm40.blk 1 rfl) (off := 1) rfl)) ?_
      refine t_rdg rfl rfl rfl rfl (gv_f _) (fun hg53 => (rd_move rfl)) ?_
      refine t_rdg rfl rfl rfl rfl (gv_f _) (fun hg54 => (rd_gtr (gvx rfl hg54) (gvx rfl hg54))) ?_
      refine t_rd rfl (rd_or rfl (fun hc55 => (gvx rfl (bnotIt hc55)))) ?_
      refine t_rd rfl (rd_assign rfl) ?_
      refine rwt_nil ?_
      refine qn_then ?_
      obtain ⟨hb56, q57⟩ | ⟨hb56, q57⟩ := oi q48 <;> clear q48
      · refine cw_t rfl hb56 ?_
        refine cw_seq ?_
        refine cw_region ?_
        refine t_rd rfl (rd_build (cs := #[(Value.int .i64 0), (Value.int .i64 0), (Value.int .i64 0), (Value.bool false)]) rfl (by kernel_rfl)) ?_
        refine t_ef0 (ef_stw (k := 0) hm40 tA24 rfl rfl (oc_cons rfl (oc_cons rfl (oc_cons rfl (oc_cons rfl oc_nil)))) rfl rfl rfl) ?_
        intro _ w59 hm58
        refine t_rd rfl (rd_assign rfl) ?_
        refine rwt_nil ?_
        refine qn_then ?_
        refine cw_ret ?_
        refine qr_block (qr_then ?_)
        obtain rfl := os q57
        exact retLn (rs := [.cell 8 24, .tmp 9]) rfl (.rc rfl tA24 (hm58.blk 0 rfl) rfl (.rt rfl .rn)) rfl ⟨rfl, (hm58.pick [] (by decide) rfl)⟩
      · refine cw_f rfl hb56 ?_
        refine cw_seq ?_
        refine cw_region ?_
        refine t_rd rfl (rd_fld tF24_0 rfl) ?_
        refine t_rd rfl (rd_ld1 tO3 rfl (hm40.blk 1 rfl) (off := 0) rfl) ?_
        refine t_rd rfl (rd_move rfl) ?_
        refine t_rd rfl (rd_eql rfl rfl) ?_
        refine t_rd rfl (rd_assign rfl) ?_
        refine rwt_nil ?_
        refine qn_then ?_
        obtain ⟨hb60, q61⟩ | ⟨hb60, q61⟩ := oi q57 <;> clear q57
        · refine cw_t rfl hb60 ?_
          refine cw_seq ?_
          refine cw_region ?_
          refine t_rd rfl (rd_ld tA24 rfl (hm40.blk 1 rfl) rfl) ?_
          refine t_ef0 (ef_stw (k := 0) hm40 tA24 rfl rfl (oc_cons rfl (oc_cons rfl (oc_cons rfl (oc_cons rfl oc_nil)))) rfl rfl rfl) ?_
          intro _ w63 hm62
          refine t_rd rfl (rd_assign rfl) ?_
          refine rwt_nil ?_
          refine qn_then ?_
          refine cw_ret ?_
          refine qr_block (qr_then ?_)
          obtain rfl := os q61
          exact retLn (rs := [.cell 8 24, .tmp 9]) rfl (.rc rfl tA24 (hm62.blk 0 rfl) rfl (.rt rfl .rn)) rfl ⟨rfl, (hm62.pick [] (by decide) rfl)⟩
        · refine cw_f rfl hb60 ?_
          refine cw_seq ?_
          refine cw_region ?_
          refine t_rd rfl (rd_move rfl) ?_
          refine t_rd rfl (rd_move rfl) ?_
          obtain ⟨x64, h65, q66⟩ := ob q61; clear q61
          refine t_rd rfl (rd_add64 h65 rfl rfl) ?_
          refine t_rd rfl (rd_gtr rfl rfl) ?_
          refine t_rd rfl (rd_assign rfl) ?_
          refine rwt_nil ?_
          refine qn_then ?_
          obtain ⟨hb67, q68⟩ | ⟨hb67, q68⟩ := oi q66 <;> clear q66
          · refine cw_t rfl hb67 ?_
            refine cw_seq ?_
            refine cw_region ?_
            refine t_rd rfl (rd_build (cs := #[(Value.int .i64 0), (Value.int .i64 0), (Value.int .i64 0), (Value.bool false)]) rfl (by kernel_rfl)) ?_
            refine t_ef0 (ef_stw (k := 0) hm40 tA24 rfl rfl (oc_cons rfl (oc_cons rfl (oc_cons rfl (oc_cons rfl oc_nil)))) rfl rfl rfl) ?_
            intro _ w70 hm69
            refine t_rd rfl (rd_assign rfl) ?_
            refine rwt_nil ?_
            refine qn_then ?_
            refine cw_ret ?_
            refine qr_block (qr_then ?_)
            obtain rfl := os q68
            exact retLn (rs := [.cell 8 24, .tmp 9]) rfl (.rc rfl tA24 (hm69.blk 0 rfl) rfl (.rt rfl .rn)) rfl ⟨rfl, (hm69.pick [] (by decide) rfl)⟩
          · refine cw_f rfl hb67 ?_
            refine cw_skip ?_
            refine qn_block (qn_then ?_)
            refine cw_seq ?_
            refine cw_region ?_
            refine t_rd rfl (rd_move rfl) ?_
            refine t_rd rfl (rd_move rfl) ?_
            refine t_rd rfl (rd_move rfl) ?_
            obtain ⟨x71, h72, q73⟩ := ob q68; clear q68
            refine t_rd rfl (rd_add64 h72 rfl rfl) ?_
            refine t_rd rfl (rd_fld tF24_0 rfl) ?_
            refine t_ef0 (ef_st1 (k := 1) (off := 0) hm40 tO3 rfl rfl rfl rfl rfl rfl) ?_
            intro _ w75 hm74
            refine t_rd rfl (rd_fld tF24_1 rfl) ?_
            refine t_ef0 (ef_st1 (k := 1) (off := 1) hm74 tO3 rfl rfl rfl rfl rfl rfl) ?_
            intro _ w77 hm76
            refine rwt_nil ?_
            refine qn_then ?_
            refine cw_seq ?_
            refine cw_region ?_
            refine t_rd rfl (rd_ld tA24 rfl (hm76.blk 1 rfl) rfl) ?_
            refine t_ef0 (ef_stw (k := 0) hm76 tA24 rfl rfl (oc_cons rfl (oc_cons rfl (oc_cons rfl (oc_cons rfl oc_nil)))) rfl rfl rfl) ?_
            intro _ w79 hm78
            refine t_rd rfl (rd_assign rfl) ?_
            refine rwt_nil ?_
            refine qn_then ?_
            refine cw_ret ?_
            obtain rfl := os q73
            exact retLn (rs := [.cell 8 24, .tmp 9]) rfl (.rc rfl tA24 (hm78.blk 0 rfl) rfl (.rt rfl .rn)) rfl ⟨rfl, (hm78.pick [] (by decide) rfl)⟩

theorem pointmachine_Enter_ok {N : Nat} {a0 : T_Machine} {a1 : Int} {res : T_Machine × Int × Int} (h : pointmachine_Enter N a0 a1 = some res) {w : World}   :
    CallsR Try.prog 9 [(Value.agg (Flat.enc a0).toArray), (Value.int .i64 a1)] w (fun u w' => u = (Value.tuple #[(Value.agg (Flat.enc res.1).toArray), (Value.int .i64 res.2.1), (Value.int .i64 res.2.2)]) ∧ Mem w No [] w') := by
  unfold pointmachine_Enter at h
  refine fn_ok Try.func9 rfl rfl rfl ?_
  have hm0 := Mem.nil w
  refine cw_seq ?_
  refine cw_region ?_
  refine t_ef rfl (ef_box hm0 rfl rfl) ?_
  rintro _ w3 ⟨g1, rfl, hm2⟩
  refine t_ef rfl (ef_alloc hm2 tZ24 rfl) ?_
  rintro _ w6 ⟨g4, rfl, hm5⟩
  refine t_rd rfl (rd_assign rfl) ?_
  refine t_rd rfl (rd_assign rfl) ?_
  refine rwt_nil ?_
  refine qn_then ?_
  refine cw_seq ?_
  refine cw_seq ?_
  refine cw_region ?_
  refine t_rd rfl (rd_ld tA24 rfl (hm5.blk 1 rfl) rfl) ?_
  obtain ⟨r7, h8, q9⟩ := ob h; clear h
  refine t_ef rfl (ef_call tf11 rfl (pointmachine_Valid_ok h8)) ?_
  rintro _ w11 ⟨rfl, hm10⟩
  have hm12 := hm5.call hm10
  refine t_rd rfl (rd_not rfl) ?_
  refine t_rd rfl (rd_move rfl) ?_
  refine t_rdg rfl rfl rfl rfl (gv_f _) (fun hg13 => (rd_move rfl)) ?_
  obtain ⟨r15, h16, q17⟩ := ob q9; clear q9
  refine t_efg rfl rfl rfl rfl (R := (fun v w' => v = gV (!(!r7)) (Value.bool r15) ∧ Mem w11 No [] w')) (gv_f _) (fun hg14 => (ef_call tf20 (evc (gvx rfl hg14) evn) (pointmachine_time_ok (gO_t h16 hg14))).mono (by rintro _ _ ⟨rfl, q⟩; exact ⟨(gV_t hg14).symm, q⟩)) (fun q => ⟨(gV_f q).symm, Mem.nil _⟩) ?_
  rintro _ w19 ⟨rfl, hm18⟩
  have hm20 := hm12.call hm18
  refine t_rdg rfl rfl rfl rfl (gv_f _) (fun hg21 => (rd_not (gvx rfl hg21))) ?_
  refine t_rd rfl (rd_or rfl (fun hc22 => (gvx rfl (bnotIt hc22)))) ?_
  refine rwt_nil ?_
  refine qn_then ?_
  obtain ⟨hb23, q24⟩ | ⟨hb23, q24⟩ := oi q17 <;> clear q17
  · refine cw_t rfl hb23 ?_
    refine cw_seq ?_
    refine cw_region ?_
    refine t_rd rfl (rd_build (cs := #[(Value.int .i64 0), (Value.int .i64 0), (Value.int .i64 0), (Value.bool false)]) rfl (by kernel_rfl)) ?_
    refine t_ef0 (ef_stw (k := 0) hm20 tA24 rfl rfl (oc_cons rfl (oc_cons rfl (oc_cons rfl (oc_cons rfl oc_nil)))) rfl rfl rfl) ?_
    intro _ w26 hm25
    refine t_rd rfl (rd_assign rfl) ?_
    refine t_rd rfl (rd_assign rfl) ?_
    refine rwt_nil ?_
    refine qn_then ?_
    refine cw_ret ?_
    refine qr_then ?_
    obtain rfl := os q24
    exact retLn (rs := [.cell 4 24, .tmp 5, .tmp 6]) rfl (.rc rfl tA24 (hm25.blk 0 rfl) rfl (.rt rfl (.rt rfl .rn))) rfl ⟨rfl, (hm25.pick [] (by decide) rfl)⟩
  · refine cw_f rfl hb23 ?_
    refine cw_skip ?_
    refine qn_then ?_
    refine cw_seq ?_
    refine cw_seq ?_
    refine cw_region ?_
    refine t_rd rfl (rd_fld tF24_2 rfl) ?_
    refine t_rd rfl (rd_ld1 tO3 rfl (hm20.blk 1 rfl) (off := 2) rfl) ?_
    refine t_rd rfl (rd_eql rfl rfl) ?_
    refine rwt_nil ?_
    refine qn_then ?_
    obtain ⟨hb27, q28⟩ | ⟨hb27, q28⟩ := oi q24 <;> clear q24
    · refine cw_t rfl hb27 ?_
      refine cw_seq ?_
      refine cw_region ?_
      refine t_rd rfl (rd_build (cs := #[(Value.int .i64 0), (Value.int .i64 0), (Value.int .i64 0), (Value.bool false)]) rfl (by kernel_rfl)) ?_
      refine t_ef0 (ef_stw (k := 0) hm20 tA24 rfl rfl (oc_cons rfl (oc_cons rfl (oc_cons rfl (oc_cons rfl oc_nil)))) rfl rfl rfl) ?_
      intro _ w30 hm29
      refine t_rd rfl (rd_assign rfl) ?_
      refine t_rd rfl (rd_assign rfl) ?_
      refine rwt_nil ?_
      refine qn_then ?_
      refine cw_ret ?_
      refine qr_then ?_
      obtain rfl := os q28
      exact retLn (rs := [.cell 4 24, .tmp 5, .tmp 6]) rfl (.rc rfl tA24 (hm29.blk 0 rfl) rfl (.rt rfl (.rt rfl .rn))) rfl ⟨rfl, (hm29.pick [] (by decide) rfl)⟩
    · refine cw_f rfl hb27 ?_
      refine cw_skip ?_
      refine qn_then ?_
      refine cw_seq ?_
      refine cw_region ?_
      refine t_rd rfl (rd_fld tF24_2 rfl) ?_
      refine t_rd rfl (rd_ld1 tO3 rfl (hm20.blk 1 rfl) (off := 2) rfl) ?_
      obtain ⟨x31, h32, q33⟩ := ob q28; clear q28
      refine t_rd rfl (rd_add64 h32 rfl rfl) ?_
      refine t_rd rfl (rd_fld tF24_2 rfl) ?_
      refine t_ef0 (ef_st1 (k := 1) (off := 2) hm20 tO3 rfl rfl rfl rfl rfl rfl) ?_
      intro _ w35 hm34
      refine rwt_nil ?_
      refine qn_then ?_
      refine cw_seq ?_
      refine cw_seq ?_
      refine cw_region ?_
      refine t_rd rfl (rd_fld tF24_1 rfl) ?_
      refine t_rd rfl (rd_ld1 tO3 rfl (hm34.blk 1 rfl) (off := 1) rfl) ?_
      refine t_rd rfl (rd_move rfl) ?_
      refine t_rd rfl (rd_gtr rfl rfl) ?_
      refine rwt_nil ?_
      refine qn_then ?_
      obtain ⟨hb36, q37⟩ | ⟨hb36, q37⟩ := oi q33 <;> clear q33
      · refine cw_t rfl hb36 ?_
        refine cw_seq ?_
        refine cw_region ?_
        refine t_rd rfl (rd_fld tF24_3 rfl) ?_
        refine t_ef0 (ef_st1 (k := 1) (off := 3) hm34 tO4 rfl rfl rfl rfl rfl rfl) ?_
        intro _ w39 hm38
        refine rwt_nil ?_
        refine qn_then ?_
        refine cw_seq ?_
        refine cw_region ?_
        refine t_rd rfl (rd_ld tA24 rfl (hm38.blk 1 rfl) rfl) ?_
        refine t_ef0 (ef_stw (k := 0) hm38 tA24 rfl rfl (oc_cons rfl (oc_cons rfl (oc_cons rfl (oc_cons rfl oc_nil)))) rfl rfl rfl) ?_
        intro _ w41 hm40
        refine t_rd rfl (rd_assign rfl) ?_
        refine t_rd rfl (rd_assign rfl) ?_
        refine rwt_nil ?_
        refine qn_then ?_
        refine cw_ret ?_
        refine qr_then ?_
        obtain rfl := os q37
        exact retLn (rs := [.cell 4 24, .tmp 5, .tmp 6]) rfl (.rc rfl tA24 (hm40.blk 0 rfl) rfl (.rt rfl (.rt rfl .rn))) rfl ⟨rfl, (hm40.pick [] (by decide) rfl)⟩
      · refine cw_f rfl hb36 ?_
        refine cw_skip ?_
        refine qn_then ?_
        refine cw_seq ?_
        obtain ⟨w43, he45⟩ : ∃ q, q = w35.drew := ⟨_, rfl⟩
        have hm44 := hm34.drew; rw [← he45] at hm44
        refine cw_region_s (fun q => (blk g1 24 [(Value.int .i64 a0.Side), (Value.int .i64 a0.Until), (Value.int .i64 x31), (Value.bool a0.Failed)]).φ q) (cls [3] []) mixed ?_
        rintro _ rfl; rw [← he45]
        refine s_rd (i := 0) rfl (by kernel_rfl) rfl (fun w42 hS => (rd_ld tA24 rfl (cells_blk hS) rfl)) (hm44.get (k := 1) rfl) ?_
        refine s_rp (i := 1) rfl (by kernel_rfl) rfl (fun _ => (rd_fld tF24_0 rfl)) ?_
        refine s_rd (i := 2) rfl (by kernel_rfl) rfl (fun w42 hS => (rd_ld1 tO3 rfl (cells_blk hS) (off := 0) rfl)) (hm44.get (k := 1) rfl) ?_
        refine s_ef0 (i := 3) rfl (by kernel_rfl) (ef_stw (k := 0) hm44 tA24 rfl rfl (oc_cons rfl (oc_cons rfl (oc_cons rfl (oc_cons rfl oc_nil)))) rfl rfl rfl) (by decide) ?_ ?_
        · intro _ w49 hm48
          intro _
          exact (hm48.get (k := 1) rfl)
        intro _ w49 hm48
        refine s_rp (i := 4) rfl (by kernel_rfl) rfl (fun _ => (rd_assign rfl)) ?_
        refine s_rp (i := 5) rfl (by kernel_rfl) rfl (fun _ => (rd_assign rfl)) ?_
        refine s_nil (by kernel_rfl) ?_
        refine qn_then ?_
        refine cw_ret ?_
        obtain rfl := os q37
        exact retLn (rs := [.cell 4 24, .tmp 5, .tmp 6]) rfl (.rc rfl tA24 (hm48.blk 0 rfl) rfl (.rt rfl (.rt rfl .rn))) rfl ⟨rfl, (hm48.pick [] (by decide) rfl)⟩

theorem pointmachine_Leave_ok {N : Nat} {a0 : T_Machine} {res : T_Machine × Int} (h : pointmachine_Leave N a0 = some res) {w : World}   :
    CallsR Try.prog 10 [(Value.agg (Flat.enc a0).toArray)] w (fun u w' => u = (Value.tuple #[(Value.agg (Flat.enc res.1).toArray), (Value.int .i64 res.2)]) ∧ Mem w No [] w') := by
  unfold pointmachine_Leave at h
  refine fn_ok Try.func10 rfl rfl rfl ?_
  have hm0 := Mem.nil w
  refine cw_seq ?_
  refine cw_region ?_
  refine t_ef rfl (ef_box hm0 rfl rfl) ?_
  rintro _ w3 ⟨g1, rfl, hm2⟩
  refine t_ef rfl (ef_alloc hm2 tZ24 rfl) ?_
  rintro _ w6 ⟨g4, rfl, hm5⟩
  refine t_rd rfl (rd_assign rfl) ?_
  refine rwt_nil ?_
  refine qn_then ?_
  refine cw_seq ?_
  refine cw_seq ?_
  refine cw_region ?_
  refine t_rd rfl (rd_ld tA24 rfl (hm5.blk 1 rfl) rfl) ?_
  obtain ⟨r7, h8, q9⟩ := ob h; clear h
  refine t_ef rfl (ef_call tf11 rfl (pointmachine_Valid_ok h8)) ?_
  rintro _ w11 ⟨rfl, hm10⟩
  have hm12 := hm5.call hm10
  refine t_rd rfl (rd_not rfl) ?_
  refine rwt_nil ?_
  refine qn_then ?_
  obtain ⟨hb13, q14⟩ | ⟨hb13, q14⟩ := oi q9 <;> clear q9
  · refine cw_t rfl hb13 ?_
    refine cw_seq ?_
    refine cw_region ?_
    refine t_rd rfl (rd_build (cs := #[(Value.int .i64 0), (Value.int .i64 0), (Value.int .i64 0), (Value.bool false)]) rfl (by kernel_rfl)) ?_
    refine t_ef0 (ef_stw (k := 0) hm12 tA24 rfl rfl (oc_cons rfl (oc_cons rfl (oc_cons rfl (oc_cons rfl oc_nil)))) rfl rfl rfl) ?_
    intro _ w16 hm15
    refine t_rd rfl (rd_assign rfl) ?_
    refine rwt_nil ?_
    refine qn_then ?_
    refine cw_ret ?_
    refine qr_then ?_
    obtain rfl := os q14
    exact retLn (rs := [.cell 2 24, .tmp 3]) rfl (.rc rfl tA24 (hm15.blk 0 rfl) rfl (.rt rfl .rn)) rfl ⟨rfl, (hm15.pick [] (by decide) rfl)⟩
  · refine cw_f rfl hb13 ?_
    refine cw_skip ?_
    refine qn_then ?_
    refine cw_seq ?_
    refine cw_seq ?_
    refine cw_region ?_
    refine t_rd rfl (rd_fld tF24_2 rfl) ?_
    refine t_rd rfl (rd_ld1 tO3 rfl (hm12.blk 1 rfl) (off := 2) rfl) ?_
    refine t_rd rfl (rd_eql rfl rfl) ?_
    refine rwt_nil ?_
    refine qn_then ?_
    obtain ⟨hb17, q18⟩ | ⟨hb17, q18⟩ := oi q14 <;> clear q14
    · refine cw_t rfl hb17 ?_
      refine cw_seq ?_
      refine cw_region ?_
      refine t_rd rfl (rd_build (cs := #[(Value.int .i64 0), (Value.int .i64 0), (Value.int .i64 0), (Value.bool false)]) rfl (by kernel_rfl)) ?_
      refine t_ef0 (ef_stw (k := 0) hm12 tA24 rfl rfl (oc_cons rfl (oc_cons rfl (oc_cons rfl (oc_cons rfl oc_nil)))) rfl rfl rfl) ?_
      intro _ w20 hm19
      refine t_rd rfl (rd_assign rfl) ?_
      refine rwt_nil ?_
      refine qn_then ?_
      refine cw_ret ?_
      refine qr_then ?_
      obtain rfl := os q18
      exact retLn (rs := [.cell 2 24, .tmp 3]) rfl (.rc rfl tA24 (hm19.blk 0 rfl) rfl (.rt rfl .rn)) rfl ⟨rfl, (hm19.pick [] (by decide) rfl)⟩
    · refine cw_f rfl hb17 ?_
      refine cw_skip ?_
      refine qn_then ?_
      refine cw_seq ?_
      refine cw_region ?_
      refine t_rd rfl (rd_fld tF24_2 rfl) ?_
      refine t_rd rfl (rd_ld1 tO3 rfl (hm12.blk 1 rfl) (off := 2) rfl) ?_
      obtain ⟨x21, h22, q23⟩ := ob q18; clear q18
      refine t_rd rfl (rd_sub64 h22 rfl rfl) ?_
      refine t_rd rfl (rd_fld tF24_2 rfl) ?_
      refine t_ef0 (ef_st1 (k := 1) (off := 2) hm12 tO3 rfl rfl rfl rfl rfl rfl) ?_
      intro _ w25 hm24
      refine rwt_nil ?_
      refine qn_then ?_
      refine cw_seq ?_
      refine cw_region ?_
      refine t_rd rfl (rd_ld tA24 rfl (hm24.blk 1 rfl) rfl) ?_
      refine t_ef0 (ef_stw (k := 0) hm24 tA24 rfl rfl (oc_cons rfl (oc_cons rfl (oc_cons rfl (oc_cons rfl oc_nil)))) rfl rfl rfl) ?_
      intro _ w27 hm26
      refine t_rd rfl (rd_assign rfl) ?_
      refine rwt_nil ?_
      refine qn_then ?_
      refine cw_ret ?_
      obtain rfl := os q23
      exact retLn (rs := [.cell 2 24, .tmp 3]) rfl (.rc rfl tA24 (hm26.blk 0 rfl) rfl (.rt rfl .rn)) rfl ⟨rfl, (hm26.pick [] (by decide) rfl)⟩

theorem law25_sane_ok {N : Nat} {res : Bool} (h : law25_sane N = some res) {w : World}   :
    CallsR Try.prog 12 [] w (fun u w' => u = (Value.bool res) ∧ Mem w No [] w') := by
  unfold law25_sane at h
  refine fn_ok Try.func12 rfl rfl rfl ?_
  have hm0 := Mem.nil w
  refine cw_seq ?_
  refine cw_region ?_
  refine t_rd rfl (rd_assign rfl) ?_
  refine rwt_nil ?_
  refine qn_then ?_
  refine cw_seq ?_
  refine cw_region ?_
  refine t_rd rfl (rd_build (cs := #[(Value.int .i64 1), (Value.int .i64 0), (Value.int .i64 0), (Value.bool false)]) rfl (by kernel_rfl)) ?_
  obtain ⟨r1, h2, q3⟩ := ob h; clear h
  refine t_ef rfl (ef_call tf8 rfl (pointmachine_Throw_ok h2)) ?_
  rintro _ w5 ⟨rfl, hm4⟩
  have hm6 := hm0.call hm4
  refine t_rd rfl (rd_move rfl) ?_
  refine t_rd rfl (rd_extract rfl rfl) ?_
  refine t_rd rfl (rd_extract rfl rfl) ?_
  refine t_ef rfl (ef_alloc hm6 tZ24 rfl) ?_
  rintro _ w9 ⟨g7, rfl, hm8⟩
  refine t_ef0 (ef_stw (k := 0) hm8 tA24 rfl rfl (oc_cons rfl (oc_cons rfl (oc_cons rfl (oc_cons rfl oc_nil)))) rfl rfl rfl) ?_
  intro _ w11 hm10
  refine t_rd rfl (rd_assign rfl) ?_
  refine rwt_nil ?_
  refine qn_then ?_
  refine cw_seq ?_
  refine cw_region ?_
  refine t_rd rfl (rd_ld tA24 rfl (hm10.blk 0 rfl) rfl) ?_
  obtain ⟨r12, h13, q14⟩ := ob q3; clear q3
  refine t_ef rfl (ef_call tf9 rfl (pointmachine_Enter_ok h13)) ?_
  rintro _ w16 ⟨rfl, hm15⟩
  have hm17 := hm10.call hm15
  refine t_rd rfl (rd_move rfl) ?_
  refine t_rd rfl (rd_extract rfl rfl) ?_
  refine t_rd rfl (rd_extract rfl rfl) ?_
  refine t_rd rfl (rd_extract rfl rfl) ?_
  refine t_ef rfl (ef_alloc hm17 tZ24 rfl) ?_
  rintro _ w20 ⟨g18, rfl, hm19⟩
  refine t_ef0 (ef_stw (k := 0) hm19 tA24 rfl rfl (oc_cons rfl (oc_cons rfl (oc_cons rfl (oc_cons rfl oc_nil)))) rfl rfl rfl) ?_
  intro _ w22 hm21
  refine t_rd rfl (rd_assign rfl) ?_
  refine t_rd rfl (rd_assign rfl) ?_
  refine rwt_nil ?_
  refine qn_then ?_
  refine cw_seq ?_
  refine cw_region ?_
  refine t_rd rfl (rd_ld tA24 rfl (hm21.blk 1 rfl) rfl) ?_
  obtain ⟨r23, h24, q25⟩ := ob q14; clear q14
  refine t_ef rfl (ef_call tf9 rfl (pointmachine_Enter_ok h24)) ?_
  rintro _ w27 ⟨rfl, hm26⟩
  have hm28 := hm21.call hm26
  refine t_rd rfl (rd_move rfl) ?_
  refine t_rd rfl (rd_extract rfl rfl) ?_
  refine t_rd rfl (rd_extract rfl rfl) ?_
  refine t_rd rfl (rd_extract rfl rfl) ?_
  refine t_ef rfl (ef_alloc hm28 tZ24 rfl) ?_
  rintro _ w31 ⟨g29, rfl, hm30⟩
  refine t_ef0 (ef_stw (k := 0) hm30 tA24 rfl rfl (oc_cons rfl (oc_cons rfl (oc_cons rfl (oc_cons rfl oc_nil)))) rfl rfl rfl) ?_
  intro _ w33 hm32
  refine t_rd rfl (rd_assign rfl) ?_
  refine t_rd rfl (rd_assign rfl) ?_
  refine rwt_nil ?_
  refine qn_then ?_
  refine cw_seq ?_
  refine cw_region ?_
  refine t_rd rfl (rd_ld tA24 rfl (hm32.blk 1 rfl) rfl) ?_
  obtain ⟨r34, h35, q36⟩ := ob q25; clear q25
  refine t_ef rfl (ef_call tf8 rfl (pointmachine_Throw_ok h35)) ?_
  rintro _ w38 ⟨rfl, hm37⟩
  have hm39 := hm32.call hm37
  refine t_rd rfl (rd_move rfl) ?_
  refine t_rd rfl (rd_extract rfl rfl) ?_
  refine t_rd rfl (rd_extract rfl rfl) ?_
  refine t_ef rfl (ef_alloc hm39 tZ24 rfl) ?_
  rintro _ w42 ⟨g40, rfl, hm41⟩
  refine t_ef0 (ef_stw (k := 0) hm41 tA24 rfl rfl (oc_cons rfl (oc_cons rfl (oc_cons rfl (oc_cons rfl oc_nil)))) rfl rfl rfl) ?_
  intro _ w44 hm43
  refine t_rd rfl (rd_assign rfl) ?_
  refine rwt_nil ?_
  refine qn_then ?_
  refine cw_seq ?_
  refine cw_region ?_
  refine t_rd rfl (rd_ld tA24 rfl (hm43.blk 3 rfl) rfl) ?_
  obtain ⟨r45, h46, q47⟩ := ob q36; clear q36
  refine t_ef rfl (ef_call tf10 rfl (pointmachine_Leave_ok h46)) ?_
  rintro _ w49 ⟨rfl, hm48⟩
  have hm50 := hm43.call hm48
  refine t_rd rfl (rd_move rfl) ?_
  refine t_rd rfl (rd_extract rfl rfl) ?_
  refine t_rd rfl (rd_extract rfl rfl) ?_
  refine t_ef rfl (ef_alloc hm50 tZ24 rfl) ?_
  rintro _ w53 ⟨g51, rfl, hm52⟩
  refine t_ef0 (ef_stw (k := 0) hm52 tA24 rfl rfl (oc_cons rfl (oc_cons rfl (oc_cons rfl (oc_cons rfl oc_nil)))) rfl rfl rfl) ?_
  intro _ w55 hm54
  refine t_rd rfl (rd_assign rfl) ?_
  refine rwt_nil ?_
  refine qn_then ?_
  refine cw_seq ?_
  refine cw_region ?_
  refine t_rd rfl (rd_move rfl) ?_
  refine t_rd rfl (rd_eql rfl rfl) ?_
  refine t_rd rfl (rd_move rfl) ?_
  refine t_rdg rfl rfl rfl rfl (gv_t _) (fun hg56 => (rd_ld tA24 rfl (hm54.blk 4 rfl) rfl)) ?_
  refine t_rdg rfl rfl rfl rfl (gv_t _) (fun hg57 => (rd_build (cs := #[(Value.int .i64 2), (Value.int .i64 1800), (Value.int .i64 0), (Value.bool false)]) rfl (by kernel_rfl))) ?_
  refine t_rdg rfl rfl rfl rfl (gv_t _) (fun hg58 => (rd_eqs eqs24 (a := r1.1) (b := (T_Machine.mk 2 1800 0 false)) (gvx rfl hg58) (gvx rfl hg58))) ?_
  refine t_rd rfl (rd_and rfl (fun hc59 => (gvx rfl hc59))) ?_
  refine t_rd rfl (rd_move rfl) ?_
  refine t_rdg rfl rfl rfl rfl (gv_t _) (fun hg60 => (rd_move rfl)) ?_
  refine t_rdg rfl rfl rfl rfl (gv_t _) (fun hg61 => (rd_eql (gvx rfl hg61) rfl)) ?_
  refine t_rd rfl (rd_and rfl (fun hc62 => (gvx rfl hc62))) ?_
  refine t_rd rfl (rd_move rfl) ?_
  refine t_rdg rfl rfl rfl rfl (gv_t _) (fun hg63 => (rd_move rfl)) ?_
  refine t_rdg rfl rfl rfl rfl (gv_t _) (fun hg64 => (rd_eql (gvx rfl hg64) rfl)) ?_
  refine t_rd rfl (rd_and rfl (fun hc65 => (gvx rfl hc65))) ?_
  refine t_rd rfl (rd_move rfl) ?_
  refine t_rdg rfl rfl rfl rfl (gv_t _) (fun hg66 => (rd_fld tF24_2 rfl)) ?_
  refine t_rdg rfl rfl rfl rfl (gv_t _) (fun hg67 => (rd_ld1 tO3 (gvx rfl hg67) (hm54.blk 3 rfl) (off := 2) rfl)) ?_
  refine t_rdg rfl rfl rfl rfl (gv_t _) (fun hg68 => (rd_eql (gvx rfl hg68) rfl)) ?_
  refine t_rd rfl (rd_and rfl (fun hc69 => (gvx rfl hc69))) ?_
  refine t_rd rfl (rd_move rfl) ?_
  refine t_rdg rfl rfl rfl rfl (gv_t _) (fun hg70 => (rd_fld tF24_3 rfl)) ?_
  refine t_rdg rfl rfl rfl rfl (gv_t _) (fun hg71 => (rd_ld1 tO4 (gvx rfl hg71) (hm54.blk 3 rfl) (off := 3) rfl)) ?_
  refine t_rdg rfl rfl rfl rfl (gv_t _) (fun hg72 => (rd_not (gvx rfl hg72))) ?_
  refine t_rd rfl (rd_and rfl (fun hc73 => (gvx rfl hc73))) ?_
  refine t_rd rfl (rd_move rfl) ?_
  refine t_rdg rfl rfl rfl rfl (gv_t _) (fun hg74 => (rd_move rfl)) ?_
  refine t_rdg rfl rfl rfl rfl (gv_t _) (fun hg75 => (rd_eql (gvx rfl hg75) rfl)) ?_
  refine t_rd rfl (rd_and rfl (fun hc76 => (gvx rfl hc76))) ?_
  refine t_rd rfl (rd_move rfl) ?_
  refine t_rdg rfl rfl rfl rfl (gv_t _) (fun hg77 => (rd_move rfl)) ?_
  refine t_rdg rfl rfl rfl rfl (gv_t _) (fun hg78 => (rd_eql (gvx rfl hg78) rfl)) ?_
  refine t_rd rfl (rd_and rfl (fun hc79 => (gvx rfl hc79))) ?_
  refine t_rd rfl (rd_move rfl) ?_
  refine t_rdg rfl rfl rfl rfl (gv_t _) (fun hg80 => (rd_fld tF24_3 rfl)) ?_
  refine t_rdg rfl rfl rfl rfl (gv_t _) (fun hg81 => (rd_ld1 tO4 (gvx rfl hg81) (hm54.blk 2 rfl) (off := 3) rfl)) ?_
  refine t_rd rfl (rd_and rfl (fun hc82 => (gvx rfl hc82))) ?_
  refine t_rd rfl (rd_move rfl) ?_
  refine t_rdg rfl rfl rfl rfl (gv_t _) (fun hg83 => (rd_move rfl)) ?_
  refine t_rdg rfl rfl rfl rfl (gv_t _) (fun hg84 => (rd_eql (gvx rfl hg84) rfl)) ?_
  refine t_rd rfl (rd_and rfl (fun hc85 => (gvx rfl hc85))) ?_
  refine t_rd rfl (rd_move rfl) ?_
  refine t_rdg rfl rfl rfl rfl (gv_t _) (fun hg86 => (rd_move rfl)) ?_
  refine t_rdg rfl rfl rfl rfl (gv_t _) (fun hg87 => (rd_eql (gvx rfl hg87) rfl)) ?_
  refine t_rd rfl (rd_and rfl (fun hc88 => (gvx rfl hc88))) ?_
  refine t_rd rfl (rd_assign rfl) ?_
  refine rwt_nil ?_
  refine qn_then ?_
  refine cw_ret ?_
  obtain rfl := os q47
  exact ret1 rfl rfl ⟨rfl, (hm54.pick [] (by decide) rfl)⟩

theorem law25_PointmachineHolds_ok {N : Nat} {a0 : List Int} {res : Bool} (h : law25_PointmachineHolds N a0 = some res) {w : World} {v0 : Value} (hv0 : Sl (Old w No) w v0 a0) :
    CallsR Try.prog 3 [v0] w (fun u w' => u = (Value.bool res) ∧ Mem w No [] w') := by
  unfold law25_PointmachineHolds at h
  refine fn_ok Try.func3 rfl rfl rfl ?_
  have hm0 := Mem.nil w
  refine cw_seq ?_
  refine cw_region ?_
  refine t_rd rfl (rd_assign rfl) ?_
  refine rwt_nil ?_
  refine qn_then ?_
  refine cw_seq ?_
  refine cw_region ?_
  refine t_rd rfl (rd_build (cs := #[(Value.int .i64 1), (Value.int .i64 0), (Value.int .i64 0), (Value.bool false)]) rfl (by kernel_rfl)) ?_
  refine t_ef rfl (ef_alloc hm0 tZ24 rfl) ?_
  rintro _ w3 ⟨g1, rfl, hm2⟩
  refine t_ef0 (ef_stw (k := 0) hm2 tA24 rfl rfl (oc_cons rfl (oc_cons rfl (oc_cons rfl (oc_cons rfl oc_nil)))) rfl rfl rfl) ?_
  intro _ w5 hm4
  refine rwt_nil ?_
  refine qn_then ?_
  refine cw_seq ?_
  refine cw_region ?_
  refine t_rd rfl (rd_assign rfl) ?_
  refine rwt_nil ?_
  refine qn_then ?_
  refine cw_seq ?_
  refine cw_seq ?_
  refine cw_region ?_
  refine t_rd rfl (rd_assign rfl) ?_
  refine rwt_nil ?_
  refine qn_then ?_
  refine cw_block ?_
  obtain ⟨r906, hit907, q908⟩ := ob h; clear h
  refine cw_loop2 (I := fun q envq wq => Sub [(0, v0), (3, (Value.pointer (some ⟨g1, 0, none⟩))), (4, (Value.int .i64 q.1)), (5, (Value.int .i64 q.2.1))] envq ∧ Mem w No [blk g1 24 [(Value.int .i64 q.2.2.1), (Value.int .i64 q.2.2.2.1), (Value.int .i64 q.2.2.2.2.1), (Value.bool q.2.2.2.2.2)]] wq) (X := fun eq envq wq => (∃ p909, r906 = (Sum.inl p909) ∧ eq = .ret ∧ retQ Try.prog 157 Try.f3 (fun u w' => u = (Value.bool p909) ∧ Mem w No [] w') .ret envq wq) ∨ (∃ p910, r906 = (Sum.inr p910) ∧ eq = .exit 0 ∧ Sub [] envq ∧ Mem w No [] wq)) hit907 ⟨(by repeat (first | exact Sub.nil _ | refine Sub.cons rfl ?_)), (hm4.pick [0] (by decide) rfl)⟩ ?_ ?_
  · rintro ⟨i894, i895, i896, i897, i898, b899⟩ x901 env902 w903 hf904 hr905 ⟨hs_, hm_⟩
    have hs_ : Sub [(0, v0), (3, (Value.pointer (some ⟨g1, 0, none⟩))), (4, (Value.int .i64 i894)), (5, (Value.int .i64 i895))] env902 := hs_
    have hm911 : Mem w No [blk g1 24 [(Value.int .i64 i896), (Value.int .i64 i897), (Value.int .i64 i898), (Value.bool b899)]] w903 := hm_
    refine cw_sub hs_ ?_
    clear hs_ hm_ q908
    have h : law25_PointmachineHolds_l1 N a0 i894 i895 i896 i897 i898 b899 = some x901 := hf904
    clear hf904
    refine cw_seq ?_
    refine cw_seq ?_
    refine cw_region ?_
    refine t_rd rfl (rd_move rfl) ?_
    obtain ⟨x912, h913, q914⟩ := ob h; clear h
    refine t_rd rfl (rd_add64 h913 rfl rfl) ?_
    refine t_rd rfl (rd_move rfl) ?_
    refine t_rd rfl (rd_lenS tS22 rfl (hv0.of_old hm911)) ?_
    refine t_rd rfl (rd_lss rfl rfl) ?_
    refine t_rd rfl (rd_move rfl) ?_
    refine t_rdg rfl rfl rfl rfl (gv_t _) (fun hg915 => (rd_move rfl)) ?_
    refine t_rdg rfl rfl rfl rfl (gv_t _) (fun hg916 => (rd_lss (gvx rfl hg916) rfl)) ?_
    refine t_rd rfl (rd_and rfl (fun hc917 => (gvx rfl hc917))) ?_
    refine rwt_nil ?_
    refine qn_then ?_
    obtain ⟨hb918, q919⟩ | ⟨hb918, q919⟩ := oi q914 <;> clear q914
    · refine cw_t rfl hb918 ?_
      refine cw_skip ?_
      refine qn_then ?_
      refine cw_seq ?_
      refine cw_block ?_
      refine cw_seq ?_
      refine cw_region ?_
      refine t_rd rfl (rd_move rfl) ?_
      refine t_rd rfl (rd_move rfl) ?_
      refine t_rd rfl (rd_move rfl) ?_
      obtain ⟨x920, h921, q922⟩ := ob q919; clear q919
      refine t_rd rfl (rd_index tS22 rfl rfl (hv0.of_old hm911) h921) ?_
      refine t_rd rfl (rd_ld1 tO3 rfl ((hv0.of_old hm911).cells h921) (off := 0) rfl) ?_
      obtain ⟨r923, h924, q925⟩ := ob q922; clear q922
      refine t_ef rfl (ef_call tf7 rfl (yardgen_Place_ok h924)) ?_
      rintro _ w927 ⟨rfl, hm926⟩
      have hm928 := hm911.call hm926
      obtain ⟨x929, h930, q931⟩ := ob q925; clear q925
      refine t_rd rfl (rd_add64 h930 rfl rfl) ?_
      refine t_rd rfl (rd_assign rfl) ?_
      refine rwt_nil ?_
      refine qn_then ?_
      refine cw_seq ?_
      obtain ⟨w933, he935⟩ : ∃ q, q = w927.drew := ⟨_, rfl⟩
      have hm934 := hm928.drew; rw [← he935] at hm934
      refine cw_region_s (fun q => (blk g1 24 [(Value.int .i64 i896), (Value.int .i64 i897), (Value.int .i64 i898), (Value.bool b899)]).φ q) (cls [3, 4] []) mixed ?_
      rintro _ rfl; rw [← he935]
      refine s_rd (i := 0) rfl (by kernel_rfl) rfl (fun w932 hS => (rd_ld tA24 rfl (cells_blk hS) rfl)) (hm934.get (k := 0) rfl) ?_
      refine s_rp (i := 1) rfl (by kernel_rfl) rfl (fun _ => (rd_fld tF24_0 rfl)) ?_
      refine s_rd (i := 2) rfl (by kernel_rfl) rfl (fun w932 hS => (rd_ld1 tO3 rfl (cells_blk hS) (off := 0) rfl)) (hm934.get (k := 0) rfl) ?_
      refine s_ef (i := 3) rfl (by kernel_rfl) rfl (ef_alloc hm934 tZ24 rfl) (by decide) ?_ ?_
      · rintro _ w943 ⟨g941, rfl, hm942⟩
        intro _
        exact (hm942.get (k := 1) rfl)
      rintro _ w943 ⟨g941, rfl, hm942⟩
      refine s_ef0 (i := 4) rfl (by kernel_rfl) (ef_stw (k := 0) hm942 tA24 rfl rfl (oc_cons rfl (oc_cons rfl (oc_cons rfl (oc_cons rfl oc_nil)))) rfl rfl rfl) (by decide) ?_ ?_
      · intro _ w945 hm944
        intro _
        exact (hm944.get (k := 1) rfl)
      intro _ w945 hm944
      refine s_rp (i := 5) rfl (by kernel_rfl) rfl (fun _ => (rd_assign rfl)) ?_
      refine s_nil (by kernel_rfl) ?_
      refine qn_then ?_
      refine cw_seq ?_
      refine cw_seq ?_
      refine cw_region ?_
      refine t_rd rfl (rd_move rfl) ?_
      refine t_rd rfl (rd_move rfl) ?_
      obtain ⟨x946, h947, q948⟩ := ob q931; clear q931
      refine t_rd rfl (rd_add64 h947 rfl rfl) ?_
      obtain ⟨x949, h950, q951⟩ := ob q948; clear q948
      refine t_rd rfl (rd_index tS22 rfl rfl (hv0.of_old hm944) h950) ?_
      refine t_rd rfl (rd_ld1 tO3 rfl ((hv0.of_old hm944).cells h950) (off := 0) rfl) ?_
      obtain ⟨r952, h953, q954⟩ := ob q951; clear q951
      refine t_ef rfl (ef_call tf7 rfl (yardgen_Place_ok h953)) ?_
      rintro _ w956 ⟨rfl, hm955⟩
      have hm957 := hm944.call hm955
      refine rwt_nil ?_
      refine qn_then ?_
      refine cw_block ?_
      refine cw_seq ?_
      refine cw_seq ?_
      refine cw_region ?_
      refine t_rd rfl (rd_eql rfl rfl) ?_
      refine t_rd rfl (rd_assign rfl) ?_
      refine rwt_nil ?_
      refine qn_then ?_
      obtain ⟨j961, hit962, q963⟩ := ob q954; clear q954
      refine cw_join (X := fun eq envq wq => eq = .normal ∧ Sub [(0, v0), (3, (Value.pointer (some ⟨g1, 0, none⟩))), (4, (Value.int .i64 x929)), (5, (Value.int .i64 i895)), (6, (Value.pointer (some ⟨g941, 0, none⟩))), (7, (Value.int .i64 i896)), (42, (Value.int .i64 r952)), (57, (Value.bool j961))] envq ∧ Mem w No [blk g941 24 [(Value.int .i64 i896), (Value.int .i64 i897), (Value.int .i64 i898), (Value.bool b899)], blk g1 24 [(Value.int .i64 i896), (Value.int .i64 i897), (Value.int .i64 i898), (Value.bool b899)]] wq) ?_ ?_
      · clear q963
        obtain ⟨hb964, q965⟩ | ⟨hb964, q965⟩ := oi hit962 <;> clear hit962
        · refine cw_t rfl hb964 ?_
          refine cw_skip ?_
          obtain rfl := os q965
          exact ⟨rfl, (by repeat (first | exact Sub.nil _ | refine Sub.cons rfl ?_)), (hm957.pick [0, 1] (by decide) rfl)⟩
        · refine cw_f rfl hb964 ?_
          refine cw_region ?_
          refine t_rd rfl (rd_eql rfl rfl) ?_
          refine t_rd rfl (rd_assign rfl) ?_
          refine rwt_nil ?_
          obtain rfl := os q965
          exact ⟨rfl, (by repeat (first | exact Sub.nil _ | refine Sub.cons rfl ?_)), (hm957.pick [0, 1] (by decide) rfl)⟩
      · clear hit962
        intro e env966 w967 hX968
        obtain ⟨rfl, hs969, hm970⟩ := hX968
        refine qn_then ?_
        refine cw_sub hs969 ?_
        obtain ⟨hb971, q972⟩ | ⟨hb971, q972⟩ := oi q963 <;> clear q963
        · refine cw_t rfl hb971 ?_
          refine cw_seq ?_
          obtain ⟨j1072, hit1073, q1074⟩ := ob q972; clear q972
          refine cw_join (X := fun eq envq wq => eq = .normal ∧ ∃ (g1066 : Nat), Sub [(0, v0), (3, (Value.pointer (some ⟨g1, 0, none⟩))), (4, (Value.int .i64 x929)), (5, (Value.int .i64 i895)), (6, (Value.pointer (some ⟨g941, 0, none⟩))), (7, (Value.int .i64 i896)), (8, (Value.pointer (some ⟨g1066, 0, none⟩))), (9, (Value.int .i64 j1072.1))] envq ∧ Mem w No [blk g1066 24 [(Value.int .i64 j1072.2.1), (Value.int .i64 j1072.2.2.1), (Value.int .i64 j1072.2.2.2.1), (Value.bool j1072.2.2.2.2)], blk g941 24 [(Value.int .i64 i896), (Value.int .i64 i897), (Value.int .i64 i898), (Value.bool b899)], blk g1 24 [(Value.int .i64 i896), (Value.int .i64 i897), (Value.int .i64 i898), (Value.bool b899)]] wq) ?_ ?_
          · clear q1074
            obtain ⟨w1076, he1078⟩ : ∃ q, q = w967.drew := ⟨_, rfl⟩
            have hm1077 := hm970.drew; rw [← he1078] at hm1077
            refine cw_region_s (fun q => (blk g1 24 [(Value.int .i64 i896), (Value.int .i64 i897), (Value.int .i64 i898), (Value.bool b899)]).φ q ∧ Sl (Old w No) q v0 a0) (cls [7, 14] [10, 15]) mixed ?_
            rintro _ rfl; rw [← he1078]
            refine s_rd (i := 0) rfl (by kernel_rfl) rfl (fun w1075 hS => (rd_ld tA24 rfl (cells_blk hS.1) rfl)) ⟨(hm1077.get (k := 1) rfl), (hv0.of_old hm1077)⟩ ?_
            refine s_rp (i := 1) rfl (by kernel_rfl) rfl (fun _ => (rd_move rfl)) ?_
            refine s_rp (i := 2) rfl (by kernel_rfl) rfl (fun _ => (rd_move rfl)) ?_
            obtain ⟨x1108, h1109, q1110⟩ := ob hit1073; clear hit1073
            refine s_rp (i := 3) rfl (by kernel_rfl) rfl (fun _ => (rd_add64 h1109 rfl rfl)) ?_
            obtain ⟨x1111, h1112, q1113⟩ := ob q1110; clear q1110
            refine s_rp (i := 4) rfl (by kernel_rfl) rfl (fun _ => (rd_index tS22 rfl rfl (hv0.of_old hm1077) h1112)) ?_
            refine s_rd (i := 5) rfl (by kernel_rfl) rfl (fun w1075 hS => (rd_ld1 tO3 rfl (hS.2.cells h1112) (off := 0) rfl)) ⟨(hm1077.get (k := 1) rfl), (hv0.of_old hm1077)⟩ ?_
            obtain ⟨x1114, h1115, q1116⟩ := ob q1113; clear q1113
            refine s_rp (i := 6) rfl (by kernel_rfl) rfl (fun _ => (rd_quo64 h1115 rfl rfl)) ?_
            refine s_rp (i := 9) rfl (by kernel_rfl) rfl (fun _ => (rd_move rfl)) ?_
            refine s_br2 (i := 7) (j := 14) (by kernel_rfl) ?_ ?_
            · skip
              obtain ⟨r1117, h1118, q1119⟩ := ob q1116; clear q1116
              refine e_ef (i := 7) rfl rfl (ef_call tf7 rfl (yardgen_Place_ok h1118)) (by decide) ?_ ?_
              · rintro _ w1121 ⟨rfl, hm1120⟩
                have hm1122 := hm1077.call hm1120
                intro _
                exact ⟨(hm1122.get (k := 1) rfl), (hv0.of_old hm1122)⟩
              rintro _ w1121 ⟨rfl, hm1120⟩
              have hm1122 := hm1077.call hm1120
              obtain ⟨x1123, h1124, q1125⟩ := ob q1119; clear q1119
              refine s_rp (i := 8) rfl (by kernel_rfl) rfl (fun _ => (rd_add64 h1124 rfl rfl)) ?_
              refine s_br2 (i := 10) (j := 14) (by kernel_rfl) ?_ ?_
              · skip
                obtain ⟨r1126, h1127, q1128⟩ := ob q1125; clear q1125
                refine e_ef (i := 10) rfl rfl (ef_call tf8 rfl (pointmachine_Throw_ok h1127)) (by decide) (fun _ _ _ q => absurd q (by decide)) ?_
                rintro _ w1130 ⟨rfl, hm1129⟩
                have hm1131 := hm1122.call hm1129
                refine s_rp (i := 11) rfl (by kernel_rfl) rfl (fun _ => (rd_move rfl)) ?_
                refine s_rp (i := 12) rfl (by kernel_rfl) rfl (fun _ => (rd_extract rfl rfl)) ?_
                refine s_rp (i := 13) rfl (by kernel_rfl) rfl (fun _ => (rd_extract rfl rfl)) ?_
                refine s_ef (i := 14) rfl (by kernel_rfl) rfl (ef_alloc hm1131 tZ24 rfl) (by decide) ?_ ?_
                · rintro _ w1134 ⟨g1132, rfl, hm1133⟩
                  intro _
                  exact ⟨(hm1133.get (k := 2) rfl), (hv0.of_old hm1133)⟩
                rintro _ w1134 ⟨g1132, rfl, hm1133⟩
                refine s_ef0 (i := 15) rfl (by kernel_rfl) (ef_stw (k := 0) hm1133 tA24 rfl rfl (oc_cons rfl (oc_cons rfl (oc_cons rfl (oc_cons rfl oc_nil)))) rfl rfl rfl) (by decide) (fun _ _ _ q => absurd q (by decide)) ?_
                intro _ w1136 hm1135
                refine s_rp (i := 16) rfl (by kernel_rfl) rfl (fun _ => (rd_assign rfl)) ?_
                refine s_nil (by kernel_rfl) ?_
                obtain rfl := os q1128
                exact ⟨rfl, g1132, (by repeat (first | exact Sub.nil _ | refine Sub.cons rfl ?_)), (hm1135.pick [0, 1, 2] (by decide) rfl)⟩
              · skip
                refine e_ef (i := 14) rfl rfl (ef_alloc hm1122 tZ24 rfl) (by decide) ?_ ?_
                · rintro _ w1139 ⟨g1137, rfl, hm1138⟩
                  intro _
                  exact ⟨(hm1138.get (k := 2) rfl), (hv0.of_old hm1138)⟩
                rintro _ w1139 ⟨g1137, rfl, hm1138⟩
                obtain ⟨r1140, h1141, q1142⟩ := ob q1125; clear q1125
                refine s_ef (i := 10) rfl (by kernel_rfl) rfl (ef_call tf8 rfl (pointmachine_Throw_ok h1141)) (by decide) (fun _ _ _ q => absurd q (by decide)) ?_
                rintro _ w1144 ⟨rfl, hm1143⟩
                have hm1145 := hm1138.call hm1143
                refine s_rp (i := 11) rfl (by kernel_rfl) rfl (fun _ => (rd_move rfl)) ?_
                refine s_rp (i := 12) rfl (by kernel_rfl) rfl (fun _ => (rd_extract rfl rfl)) ?_
                refine s_rp (i := 13) rfl (by kernel_rfl) rfl (fun _ => (rd_extract rfl rfl)) ?_
                refine s_ef0 (i := 15) rfl (by kernel_rfl) (ef_stw (k := 0) hm1145 tA24 rfl rfl (oc_cons rfl (oc_cons rfl (oc_cons rfl (oc_cons rfl oc_nil)))) rfl rfl rfl) (by decide) (fun _ _ _ q => absurd q (by decide)) ?_
                intro _ w1147 hm1146
                refine s_rp (i := 16) rfl (by kernel_rfl) rfl (fun _ => (rd_assign rfl)) ?_
                refine s_nil (by kernel_rfl) ?_
                obtain rfl := os q1142
                exact ⟨rfl, g1137, (by repeat (first | exact Sub.nil _ | refine Sub.cons rfl ?_)), (hm1146.pick [0, 1, 2] (by decide) rfl)⟩
            · skip
              refine e_ef (i := 14) rfl rfl (ef_alloc hm1077 tZ24 rfl) (by decide) ?_ ?_
              · rintro _ w1150 ⟨g1148, rfl, hm1149⟩
                intro _
                exact ⟨(hm1149.get (k := 2) rfl), (hv0.of_old hm1149)⟩
              rintro _ w1150 ⟨g1148, rfl, hm1149⟩
              obtain ⟨r1151, h1152, q1153⟩ := ob q1116; clear q1116
              refine s_ef (i := 7) rfl (by kernel_rfl) rfl (ef_call tf7 rfl (yardgen_Place_ok h1152)) (by decide) ?_ ?_
              · rintro _ w1155 ⟨rfl, hm1154⟩
                have hm1156 := hm1149.call hm1154
                intro _
                exact ⟨(hm1156.get (k := 2) rfl), (hv0.of_old hm1156)⟩
              rintro _ w1155 ⟨rfl, hm1154⟩
              have hm1156 := hm1149.call hm1154
              obtain ⟨x1157, h1158, q1159⟩ := ob q1153; clear q1153
              refine s_rp (i := 8) rfl (by kernel_rfl) rfl (fun _ => (rd_add64 h1158 rfl rfl)) ?_
              obtain ⟨r1160, h1161, q1162⟩ := ob q1159; clear q1159
              refine s_ef (i := 10) rfl (by kernel_rfl) rfl (ef_call tf8 rfl (pointmachine_Throw_ok h1161)) (by decide) (fun _ _ _ q => absurd q (by decide)) ?_
              rintro _ w1164 ⟨rfl, hm1163⟩
              have hm1165 := hm1156.call hm1163
              refine s_rp (i := 11) rfl (by kernel_rfl) rfl (fun _ => (rd_move rfl)) ?_
              refine s_rp (i := 12) rfl (by kernel_rfl) rfl (fun _ => (rd_extract rfl rfl)) ?_
              refine s_rp (i := 13) rfl (by kernel_rfl) rfl (fun _ => (rd_extract rfl rfl)) ?_
              refine s_ef0 (i := 15) rfl (by kernel_rfl) (ef_stw (k := 0) hm1165 tA24 rfl rfl (oc_cons rfl (oc_cons rfl (oc_cons rfl (oc_cons rfl oc_nil)))) rfl rfl rfl) (by decide) (fun _ _ _ q => absurd q (by decide)) ?_
              intro _ w1167 hm1166
              refine s_rp (i := 16) rfl (by kernel_rfl) rfl (fun _ => (rd_assign rfl)) ?_
              refine s_nil (by kernel_rfl) ?_
              obtain rfl := os q1162
              exact ⟨rfl, g1148, (by repeat (first | exact Sub.nil _ | refine Sub.cons rfl ?_)), (hm1166.pick [0, 1, 2] (by decide) rfl)⟩
          · clear hit1073
            intro e env1168 w1169 hX1170
            obtain ⟨rfl, g1066, hs1171, hm1172⟩ := hX1170
            refine qn_then ?_
            refine cw_sub hs1171 ?_
            refine cw_seq ?_
            refine cw_seq ?_
            refine cw_region ?_
            refine t_rd rfl (rd_move rfl) ?_
            refine t_rd rfl (rd_eql rfl rfl) ?_
            refine rwt_nil ?_
            refine qn_then ?_
            obtain ⟨j1181, hit1182, q1183⟩ := ob q1074; clear q1074
            refine cw_join (X := fun eq envq wq => eq = .normal ∧ Sub [(0, v0), (3, (Value.pointer (some ⟨g1, 0, none⟩))), (4, (Value.int .i64 x929)), (5, (Value.int .i64 i895)), (6, (Value.pointer (some ⟨g941, 0, none⟩))), (7, (Value.int .i64 i896)), (9, (Value.int .i64 j1072.1))] envq ∧ Mem w No [blk g941 24 [(Value.int .i64 i896), (Value.int .i64 i897), (Value.int .i64 i898), (Value.bool b899)], blk g1 24 [(Value.int .i64 j1181.1), (Value.int .i64 j1181.2.1), (Value.int .i64 j1181.2.2.1), (Value.bool j1181.2.2.2)]] wq) ?_ ?_
            · clear q1183
              obtain ⟨hb1184, q1185⟩ | ⟨hb1184, q1185⟩ := oi hit1182 <;> clear hit1182
              · refine cw_t rfl hb1184 ?_
                refine cw_region ?_
                refine t_rd rfl (rd_ld tA24 rfl (hm1172.blk 0 rfl) rfl) ?_
                refine t_ef0 (ef_stw (k := 2) hm1172 tA24 rfl rfl (oc_cons rfl (oc_cons rfl (oc_cons rfl (oc_cons rfl oc_nil)))) rfl rfl rfl) ?_
                intro _ w1187 hm1186
                refine rwt_nil ?_
                obtain rfl := os q1185
                exact ⟨rfl, (by repeat (first | exact Sub.nil _ | refine Sub.cons rfl ?_)), (hm1186.pick [1, 2] (by decide) rfl)⟩
              · refine cw_f rfl hb1184 ?_
                refine cw_skip ?_
                obtain rfl := os q1185
                exact ⟨rfl, (by repeat (first | exact Sub.nil _ | refine Sub.cons rfl ?_)), (hm1172.pick [1, 2] (by decide) rfl)⟩
            · clear hit1182
              intro e env1188 w1189 hX1190
              obtain ⟨rfl, hs1191, hm1192⟩ := hX1190
              refine qn_then ?_
              refine cw_sub hs1191 ?_
              refine cw_seq ?_
              refine cw_region ?_
              refine t_rd rfl (rd_fld tF24_2 rfl) ?_
              refine t_rd rfl (rd_ld1 tO3 rfl (hm1192.blk 0 rfl) (off := 2) rfl) ?_
              refine t_rd rfl (rd_gtr rfl rfl) ?_
              refine t_rd rfl (rd_move rfl) ?_
              refine t_rdg rfl rfl rfl rfl (gv_t _) (fun hg1193 => (rd_move rfl)) ?_
              refine t_rdg rfl rfl rfl rfl (gv_t _) (fun hg1194 => (rd_eql (gvx rfl hg1194) rfl)) ?_
              refine t_rd rfl (rd_and rfl (fun hc1195 => (gvx rfl hc1195))) ?_
              refine t_rd rfl (rd_move rfl) ?_
              refine t_rdg rfl rfl rfl rfl (gv_f _) (fun hg1196 => (rd_fld tF24_2 rfl)) ?_
              refine t_rdg rfl rfl rfl rfl (gv_f _) (fun hg1197 => (rd_ld1 tO3 (gvx rfl hg1197) (hm1192.blk 1 rfl) (off := 2) rfl)) ?_
              refine t_rdg rfl rfl rfl rfl (gv_f _) (fun hg1198 => (rd_fld tF24_2 rfl)) ?_
              refine t_rdg rfl rfl rfl rfl (gv_f _) (fun hg1199 => (rd_ld1 tO3 (gvx rfl hg1199) (hm1192.blk 0 rfl) (off := 2) rfl)) ?_
              refine t_rdg rfl rfl rfl rfl (gv_f _) (fun hg1200 => (rd_neq (gvx rfl hg1200) (gvx rfl hg1200))) ?_
              refine t_rd rfl (rd_or rfl (fun hc1201 => (gvx rfl (bnotIt hc1201)))) ?_
              refine rwt_nil ?_
              refine qn_then ?_
              obtain ⟨hb1202, q1203⟩ | ⟨hb1202, q1203⟩ := oi q1183 <;> clear q1183
              · refine cw_t rfl hb1202 ?_
                refine cw_seq ?_
                refine cw_region ?_
                refine t_rd rfl (rd_assign rfl) ?_
                refine rwt_nil ?_
                refine qn_then ?_
                refine cw_ret ?_
                refine qr_block (qr_then (qr_block (qr_then (qr_then ?_))))
                obtain rfl := hr905 _ (os q1203)
                refine .inl (⟨_, rfl, ⟨rfl, ?_⟩⟩)
                exact ret1 rfl rfl ⟨rfl, (hm1192.pick [] (by decide) rfl)⟩
              · refine cw_f rfl hb1202 ?_
                refine cw_skip ?_
                refine qn_block (qn_then ?_)
                refine cw_seq ?_
                refine cw_region ?_
                refine t_rd rfl (rd_fld tF24_2 rfl) ?_
                refine t_rd rfl (rd_ld1 tO3 rfl (hm1192.blk 0 rfl) (off := 2) rfl) ?_
                refine t_rd rfl (rd_gtr rfl rfl) ?_
                refine t_rd rfl (rd_move rfl) ?_
                refine t_rdg rfl rfl rfl rfl (gv_t _) (fun hg1204 => (rd_fld tF24_0 rfl)) ?_
                refine t_rdg rfl rfl rfl rfl (gv_t _) (fun hg1205 => (rd_ld1 tO3 (gvx rfl hg1205) (hm1192.blk 1 rfl) (off := 0) rfl)) ?_
                refine t_rdg rfl rfl rfl rfl (gv_t _) (fun hg1206 => (rd_move rfl)) ?_
                refine t_rdg rfl rfl rfl rfl (gv_t _) (fun hg1207 => (rd_neq (gvx rfl hg1207) (gvx rfl hg1207))) ?_
                refine t_rd rfl (rd_and rfl (fun hc1208 => (gvx rfl hc1208))) ?_
                refine t_rd rfl (rd_move rfl) ?_
                refine t_rdg rfl rfl rfl rfl (gv_f _) (fun hg1209 => (rd_ld tA24 rfl (hm1192.blk 1 rfl) rfl)) ?_
                obtain ⟨r1211, h1212, q1213⟩ := ob q1203; clear q1203
                refine t_efg rfl rfl rfl rfl (R := (fun v w' => v = gV (!(decide (0 < i898) && (!decide (j1181.1 = i896)))) (Value.bool r1211) ∧ Mem w1189 No [] w')) (gv_f _) (fun hg1210 => (ef_call tf11 (evc (gvx rfl hg1210) evn) (pointmachine_Valid_ok (gO_t h1212 hg1210))).mono (by rintro _ _ ⟨rfl, q⟩; exact ⟨(gV_t hg1210).symm, q⟩)) (fun q => ⟨(gV_f q).symm, Mem.nil _⟩) ?_
                rintro _ w1215 ⟨rfl, hm1214⟩
                have hm1216 := hm1192.call hm1214
                refine t_rdg rfl rfl rfl rfl (gv_f _) (fun hg1217 => (rd_not (gvx rfl hg1217))) ?_
                refine t_rd rfl (rd_or rfl (fun hc1218 => (gvx rfl (bnotIt hc1218)))) ?_
                refine rwt_nil ?_
                refine qn_then ?_
                obtain ⟨hb1219, q1220⟩ | ⟨hb1219, q1220⟩ := oi q1213 <;> clear q1213
                · refine cw_t rfl hb1219 ?_
                  refine cw_seq ?_
                  refine cw_region ?_
                  refine t_rd rfl (rd_assign rfl) ?_
                  refine rwt_nil ?_
                  refine qn_then ?_
                  refine cw_ret ?_
                  refine qr_block (qr_then (qr_then ?_))
                  obtain rfl := hr905 _ (os q1220)
                  refine .inl (⟨_, rfl, ⟨rfl, ?_⟩⟩)
                  exact ret1 rfl rfl ⟨rfl, (hm1216.pick [] (by decide) rfl)⟩
                · refine cw_f rfl hb1219 ?_
                  refine cw_skip ?_
                  refine qn_block (qn_then ?_)
                  refine cw_region ?_
                  refine t_rd rfl (rd_move rfl) ?_
                  obtain ⟨x1221, h1222, q1223⟩ := ob q1220; clear q1220
                  refine t_rd rfl (rd_add64 h1222 rfl rfl) ?_
                  refine t_rd rfl (rd_assign rfl) ?_
                  refine rwt_nil ?_
                  refine qn_then ?_
                  refine ⟨_, (os q1223), (by repeat (first | exact Sub.nil _ | refine Sub.cons rfl ?_)), (hm1216.pick [1] (by decide) rfl)⟩
        · refine cw_f rfl hb971 ?_
          refine cw_seq ?_
          refine cw_region ?_
          refine t_rd rfl (rd_eql rfl rfl) ?_
          refine t_rd rfl (rd_assign rfl) ?_
          refine rwt_nil ?_
          refine qn_then ?_
          obtain ⟨hb1224, q1225⟩ | ⟨hb1224, q1225⟩ := oi q972 <;> clear q972
          · refine cw_t rfl hb1224 ?_
            refine cw_seq ?_
            refine cw_region ?_
            refine t_rd rfl (rd_ld tA24 rfl (hm970.blk 1 rfl) rfl) ?_
            refine t_rd rfl (rd_move rfl) ?_
            obtain ⟨r1226, h1227, q1228⟩ := ob q1225; clear q1225
            refine t_ef rfl (ef_call tf9 rfl (pointmachine_Enter_ok h1227)) ?_
            rintro _ w1230 ⟨rfl, hm1229⟩
            have hm1231 := hm970.call hm1229
            refine t_rd rfl (rd_move rfl) ?_
            refine t_rd rfl (rd_extract rfl rfl) ?_
            refine t_rd rfl (rd_extract rfl rfl) ?_
            refine t_rd rfl (rd_extract rfl rfl) ?_
            refine t_ef rfl (ef_alloc hm1231 tZ24 rfl) ?_
            rintro _ w1234 ⟨g1232, rfl, hm1233⟩
            refine t_ef0 (ef_stw (k := 0) hm1233 tA24 rfl rfl (oc_cons rfl (oc_cons rfl (oc_cons rfl (oc_cons rfl oc_nil)))) rfl rfl rfl) ?_
            intro _ w1236 hm1235
            refine t_rd rfl (rd_assign rfl) ?_
            refine t_rd rfl (rd_assign rfl) ?_
            refine rwt_nil ?_
            refine qn_then ?_
            refine cw_seq ?_
            refine cw_seq ?_
            refine cw_region ?_
            refine t_rd rfl (rd_move rfl) ?_
            refine t_rd rfl (rd_neq rfl rfl) ?_
            refine t_rd rfl (rd_move rfl) ?_
            refine t_rdg rfl rfl rfl rfl (gv_f _) (fun hg1237 => (rd_fld tF24_2 rfl)) ?_
            refine t_rdg rfl rfl rfl rfl (gv_f _) (fun hg1238 => (rd_ld1 tO3 (gvx rfl hg1238) (hm1235.blk 0 rfl) (off := 2) rfl)) ?_
            refine t_rdg rfl rfl rfl rfl (gv_f _) (fun hg1239 => (rd_fld tF24_2 rfl)) ?_
            refine t_rdg rfl rfl rfl rfl (gv_f _) (fun hg1240 => (rd_ld1 tO3 (gvx rfl hg1240) (hm1235.blk 2 rfl) (off := 2) rfl)) ?_
            obtain ⟨x1242, h1243, q1244⟩ := ob q1228; clear q1228
            refine t_rdg rfl rfl rfl rfl (gv_f _) (fun hg1241 => (rd_add64 (gO_t h1243 hg1241) (gvx rfl hg1241) rfl)) ?_
            refine t_rdg rfl rfl rfl rfl (gv_f _) (fun hg1245 => (rd_neq (gvx rfl hg1245) (gvx rfl hg1245))) ?_
            refine t_rd rfl (rd_or rfl (fun hc1246 => (gvx rfl (bnotIt hc1246)))) ?_
            refine t_rd rfl (rd_move rfl) ?_
            refine t_rdg rfl rfl rfl rfl (gv_f _) (fun hg1247 => (rd_fld tF24_0 rfl)) ?_
            refine t_rdg rfl rfl rfl rfl (gv_f _) (fun hg1248 => (rd_ld1 tO3 (gvx rfl hg1248) (hm1235.blk 0 rfl) (off := 0) rfl)) ?_
            refine t_rdg rfl rfl rfl rfl (gv_f _) (fun hg1249 => (rd_fld tF24_0 rfl)) ?_
            refine t_rdg rfl rfl rfl rfl (gv_f _) (fun hg1250 => (rd_ld1 tO3 (gvx rfl hg1250) (hm1235.blk 2 rfl) (off := 0) rfl)) ?_
            refine t_rdg rfl rfl rfl rfl (gv_f _) (fun hg1251 => (rd_neq (gvx rfl hg1251) (gvx rfl hg1251))) ?_
            refine t_rd rfl (rd_or rfl (fun hc1252 => (gvx rfl (bnotIt hc1252)))) ?_
            refine t_rd rfl (rd_move rfl) ?_
            refine t_rdg rfl rfl rfl rfl (gv_f _) (fun hg1253 => (rd_move rfl)) ?_
            refine t_rdg rfl rfl rfl rfl (gv_f _) (fun hg1254 => (rd_fld tF24_0 rfl)) ?_
            refine t_rdg rfl rfl rfl rfl (gv_f _) (fun hg1255 => (rd_ld1 tO3 (gvx rfl hg1255) (hm1235.blk 2 rfl) (off := 0) rfl)) ?_
            refine t_rdg rfl rfl rfl rfl (gv_f _) (fun hg1256 => (rd_neq (gvx rfl hg1256) (gvx rfl hg1256))) ?_
            refine t_rdg rfl rfl rfl rfl (gv_f _) (fun hg1257 => (rd_move rfl)) ?_
            refine t_rdg rfl rfl rfl rfl (gv_f _) (fun hg1258 => (rd_fld tF24_1 rfl)) ?_
            refine t_rdg rfl rfl rfl rfl (gv_f _) (fun hg1259 => (rd_ld1 tO3 (gvx rfl hg1259) (hm1235.blk 2 rfl) (off := 1) rfl)) ?_
            refine t_rdg rfl rfl rfl rfl (gv_f _) (fun hg1260 => (rd_lss (gvx rfl hg1260) (gvx rfl hg1260))) ?_
            refine t_rdg rfl rfl rfl rfl (gv_f _) (fun hg1261 => (rd_neqb tB4 (gvx rfl hg1261) (gvx rfl hg1261))) ?_
            refine t_rd rfl (rd_or rfl (fun hc1262 => (gvx rfl (bnotIt hc1262)))) ?_
            refine t_rd rfl (rd_move rfl) ?_
            refine t_rdg rfl rfl rfl rfl (gv_f _) (fun hg1263 => (rd_fld tF24_3 rfl)) ?_
            refine t_rdg rfl rfl rfl rfl (gv_f _) (fun hg1264 => (rd_ld1 tO4 (gvx rfl hg1264) (hm1235.blk 0 rfl) (off := 3) rfl)) ?_
            refine t_rdg rfl rfl rfl rfl (gv_f _) (fun hg1265 => (rd_fld tF24_3 rfl)) ?_
            refine t_rdg rfl rfl rfl rfl (gv_f _) (fun hg1266 => (rd_ld1 tO4 (gvx rfl hg1266) (hm1235.blk 2 rfl) (off := 3) rfl)) ?_
            refine t_rdg rfl rfl rfl rfl (gv_f _) (fun hg1267 => (rd_move (gvx rfl hg1267))) ?_
            refine t_rdg rfl rfl rfl rfl (gv_nf _ _) (fun hg1268 => (rd_move rfl)) ?_
            refine t_rdg rfl rfl rfl rfl (gv_nf _ _) (fun hg1269 => (rd_fld tF24_1 rfl)) ?_
            refine t_rdg rfl rfl rfl rfl (gv_nf _ _) (fun hg1270 => (rd_ld1 tO3 (gvx rfl hg1270) (hm1235.blk 2 rfl) (off := 1) rfl)) ?_
            refine t_rdg rfl rfl rfl rfl (gv_nf _ _) (fun hg1271 => (rd_lss (gvx rfl hg1271) (gvx rfl hg1271))) ?_
            refine t_rdg rfl rfl rfl rfl (gv_f _) (fun hg1272 => (rd_or (gvx rfl hg1272) (fun hc1273 => (gvx rfl (band hg1272 (bnotIt hc1273)))))) ?_
            refine t_rdg rfl rfl rfl rfl (gv_f _) (fun hg1274 => (rd_neqb tB4 (gvx rfl hg1274) (gvx rfl hg1274))) ?_
            refine t_rd rfl (rd_or rfl (fun hc1275 => (gvx rfl (bnotIt hc1275)))) ?_
            refine rwt_nil ?_
            refine qn_then ?_
            obtain ⟨hb1276, q1277⟩ | ⟨hb1276, q1277⟩ := oi q1244 <;> clear q1244
            · refine cw_t rfl hb1276 ?_
              refine cw_seq ?_
              refine cw_region ?_
              refine t_rd rfl (rd_assign rfl) ?_
              refine rwt_nil ?_
              refine qn_then ?_
              refine cw_ret ?_
              refine qr_then (qr_block (qr_then (qr_block (qr_then (qr_then ?_)))))
              obtain rfl := hr905 _ (os q1277)
              refine .inl (⟨_, rfl, ⟨rfl, ?_⟩⟩)
              exact ret1 rfl rfl ⟨rfl, (hm1235.pick [] (by decide) rfl)⟩
            · refine cw_f rfl hb1276 ?_
              refine cw_skip ?_
              refine qn_then ?_
              refine cw_region ?_
              refine t_rd rfl (rd_ld tA24 rfl (hm1235.blk 0 rfl) rfl) ?_
              refine t_ef0 (ef_stw (k := 2) hm1235 tA24 rfl rfl (oc_cons rfl (oc_cons rfl (oc_cons rfl (oc_cons rfl oc_nil)))) rfl rfl rfl) ?_
              intro _ w1279 hm1278
              refine rwt_nil ?_
              refine qn_block (qn_then ?_)
              refine cw_seq ?_
              refine cw_region ?_
              refine t_rd rfl (rd_fld tF24_2 rfl) ?_
              refine t_rd rfl (rd_ld1 tO3 rfl (hm1278.blk 1 rfl) (off := 2) rfl) ?_
              refine t_rd rfl (rd_gtr rfl rfl) ?_
              refine t_rd rfl (rd_move rfl) ?_
              refine t_rdg rfl rfl rfl rfl (gv_t _) (fun hg1280 => (rd_fld tF24_0 rfl)) ?_
              refine t_rdg rfl rfl rfl rfl (gv_t _) (fun hg1281 => (rd_ld1 tO3 (gvx rfl hg1281) (hm1278.blk 2 rfl) (off := 0) rfl)) ?_
              refine t_rdg rfl rfl rfl rfl (gv_t _) (fun hg1282 => (rd_move rfl)) ?_
              refine t_rdg rfl rfl rfl rfl (gv_t _) (fun hg1283 => (rd_neq (gvx rfl hg1283) (gvx rfl hg1283))) ?_
              refine t_rd rfl (rd_and rfl (fun hc1284 => (gvx rfl hc1284))) ?_
              refine t_rd rfl (rd_move rfl) ?_
              refine t_rdg rfl rfl rfl rfl (gv_f _) (fun hg1285 => (rd_ld tA24 rfl (hm1278.blk 2 rfl) rfl)) ?_
              obtain ⟨r1287, h1288, q1289⟩ := ob q1277; clear q1277
              refine t_efg rfl rfl rfl rfl (gv_f _) (fun _ => (ef_call tf11 (evc (gvx rfl (bnotIt (bandF2 (borr (borl (borl hb1276)))))) evn) (pointmachine_Valid_ok h1288))) (fun q => bcontra q (bnotIt (bandF2 (borr (borl (borl hb1276)))))) ?_
              rintro _ w1291 ⟨rfl, hm1290⟩
              have hm1292 := hm1278.call hm1290
              refine t_rdg rfl rfl rfl rfl (gv_f _) (fun hg1293 => (rd_not rfl)) ?_
              refine t_rd rfl (rd_or rfl (fun hc1294 => (gvx rfl (bnotIt hc1294)))) ?_
              refine rwt_nil ?_
              refine qn_then ?_
              obtain ⟨hb1295, q1296⟩ | ⟨hb1295, q1296⟩ := oi q1289 <;> clear q1289
              · refine cw_t rfl hb1295 ?_
                refine cw_seq ?_
                refine cw_region ?_
                refine t_rd rfl (rd_assign rfl) ?_
                refine rwt_nil ?_
                refine qn_then ?_
                refine cw_ret ?_
                refine qr_block (qr_then (qr_then ?_))
                obtain rfl := hr905 _ (os q1296)
                refine .inl (⟨_, rfl, ⟨rfl, ?_⟩⟩)
                exact ret1 rfl rfl ⟨rfl, (hm1292.pick [] (by decide) rfl)⟩
              · refine cw_f rfl hb1295 ?_
                refine cw_skip ?_
                refine qn_block (qn_then ?_)
                refine cw_region ?_
                refine t_rd rfl (rd_move rfl) ?_
                obtain ⟨x1297, h1298, q1299⟩ := ob q1296; clear q1296
                refine t_rd rfl (rd_add64 h1298 rfl rfl) ?_
                refine t_rd rfl (rd_assign rfl) ?_
                refine rwt_nil ?_
                refine qn_then ?_
                refine ⟨_, (os q1299), (by repeat (first | exact Sub.nil _ | refine Sub.cons rfl ?_)), (hm1292.pick [2] (by decide) rfl)⟩
          · refine cw_f rfl hb1224 ?_
            refine cw_seq ?_
            refine cw_region ?_
            refine t_rd rfl (rd_ld tA24 rfl (hm970.blk 1 rfl) rfl) ?_
            obtain ⟨r1300, h1301, q1302⟩ := ob q1225; clear q1225
            refine t_ef rfl (ef_call tf10 rfl (pointmachine_Leave_ok h1301)) ?_
            rintro _ w1304 ⟨rfl, hm1303⟩
            have hm1305 := hm970.call hm1303
            refine t_rd rfl (rd_move rfl) ?_
            refine t_rd rfl (rd_extract rfl rfl) ?_
            refine t_rd rfl (rd_extract rfl rfl) ?_
            refine t_ef rfl (ef_alloc hm1305 tZ24 rfl) ?_
            rintro _ w1308 ⟨g1306, rfl, hm1307⟩
            refine t_ef0 (ef_stw (k := 0) hm1307 tA24 rfl rfl (oc_cons rfl (oc_cons rfl (oc_cons rfl (oc_cons rfl oc_nil)))) rfl rfl rfl) ?_
            intro _ w1310 hm1309
            refine t_rd rfl (rd_assign rfl) ?_
            refine rwt_nil ?_
            refine qn_then ?_
            refine cw_seq ?_
            refine cw_seq ?_
            refine cw_region ?_
            refine t_rd rfl (rd_move rfl) ?_
            refine t_rd rfl (rd_eql rfl rfl) ?_
            refine t_rd rfl (rd_fld tF24_2 rfl) ?_
            refine t_rd rfl (rd_ld1 tO3 rfl (hm1309.blk 2 rfl) (off := 2) rfl) ?_
            refine t_rd rfl (rd_gtr rfl rfl) ?_
            refine t_rd rfl (rd_neqb tB4 rfl rfl) ?_
            refine rwt_nil ?_
            refine qn_then ?_
            obtain ⟨hb1311, q1312⟩ | ⟨hb1311, q1312⟩ := oi q1302 <;> clear q1302
            · refine cw_t rfl hb1311 ?_
              refine cw_seq ?_
              refine cw_region ?_
              refine t_rd rfl (rd_assign rfl) ?_
              refine rwt_nil ?_
              refine qn_then ?_
              refine cw_ret ?_
              refine qr_then (qr_block (qr_then (qr_block (qr_then (qr_then ?_)))))
              obtain rfl := hr905 _ (os q1312)
              refine .inl (⟨_, rfl, ⟨rfl, ?_⟩⟩)
              exact ret1 rfl rfl ⟨rfl, (hm1309.pick [] (by decide) rfl)⟩
            · refine cw_f rfl hb1311 ?_
              refine cw_skip ?_
              refine qn_then ?_
              refine cw_seq ?_
              refine cw_region ?_
              refine t_rd rfl (rd_move rfl) ?_
              refine t_rd rfl (rd_eql rfl rfl) ?_
              refine rwt_nil ?_
              refine qn_then ?_
              obtain ⟨j1321, hit1322, q1323⟩ := ob q1312; clear q1312
              refine cw_join (X := fun eq envq wq => eq = .normal ∧ Sub [(0, v0), (3, (Value.pointer (some ⟨g1, 0, none⟩))), (4, (Value.int .i64 x929)), (5, (Value.int .i64 i895)), (6, (Value.pointer (some ⟨g941, 0, none⟩))), (7, (Value.int .i64 i896))] envq ∧ Mem w No [blk g941 24 [(Value.int .i64 i896), (Value.int .i64 i897), (Value.int .i64 i898), (Value.bool b899)], blk g1 24 [(Value.int .i64 j1321.1), (Value.int .i64 j1321.2.1), (Value.int .i64 j1321.2.2.1), (Value.bool j1321.2.2.2)]] wq) ?_ ?_
              · clear q1323
                obtain ⟨hb1324, q1325⟩ | ⟨hb1324, q1325⟩ := oi hit1322 <;> clear hit1322
                · refine cw_t rfl hb1324 ?_
                  refine cw_region ?_
                  refine t_rd rfl (rd_ld tA24 rfl (hm1309.blk 0 rfl) rfl) ?_
                  refine t_ef0 (ef_stw (k := 2) hm1309 tA24 rfl rfl (oc_cons rfl (oc_cons rfl (oc_cons rfl (oc_cons rfl oc_nil)))) rfl rfl rfl) ?_
                  intro _ w1327 hm1326
                  refine rwt_nil ?_
                  obtain rfl := os q1325
                  exact ⟨rfl, (by repeat (first | exact Sub.nil _ | refine Sub.cons rfl ?_)), (hm1326.pick [1, 2] (by decide) rfl)⟩
                · refine cw_f rfl hb1324 ?_
                  refine cw_skip ?_
                  obtain rfl := os q1325
                  exact ⟨rfl, (by repeat (first | exact Sub.nil _ | refine Sub.cons rfl ?_)), (hm1309.pick [1, 2] (by decide) rfl)⟩
              · clear hit1322
                intro e env1328 w1329 hX1330
                obtain ⟨rfl, hs1331, hm1332⟩ := hX1330
                refine qn_block (qn_then ?_)
                refine cw_sub hs1331 ?_
                refine cw_seq ?_
                refine cw_region ?_
                refine t_rd rfl (rd_fld tF24_2 rfl) ?_
                refine t_rd rfl (rd_ld1 tO3 rfl (hm1332.blk 0 rfl) (off := 2) rfl) ?_
                refine t_rd rfl (rd_gtr rfl rfl) ?_
                refine t_rd rfl (rd_move rfl) ?_
                refine t_rdg rfl rfl rfl rfl (gv_t _) (fun hg1333 => (rd_fld tF24_0 rfl)) ?_
                refine t_rdg rfl rfl rfl rfl (gv_t _) (fun hg1334 => (rd_ld1 tO3 (gvx rfl hg1334) (hm1332.blk 1 rfl) (off := 0) rfl)) ?_
                refine t_rdg rfl rfl rfl rfl (gv_t _) (fun hg1335 => (rd_move rfl)) ?_
                refine t_rdg rfl rfl rfl rfl (gv_t _) (fun hg1336 => (rd_neq (gvx rfl hg1336) (gvx rfl hg1336))) ?_
                refine t_rd rfl (rd_and rfl (fun hc1337 => (gvx rfl hc1337))) ?_
                refine t_rd rfl (rd_move rfl) ?_
                refine t_rdg rfl rfl rfl rfl (gv_f _) (fun hg1338 => (rd_ld tA24 rfl (hm1332.blk 1 rfl) rfl)) ?_
                obtain ⟨r1340, h1341, q1342⟩ := ob q1323; clear q1323
                refine t_efg rfl rfl rfl rfl (R := (fun v w' => v = gV (!(decide (0 < i898) && (!decide (j1321.1 = i896)))) (Value.bool r1340) ∧ Mem w1329 No [] w')) (gv_f _) (fun hg1339 => (ef_call tf11 (evc (gvx rfl hg1339) evn) (pointmachine_Valid_ok (gO_t h1341 hg1339))).mono (by rintro _ _ ⟨rfl, q⟩; exact ⟨(gV_t hg1339).symm, q⟩)) (fun q => ⟨(gV_f q).symm, Mem.nil _⟩) ?_
                rintro _ w1344 ⟨rfl, hm1343⟩
                have hm1345 := hm1332.call hm1343
                refine t_rdg rfl rfl rfl rfl (gv_f _) (fun hg1346 => (rd_not (gvx rfl hg1346))) ?_
                refine t_rd rfl (rd_or rfl (fun hc1347 => (gvx rfl (bnotIt hc1347)))) ?_
                refine rwt_nil ?_
                refine qn_then ?_
                obtain ⟨hb1348, q1349⟩ | ⟨hb1348, q1349⟩ := oi q1342 <;> clear q1342
                · refine cw_t rfl hb1348 ?_
                  refine cw_seq ?_
                  refine cw_region ?_
                  refine t_rd rfl (rd_assign rfl) ?_
                  refine rwt_nil ?_
                  refine qn_then ?_
                  refine cw_ret ?_
                  refine qr_block (qr_then (qr_then ?_))
                  obtain rfl := hr905 _ (os q1349)
                  refine .inl (⟨_, rfl, ⟨rfl, ?_⟩⟩)
                  exact ret1 rfl rfl ⟨rfl, (hm1345.pick [] (by decide) rfl)⟩
                · refine cw_f rfl hb1348 ?_
                  refine cw_skip ?_
                  refine qn_block (qn_then ?_)
                  refine cw_region ?_
                  refine t_rd rfl (rd_move rfl) ?_
                  obtain ⟨x1350, h1351, q1352⟩ := ob q1349; clear q1349
                  refine t_rd rfl (rd_add64 h1351 rfl rfl) ?_
                  refine t_rd rfl (rd_assign rfl) ?_
                  refine rwt_nil ?_
                  refine qn_then ?_
                  refine ⟨_, (os q1352), (by repeat (first | exact Sub.nil _ | refine Sub.cons rfl ?_)), (hm1345.pick [1] (by decide) rfl)⟩
    · refine cw_f rfl hb918 ?_
      refine cw_exit ?_
      refine qx_then (qx_then ?_)
      obtain rfl := hr905 _ (os q919)
      exact .inr (⟨_, rfl, ⟨rfl, (by repeat (first | exact Sub.nil _ | refine Sub.cons rfl ?_)), (hm911.pick [] (by decide) rfl)⟩⟩)
  · skip
    intro e env1353 w1354 hX1355
    rcases hX1355 with hX1355 | hX1355
    · obtain ⟨p1357, rfl, hX1355⟩ := hX1355
      obtain ⟨rfl, hq1359⟩ := hX1355
      exact qr_block (qr_then ((by have e := os q908; subst e; exact hq1359)))
    · obtain ⟨p1360, rfl, hX1355⟩ := hX1355
      obtain ⟨rfl, hs1361, hm1362⟩ := hX1355
      refine qx_same (qn_then ?_)
      refine cw_sub hs1361 ?_
      refine cw_seq ?_
      refine cw_region ?_
      obtain ⟨r1363, h1364, q1365⟩ := ob q908; clear q908
      refine t_ef rfl (ef_call tf12 rfl (law25_sane_ok h1364)) ?_
      rintro _ w1367 ⟨rfl, hm1366⟩
      have hm1368 := hm1362.call hm1366
      refine t_rd rfl (rd_assign rfl) ?_
      refine rwt_nil ?_
      refine qn_then ?_
      refine cw_ret ?_
      obtain rfl := os q1365
      exact ret1 rfl rfl ⟨rfl, (hm1368.pick [] (by decide) rfl)⟩

theorem law25_PointmachineThrows_ok {N : Nat} {a0 : T_Machine} {a1 : Int} {a2 : Int} {res : Bool} (h : law25_PointmachineThrows N a0 a1 a2 = some res) {w : World}   :
    CallsR Try.prog 4 [(Value.agg (Flat.enc a0).toArray), (Value.int .i64 a1), (Value.int .i64 a2)] w (fun u w' => u = (Value.bool res) ∧ Mem w No [] w') := by
  unfold law25_PointmachineThrows at h
  refine fn_ok Try.func4 rfl rfl rfl ?_
  have hm0 := Mem.nil w
  refine cw_seq ?_
  refine cw_region ?_
  refine t_ef rfl (ef_box hm0 rfl rfl) ?_
  rintro _ w3 ⟨g1, rfl, hm2⟩
  refine t_rd rfl (rd_assign rfl) ?_
  refine rwt_nil ?_
  refine qn_then ?_
  refine cw_seq ?_
  obtain ⟨w5, he7⟩ : ∃ q, q = w3.drew := ⟨_, rfl⟩
  have hm6 := hm2.drew; rw [← he7] at hm6
  refine cw_region_s (fun q => (blk g1 24 [(Value.int .i64 a0.Side), (Value.int .i64 a0.Until), (Value.int .i64 a0.Cuts), (Value.bool a0.Failed)]).φ q) (cls [2] [6, 8]) mixed ?_
  rintro _ rfl; rw [← he7]
  refine s_rp (i := 0) rfl (by kernel_rfl) rfl (fun _ => (rd_fld tF24_0 rfl)) ?_
  refine s_rd (i := 1) rfl (by kernel_rfl) rfl (fun w4 hS => (rd_ld1 tO3 rfl (cells_blk hS) (off := 0) rfl)) (hm6.get (k := 0) rfl) ?_
  refine s_rp (i := 4) rfl (by kernel_rfl) rfl (fun _ => (rd_fld tF24_1 rfl)) ?_
  refine s_rd (i := 5) rfl (by kernel_rfl) rfl (fun w4 hS => (rd_ld1 tO3 rfl (cells_blk hS) (off := 1) rfl)) (hm6.get (k := 0) rfl) ?_
  obtain ⟨r25, h26, q27⟩ := ob h; clear h
  refine s_ef (i := 2) rfl (by kernel_rfl) rfl (ef_call tf7 rfl (yardgen_Place_ok h26)) (by decide) ?_ ?_
  · rintro _ w29 ⟨rfl, hm28⟩
    have hm30 := hm6.call hm28
    intro _
    exact (hm30.get (k := 0) rfl)
  rintro _ w29 ⟨rfl, hm28⟩
  have hm30 := hm6.call hm28
  obtain ⟨x31, h32, q33⟩ := ob q27; clear q27
  refine s_rp (i := 3) rfl (by kernel_rfl) rfl (fun _ => (rd_add64 h32 rfl rfl)) ?_
  obtain ⟨r34, h35, q36⟩ := ob q33; clear q33
  refine s_ef (i := 6) rfl (by kernel_rfl) rfl (ef_call tf7 rfl (yardgen_Place_ok h35)) (by decide) (fun _ _ _ q => absurd q (by decide)) ?_
  rintro _ w38 ⟨rfl, hm37⟩
  have hm39 := hm30.call hm37
  refine s_rp (i := 7) rfl (by kernel_rfl) rfl (fun _ => (rd_build (cs := #[(Value.int .i64 x31), (Value.int .i64 r34), (Value.int .i64 0), (Value.bool false)]) rfl (by kernel_rfl))) ?_
  refine s_ef0 (i := 8) rfl (by kernel_rfl) (ef_stw (k := 0) hm39 tA24 rfl rfl (oc_cons rfl (oc_cons rfl (oc_cons rfl (oc_cons rfl oc_nil)))) rfl rfl rfl) (by decide) (fun _ _ _ q => absurd q (by decide)) ?_
  intro _ w41 hm40
  refine s_nil (by kernel_rfl) ?_
  refine qn_then ?_
  refine cw_seq ?_
  obtain ⟨w43, he45⟩ : ∃ q, q = w41.drew := ⟨_, rfl⟩
  have hm44 := hm40.drew; rw [← he45] at hm44
  refine cw_region_s (fun q => (blk g1 24 [(Value.int .i64 x31), (Value.int .i64 r34), (Value.int .i64 0), (Value.bool false)]).φ q) (cls [3, 6] []) mixed ?_
  rintro _ rfl; rw [← he45]
  refine s_rp (i := 0) rfl (by kernel_rfl) rfl (fun _ => (rd_fld tF24_1 rfl)) ?_
  refine s_rd (i := 1) rfl (by kernel_rfl) rfl (fun w42 hS => (rd_ld1 tO3 rfl (cells_blk hS) (off := 1) rfl)) (hm44.get (k := 0) rfl) ?_
  refine s_rp (i := 2) rfl (by kernel_rfl) rfl (fun _ => (rd_move rfl)) ?_
  refine s_rp (i := 5) rfl (by kernel_rfl) rfl (fun _ => (rd_move rfl)) ?_
  obtain ⟨r61, h62, q63⟩ := ob q36; clear q36
  refine s_ef (i := 3) rfl (by kernel_rfl) rfl (ef_call tf7 rfl (yardgen_Place_ok h62)) (by decide) ?_ ?_
  · rintro _ w65 ⟨rfl, hm64⟩
    have hm66 := hm44.call hm64
    intro _
    exact (hm66.get (k := 0) rfl)
  rintro _ w65 ⟨rfl, hm64⟩
  have hm66 := hm44.call hm64
  obtain ⟨x67, h68, q69⟩ := ob q63; clear q63
  refine s_rp (i := 4) rfl (by kernel_rfl) rfl (fun _ => (rd_add64 h68 rfl rfl)) ?_
  obtain ⟨r70, h71, q72⟩ := ob q69; clear q69
  refine s_ef (i := 6) rfl (by kernel_rfl) rfl (ef_call tf7 rfl (yardgen_Place_ok h71)) (by decide) ?_ ?_
  · rintro _ w74 ⟨rfl, hm73⟩
    have hm75 := hm66.call hm73
    intro _
    exact (hm75.get (k := 0) rfl)
  rintro _ w74 ⟨rfl, hm73⟩
  have hm75 := hm66.call hm73
  refine s_rp (i := 7) rfl (by kernel_rfl) rfl (fun _ => (rd_assign rfl)) ?_
  refine s_rp (i := 8) rfl (by kernel_rfl) rfl (fun _ => (rd_assign rfl)) ?_
  refine s_nil (by kernel_rfl) ?_
  refine qn_then ?_
  refine cw_seq ?_
  refine cw_seq ?_
  refine cw_region ?_
  refine t_rd rfl (rd_assign rfl) ?_
  refine rwt_nil ?_
  refine qn_then ?_
  refine cw_block ?_
  obtain ⟨r262, hit263, q264⟩ := ob q72; clear q72
  refine cw_loop2 (I := fun q envq wq => Sub [(1, (Value.int .i64 x67)), (2, (Value.int .i64 r70)), (3, (Value.pointer (some ⟨g1, 0, none⟩))), (7, (Value.int .i64 q))] envq ∧ Mem w No [blk g1 24 [(Value.int .i64 x31), (Value.int .i64 r34), (Value.int .i64 0), (Value.bool false)]] wq) (X := fun eq envq wq => (∃ p265, r262 = (Sum.inl p265) ∧ eq = .ret ∧ retQ Try.prog 112 Try.f4 (fun u w' => u = (Value.bool p265) ∧ Mem w No [] w') .ret envq wq) ∨ (∃ p266, r262 = (Sum.inr p266) ∧ eq = .exit 0 ∧ Sub [] envq ∧ Mem w No [] wq)) hit263 ⟨(by repeat (first | exact Sub.nil _ | refine Sub.cons rfl ?_)), (hm75.pick [0] (by decide) rfl)⟩ ?_ ?_
  · rintro i255 x257 env258 w259 hf260 hr261 ⟨hs_, hm_⟩
    have hs_ : Sub [(1, (Value.int .i64 x67)), (2, (Value.int .i64 r70)), (3, (Value.pointer (some ⟨g1, 0, none⟩))), (7, (Value.int .i64 i255))] env258 := hs_
    have hm267 : Mem w No [blk g1 24 [(Value.int .i64 x31), (Value.int .i64 r34), (Value.int .i64 0), (Value.bool false)]] w259 := hm_
    refine cw_sub hs_ ?_
    clear hs_ hm_ q264
    have h : law25_PointmachineThrows_l1 N x31 r34 x67 r70 i255 = some x257 := hf260
    clear hf260
    refine cw_seq ?_
    refine cw_seq ?_
    refine cw_region ?_
    refine t_rd rfl (rd_move rfl) ?_
    refine t_rd rfl (rd_leq rfl rfl) ?_
    refine rwt_nil ?_
    refine qn_then ?_
    obtain ⟨hb268, q269⟩ | ⟨hb268, q269⟩ := oi h <;> clear h
    · refine cw_t rfl hb268 ?_
      refine cw_skip ?_
      refine qn_then ?_
      refine cw_seq ?_
      refine cw_block ?_
      refine cw_seq ?_
      refine cw_region ?_
      refine t_rd rfl (rd_ld tA24 rfl (hm267.blk 0 rfl) rfl) ?_
      refine t_rd rfl (rd_move rfl) ?_
      refine t_rd rfl (rd_move rfl) ?_
      refine t_rd rfl (rd_move rfl) ?_
      obtain ⟨r270, h271, q272⟩ := ob q269; clear q269
      refine t_ef rfl (ef_call tf8 rfl (pointmachine_Throw_ok h271)) ?_
      rintro _ w274 ⟨rfl, hm273⟩
      have hm275 := hm267.call hm273
      refine t_rd rfl (rd_move rfl) ?_
      refine t_rd rfl (rd_extract rfl rfl) ?_
      refine t_rd rfl (rd_extract rfl rfl) ?_
      refine t_ef rfl (ef_alloc hm275 tZ24 rfl) ?_
      rintro _ w278 ⟨g276, rfl, hm277⟩
      refine t_ef0 (ef_stw (k := 0) hm277 tA24 rfl rfl (oc_cons rfl (oc_cons rfl (oc_cons rfl (oc_cons rfl oc_nil)))) rfl rfl rfl) ?_
      intro _ w280 hm279
      refine t_rd rfl (rd_assign rfl) ?_
      refine rwt_nil ?_
      refine qn_then ?_
      refine cw_seq ?_
      refine cw_region ?_
      refine t_rd rfl (rd_fld tF24_1 rfl) ?_
      refine t_rd rfl (rd_ld1 tO3 rfl (hm279.blk 1 rfl) (off := 1) rfl) ?_
      refine t_rd rfl (rd_assign rfl) ?_
      refine rwt_nil ?_
      refine qn_then ?_
      refine cw_seq ?_
      refine cw_seq ?_
      refine cw_region ?_
      refine t_rd rfl (rd_move rfl) ?_
      refine t_rd rfl (rd_fld tF24_0 rfl) ?_
      refine t_rd rfl (rd_ld1 tO3 rfl (hm279.blk 1 rfl) (off := 0) rfl) ?_
      refine t_rd rfl (rd_neq rfl rfl) ?_
      refine rwt_nil ?_
      refine qn_then ?_
      obtain ⟨j287, hit288, q289⟩ := ob q272; clear q272
      refine cw_join (X := fun eq envq wq => eq = .normal ∧ Sub [(1, (Value.int .i64 x67)), (2, (Value.int .i64 r70)), (3, (Value.pointer (some ⟨g1, 0, none⟩))), (7, (Value.int .i64 i255)), (8, (Value.pointer (some ⟨g276, 0, none⟩))), (9, (Value.int .i64 r270.2)), (10, (Value.int .i64 j287))] envq ∧ Mem w No [blk g276 24 [(Value.int .i64 r270.1.Side), (Value.int .i64 r270.1.Until), (Value.int .i64 r270.1.Cuts), (Value.bool r270.1.Failed)], blk g1 24 [(Value.int .i64 x31), (Value.int .i64 r34), (Value.int .i64 0), (Value.bool false)]] wq) ?_ ?_
      · clear q289
        obtain ⟨hb290, q291⟩ | ⟨hb290, q291⟩ := oi hit288 <;> clear hit288
        · refine cw_t rfl hb290 ?_
          refine cw_region ?_
          refine t_rd rfl (rd_move rfl) ?_
          refine t_rd rfl (rd_move rfl) ?_
          obtain ⟨x292, h293, q294⟩ := ob q291; clear q291
          refine t_rd rfl (rd_add64 h293 rfl rfl) ?_
          refine t_rd rfl (rd_assign rfl) ?_
          refine rwt_nil ?_
          obtain rfl := os q294
          exact ⟨rfl, (by repeat (first | exact Sub.nil _ | refine Sub.cons rfl ?_)), (hm279.pick [0, 1] (by decide) rfl)⟩
        · refine cw_f rfl hb290 ?_
          refine cw_skip ?_
          obtain rfl := os q291
          exact ⟨rfl, (by repeat (first | exact Sub.nil _ | refine Sub.cons rfl ?_)), (hm279.pick [0, 1] (by decide) rfl)⟩
      · clear hit288
        intro e env295 w296 hX297
        obtain ⟨rfl, hs298, hm299⟩ := hX297
        refine qn_then ?_
        refine cw_sub hs298 ?_
        refine cw_seq ?_
        refine cw_seq ?_
        refine cw_region ?_
        refine t_rd rfl (rd_move rfl) ?_
        refine t_rd rfl (rd_neq rfl rfl) ?_
        refine t_rd rfl (rd_move rfl) ?_
        refine t_rdg rfl rfl rfl rfl (gv_f _) (fun hg300 => (rd_fld tF24_0 rfl)) ?_
        refine t_rdg rfl rfl rfl rfl (gv_f _) (fun hg301 => (rd_ld1 tO3 (gvx rfl hg301) (hm299.blk 0 rfl) (off := 0) rfl)) ?_
        refine t_rdg rfl rfl rfl rfl (gv_f _) (fun hg302 => (rd_move rfl)) ?_
        refine t_rdg rfl rfl rfl rfl (gv_f _) (fun hg303 => (rd_neq (gvx rfl hg303) (gvx rfl hg303))) ?_
        refine t_rd rfl (rd_or rfl (fun hc304 => (gvx rfl (bnotIt hc304)))) ?_
        refine t_rd rfl (rd_move rfl) ?_
        refine t_rdg rfl rfl rfl rfl (gv_f _) (fun hg305 => (rd_fld tF24_2 rfl)) ?_
        refine t_rdg rfl rfl rfl rfl (gv_f _) (fun hg306 => (rd_ld1 tO3 (gvx rfl hg306) (hm299.blk 0 rfl) (off := 2) rfl)) ?_
        refine t_rdg rfl rfl rfl rfl (gv_f _) (fun hg307 => (rd_neq (gvx rfl hg307) rfl)) ?_
        refine t_rd rfl (rd_or rfl (fun hc308 => (gvx rfl (bnotIt hc308)))) ?_
        refine t_rd rfl (rd_move rfl) ?_
        refine t_rdg rfl rfl rfl rfl (gv_f _) (fun hg309 => (rd_fld tF24_3 rfl)) ?_
        refine t_rdg rfl rfl rfl rfl (gv_f _) (fun hg310 => (rd_ld1 tO4 (gvx rfl hg310) (hm299.blk 0 rfl) (off := 3) rfl)) ?_
        refine t_rd rfl (rd_or rfl (fun hc311 => (gvx rfl (bnotIt hc311)))) ?_
        refine t_rd rfl (rd_move rfl) ?_
        refine t_rdg rfl rfl rfl rfl (gv_f _) (fun hg312 => (rd_fld tF24_1 rfl)) ?_
        refine t_rdg rfl rfl rfl rfl (gv_f _) (fun hg313 => (rd_ld1 tO3 (gvx rfl hg313) (hm299.blk 0 rfl) (off := 1) rfl)) ?_
        refine t_rdg rfl rfl rfl rfl (gv_f _) (fun hg314 => (rd_move rfl)) ?_
        refine t_rdg rfl rfl rfl rfl (gv_f _) (fun hg315 => (rd_neq (gvx rfl hg315) (gvx rfl hg315))) ?_
        refine t_rd rfl (rd_or rfl (fun hc316 => (gvx rfl (bnotIt hc316)))) ?_
        refine rwt_nil ?_
        refine qn_then ?_
        obtain ⟨hb317, q318⟩ | ⟨hb317, q318⟩ := oi q289 <;> clear q289
        · refine cw_t rfl hb317 ?_
          refine cw_seq ?_
          refine cw_region ?_
          refine t_rd rfl (rd_assign rfl) ?_
          refine rwt_nil ?_
          refine qn_then ?_
          refine cw_ret ?_
          refine qr_then (qr_block (qr_then (qr_then ?_)))
          obtain rfl := hr261 _ (os q318)
          refine .inl (⟨_, rfl, ⟨rfl, ?_⟩⟩)
          exact ret1 rfl rfl ⟨rfl, (hm299.pick [] (by decide) rfl)⟩
        · refine cw_f rfl hb317 ?_
          refine cw_skip ?_
          refine qn_then ?_
          refine cw_seq ?_
          refine cw_region ?_
          refine t_rd rfl (rd_ld tA24 rfl (hm299.blk 0 rfl) rfl) ?_
          refine t_rd rfl (rd_move rfl) ?_
          refine t_rd rfl (rd_move rfl) ?_
          refine t_rd rfl (rd_fld tF24_1 rfl) ?_
          refine t_rd rfl (rd_ld1 tO3 rfl (hm299.blk 0 rfl) (off := 1) rfl) ?_
          refine t_rd rfl (rd_max rfl rfl) ?_
          refine t_rd rfl (rd_move rfl) ?_
          obtain ⟨r319, h320, q321⟩ := ob q318; clear q318
          refine t_ef rfl (ef_call tf8 rfl (pointmachine_Throw_ok h320)) ?_
          rintro _ w323 ⟨rfl, hm322⟩
          have hm324 := hm299.call hm322
          refine t_rd rfl (rd_move rfl) ?_
          refine t_rd rfl (rd_extract rfl rfl) ?_
          refine t_rd rfl (rd_extract rfl rfl) ?_
          refine t_ef rfl (ef_alloc hm324 tZ24 rfl) ?_
          rintro _ w327 ⟨g325, rfl, hm326⟩
          refine t_ef0 (ef_stw (k := 0) hm326 tA24 rfl rfl (oc_cons rfl (oc_cons rfl (oc_cons rfl (oc_cons rfl oc_nil)))) rfl rfl rfl) ?_
          intro _ w329 hm328
          refine t_rd rfl (rd_assign rfl) ?_
          refine rwt_nil ?_
          refine qn_then ?_
          refine cw_seq ?_
          refine cw_region ?_
          refine t_rd rfl (rd_ld tA24 rfl (hm328.blk 1 rfl) rfl) ?_
          refine t_rd rfl (rd_move rfl) ?_
          refine t_rd rfl (rd_fld tF24_1 rfl) ?_
          refine t_rd rfl (rd_ld1 tO3 rfl (hm328.blk 1 rfl) (off := 1) rfl) ?_
          refine t_rd rfl (rd_max rfl rfl) ?_
          obtain ⟨r330, h331, q332⟩ := ob q321; clear q321
          refine t_ef rfl (ef_call tf9 rfl (pointmachine_Enter_ok h331)) ?_
          rintro _ w334 ⟨rfl, hm333⟩
          have hm335 := hm328.call hm333
          refine t_rd rfl (rd_move rfl) ?_
          refine t_rd rfl (rd_extract rfl rfl) ?_
          refine t_rd rfl (rd_extract rfl rfl) ?_
          refine t_rd rfl (rd_extract rfl rfl) ?_
          refine t_ef rfl (ef_alloc hm335 tZ24 rfl) ?_
          rintro _ w338 ⟨g336, rfl, hm337⟩
          refine t_ef0 (ef_stw (k := 0) hm337 tA24 rfl rfl (oc_cons rfl (oc_cons rfl (oc_cons rfl (oc_cons rfl oc_nil)))) rfl rfl rfl) ?_
          intro _ w340 hm339
          refine t_rd rfl (rd_assign rfl) ?_
          refine t_rd rfl (rd_assign rfl) ?_
          refine rwt_nil ?_
          refine qn_then ?_
          refine cw_seq ?_
          refine cw_region ?_
          refine t_rd rfl (rd_move rfl) ?_
          refine t_rd rfl (rd_neq rfl rfl) ?_
          refine t_rd rfl (rd_move rfl) ?_
          refine t_rdg rfl rfl rfl rfl (gv_f _) (fun hg341 => (rd_ld tA24 rfl (hm339.blk 1 rfl) rfl)) ?_
          refine t_rdg rfl rfl rfl rfl (gv_f _) (fun hg342 => (rd_ld tA24 rfl (hm339.blk 2 rfl) rfl)) ?_
          refine t_rdg rfl rfl rfl rfl (gv_f _) (fun hg343 => (rd_neqs eqs24 (a := r319.1) (b := r270.1) (gvx rfl hg343) (gvx rfl hg343))) ?_
          refine t_rd rfl (rd_or rfl (fun hc344 => (gvx rfl (bnotIt hc344)))) ?_
          refine t_rd rfl (rd_move rfl) ?_
          refine t_rdg rfl rfl rfl rfl (gv_f _) (fun hg345 => (rd_move rfl)) ?_
          refine t_rdg rfl rfl rfl rfl (gv_f _) (fun hg346 => (rd_neq (gvx rfl hg346) rfl)) ?_
          refine t_rd rfl (rd_or rfl (fun hc347 => (gvx rfl (bnotIt hc347)))) ?_
          refine t_rd rfl (rd_move rfl) ?_
          refine t_rdg rfl rfl rfl rfl (gv_f _) (fun hg348 => (rd_move rfl)) ?_
          refine t_rdg rfl rfl rfl rfl (gv_f _) (fun hg349 => (rd_move rfl)) ?_
          refine t_rdg rfl rfl rfl rfl (gv_f _) (fun hg350 => (rd_neq (gvx rfl hg350) (gvx rfl hg350))) ?_
          refine t_rd rfl (rd_or rfl (fun hc351 => (gvx rfl (bnotIt hc351)))) ?_
          refine rwt_nil ?_
          refine qn_then ?_
          obtain ⟨hb352, q353⟩ | ⟨hb352, q353⟩ := oi q332 <;> clear q332
          · refine cw_t rfl hb352 ?_
            refine cw_seq ?_
            refine cw_region ?_
            refine t_rd rfl (rd_assign rfl) ?_
            refine rwt_nil ?_
            refine qn_then ?_
            refine cw_ret ?_
            refine qr_block (qr_then (qr_then ?_))
            obtain rfl := hr261 _ (os q353)
            refine .inl (⟨_, rfl, ⟨rfl, ?_⟩⟩)
            exact ret1 rfl rfl ⟨rfl, (hm339.pick [] (by decide) rfl)⟩
          · refine cw_f rfl hb352 ?_
            refine cw_skip ?_
            refine qn_block (qn_then ?_)
            refine cw_region ?_
            refine t_rd rfl (rd_move rfl) ?_
            obtain ⟨x354, h355, q356⟩ := ob q353; clear q353
            refine t_rd rfl (rd_add64 h355 rfl rfl) ?_
            refine t_rd rfl (rd_assign rfl) ?_
            refine rwt_nil ?_
            refine qn_then ?_
            refine ⟨_, (os q356), (by repeat (first | exact Sub.nil _ | refine Sub.cons rfl ?_)), (hm339.pick [3] (by decide) rfl)⟩
    · refine cw_f rfl hb268 ?_
      refine cw_exit ?_
      refine qx_then (qx_then ?_)
      obtain rfl := hr261 _ (os q269)
      exact .inr (⟨_, rfl, ⟨rfl, (by repeat (first | exact Sub.nil _ | refine Sub.cons rfl ?_)), (hm267.pick [] (by decide) rfl)⟩⟩)
  · skip
    intro e env357 w358 hX359
    rcases hX359 with hX359 | hX359
    · obtain ⟨p361, rfl, hX359⟩ := hX359
      obtain ⟨rfl, hq363⟩ := hX359
      exact qr_block (qr_then ((by have e := os q264; subst e; exact hq363)))
    · obtain ⟨p364, rfl, hX359⟩ := hX359
      obtain ⟨rfl, hs365, hm366⟩ := hX359
      refine qx_same (qn_then ?_)
      refine cw_sub hs365 ?_
      refine cw_seq ?_
      refine cw_region ?_
      obtain ⟨r367, h368, q369⟩ := ob q264; clear q264
      refine t_ef rfl (ef_call tf12 rfl (law25_sane_ok h368)) ?_
      rintro _ w371 ⟨rfl, hm370⟩
      have hm372 := hm366.call hm370
      refine t_rd rfl (rd_assign rfl) ?_
      refine rwt_nil ?_
      refine qn_then ?_
      refine cw_ret ?_
      obtain rfl := os q369
      exact ret1 rfl rfl ⟨rfl, (hm372.pick [] (by decide) rfl)⟩

theorem r25_side_ok {N : Nat} {a0 : Int} {res : Bool} (h : r25_side N a0 = some res) {w : World}   :
    CallsR Try.prog 21 [(Value.int .i64 a0)] w (fun u w' => u = (Value.bool res) ∧ Mem w No [] w') := by
  unfold r25_side at h
  refine fn_ok Try.func21 rfl rfl rfl ?_
  have hm0 := Mem.nil w
  refine cw_seq ?_
  refine cw_region ?_
  refine t_rd rfl (rd_assign rfl) ?_
  refine rwt_nil ?_
  refine qn_then ?_
  refine cw_seq ?_
  refine cw_region ?_
  refine t_rd rfl (rd_move rfl) ?_
  refine t_rd rfl (rd_eql rfl rfl) ?_
  refine t_rd rfl (rd_move rfl) ?_
  refine t_rdg rfl rfl rfl rfl (gv_f _) (fun hg1 => (rd_move rfl)) ?_
  refine t_rdg rfl rfl rfl rfl (gv_f _) (fun hg2 => (rd_eql (gvx rfl hg2) rfl)) ?_
  refine t_rd rfl (rd_or rfl (fun hc3 => (gvx rfl (bnotIt hc3)))) ?_
  refine t_rd rfl (rd_assign rfl) ?_
  refine rwt_nil ?_
  refine qn_then ?_
  refine cw_ret ?_
  obtain rfl := os h
  exact ret1 rfl rfl ⟨rfl, (hm0.pick [] (by decide) rfl)⟩

theorem r25_time_ok {N : Nat} {a0 : Int} {res : Bool} (h : r25_time N a0 = some res) {w : World}   :
    CallsR Try.prog 22 [(Value.int .i64 a0)] w (fun u w' => u = (Value.bool res) ∧ Mem w No [] w') := by
  unfold r25_time at h
  refine fn_ok Try.func22 rfl rfl rfl ?_
  have hm0 := Mem.nil w
  refine cw_seq ?_
  refine cw_region ?_
  refine t_rd rfl (rd_assign rfl) ?_
  refine rwt_nil ?_
  refine qn_then ?_
  refine cw_seq ?_
  refine cw_region ?_
  refine t_rd rfl (rd_move rfl) ?_
  refine t_rd rfl (rd_geq rfl rfl) ?_
  refine t_rd rfl (rd_move rfl) ?_
  refine t_rdg rfl rfl rfl rfl (gv_t _) (fun hg1 => (rd_move rfl)) ?_
  refine t_rdg rfl rfl rfl rfl (gv_t _) (fun hg2 => (rd_leq (gvx rfl hg2) rfl)) ?_
  refine t_rd rfl (rd_and rfl (fun hc3 => (gvx rfl hc3))) ?_
  refine t_rd rfl (rd_assign rfl) ?_
  refine rwt_nil ?_
  refine qn_then ?_
  refine cw_ret ?_
  obtain rfl := os h
  exact ret1 rfl rfl ⟨rfl, (hm0.pick [] (by decide) rfl)⟩

theorem r25_Valid_ok {N : Nat} {a0 : T_Machine} {res : Bool} (h : r25_Valid N a0 = some res) {w : World}   :
    CallsR Try.prog 15 [(Value.agg (Flat.enc a0).toArray)] w (fun u w' => u = (Value.bool res) ∧ Mem w No [] w') := by
  unfold r25_Valid at h
  refine fn_ok Try.func15 rfl rfl rfl ?_
  have hm0 := Mem.nil w
  refine cw_seq ?_
  refine cw_region ?_
  refine t_ef rfl (ef_box hm0 rfl rfl) ?_
  rintro _ w3 ⟨g1, rfl, hm2⟩
  refine t_rd rfl (rd_assign rfl) ?_
  refine rwt_nil ?_
  refine qn_then ?_
  refine cw_seq ?_
  refine cw_region ?_
  refine t_rd rfl (rd_fld tF24_0 rfl) ?_
  refine t_rd rfl (rd_ld1 tO3 rfl (hm2.blk 0 rfl) (off := 0) rfl) ?_
  obtain ⟨r4, h5, q6⟩ := ob h; clear h
  refine t_ef rfl (ef_call tf21 rfl (r25_side_ok h5)) ?_
  rintro _ w8 ⟨rfl, hm7⟩
  have hm9 := hm2.call hm7
  refine t_rd rfl (rd_move rfl) ?_
  refine t_rdg rfl rfl rfl rfl (gv_t _) (fun hg10 => (rd_fld tF24_1 rfl)) ?_
  refine t_rdg rfl rfl rfl rfl (gv_t _) (fun hg11 => (rd_ld1 tO3 (gvx rfl hg11) (hm9.blk 0 rfl) (off := 1) rfl)) ?_
  obtain ⟨r13, h14, q15⟩ := ob q6; clear q6
  refine t_efg rfl rfl rfl rfl (R := (fun v w' => v = gV r4 (Value.bool r13) ∧ Mem w8 No [] w')) (gv_t _) (fun hg12 => (ef_call tf22 (evc (gvx rfl hg12) evn) (r25_time_ok (gO_t h14 hg12))).mono (by rintro _ _ ⟨rfl, q⟩; exact ⟨(gV_t hg12).symm, q⟩)) (fun q => ⟨(gV_f q).symm, Mem.nil _⟩) ?_
  rintro _ w17 ⟨rfl, hm16⟩
  have hm18 := hm9.call hm16
  refine t_rd rfl (rd_and rfl (fun hc19 => (gvx rfl hc19))) ?_
  refine t_rd rfl (rd_move rfl) ?_
  refine t_rdg rfl rfl rfl rfl (gv_t _) (fun hg20 => (rd_fld tF24_2 rfl)) ?_
  refine t_rdg rfl rfl rfl rfl (gv_t _) (fun hg21 => (rd_ld1 tO3 (gvx rfl hg21) (hm18.blk 0 rfl) (off := 2) rfl)) ?_
  refine t_rdg rfl rfl rfl rfl (gv_t _) (fun hg22 => (rd_geq (gvx rfl hg22) rfl)) ?_
  refine t_rd rfl (rd_and rfl (fun hc23 => (gvx rfl hc23))) ?_
  refine t_rd rfl (rd_move rfl) ?_
  refine t_rdg rfl rfl rfl rfl (gv_t _) (fun hg24 => (rd_fld tF24_2 rfl)) ?_
  refine t_rdg rfl rfl rfl rfl (gv_t _) (fun hg25 => (rd_ld1 tO3 (gvx rfl hg25) (hm18.blk 0 rfl) (off := 2) rfl)) ?_
  refine t_rdg rfl rfl rfl rfl (gv_t _) (fun hg26 => (rd_leq (gvx rfl hg26) rfl)) ?_
  refine t_rd rfl (rd_and rfl (fun hc27 => (gvx rfl hc27))) ?_
  refine t_rd rfl (rd_assign rfl) ?_
  refine rwt_nil ?_
  refine qn_then ?_
  refine cw_ret ?_
  obtain rfl := os q15
  exact ret1 rfl rfl ⟨rfl, (hm18.pick [] (by decide) rfl)⟩

theorem r25_Throw_ok {N : Nat} {a0 : T_Machine} {a1 : Int} {a2 : Int} {a3 : Int} {res : T_Machine × Int} (h : r25_Throw N a0 a1 a2 a3 = some res) {w : World}   :
    CallsR Try.prog 13 [(Value.agg (Flat.enc a0).toArray), (Value.int .i64 a1), (Value.int .i64 a2), (Value.int .i64 a3)] w (fun u w' => u = (Value.tuple #[(Value.agg (Flat.enc res.1).toArray), (Value.int .i64 res.2)]) ∧ Mem w No [] w') := by
  unfold r25_Throw at h
  refine fn_ok Try.func13 rfl rfl rfl ?_
  have hm0 := Mem.nil w
  refine cw_seq ?_
  refine cw_region ?_
  refine t_ef rfl (ef_box hm0 rfl rfl) ?_
  rintro _ w3 ⟨g1, rfl, hm2⟩
  refine t_ef rfl (ef_alloc hm2 tZ24 rfl) ?_
  rintro _ w6 ⟨g4, rfl, hm5⟩
  refine t_rd rfl (rd_assign rfl) ?_
  refine rwt_nil ?_
  refine qn_then ?_
  refine cw_seq ?_
  refine cw_block ?_
  refine cw_seq ?_
  refine cw_region ?_
  refine t_rd rfl (rd_ld tA24 rfl (hm5.blk 1 rfl) rfl) ?_
  obtain ⟨r7, h8, q9⟩ := ob h; clear h
  refine t_ef rfl (ef_call tf15 rfl (r25_Valid_ok h8)) ?_
  rintro _ w11 ⟨rfl, hm10⟩
  have hm12 := hm5.call hm10
  refine t_rd rfl (rd_not rfl) ?_
  refine t_rd rfl (rd_move rfl) ?_
  refine t_rdg rfl rfl rfl rfl (gv_f _) (fun hg13 => (rd_move rfl)) ?_
  obtain ⟨r15, h16, q17⟩ := ob q9; clear q9
  refine t_efg rfl rfl rfl rfl (R := (fun v w' => v = gV (!(!r7)) (Value.bool r15) ∧ Mem w11 No [] w')) (gv_f _) (fun hg14 => (ef_call tf21 (evc (gvx rfl hg14) evn) (r25_side_ok (gO_t h16 hg14))).mono (by rintro _ _ ⟨rfl, q⟩; exact ⟨(gV_t hg14).symm, q⟩)) (fun q => ⟨(gV_f q).symm, Mem.nil _⟩) ?_
  rintro _ w19 ⟨rfl, hm18⟩
  have hm20 := hm12.call hm18
  refine t_rdg rfl rfl rfl rfl (gv_f _) (fun hg21 => (rd_not (gvx rfl hg21))) ?_
  refine t_rd rfl (rd_or rfl (fun hc22 => (gvx rfl (bnotIt hc22)))) ?_
  refine t_rd rfl (rd_move rfl) ?_
  refine t_rdg rfl rfl rfl rfl (gv_f _) (fun hg23 => (rd_move rfl)) ?_
  obtain ⟨r25, h26, q27⟩ := ob q17; clear q17
  refine t_efg rfl rfl rfl rfl (R := (fun v w' => v = gV (!((!r7) || (!r15))) (Value.bool r25) ∧ Mem w19 No [] w')) (gv_f _) (fun hg24 => (ef_call tf22 (evc (gvx rfl hg24) evn) (r25_time_ok (gO_t h26 hg24))).mono (by rintro _ _ ⟨rfl, q⟩; exact ⟨(gV_t hg24).symm, q⟩)) (fun q => ⟨(gV_f q).symm, Mem.nil _⟩) ?_
  rintro _ w29 ⟨rfl, hm28⟩
  have hm30 := hm20.call hm28
  refine t_rdg rfl rfl rfl rfl (gv_f _) (fun hg31 => (rd_not (gvx rfl hg31))) ?_
  refine t_rd rfl (rd_or rfl (fun hc32 => (gvx rfl (bnotIt hc32)))) ?_
  refine t_rd rfl (rd_move rfl) ?_
  refine t_rdg rfl rfl rfl rfl (gv_f _) (fun hg33 => (rd_move rfl)) ?_
  obtain ⟨r35, h36, q37⟩ := ob q27; clear q27
  refine t_efg rfl rfl rfl rfl (R := (fun v w' => v = gV (!(((!r7) || (!r15)) || (!r25))) (Value.bool r35) ∧ Mem w29 No [] w')) (gv_f _) (fun hg34 => (ef_call tf22 (evc (gvx rfl hg34) evn) (r25_time_ok (gO_t h36 hg34))).mono (by rintro _ _ ⟨rfl, q⟩; exact ⟨(gV_t hg34).symm, q⟩)) (fun q => ⟨(gV_f q).symm, Mem.nil _⟩) ?_
  rintro _ w39 ⟨rfl, hm38⟩
  have hm40 := hm30.call hm38
  refine t_rdg rfl rfl rfl rfl (gv_f _) (fun hg41 => (rd_not (gvx rfl hg41))) ?_
  refine t_rd rfl (rd_or rfl (fun hc42 => (gvx rfl (bnotIt hc42)))) ?_
  refine t_rd rfl (rd_assign rfl) ?_
  refine rwt_nil ?_
  refine qn_then ?_
  obtain ⟨hb43, q44⟩ | ⟨hb43, q44⟩ := oi q37 <;> clear q37
  · refine cw_t rfl hb43 ?_
    refine cw_seq ?_
    refine cw_region ?_
    refine t_rd rfl (rd_build (cs := #[(Value.int .i64 0), (Value.int .i64 0), (Value.int .i64 0), (Value.bool false)]) rfl (by kernel_rfl)) ?_
    refine t_ef0 (ef_stw (k := 0) hm40 tA24 rfl rfl (oc_cons rfl (oc_cons rfl (oc_cons rfl (oc_cons rfl oc_nil)))) rfl rfl rfl) ?_
    intro _ w46 hm45
    refine t_rd rfl (rd_assign rfl) ?_
    refine rwt_nil ?_
    refine qn_then ?_
    refine cw_ret ?_
    refine qr_block (qr_then ?_)
    obtain rfl := os q44
    exact retLn (rs := [.cell 8 24, .tmp 9]) rfl (.rc rfl tA24 (hm45.blk 0 rfl) rfl (.rt rfl .rn)) rfl ⟨rfl, (hm45.pick [] (by decide) rfl)⟩
  · refine cw_f rfl hb43 ?_
    refine cw_seq ?_
    refine cw_region ?_
    refine t_rd rfl (rd_fld tF24_3 rfl) ?_
    refine t_rd rfl (rd_ld1 tO4 rfl (hm40.blk 1 rfl) (off := 3) rfl) ?_
    refine t_rd rfl (rd_assign rfl) ?_
    refine rwt_nil ?_
    refine qn_then ?_
    obtain ⟨hb47, q48⟩ | ⟨hb47, q48⟩ := oi q44 <;> clear q44
    · refine cw_t rfl hb47 ?_
      refine cw_seq ?_
      refine cw_region ?_
      refine t_rd rfl (rd_build (cs := #[(Value.int .i64 0), (Value.int .i64 0), (Value.int .i64 0), (Value.bool false)]) rfl (by kernel_rfl)) ?_
      refine t_ef0 (ef_stw (k := 0) hm40 tA24 rfl rfl (oc_cons rfl (oc_cons rfl (oc_cons rfl (oc_cons rfl oc_nil)))) rfl rfl rfl) ?_
      intro _ w50 hm49
      refine t_rd rfl (rd_assign rfl) ?_
      refine rwt_nil ?_
      refine qn_then ?_
      refine cw_ret ?_
      refine qr_block (qr_then ?_)
      obtain rfl := os q48
      exact retLn (rs := [.cell 8 24, .tmp 9]) rfl (.rc rfl tA24 (hm49.blk 0 rfl) rfl (.rt rfl .rn)) rfl ⟨rfl, (hm49.pick [] (by decide) rfl)⟩
    · refine cw_f rfl hb47 ?_
      refine cw_seq ?_
      refine cw_region ?_
      refine t_rd rfl (rd_fld tF24_2 rfl) ?_
      refine t_rd rfl (rd_ld1 tO3 rfl (hm40.blk 1 rfl) (off := 2) rfl) ?_
      refine t_rd rfl (rd_gtr rfl rfl) ?_
      refine t_rd rfl (rd_move rfl) ?_
      refine t_rdg rfl rfl rfl rfl (gv_f _) (fun hg51 => (rd_move rfl)) ?_
      refine t_rdg rfl rfl rfl rfl (gv_f _) (fun hg52 => (rd_fld tF24_1 rfl)) ?_
      refine t_rdg rfl rfl rfl rfl (gv_f _) (fun hg53 => (rd_ld1 tO3 (gvx rfl hg53) (hm40.blk 1 rfl) (off := 1) rfl)) ?_
      refine t_rdg rfl rfl rfl rfl (gv_f _) (fun hg54 => (rd_lss (gvx rfl hg54) (gvx rfl hg54))) ?_
      refine t_rd rfl (rd_or rfl (fun hc55 => (gvx rfl (bnotIt hc55)))) ?_
      refine t_rd rfl (rd_assign rfl) ?_
      refine rwt_nil ?_
      refine qn_then ?_
      obtain ⟨hb56, q57⟩ | ⟨hb56, q57⟩ := oi q48 <;> clear q48
      · refine cw_t rfl hb56 ?_
        refine cw_seq ?_
        refine cw_region ?_
        refine t_rd rfl (rd_build (cs := #[(Value.int .i64 0), (Value.int .i64 0), (Value.int .i64 0), (Value.bool false)]) rfl (by kernel_rfl)) ?_
        refine t_ef0 (ef_stw (k := 0) hm40 tA24 rfl rfl (oc_cons rfl (oc_cons rfl (oc_cons rfl (oc_cons rfl oc_nil)))) rfl rfl rfl) ?_
        intro _ w59 hm58
        refine t_rd rfl (rd_assign rfl) ?_
        refine rwt_nil ?_
        refine qn_then ?_
        refine cw_ret ?_
        refine qr_block (qr_then ?_)
        obtain rfl := os q57
        exact retLn (rs := [.cell 8 24, .tmp 9]) rfl (.rc rfl tA24 (hm58.blk 0 rfl) rfl (.rt rfl .rn)) rfl ⟨rfl, (hm58.pick [] (by decide) rfl)⟩
      · refine cw_f rfl hb56 ?_
        refine cw_seq ?_
        refine cw_region ?_
        refine t_rd rfl (rd_move rfl) ?_
        refine t_rd rfl (rd_fld tF24_0 rfl) ?_
        refine t_rd rfl (rd_ld1 tO3 rfl (hm40.blk 1 rfl) (off := 0) rfl) ?_
        refine t_rd rfl (rd_eql rfl rfl) ?_
        refine t_rd rfl (rd_assign rfl) ?_
        refine rwt_nil ?_
        refine qn_then ?_
        obtain ⟨hb60, q61⟩ | ⟨hb60, q61⟩ := oi q57 <;> clear q57
        · refine cw_t rfl hb60 ?_
          refine cw_seq ?_
          refine cw_region ?_
          refine t_rd rfl (rd_ld tA24 rfl (hm40.blk 1 rfl) rfl) ?_
          refine t_ef0 (ef_stw (k := 0) hm40 tA24 rfl rfl (oc_cons rfl (oc_cons rfl (oc_cons rfl (oc_cons rfl oc_nil)))) rfl rfl rfl) ?_
          intro _ w63 hm62
          refine t_rd rfl (rd_assign rfl) ?_
          refine rwt_nil ?_
          refine qn_then ?_
          refine cw_ret ?_
          refine qr_block (qr_then ?_)
          obtain rfl := os q61
          exact retLn (rs := [.cell 8 24, .tmp 9]) rfl (.rc rfl tA24 (hm62.blk 0 rfl) rfl (.rt rfl .rn)) rfl ⟨rfl, (hm62.pick [] (by decide) rfl)⟩
        · refine cw_f rfl hb60 ?_
          refine cw_seq ?_
          refine cw_region ?_
          refine t_rd rfl (rd_move rfl) ?_
          refine t_rd rfl (rd_move rfl) ?_
          obtain ⟨x64, h65, q66⟩ := ob q61; clear q61
          refine t_rd rfl (rd_add64 h65 rfl rfl) ?_
          refine t_rd rfl (rd_gtr rfl rfl) ?_
          refine t_rd rfl (rd_assign rfl) ?_
          refine rwt_nil ?_
          refine qn_then ?_
          obtain ⟨hb67, q68⟩ | ⟨hb67, q68⟩ := oi q66 <;> clear q66
          · refine cw_t rfl hb67 ?_
            refine cw_seq ?_
            refine cw_region ?_
            refine t_rd rfl (rd_build (cs := #[(Value.int .i64 0), (Value.int .i64 0), (Value.int .i64 0), (Value.bool false)]) rfl (by kernel_rfl)) ?_
            refine t_ef0 (ef_stw (k := 0) hm40 tA24 rfl rfl (oc_cons rfl (oc_cons rfl (oc_cons rfl (oc_cons rfl oc_nil)))) rfl rfl rfl) ?_
            intro _ w70 hm69
            refine t_rd rfl (rd_assign rfl) ?_
            refine rwt_nil ?_
            refine qn_then ?_
            refine cw_ret ?_
            refine qr_block (qr_then ?_)
            obtain rfl := os q68
            exact retLn (rs := [.cell 8 24, .tmp 9]) rfl (.rc rfl tA24 (hm69.blk 0 rfl) rfl (.rt rfl .rn)) rfl ⟨rfl, (hm69.pick [] (by decide) rfl)⟩
          · refine cw_f rfl hb67 ?_
            refine cw_skip ?_
            refine qn_block (qn_then ?_)
            refine cw_seq ?_
            refine cw_region ?_
            refine t_rd rfl (rd_move rfl) ?_
            refine t_rd rfl (rd_move rfl) ?_
            refine t_rd rfl (rd_move rfl) ?_
            obtain ⟨x71, h72, q73⟩ := ob q68; clear q68
            refine t_rd rfl (rd_add64 h72 rfl rfl) ?_
            refine t_rd rfl (rd_fld tF24_0 rfl) ?_
            refine t_ef0 (ef_st1 (k := 1) (off := 0) hm40 tO3 rfl rfl rfl rfl rfl rfl) ?_
            intro _ w75 hm74
            refine t_rd rfl (rd_fld tF24_1 rfl) ?_
            refine t_ef0 (ef_st1 (k := 1) (off := 1) hm74 tO3 rfl rfl rfl rfl rfl rfl) ?_
            intro _ w77 hm76
            refine rwt_nil ?_
            refine qn_then ?_
            refine cw_seq ?_
            refine cw_region ?_
            refine t_rd rfl (rd_ld tA24 rfl (hm76.blk 1 rfl) rfl) ?_
            refine t_ef0 (ef_stw (k := 0) hm76 tA24 rfl rfl (oc_cons rfl (oc_cons rfl (oc_cons rfl (oc_cons rfl oc_nil)))) rfl rfl rfl) ?_
            intro _ w79 hm78
            refine t_rd rfl (rd_assign rfl) ?_
            refine rwt_nil ?_
            refine qn_then ?_
            refine cw_ret ?_
            obtain rfl := os q73
            exact retLn (rs := [.cell 8 24, .tmp 9]) rfl (.rc rfl tA24 (hm78.blk 0 rfl) rfl (.rt rfl .rn)) rfl ⟨rfl, (hm78.pick [] (by decide) rfl)⟩

theorem r25_Enter_ok {N : Nat} {a0 : T_Machine} {a1 : Int} {res : T_Machine × Int × Int} (h : r25_Enter N a0 a1 = some res) {w : World}   :
    CallsR Try.prog 14 [(Value.agg (Flat.enc a0).toArray), (Value.int .i64 a1)] w (fun u w' => u = (Value.tuple #[(Value.agg (Flat.enc res.1).toArray), (Value.int .i64 res.2.1), (Value.int .i64 res.2.2)]) ∧ Mem w No [] w') := by
  unfold r25_Enter at h
  refine fn_ok Try.func14 rfl rfl rfl ?_
  have hm0 := Mem.nil w
  refine cw_seq ?_
  refine cw_region ?_
  refine t_ef rfl (ef_box hm0 rfl rfl) ?_
  rintro _ w3 ⟨g1, rfl, hm2⟩
  refine t_ef rfl (ef_alloc hm2 tZ24 rfl) ?_
  rintro _ w6 ⟨g4, rfl, hm5⟩
  refine t_rd rfl (rd_assign rfl) ?_
  refine t_rd rfl (rd_assign rfl) ?_
  refine rwt_nil ?_
  refine qn_then ?_
  refine cw_seq ?_
  refine cw_seq ?_
  refine cw_region ?_
  refine t_rd rfl (rd_ld tA24 rfl (hm5.blk 1 rfl) rfl) ?_
  obtain ⟨r7, h8, q9⟩ := ob h; clear h
  refine t_ef rfl (ef_call tf15 rfl (r25_Valid_ok h8)) ?_
  rintro _ w11 ⟨rfl, hm10⟩
  have hm12 := hm5.call hm10
  refine t_rd rfl (rd_not rfl) ?_
  refine t_rd rfl (rd_move rfl) ?_
  refine t_rdg rfl rfl rfl rfl (gv_f _) (fun hg13 => (rd_move rfl)) ?_
  obtain ⟨r15, h16, q17⟩ := ob q9; clear q9
  refine t_efg rfl rfl rfl rfl (R := (fun v w' => v = gV (!(!r7)) (Value.bool r15) ∧ Mem w11 No [] w')) (gv_f _) (fun hg14 => (ef_call tf22 (evc (gvx rfl hg14) evn) (r25_time_ok (gO_t h16 hg14))).mono (by rintro _ _ ⟨rfl, q⟩; exact ⟨(gV_t hg14).symm, q⟩)) (fun q => ⟨(gV_f q).symm, Mem.nil _⟩) ?_
  rintro _ w19 ⟨rfl, hm18⟩
  have hm20 := hm12.call hm18
  refine t_rdg rfl rfl rfl rfl (gv_f _) (fun hg21 => (rd_not (gvx rfl hg21))) ?_
  refine t_rd rfl (rd_or rfl (fun hc22 => (gvx rfl (bnotIt hc22)))) ?_
  refine rwt_nil ?_
  refine qn_then ?_
  obtain ⟨hb23, q24⟩ | ⟨hb23, q24⟩ := oi q17 <;> clear q17
  · refine cw_t rfl hb23 ?_
    refine cw_seq ?_
    refine cw_region ?_
    refine t_rd rfl (rd_build (cs := #[(Value.int .i64 0), (Value.int .i64 0), (Value.int .i64 0), (Value.bool false)]) rfl (by kernel_rfl)) ?_
    refine t_ef0 (ef_stw (k := 0) hm20 tA24 rfl rfl (oc_cons rfl (oc_cons rfl (oc_cons rfl (oc_cons rfl oc_nil)))) rfl rfl rfl) ?_
    intro _ w26 hm25
    refine t_rd rfl (rd_assign rfl) ?_
    refine t_rd rfl (rd_assign rfl) ?_
    refine rwt_nil ?_
    refine qn_then ?_
    refine cw_ret ?_
    refine qr_then ?_
    obtain rfl := os q24
    exact retLn (rs := [.cell 4 24, .tmp 5, .tmp 6]) rfl (.rc rfl tA24 (hm25.blk 0 rfl) rfl (.rt rfl (.rt rfl .rn))) rfl ⟨rfl, (hm25.pick [] (by decide) rfl)⟩
  · refine cw_f rfl hb23 ?_
    refine cw_skip ?_
    refine qn_then ?_
    refine cw_seq ?_
    refine cw_seq ?_
    refine cw_region ?_
    refine t_rd rfl (rd_fld tF24_2 rfl) ?_
    refine t_rd rfl (rd_ld1 tO3 rfl (hm20.blk 1 rfl) (off := 2) rfl) ?_
    refine t_rd rfl (rd_eql rfl rfl) ?_
    refine rwt_nil ?_
    refine qn_then ?_
    obtain ⟨hb27, q28⟩ | ⟨hb27, q28⟩ := oi q24 <;> clear q24
    · refine cw_t rfl hb27 ?_
      refine cw_seq ?_
      refine cw_region ?_
      refine t_rd rfl (rd_build (cs := #[(Value.int .i64 0), (Value.int .i64 0), (Value.int .i64 0), (Value.bool false)]) rfl (by kernel_rfl)) ?_
      refine t_ef0 (ef_stw (k := 0) hm20 tA24 rfl rfl (oc_cons rfl (oc_cons rfl (oc_cons rfl (oc_cons rfl oc_nil)))) rfl rfl rfl) ?_
      intro _ w30 hm29
      refine t_rd rfl (rd_assign rfl) ?_
      refine t_rd rfl (rd_assign rfl) ?_
      refine rwt_nil ?_
      refine qn_then ?_
      refine cw_ret ?_
      refine qr_then ?_
      obtain rfl := os q28
      exact retLn (rs := [.cell 4 24, .tmp 5, .tmp 6]) rfl (.rc rfl tA24 (hm29.blk 0 rfl) rfl (.rt rfl (.rt rfl .rn))) rfl ⟨rfl, (hm29.pick [] (by decide) rfl)⟩
    · refine cw_f rfl hb27 ?_
      refine cw_skip ?_
      refine qn_then ?_
      refine cw_seq ?_
      refine cw_region ?_
      refine t_rd rfl (rd_fld tF24_2 rfl) ?_
      refine t_rd rfl (rd_ld1 tO3 rfl (hm20.blk 1 rfl) (off := 2) rfl) ?_
      obtain ⟨x31, h32, q33⟩ := ob q28; clear q28
      refine t_rd rfl (rd_add64 h32 rfl rfl) ?_
      refine t_rd rfl (rd_fld tF24_2 rfl) ?_
      refine t_ef0 (ef_st1 (k := 1) (off := 2) hm20 tO3 rfl rfl rfl rfl rfl rfl) ?_
      intro _ w35 hm34
      refine rwt_nil ?_
      refine qn_then ?_
      refine cw_seq ?_
      refine cw_seq ?_
      refine cw_region ?_
      refine t_rd rfl (rd_move rfl) ?_
      refine t_rd rfl (rd_fld tF24_1 rfl) ?_
      refine t_rd rfl (rd_ld1 tO3 rfl (hm34.blk 1 rfl) (off := 1) rfl) ?_
      refine t_rd rfl (rd_lss rfl rfl) ?_
      refine rwt_nil ?_
      refine qn_then ?_
      obtain ⟨hb36, q37⟩ | ⟨hb36, q37⟩ := oi q33 <;> clear q33
      · refine cw_t rfl hb36 ?_
        refine cw_seq ?_
        refine cw_region ?_
        refine t_rd rfl (rd_fld tF24_3 rfl) ?_
        refine t_ef0 (ef_st1 (k := 1) (off := 3) hm34 tO4 rfl rfl rfl rfl rfl rfl) ?_
        intro _ w39 hm38
        refine rwt_nil ?_
        refine qn_then ?_
        refine cw_seq ?_
        refine cw_region ?_
        refine t_rd rfl (rd_ld tA24 rfl (hm38.blk 1 rfl) rfl) ?_
        refine t_ef0 (ef_stw (k := 0) hm38 tA24 rfl rfl (oc_cons rfl (oc_cons rfl (oc_cons rfl (oc_cons rfl oc_nil)))) rfl rfl rfl) ?_
        intro _ w41 hm40
        refine t_rd rfl (rd_assign rfl) ?_
        refine t_rd rfl (rd_assign rfl) ?_
        refine rwt_nil ?_
        refine qn_then ?_
        refine cw_ret ?_
        refine qr_then ?_
        obtain rfl := os q37
        exact retLn (rs := [.cell 4 24, .tmp 5, .tmp 6]) rfl (.rc rfl tA24 (hm40.blk 0 rfl) rfl (.rt rfl (.rt rfl .rn))) rfl ⟨rfl, (hm40.pick [] (by decide) rfl)⟩
      · refine cw_f rfl hb36 ?_
        refine cw_skip ?_
        refine qn_then ?_
        refine cw_seq ?_
        obtain ⟨w43, he45⟩ : ∃ q, q = w35.drew := ⟨_, rfl⟩
        have hm44 := hm34.drew; rw [← he45] at hm44
        refine cw_region_s (fun q => (blk g1 24 [(Value.int .i64 a0.Side), (Value.int .i64 a0.Until), (Value.int .i64 x31), (Value.bool a0.Failed)]).φ q) (cls [3] []) mixed ?_
        rintro _ rfl; rw [← he45]
        refine s_rd (i := 0) rfl (by kernel_rfl) rfl (fun w42 hS => (rd_ld tA24 rfl (cells_blk hS) rfl)) (hm44.get (k := 1) rfl) ?_
        refine s_rp (i := 1) rfl (by kernel_rfl) rfl (fun _ => (rd_fld tF24_0 rfl)) ?_
        refine s_rd (i := 2) rfl (by kernel_rfl) rfl (fun w42 hS => (rd_ld1 tO3 rfl (cells_blk hS) (off := 0) rfl)) (hm44.get (k := 1) rfl) ?_
        refine s_ef0 (i := 3) rfl (by kernel_rfl) (ef_stw (k := 0) hm44 tA24 rfl rfl (oc_cons rfl (oc_cons rfl (oc_cons rfl (oc_cons rfl oc_nil)))) rfl rfl rfl) (by decide) ?_ ?_
        · intro _ w49 hm48
          intro _
          exact (hm48.get (k := 1) rfl)
        intro _ w49 hm48
        refine s_rp (i := 4) rfl (by kernel_rfl) rfl (fun _ => (rd_assign rfl)) ?_
        refine s_rp (i := 5) rfl (by kernel_rfl) rfl (fun _ => (rd_assign rfl)) ?_
        refine s_nil (by kernel_rfl) ?_
        refine qn_then ?_
        refine cw_ret ?_
        obtain rfl := os q37
        exact retLn (rs := [.cell 4 24, .tmp 5, .tmp 6]) rfl (.rc rfl tA24 (hm48.blk 0 rfl) rfl (.rt rfl (.rt rfl .rn))) rfl ⟨rfl, (hm48.pick [] (by decide) rfl)⟩

theorem r25_Leave_ok {N : Nat} {a0 : T_Machine} {res : T_Machine × Int} (h : r25_Leave N a0 = some res) {w : World}   :
    CallsR Try.prog 16 [(Value.agg (Flat.enc a0).toArray)] w (fun u w' => u = (Value.tuple #[(Value.agg (Flat.enc res.1).toArray), (Value.int .i64 res.2)]) ∧ Mem w No [] w') := by
  unfold r25_Leave at h
  refine fn_ok Try.func16 rfl rfl rfl ?_
  have hm0 := Mem.nil w
  refine cw_seq ?_
  refine cw_region ?_
  refine t_ef rfl (ef_box hm0 rfl rfl) ?_
  rintro _ w3 ⟨g1, rfl, hm2⟩
  refine t_ef rfl (ef_alloc hm2 tZ24 rfl) ?_
  rintro _ w6 ⟨g4, rfl, hm5⟩
  refine t_rd rfl (rd_assign rfl) ?_
  refine rwt_nil ?_
  refine qn_then ?_
  refine cw_seq ?_
  refine cw_seq ?_
  refine cw_region ?_
  refine t_rd rfl (rd_ld tA24 rfl (hm5.blk 1 rfl) rfl) ?_
  obtain ⟨r7, h8, q9⟩ := ob h; clear h
  refine t_ef rfl (ef_call tf15 rfl (r25_Valid_ok h8)) ?_
  rintro _ w11 ⟨rfl, hm10⟩
  have hm12 := hm5.call hm10
  refine t_rd rfl (rd_not rfl) ?_
  refine rwt_nil ?_
  refine qn_then ?_
  obtain ⟨hb13, q14⟩ | ⟨hb13, q14⟩ := oi q9 <;> clear q9
  · refine cw_t rfl hb13 ?_
    refine cw_seq ?_
    refine cw_region ?_
    refine t_rd rfl (rd_build (cs := #[(Value.int .i64 0), (Value.int .i64 0), (Value.int .i64 0), (Value.bool false)]) rfl (by kernel_rfl)) ?_
    refine t_ef0 (ef_stw (k := 0) hm12 tA24 rfl rfl (oc_cons rfl (oc_cons rfl (oc_cons rfl (oc_cons rfl oc_nil)))) rfl rfl rfl) ?_
    intro _ w16 hm15
    refine t_rd rfl (rd_assign rfl) ?_
    refine rwt_nil ?_
    refine qn_then ?_
    refine cw_ret ?_
    refine qr_then ?_
    obtain rfl := os q14
    exact retLn (rs := [.cell 2 24, .tmp 3]) rfl (.rc rfl tA24 (hm15.blk 0 rfl) rfl (.rt rfl .rn)) rfl ⟨rfl, (hm15.pick [] (by decide) rfl)⟩
  · refine cw_f rfl hb13 ?_
    refine cw_skip ?_
    refine qn_then ?_
    refine cw_seq ?_
    refine cw_seq ?_
    refine cw_region ?_
    refine t_rd rfl (rd_fld tF24_2 rfl) ?_
    refine t_rd rfl (rd_ld1 tO3 rfl (hm12.blk 1 rfl) (off := 2) rfl) ?_
    refine t_rd rfl (rd_eql rfl rfl) ?_
    refine rwt_nil ?_
    refine qn_then ?_
    obtain ⟨hb17, q18⟩ | ⟨hb17, q18⟩ := oi q14 <;> clear q14
    · refine cw_t rfl hb17 ?_
      refine cw_seq ?_
      refine cw_region ?_
      refine t_rd rfl (rd_build (cs := #[(Value.int .i64 0), (Value.int .i64 0), (Value.int .i64 0), (Value.bool false)]) rfl (by kernel_rfl)) ?_
      refine t_ef0 (ef_stw (k := 0) hm12 tA24 rfl rfl (oc_cons rfl (oc_cons rfl (oc_cons rfl (oc_cons rfl oc_nil)))) rfl rfl rfl) ?_
      intro _ w20 hm19
      refine t_rd rfl (rd_assign rfl) ?_
      refine rwt_nil ?_
      refine qn_then ?_
      refine cw_ret ?_
      refine qr_then ?_
      obtain rfl := os q18
      exact retLn (rs := [.cell 2 24, .tmp 3]) rfl (.rc rfl tA24 (hm19.blk 0 rfl) rfl (.rt rfl .rn)) rfl ⟨rfl, (hm19.pick [] (by decide) rfl)⟩
    · refine cw_f rfl hb17 ?_
      refine cw_skip ?_
      refine qn_then ?_
      refine cw_seq ?_
      refine cw_region ?_
      refine t_rd rfl (rd_fld tF24_2 rfl) ?_
      refine t_rd rfl (rd_ld1 tO3 rfl (hm12.blk 1 rfl) (off := 2) rfl) ?_
      obtain ⟨x21, h22, q23⟩ := ob q18; clear q18
      refine t_rd rfl (rd_sub64 h22 rfl rfl) ?_
      refine t_rd rfl (rd_fld tF24_2 rfl) ?_
      refine t_ef0 (ef_st1 (k := 1) (off := 2) hm12 tO3 rfl rfl rfl rfl rfl rfl) ?_
      intro _ w25 hm24
      refine rwt_nil ?_
      refine qn_then ?_
      refine cw_seq ?_
      refine cw_region ?_
      refine t_rd rfl (rd_ld tA24 rfl (hm24.blk 1 rfl) rfl) ?_
      refine t_ef0 (ef_stw (k := 0) hm24 tA24 rfl rfl (oc_cons rfl (oc_cons rfl (oc_cons rfl (oc_cons rfl oc_nil)))) rfl rfl rfl) ?_
      intro _ w27 hm26
      refine t_rd rfl (rd_assign rfl) ?_
      refine rwt_nil ?_
      refine qn_then ?_
      refine cw_ret ?_
      obtain rfl := os q23
      exact retLn (rs := [.cell 2 24, .tmp 3]) rfl (.rc rfl tA24 (hm26.blk 0 rfl) rfl (.rt rfl .rn)) rfl ⟨rfl, (hm26.pick [] (by decide) rfl)⟩

theorem pointmachine_Repair_ok {N : Nat} {a0 : T_Machine} {a1 : Int} {res : T_Machine × Int} (h : pointmachine_Repair N a0 a1 = some res) {w : World}   :
    CallsR Try.prog 17 [(Value.agg (Flat.enc a0).toArray), (Value.int .i64 a1)] w (fun u w' => u = (Value.tuple #[(Value.agg (Flat.enc res.1).toArray), (Value.int .i64 res.2)]) ∧ Mem w No [] w') := by
  unfold pointmachine_Repair at h
  refine fn_ok Try.func17 rfl rfl rfl ?_
  have hm0 := Mem.nil w
  refine cw_seq ?_
  refine cw_region ?_
  refine t_ef rfl (ef_box hm0 rfl rfl) ?_
  rintro _ w3 ⟨g1, rfl, hm2⟩
  refine t_ef rfl (ef_alloc hm2 tZ24 rfl) ?_
  rintro _ w6 ⟨g4, rfl, hm5⟩
  refine t_rd rfl (rd_assign rfl) ?_
  refine rwt_nil ?_
  refine qn_then ?_
  refine cw_seq ?_
  refine cw_seq ?_
  refine cw_region ?_
  refine t_rd rfl (rd_ld tA24 rfl (hm5.blk 1 rfl) rfl) ?_
  obtain ⟨r7, h8, q9⟩ := ob h; clear h
  refine t_ef rfl (ef_call tf11 rfl (pointmachine_Valid_ok h8)) ?_
  rintro _ w11 ⟨rfl, hm10⟩
  have hm12 := hm5.call hm10
  refine t_rd rfl (rd_not rfl) ?_
  refine t_rd rfl (rd_move rfl) ?_
  refine t_rdg rfl rfl rfl rfl (gv_f _) (fun hg13 => (rd_move rfl)) ?_
  obtain ⟨r15, h16, q17⟩ := ob q9; clear q9
  refine t_efg rfl rfl rfl rfl (R := (fun v w' => v = gV (!(!r7)) (Value.bool r15) ∧ Mem w11 No [] w')) (gv_f _) (fun hg14 => (ef_call tf19 (evc (gvx rfl hg14) evn) (pointmachine_lies_ok (gO_t h16 hg14))).mono (by rintro _ _ ⟨rfl, q⟩; exact ⟨(gV_t hg14).symm, q⟩)) (fun q => ⟨(gV_f q).symm, Mem.nil _⟩) ?_
  rintro _ w19 ⟨rfl, hm18⟩
  have hm20 := hm12.call hm18
  refine t_rdg rfl rfl rfl rfl (gv_f _) (fun hg21 => (rd_not (gvx rfl hg21))) ?_
  refine t_rd rfl (rd_or rfl (fun hc22 => (gvx rfl (bnotIt hc22)))) ?_
  refine rwt_nil ?_
  refine qn_then ?_
  obtain ⟨hb23, q24⟩ | ⟨hb23, q24⟩ := oi q17 <;> clear q17
  · refine cw_t rfl hb23 ?_
    refine cw_seq ?_
    refine cw_region ?_
    refine t_rd rfl (rd_build (cs := #[(Value.int .i64 0), (Value.int .i64 0), (Value.int .i64 0), (Value.bool false)]) rfl (by kernel_rfl)) ?_
    refine t_ef0 (ef_stw (k := 0) hm20 tA24 rfl rfl (oc_cons rfl (oc_cons rfl (oc_cons rfl (oc_cons rfl oc_nil)))) rfl rfl rfl) ?_
    intro _ w26 hm25
    refine t_rd rfl (rd_assign rfl) ?_
    refine rwt_nil ?_
    refine qn_then ?_
    refine cw_ret ?_
    refine qr_then ?_
    obtain rfl := os q24
    exact retLn (rs := [.cell 4 24, .tmp 5]) rfl (.rc rfl tA24 (hm25.blk 0 rfl) rfl (.rt rfl .rn)) rfl ⟨rfl, (hm25.pick [] (by decide) rfl)⟩
  · refine cw_f rfl hb23 ?_
    refine cw_skip ?_
    refine qn_then ?_
    refine cw_seq ?_
    refine cw_seq ?_
    refine cw_region ?_
    refine t_rd rfl (rd_fld tF24_2 rfl) ?_
    refine t_rd rfl (rd_ld1 tO3 rfl (hm20.blk 1 rfl) (off := 2) rfl) ?_
    refine t_rd rfl (rd_neq rfl rfl) ?_
    refine rwt_nil ?_
    refine qn_then ?_
    obtain ⟨hb27, q28⟩ | ⟨hb27, q28⟩ := oi q24 <;> clear q24
    · refine cw_t rfl hb27 ?_
      refine cw_seq ?_
      refine cw_region ?_
      refine t_rd rfl (rd_build (cs := #[(Value.int .i64 0), (Value.int .i64 0), (Value.int .i64 0), (Value.bool false)]) rfl (by kernel_rfl)) ?_
      refine t_ef0 (ef_stw (k := 0) hm20 tA24 rfl rfl (oc_cons rfl (oc_cons rfl (oc_cons rfl (oc_cons rfl oc_nil)))) rfl rfl rfl) ?_
      intro _ w30 hm29
      refine t_rd rfl (rd_assign rfl) ?_
      refine rwt_nil ?_
      refine qn_then ?_
      refine cw_ret ?_
      refine qr_then ?_
      obtain rfl := os q28
      exact retLn (rs := [.cell 4 24, .tmp 5]) rfl (.rc rfl tA24 (hm29.blk 0 rfl) rfl (.rt rfl .rn)) rfl ⟨rfl, (hm29.pick [] (by decide) rfl)⟩
    · refine cw_f rfl hb27 ?_
      refine cw_skip ?_
      refine qn_then ?_
      refine cw_seq ?_
      refine cw_region ?_
      refine t_rd rfl (rd_move rfl) ?_
      refine t_rd rfl (rd_fld tF24_0 rfl) ?_
      refine t_ef0 (ef_st1 (k := 1) (off := 0) hm20 tO3 rfl rfl rfl rfl rfl rfl) ?_
      intro _ w32 hm31
      refine t_rd rfl (rd_fld tF24_1 rfl) ?_
      refine t_ef0 (ef_st1 (k := 1) (off := 1) hm31 tO3 rfl rfl rfl rfl rfl rfl) ?_
      intro _ w34 hm33
      refine t_rd rfl (rd_fld tF24_3 rfl) ?_
      refine t_ef0 (ef_st1 (k := 1) (off := 3) hm33 tO4 rfl rfl rfl rfl rfl rfl) ?_
      intro _ w36 hm35
      refine rwt_nil ?_
      refine qn_then ?_
      refine cw_seq ?_
      refine cw_region ?_
      refine t_rd rfl (rd_ld tA24 rfl (hm35.blk 1 rfl) rfl) ?_
      refine t_ef0 (ef_stw (k := 0) hm35 tA24 rfl rfl (oc_cons rfl (oc_cons rfl (oc_cons rfl (oc_cons rfl oc_nil)))) rfl rfl rfl) ?_
      intro _ w38 hm37
      refine t_rd rfl (rd_assign rfl) ?_
      refine rwt_nil ?_
      refine qn_then ?_
      refine cw_ret ?_
      obtain rfl := os q28
      exact retLn (rs := [.cell 4 24, .tmp 5]) rfl (.rc rfl tA24 (hm37.blk 0 rfl) rfl (.rt rfl .rn)) rfl ⟨rfl, (hm37.pick [] (by decide) rfl)⟩

theorem r25_Repair_ok {N : Nat} {a0 : T_Machine} {a1 : Int} {res : T_Machine × Int} (h : r25_Repair N a0 a1 = some res) {w : World}   :
    CallsR Try.prog 18 [(Value.agg (Flat.enc a0).toArray), (Value.int .i64 a1)] w (fun u w' => u = (Value.tuple #[(Value.agg (Flat.enc res.1).toArray), (Value.int .i64 res.2)]) ∧ Mem w No [] w') := by
  unfold r25_Repair at h
  refine fn_ok Try.func18 rfl rfl rfl ?_
  have hm0 := Mem.nil w
  refine cw_seq ?_
  refine cw_region ?_
  refine t_ef rfl (ef_box hm0 rfl rfl) ?_
  rintro _ w3 ⟨g1, rfl, hm2⟩
  refine t_ef rfl (ef_alloc hm2 tZ24 rfl) ?_
  rintro _ w6 ⟨g4, rfl, hm5⟩
  refine t_rd rfl (rd_assign rfl) ?_
  refine rwt_nil ?_
  refine qn_then ?_
  refine cw_seq ?_
  refine cw_seq ?_
  refine cw_region ?_
  refine t_rd rfl (rd_ld tA24 rfl (hm5.blk 1 rfl) rfl) ?_
  obtain ⟨r7, h8, q9⟩ := ob h; clear h
  refine t_ef rfl (ef_call tf15 rfl (r25_Valid_ok h8)) ?_
  rintro _ w11 ⟨rfl, hm10⟩
  have hm12 := hm5.call hm10
  refine t_rd rfl (rd_not rfl) ?_
  refine t_rd rfl (rd_move rfl) ?_
  refine t_rdg rfl rfl rfl rfl (gv_f _) (fun hg13 => (rd_move rfl)) ?_
  obtain ⟨r15, h16, q17⟩ := ob q9; clear q9
  refine t_efg rfl rfl rfl rfl (R := (fun v w' => v = gV (!(!r7)) (Value.bool r15) ∧ Mem w11 No [] w')) (gv_f _) (fun hg14 => (ef_call tf21 (evc (gvx rfl hg14) evn) (r25_side_ok (gO_t h16 hg14))).mono (by rintro _ _ ⟨rfl, q⟩; exact ⟨(gV_t hg14).symm, q⟩)) (fun q => ⟨(gV_f q).symm, Mem.nil _⟩) ?_
  rintro _ w19 ⟨rfl, hm18⟩
  have hm20 := hm12.call hm18
  refine t_rdg rfl rfl rfl rfl (gv_f _) (fun hg21 => (rd_not (gvx rfl hg21))) ?_
  refine t_rd rfl (rd_or rfl (fun hc22 => (gvx rfl (bnotIt hc22)))) ?_
  refine rwt_nil ?_
  refine qn_then ?_
  obtain ⟨hb23, q24⟩ | ⟨hb23, q24⟩ := oi q17 <;> clear q17
  · refine cw_t rfl hb23 ?_
    refine cw_seq ?_
    refine cw_region ?_
    refine t_rd rfl (rd_build (cs := #[(Value.int .i64 0), (Value.int .i64 0), (Value.int .i64 0), (Value.bool false)]) rfl (by kernel_rfl)) ?_
    refine t_ef0 (ef_stw (k := 0) hm20 tA24 rfl rfl (oc_cons rfl (oc_cons rfl (oc_cons rfl (oc_cons rfl oc_nil)))) rfl rfl rfl) ?_
    intro _ w26 hm25
    refine t_rd rfl (rd_assign rfl) ?_
    refine rwt_nil ?_
    refine qn_then ?_
    refine cw_ret ?_
    refine qr_then ?_
    obtain rfl := os q24
    exact retLn (rs := [.cell 4 24, .tmp 5]) rfl (.rc rfl tA24 (hm25.blk 0 rfl) rfl (.rt rfl .rn)) rfl ⟨rfl, (hm25.pick [] (by decide) rfl)⟩
  · refine cw_f rfl hb23 ?_
    refine cw_skip ?_
    refine qn_then ?_
    refine cw_seq ?_
    refine cw_seq ?_
    refine cw_region ?_
    refine t_rd rfl (rd_fld tF24_2 rfl) ?_
    refine t_rd rfl (rd_ld1 tO3 rfl (hm20.blk 1 rfl) (off := 2) rfl) ?_
    refine t_rd rfl (rd_gtr rfl rfl) ?_
    refine rwt_nil ?_
    refine qn_then ?_
    obtain ⟨hb27, q28⟩ | ⟨hb27, q28⟩ := oi q24 <;> clear q24
    · refine cw_t rfl hb27 ?_
      refine cw_seq ?_
      refine cw_region ?_
      refine t_rd rfl (rd_build (cs := #[(Value.int .i64 0), (Value.int .i64 0), (Value.int .i64 0), (Value.bool false)]) rfl (by kernel_rfl)) ?_
      refine t_ef0 (ef_stw (k := 0) hm20 tA24 rfl rfl (oc_cons rfl (oc_cons rfl (oc_cons rfl (oc_cons rfl oc_nil)))) rfl rfl rfl) ?_
      intro _ w30 hm29
      refine t_rd rfl (rd_assign rfl) ?_
      refine rwt_nil ?_
      refine qn_then ?_
      refine cw_ret ?_
      refine qr_then ?_
      obtain rfl := os q28
      exact retLn (rs := [.cell 4 24, .tmp 5]) rfl (.rc rfl tA24 (hm29.blk 0 rfl) rfl (.rt rfl .rn)) rfl ⟨rfl, (hm29.pick [] (by decide) rfl)⟩
    · refine cw_f rfl hb27 ?_
      refine cw_skip ?_
      refine qn_then ?_
      refine cw_seq ?_
      refine cw_region ?_
      refine t_rd rfl (rd_move rfl) ?_
      refine t_rd rfl (rd_build (cs := #[(Value.int .i64 a1), (Value.int .i64 0), (Value.int .i64 0), (Value.bool false)]) rfl (by kernel_rfl)) ?_
      refine t_ef0 (ef_stw (k := 0) hm20 tA24 rfl rfl (oc_cons rfl (oc_cons rfl (oc_cons rfl (oc_cons rfl oc_nil)))) rfl rfl rfl) ?_
      intro _ w32 hm31
      refine t_rd rfl (rd_assign rfl) ?_
      refine rwt_nil ?_
      refine qn_then ?_
      refine cw_ret ?_
      obtain rfl := os q28
      exact retLn (rs := [.cell 4 24, .tmp 5]) rfl (.rc rfl tA24 (hm31.blk 0 rfl) rfl (.rt rfl .rn)) rfl ⟨rfl, (hm31.pick [] (by decide) rfl)⟩

theorem law25_PointmachineExact_ok {N : Nat} {a0 : T_Machine} {a1 : Int} {a2 : Int} {a3 : Int} {res : Bool} (h : law25_PointmachineExact N a0 a1 a2 a3 = some res) {w : World}   :
    CallsR Try.prog 5 [(Value.agg (Flat.enc a0).toArray), (Value.int .i64 a1), (Value.int .i64 a2), (Value.int .i64 a3)] w (fun u w' => u = (Value.bool res) ∧ Mem w No [] w') := by
  unfold law25_PointmachineExact at h
  refine fn_ok Try.func5 rfl rfl rfl ?_
  have hm0 := Mem.nil w
  refine cw_seq ?_
  refine cw_region ?_
  refine t_ef rfl (ef_box hm0 rfl rfl) ?_
  rintro _ w3 ⟨g1, rfl, hm2⟩
  refine t_rd rfl (rd_assign rfl) ?_
  refine rwt_nil ?_
  refine qn_then ?_
  refine cw_seq ?_
  refine cw_seq ?_
  refine cw_region ?_
  refine t_rd rfl (rd_assign rfl) ?_
  refine rwt_nil ?_
  refine qn_then ?_
  refine cw_block ?_
  obtain ⟨r868, hit869, q870⟩ := ob h; clear h
  refine cw_loop2 (I := fun q envq wq => Sub [(1, (Value.int .i64 a1)), (2, (Value.int .i64 a2)), (3, (Value.int .i64 a3)), (4, (Value.pointer (some ⟨g1, 0, none⟩))), (9, (Value.int .i64 q))] envq ∧ Mem w No [blk g1 24 [(Value.int .i64 a0.Side), (Value.int .i64 a0.Until), (Value.int .i64 a0.Cuts), (Value.bool a0.Failed)]] wq) (X := fun eq envq wq => (∃ p871, r868 = (Sum.inl p871) ∧ eq = .ret ∧ retQ Try.prog 172 Try.f5 (fun u w' => u = (Value.bool p871) ∧ Mem w No [] w') .ret envq wq) ∨ (∃ p872, r868 = (Sum.inr p872) ∧ eq = .exit 0 ∧ Sub [] envq ∧ Mem w No [] wq)) hit869 ⟨(by repeat (first | exact Sub.nil _ | refine Sub.cons rfl ?_)), (hm2.pick [0] (by decide) rfl)⟩ ?_ ?_
  · rintro i861 x863 env864 w865 hf866 hr867 ⟨hs_, hm_⟩
    have hs_ : Sub [(1, (Value.int .i64 a1)), (2, (Value.int .i64 a2)), (3, (Value.int .i64 a3)), (4, (Value.pointer (some ⟨g1, 0, none⟩))), (9, (Value.int .i64 i861))] env864 := hs_
    have hm873 : Mem w No [blk g1 24 [(Value.int .i64 a0.Side), (Value.int .i64 a0.Until), (Value.int .i64 a0.Cuts), (Value.bool a0.Failed)]] w865 := hm_
    refine cw_sub hs_ ?_
    clear hs_ hm_ q870
    have h : law25_PointmachineExact_l1 N a0 a1 a2 a3 i861 = some x863 := hf866
    clear hf866
    refine cw_seq ?_
    refine cw_seq ?_
    refine cw_region ?_
    refine t_rd rfl (rd_move rfl) ?_
    refine t_rd rfl (rd_lss rfl rfl) ?_
    refine rwt_nil ?_
    refine qn_then ?_
    obtain ⟨hb874, q875⟩ | ⟨hb874, q875⟩ := oi h <;> clear h
    · refine cw_t rfl hb874 ?_
      refine cw_skip ?_
      refine qn_then ?_
      refine cw_seq ?_
      refine cw_block ?_
      refine cw_seq ?_
      refine cw_region ?_
      refine t_rd rfl (rd_ld tA24 rfl (hm873.blk 0 rfl) rfl) ?_
      refine t_rd rfl (rd_move rfl) ?_
      refine t_rd rfl (rd_move rfl) ?_
      refine t_rd rfl (rd_move rfl) ?_
      refine t_ef rfl (ef_alloc hm873 tZ24 rfl) ?_
      rintro _ w878 ⟨g876, rfl, hm877⟩
      refine t_ef0 (ef_stw (k := 0) hm877 tA24 rfl rfl (oc_cons rfl (oc_cons rfl (oc_cons rfl (oc_cons rfl oc_nil)))) rfl rfl rfl) ?_
      intro _ w880 hm879
      refine t_rd rfl (rd_assign rfl) ?_
      refine t_rd rfl (rd_assign rfl) ?_
      refine t_rd rfl (rd_assign rfl) ?_
      refine rwt_nil ?_
      refine qn_then ?_
      refine cw_seq ?_
      refine cw_seq ?_
      refine cw_region ?_
      refine t_rd rfl (rd_move rfl) ?_
      refine t_rd rfl (rd_gtr rfl rfl) ?_
      refine rwt_nil ?_
      refine qn_then ?_
      obtain ⟨j964, hit965, q966⟩ := ob q875; clear q875
      refine cw_join (X := fun eq envq wq => eq = .normal ∧ Sub [(1, (Value.int .i64 a1)), (2, (Value.int .i64 a2)), (3, (Value.int .i64 a3)), (4, (Value.pointer (some ⟨g1, 0, none⟩))), (9, (Value.int .i64 i861)), (10, (Value.pointer (some ⟨g876, 0, none⟩))), (11, (Value.int .i64 j964.1)), (12, (Value.int .i64 j964.2.1)), (13, (Value.int .i64 j964.2.2.1))] envq ∧ Mem w No [blk g876 24 [(Value.int .i64 j964.2.2.2.1), (Value.int .i64 j964.2.2.2.2.1), (Value.int .i64 j964.2.2.2.2.2.1), (Value.bool j964.2.2.2.2.2.2)], blk g1 24 [(Value.int .i64 a0.Side), (Value.int .i64 a0.Until), (Value.int .i64 a0.Cuts), (Value.bool a0.Failed)]] wq) ?_ ?_
      · clear q966
        obtain ⟨hb967, q968⟩ | ⟨hb967, q968⟩ := oi hit965 <;> clear hit965
        · refine cw_t rfl hb967 ?_
          refine cw_seq ?_
          obtain ⟨w970, he972⟩ : ∃ q, q = w880.drew := ⟨_, rfl⟩
          have hm971 := hm879.drew; rw [← he972] at hm971
          refine cw_region_s (fun q => (blk g1 24 [(Value.int .i64 a0.Side), (Value.int .i64 a0.Until), (Value.int .i64 a0.Cuts), (Value.bool a0.Failed)]).φ q) (cls [2, 6, 9] [17]) mixed ?_
          rintro _ rfl; rw [← he972]
          refine s_rp (i := 0) rfl (by kernel_rfl) rfl (fun _ => (rd_fld tF24_0 rfl)) ?_
          refine s_rd (i := 1) rfl (by kernel_rfl) rfl (fun w969 hS => (rd_ld1 tO3 rfl (cells_blk hS) (off := 0) rfl)) (hm971.get (k := 1) rfl) ?_
          refine s_rp (i := 4) rfl (by kernel_rfl) rfl (fun _ => (rd_fld tF24_1 rfl)) ?_
          refine s_rd (i := 5) rfl (by kernel_rfl) rfl (fun w969 hS => (rd_ld1 tO3 rfl (cells_blk hS) (off := 1) rfl)) (hm971.get (k := 1) rfl) ?_
          refine s_rp (i := 7) rfl (by kernel_rfl) rfl (fun _ => (rd_fld tF24_2 rfl)) ?_
          refine s_rd (i := 8) rfl (by kernel_rfl) rfl (fun w969 hS => (rd_ld1 tO3 rfl (cells_blk hS) (off := 2) rfl)) (hm971.get (k := 1) rfl) ?_
          refine s_rp (i := 10) rfl (by kernel_rfl) rfl (fun _ => (rd_fld tF24_3 rfl)) ?_
          refine s_rd (i := 11) rfl (by kernel_rfl) rfl (fun w969 hS => (rd_ld1 tO4 rfl (cells_blk hS) (off := 3) rfl)) (hm971.get (k := 1) rfl) ?_
          obtain ⟨r999, h1000, q1001⟩ := ob q968; clear q968
          refine s_ef (i := 2) rfl (by kernel_rfl) rfl (ef_call tf7 rfl (yardgen_Place_ok h1000)) (by decide) ?_ ?_
          · rintro _ w1003 ⟨rfl, hm1002⟩
            have hm1004 := hm971.call hm1002
            intro _
            exact (hm1004.get (k := 1) rfl)
          rintro _ w1003 ⟨rfl, hm1002⟩
          have hm1004 := hm971.call hm1002
          obtain ⟨x1005, h1006, q1007⟩ := ob q1001; clear q1001
          refine s_rp (i := 3) rfl (by kernel_rfl) rfl (fun _ => (rd_add64 h1006 rfl rfl)) ?_
          obtain ⟨r1008, h1009, q1010⟩ := ob q1007; clear q1007
          refine s_ef (i := 6) rfl (by kernel_rfl) rfl (ef_call tf7 rfl (yardgen_Place_ok h1009)) (by decide) ?_ ?_
          · rintro _ w1012 ⟨rfl, hm1011⟩
            have hm1013 := hm1004.call hm1011
            intro _
            exact (hm1013.get (k := 1) rfl)
          rintro _ w1012 ⟨rfl, hm1011⟩
          have hm1013 := hm1004.call hm1011
          obtain ⟨r1014, h1015, q1016⟩ := ob q1010; clear q1010
          refine s_ef (i := 9) rfl (by kernel_rfl) rfl (ef_call tf7 rfl (yardgen_Place_ok h1015)) (by decide) ?_ ?_
          · rintro _ w1018 ⟨rfl, hm1017⟩
            have hm1019 := hm1013.call hm1017
            intro _
            exact (hm1019.get (k := 1) rfl)
          rintro _ w1018 ⟨rfl, hm1017⟩
          have hm1019 := hm1013.call hm1017
          refine s_rp (i := 12) rfl (by kernel_rfl) rfl (fun _ => (rd_move rfl)) ?_
          refine s_rpg (i := 13) rfl (by kernel_rfl) rfl rfl rfl rfl (gv_t _) (fun hg1020 _ => (rd_move rfl)) ?_
          refine s_rpg (i := 14) rfl (by kernel_rfl) rfl rfl rfl rfl (gv_t _) (fun hg1021 _ => (rd_lss (gvx rfl hg1021) rfl)) ?_
          refine s_rp (i := 15) rfl (by kernel_rfl) rfl (fun _ => (rd_and rfl (fun hc1022 => (gvx rfl hc1022)))) ?_
          refine s_rp (i := 16) rfl (by kernel_rfl) rfl (fun _ => (rd_build (cs := #[(Value.int .i64 x1005), (Value.int .i64 r1008), (Value.int .i64 r1014), (Value.bool (a0.Failed && decide (i861 < 3)))]) rfl (by kernel_rfl))) ?_
          refine s_ef0 (i := 17) rfl (by kernel_rfl) (ef_stw (k := 0) hm1019 tA24 rfl rfl (oc_cons rfl (oc_cons rfl (oc_cons rfl (oc_cons rfl oc_nil)))) rfl rfl rfl) (by decide) (fun _ _ _ q => absurd q (by decide)) ?_
          intro _ w1024 hm1023
          refine s_nil (by kernel_rfl) ?_
          refine qn_then ?_
          refine cw_region ?_
          refine t_rd rfl (rd_move rfl) ?_
          obtain ⟨r1025, h1026, q1027⟩ := ob q1016; clear q1016
          refine t_ef rfl (ef_call tf7 rfl (yardgen_Place_ok h1026)) ?_
          rintro _ w1029 ⟨rfl, hm1028⟩
          have hm1030 := hm1023.call hm1028
          refine t_rd rfl (rd_move rfl) ?_
          obtain ⟨r1031, h1032, q1033⟩ := ob q1027; clear q1027
          refine t_ef rfl (ef_call tf7 rfl (yardgen_Place_ok h1032)) ?_
          rintro _ w1035 ⟨rfl, hm1034⟩
          have hm1036 := hm1030.call hm1034
          refine t_rd rfl (rd_move rfl) ?_
          obtain ⟨r1037, h1038, q1039⟩ := ob q1033; clear q1033
          refine t_ef rfl (ef_call tf7 rfl (yardgen_Place_ok h1038)) ?_
          rintro _ w1041 ⟨rfl, hm1040⟩
          have hm1042 := hm1036.call hm1040
          refine t_rd rfl (rd_assign rfl) ?_
          refine t_rd rfl (rd_assign rfl) ?_
          refine t_rd rfl (rd_assign rfl) ?_
          refine rwt_nil ?_
          obtain rfl := os q1039
          exact ⟨rfl, (by repeat (first | exact Sub.nil _ | refine Sub.cons rfl ?_)), (hm1042.pick [0, 1] (by decide) rfl)⟩
        · refine cw_f rfl hb967 ?_
          refine cw_skip ?_
          obtain rfl := os q968
          exact ⟨rfl, (by repeat (first | exact Sub.nil _ | refine Sub.cons rfl ?_)), (hm879.pick [0, 1] (by decide) rfl)⟩
      · clear hit965
        intro e env1043 w1044 hX1045
        obtain ⟨rfl, hs1046, hm1047⟩ := hX1045
        refine qn_then ?_
        refine cw_sub hs1046 ?_
        refine cw_seq ?_
        refine cw_seq ?_
        refine cw_region ?_
        refine t_rd rfl (rd_move rfl) ?_
        refine t_rd rfl (rd_gtr rfl rfl) ?_
        refine rwt_nil ?_
        refine qn_then ?_
        obtain ⟨j1089, hit1090, q1091⟩ := ob q966; clear q966
        refine cw_join (X := fun eq envq wq => eq = .normal ∧ Sub [(1, (Value.int .i64 a1)), (2, (Value.int .i64 a2)), (3, (Value.int .i64 a3)), (4, (Value.pointer (some ⟨g1, 0, none⟩))), (9, (Value.int .i64 i861)), (10, (Value.pointer (some ⟨g876, 0, none⟩))), (11, (Value.int .i64 j964.1)), (12, (Value.int .i64 j1089.1)), (13, (Value.int .i64 j1089.2.1))] envq ∧ Mem w No [blk g876 24 [(Value.int .i64 j964.2.2.2.1), (Value.int .i64 j964.2.2.2.2.1), (Value.int .i64 j1089.2.2), (Value.bool j964.2.2.2.2.2.2)], blk g1 24 [(Value.int .i64 a0.Side), (Value.int .i64 a0.Until), (Value.int .i64 a0.Cuts), (Value.bool a0.Failed)]] wq) ?_ ?_
        · clear q1091
          obtain ⟨hb1092, q1093⟩ | ⟨hb1092, q1093⟩ := oi hit1090 <;> clear hit1090
          · refine cw_t rfl hb1092 ?_
            refine cw_seq ?_
            refine cw_region ?_
            refine t_rd rfl (rd_move rfl) ?_
            obtain ⟨x1094, h1095, q1096⟩ := ob q1093; clear q1093
            refine t_rd rfl (rd_sub64 h1095 rfl rfl) ?_
            obtain ⟨x1097, h1098, q1099⟩ := ob q1096; clear q1096
            refine t_rd rfl (rd_mul64 h1098 rfl rfl) ?_
            refine t_rd rfl (rd_move rfl) ?_
            refine t_rd rfl (rd_rem rfl rfl (by decide)) ?_
            refine t_rd rfl (rd_fld tF24_2 rfl) ?_
            refine t_ef0 (ef_st1 (k := 0) (off := 2) hm1047 tO3 rfl rfl rfl rfl rfl rfl) ?_
            intro _ w1101 hm1100
            refine t_rd rfl (rd_assign rfl) ?_
            refine rwt_nil ?_
            refine qn_then ?_
            obtain ⟨w1103, he1105⟩ : ∃ q, q = w1101.drew := ⟨_, rfl⟩
            have hm1104 := hm1100.drew; rw [← he1105] at hm1104
            refine cw_region_s (fun q => (blk g876 24 [(Value.int .i64 j964.2.2.2.1), (Value.int .i64 j964.2.2.2.2.1), (Value.int .i64 x1097), (Value.bool j964.2.2.2.2.2.2)]).φ q) (cls [3] []) mixed ?_
            rintro _ rfl; rw [← he1105]
            refine s_rp (i := 0) rfl (by kernel_rfl) rfl (fun _ => (rd_fld tF24_1 rfl)) ?_
            refine s_rd (i := 1) rfl (by kernel_rfl) rfl (fun w1102 hS => (rd_ld1 tO3 rfl (cells_blk hS) (off := 1) rfl)) (hm1104.get (k := 0) rfl) ?_
            refine s_rp (i := 2) rfl (by kernel_rfl) rfl (fun _ => (rd_move rfl)) ?_
            obtain ⟨r1118, h1119, q1120⟩ := ob q1099; clear q1099
            refine s_ef (i := 3) rfl (by kernel_rfl) rfl (ef_call tf7 rfl (yardgen_Place_ok h1119)) (by decide) ?_ ?_
            · rintro _ w1122 ⟨rfl, hm1121⟩
              have hm1123 := hm1104.call hm1121
              intro _
              exact (hm1123.get (k := 0) rfl)
            rintro _ w1122 ⟨rfl, hm1121⟩
            have hm1123 := hm1104.call hm1121
            obtain ⟨x1124, h1125, q1126⟩ := ob q1120; clear q1120
            refine s_rp (i := 4) rfl (by kernel_rfl) rfl (fun _ => (rd_add64 h1125 rfl rfl)) ?_
            obtain ⟨x1127, h1128, q1129⟩ := ob q1126; clear q1126
            refine s_rp (i := 5) rfl (by kernel_rfl) rfl (fun _ => (rd_sub64 h1128 rfl rfl)) ?_
            refine s_rp (i := 6) rfl (by kernel_rfl) rfl (fun _ => (rd_assign rfl)) ?_
            refine s_nil (by kernel_rfl) ?_
            obtain rfl := os q1129
            exact ⟨rfl, (by repeat (first | exact Sub.nil _ | refine Sub.cons rfl ?_)), (hm1123.pick [0, 1] (by decide) rfl)⟩
          · refine cw_f rfl hb1092 ?_
            refine cw_skip ?_
            obtain rfl := os q1093
            exact ⟨rfl, (by repeat (first | exact Sub.nil _ | refine Sub.cons rfl ?_)), (hm1047.pick [0, 1] (by decide) rfl)⟩
        · clear hit1090
          intro e env1130 w1131 hX1132
          obtain ⟨rfl, hs1133, hm1134⟩ := hX1132
          refine qn_then ?_
          refine cw_sub hs1133 ?_
          refine cw_seq ?_
          refine cw_region ?_
          refine t_rd rfl (rd_ld tA24 rfl (hm1134.blk 0 rfl) rfl) ?_
          refine t_rd rfl (rd_move rfl) ?_
          refine t_rd rfl (rd_move rfl) ?_
          refine t_rd rfl (rd_move rfl) ?_
          obtain ⟨r1135, h1136, q1137⟩ := ob q1091; clear q1091
          refine t_ef rfl (ef_call tf8 rfl (pointmachine_Throw_ok h1136)) ?_
          rintro _ w1139 ⟨rfl, hm1138⟩
          have hm1140 := hm1134.call hm1138
          refine t_rd rfl (rd_move rfl) ?_
          refine t_rd rfl (rd_extract rfl rfl) ?_
          refine t_rd rfl (rd_extract rfl rfl) ?_
          refine t_ef rfl (ef_alloc hm1140 tZ24 rfl) ?_
          rintro _ w1143 ⟨g1141, rfl, hm1142⟩
          refine t_ef0 (ef_stw (k := 0) hm1142 tA24 rfl rfl (oc_cons rfl (oc_cons rfl (oc_cons rfl (oc_cons rfl oc_nil)))) rfl rfl rfl) ?_
          intro _ w1145 hm1144
          refine t_rd rfl (rd_assign rfl) ?_
          refine rwt_nil ?_
          refine qn_then ?_
          refine cw_seq ?_
          refine cw_region ?_
          refine t_rd rfl (rd_ld tA24 rfl (hm1144.blk 1 rfl) rfl) ?_
          refine t_rd rfl (rd_move rfl) ?_
          refine t_rd rfl (rd_move rfl) ?_
          refine t_rd rfl (rd_move rfl) ?_
          obtain ⟨r1146, h1147, q1148⟩ := ob q1137; clear q1137
          refine t_ef rfl (ef_call tf13 rfl (r25_Throw_ok h1147)) ?_
          rintro _ w1150 ⟨rfl, hm1149⟩
          have hm1151 := hm1144.call hm1149
          refine t_rd rfl (rd_move rfl) ?_
          refine t_rd rfl (rd_extract rfl rfl) ?_
          refine t_rd rfl (rd_extract rfl rfl) ?_
          refine t_ef rfl (ef_alloc hm1151 tZ24 rfl) ?_
          rintro _ w1154 ⟨g1152, rfl, hm1153⟩
          refine t_ef0 (ef_stw (k := 0) hm1153 tA24 rfl rfl (oc_cons rfl (oc_cons rfl (oc_cons rfl (oc_cons rfl oc_nil)))) rfl rfl rfl) ?_
          intro _ w1156 hm1155
          refine t_rd rfl (rd_assign rfl) ?_
          refine rwt_nil ?_
          refine qn_then ?_
          refine cw_seq ?_
          refine cw_region ?_
          refine t_rd rfl (rd_ld tA24 rfl (hm1155.blk 2 rfl) rfl) ?_
          refine t_rd rfl (rd_move rfl) ?_
          obtain ⟨r1157, h1158, q1159⟩ := ob q1148; clear q1148
          refine t_ef rfl (ef_call tf9 rfl (pointmachine_Enter_ok h1158)) ?_
          rintro _ w1161 ⟨rfl, hm1160⟩
          have hm1162 := hm1155.call hm1160
          refine t_rd rfl (rd_move rfl) ?_
          refine t_rd rfl (rd_extract rfl rfl) ?_
          refine t_rd rfl (rd_extract rfl rfl) ?_
          refine t_rd rfl (rd_extract rfl rfl) ?_
          refine t_ef rfl (ef_alloc hm1162 tZ24 rfl) ?_
          rintro _ w1165 ⟨g1163, rfl, hm1164⟩
          refine t_ef0 (ef_stw (k := 0) hm1164 tA24 rfl rfl (oc_cons rfl (oc_cons rfl (oc_cons rfl (oc_cons rfl oc_nil)))) rfl rfl rfl) ?_
          intro _ w1167 hm1166
          refine t_rd rfl (rd_assign rfl) ?_
          refine t_rd rfl (rd_assign rfl) ?_
          refine rwt_nil ?_
          refine qn_then ?_
          refine cw_seq ?_
          refine cw_region ?_
          refine t_rd rfl (rd_ld tA24 rfl (hm1166.blk 3 rfl) rfl) ?_
          refine t_rd rfl (rd_move rfl) ?_
          obtain ⟨r1168, h1169, q1170⟩ := ob q1159; clear q1159
          refine t_ef rfl (ef_call tf14 rfl (r25_Enter_ok h1169)) ?_
          rintro _ w1172 ⟨rfl, hm1171⟩
          have hm1173 := hm1166.call hm1171
          refine t_rd rfl (rd_move rfl) ?_
          refine t_rd rfl (rd_extract rfl rfl) ?_
          refine t_rd rfl (rd_extract rfl rfl) ?_
          refine t_rd rfl (rd_extract rfl rfl) ?_
          refine t_ef rfl (ef_alloc hm1173 tZ24 rfl) ?_
          rintro _ w1176 ⟨g1174, rfl, hm1175⟩
          refine t_ef0 (ef_stw (k := 0) hm1175 tA24 rfl rfl (oc_cons rfl (oc_cons rfl (oc_cons rfl (oc_cons rfl oc_nil)))) rfl rfl rfl) ?_
          intro _ w1178 hm1177
          refine t_rd rfl (rd_assign rfl) ?_
          refine t_rd rfl (rd_assign rfl) ?_
          refine rwt_nil ?_
          refine qn_then ?_
          refine cw_seq ?_
          refine cw_seq ?_
          obtain ⟨w1180, he1182⟩ : ∃ q, q = w1178.drew := ⟨_, rfl⟩
          have hm1181 := hm1177.drew; rw [← he1182] at hm1181
          refine cw_region_s (fun q => (blk g1141 24 [(Value.int .i64 r1135.1.Side), (Value.int .i64 r1135.1.Until), (Value.int .i64 r1135.1.Cuts), (Value.bool r1135.1.Failed)]).φ q ∧ (blk g1152 24 [(Value.int .i64 r1146.1.Side), (Value.int .i64 r1146.1.Until), (Value.int .i64 r1146.1.Cuts), (Value.bool r1146.1.Failed)]).φ q ∧ (blk g1163 24 [(Value.int .i64 r1157.1.Side), (Value.int .i64 r1157.1.Until), (Value.int .i64 r1157.1.Cuts), (Value.bool r1157.1.Failed)]).φ q ∧ (blk g1174 24 [(Value.int .i64 r1168.1.Side), (Value.int .i64 r1168.1.Until), (Value.int .i64 r1168.1.Cuts), (Value.bool r1168.1.Failed)]).φ q ∧ (blk g876 24 [(Value.int .i64 j964.2.2.2.1), (Value.int .i64 j964.2.2.2.2.1), (Value.int .i64 j1089.2.2), (Value.bool j964.2.2.2.2.2.2)]).φ q) (cls [25] [27]) mixed ?_
          rintro _ rfl; rw [← he1182]
          refine s_rd (i := 0) rfl (by kernel_rfl) rfl (fun w1179 hS => (rd_ld tA24 rfl (cells_blk hS.1) rfl)) ⟨(hm1181.get (k := 3) rfl), (hm1181.get (k := 2) rfl), (hm1181.get (k := 1) rfl), (hm1181.get (k := 0) rfl), (hm1181.get (k := 4) rfl)⟩ ?_
          refine s_rd (i := 1) rfl (by kernel_rfl) rfl (fun w1179 hS => (rd_ld tA24 rfl (cells_blk hS.2.1) rfl)) ⟨(hm1181.get (k := 3) rfl), (hm1181.get (k := 2) rfl), (hm1181.get (k := 1) rfl), (hm1181.get (k := 0) rfl), (hm1181.get (k := 4) rfl)⟩ ?_
          refine s_rp (i := 2) rfl (by kernel_rfl) rfl (fun _ => (rd_neqs eqs24 (a := r1135.1) (b := r1146.1) rfl rfl)) ?_
          refine s_rp (i := 3) rfl (by kernel_rfl) rfl (fun _ => (rd_move rfl)) ?_
          refine s_rpg (i := 4) rfl (by kernel_rfl) rfl rfl rfl rfl (gv_f _) (fun hg1217 _ => (rd_move rfl)) ?_
          refine s_rpg (i := 5) rfl (by kernel_rfl) rfl rfl rfl rfl (gv_f _) (fun hg1218 _ => (rd_move rfl)) ?_
          refine s_rpg (i := 6) rfl (by kernel_rfl) rfl rfl rfl rfl (gv_f _) (fun hg1219 _ => (rd_neq (gvx rfl hg1219) (gvx rfl hg1219))) ?_
          refine s_rp (i := 7) rfl (by kernel_rfl) rfl (fun _ => (rd_or rfl (fun hc1220 => (gvx rfl (bnotIt hc1220))))) ?_
          refine s_rp (i := 8) rfl (by kernel_rfl) rfl (fun _ => (rd_move rfl)) ?_
          refine s_rdg (i := 9) rfl (by kernel_rfl) rfl rfl rfl rfl (gv_f _) (fun hg1221 => (fun w1179 hS => (rd_ld tA24 rfl (cells_blk hS.2.2.1) rfl))) ⟨(hm1181.get (k := 3) rfl), (hm1181.get (k := 2) rfl), (hm1181.get (k := 1) rfl), (hm1181.get (k := 0) rfl), (hm1181.get (k := 4) rfl)⟩ ?_
          refine s_rdg (i := 10) rfl (by kernel_rfl) rfl rfl rfl rfl (gv_f _) (fun hg1222 => (fun w1179 hS => (rd_ld tA24 rfl (cells_blk hS.2.2.2.1) rfl))) ⟨(hm1181.get (k := 3) rfl), (hm1181.get (k := 2) rfl), (hm1181.get (k := 1) rfl), (hm1181.get (k := 0) rfl), (hm1181.get (k := 4) rfl)⟩ ?_
          refine s_rpg (i := 11) rfl (by kernel_rfl) rfl rfl rfl rfl (gv_f _) (fun hg1223 _ => (rd_neqs eqs24 (a := r1157.1) (b := r1168.1) (gvx rfl hg1223) (gvx rfl hg1223))) ?_
          refine s_rp (i := 12) rfl (by kernel_rfl) rfl (fun _ => (rd_or rfl (fun hc1224 => (gvx rfl (bnotIt hc1224))))) ?_
          refine s_rp (i := 13) rfl (by kernel_rfl) rfl (fun _ => (rd_move rfl)) ?_
          refine s_rpg (i := 14) rfl (by kernel_rfl) rfl rfl rfl rfl (gv_f _) (fun hg1225 _ => (rd_move rfl)) ?_
          refine s_rpg (i := 15) rfl (by kernel_rfl) rfl rfl rfl rfl (gv_f _) (fun hg1226 _ => (rd_move rfl)) ?_
          refine s_rpg (i := 16) rfl (by kernel_rfl) rfl rfl rfl rfl (gv_f _) (fun hg1227 _ => (rd_neq (gvx rfl hg1227) (gvx rfl hg1227))) ?_
          refine s_rp (i := 17) rfl (by kernel_rfl) rfl (fun _ => (rd_or rfl (fun hc1228 => (gvx rfl (bnotIt hc1228))))) ?_
          refine s_rp (i := 18) rfl (by kernel_rfl) rfl (fun _ => (rd_move rfl)) ?_
          refine s_rpg (i := 19) rfl (by kernel_rfl) rfl rfl rfl rfl (gv_f _) (fun hg1229 _ => (rd_move rfl)) ?_
          refine s_rpg (i := 20) rfl (by kernel_rfl) rfl rfl rfl rfl (gv_f _) (fun hg1230 _ => (rd_move rfl)) ?_
          refine s_rpg (i := 21) rfl (by kernel_rfl) rfl rfl rfl rfl (gv_f _) (fun hg1231 _ => (rd_neq (gvx rfl hg1231) (gvx rfl hg1231))) ?_
          refine s_rp (i := 22) rfl (by kernel_rfl) rfl (fun _ => (rd_or rfl (fun hc1232 => (gvx rfl (bnotIt hc1232))))) ?_
          refine s_rp (i := 23) rfl (by kernel_rfl) rfl (fun _ => (rd_move rfl)) ?_
          refine s_rdg (i := 24) rfl (by kernel_rfl) rfl rfl rfl rfl (gv_f _) (fun hg1233 => (fun w1179 hS => (rd_ld tA24 rfl (cells_blk hS.2.2.2.2) rfl))) ⟨(hm1181.get (k := 3) rfl), (hm1181.get (k := 2) rfl), (hm1181.get (k := 1) rfl), (hm1181.get (k := 0) rfl), (hm1181.get (k := 4) rfl)⟩ ?_
          refine s_rdg (i := 26) rfl (by kernel_rfl) rfl rfl rfl rfl (gv_f _) (fun hg1234 => (fun w1179 hS => (rd_ld tA24 rfl (cells_blk hS.2.2.2.2) rfl))) ⟨(hm1181.get (k := 3) rfl), (hm1181.get (k := 2) rfl), (hm1181.get (k := 1) rfl), (hm1181.get (k := 0) rfl), (hm1181.get (k := 4) rfl)⟩ ?_
          obtain ⟨r1236, h1237, q1238⟩ := ob q1170; clear q1170
          refine s_efg (i := 25) rfl (by kernel_rfl) rfl rfl rfl rfl (R := (fun v w' => v = gV (!(((((!decide (r1135.1 = r1146.1)) || (!decide (r1135.2 = r1146.2))) || (!decide (r1157.1 = r1168.1))) || (!decide (r1157.2.1 = r1168.2.1))) || (!decide (r1157.2.2 = r1168.2.2)))) (Value.bool r1236) ∧ Mem w1180 No [] w')) (gv_f _) (fun hg1235 => (ef_call tf11 (evc (gvx rfl hg1235) evn) (pointmachine_Valid_ok (gO_t h1237 hg1235))).mono (by rintro _ _ ⟨rfl, q⟩; exact ⟨(gV_t hg1235).symm, q⟩)) (fun q => ⟨(gV_f q).symm, Mem.nil _⟩) (by decide) ?_ ?_
          · rintro _ w1240 ⟨rfl, hm1239⟩
            have hm1241 := hm1181.call hm1239
            intro _
            exact ⟨(hm1241.get (k := 3) rfl), (hm1241.get (k := 2) rfl), (hm1241.get (k := 1) rfl), (hm1241.get (k := 0) rfl), (hm1241.get (k := 4) rfl)⟩
          rintro _ w1240 ⟨rfl, hm1239⟩
          have hm1241 := hm1181.call hm1239
          obtain ⟨r1243, h1244, q1245⟩ := ob q1238; clear q1238
          refine s_efg (i := 27) rfl (by kernel_rfl) rfl rfl rfl rfl (R := (fun v w' => v = gV (!(((((!decide (r1135.1 = r1146.1)) || (!decide (r1135.2 = r1146.2))) || (!decide (r1157.1 = r1168.1))) || (!decide (r1157.2.1 = r1168.2.1))) || (!decide (r1157.2.2 = r1168.2.2)))) (Value.bool r1243) ∧ Mem w1240 No [] w')) (gv_f _) (fun hg1242 => (ef_call tf15 (evc (gvx rfl hg1242) evn) (r25_Valid_ok (gO_t h1244 hg1242))).mono (by rintro _ _ ⟨rfl, q⟩; exact ⟨(gV_t hg1242).symm, q⟩)) (fun q => ⟨(gV_f q).symm, Mem.nil _⟩) (by decide) (fun _ _ _ q => absurd q (by decide)) ?_
          rintro _ w1247 ⟨rfl, hm1246⟩
          have hm1248 := hm1241.call hm1246
          refine s_rpg (i := 28) rfl (by kernel_rfl) rfl rfl rfl rfl (gv_f _) (fun hg1249 _ => (rd_neqb tB4 (gvx rfl hg1249) (gvx rfl hg1249))) ?_
          refine s_rp (i := 29) rfl (by kernel_rfl) rfl (fun _ => (rd_or rfl (fun hc1250 => (gvx rfl (bnotIt hc1250))))) ?_
          refine s_nil (by kernel_rfl) ?_
          refine qn_then ?_
          obtain ⟨hb1251, q1252⟩ | ⟨hb1251, q1252⟩ := oi q1245 <;> clear q1245
          · refine cw_t rfl hb1251 ?_
            refine cw_seq ?_
            refine cw_region ?_
            refine t_rd rfl (rd_assign rfl) ?_
            refine rwt_nil ?_
            refine qn_then ?_
            refine cw_ret ?_
            refine qr_then (qr_block (qr_then (qr_then ?_)))
            obtain rfl := hr867 _ (os q1252)
            refine .inl (⟨_, rfl, ⟨rfl, ?_⟩⟩)
            exact ret1 rfl rfl ⟨rfl, (hm1248.pick [] (by decide) rfl)⟩
          · refine cw_f rfl hb1251 ?_
            refine cw_skip ?_
            refine qn_then ?_
            refine cw_seq ?_
            refine cw_region ?_
            refine t_rd rfl (rd_ld tA24 rfl (hm1248.blk 4 rfl) rfl) ?_
            obtain ⟨r1253, h1254, q1255⟩ := ob q1252; clear q1252
            refine t_ef rfl (ef_call tf10 rfl (pointmachine_Leave_ok h1254)) ?_
            rintro _ w1257 ⟨rfl, hm1256⟩
            have hm1258 := hm1248.call hm1256
            refine t_rd rfl (rd_move rfl) ?_
            refine t_rd rfl (rd_extract rfl rfl) ?_
            refine t_rd rfl (rd_extract rfl rfl) ?_
            refine t_ef0 (ef_stw (k := 3) hm1258 tA24 rfl rfl (oc_cons rfl (oc_cons rfl (oc_cons rfl (oc_cons rfl oc_nil)))) rfl rfl rfl) ?_
            intro _ w1260 hm1259
            refine t_rd rfl (rd_assign rfl) ?_
            refine rwt_nil ?_
            refine qn_then ?_
            refine cw_seq ?_
            refine cw_region ?_
            refine t_rd rfl (rd_ld tA24 rfl (hm1259.blk 4 rfl) rfl) ?_
            obtain ⟨r1261, h1262, q1263⟩ := ob q1255; clear q1255
            refine t_ef rfl (ef_call tf16 rfl (r25_Leave_ok h1262)) ?_
            rintro _ w1265 ⟨rfl, hm1264⟩
            have hm1266 := hm1259.call hm1264
            refine t_rd rfl (rd_move rfl) ?_
            refine t_rd rfl (rd_extract rfl rfl) ?_
            refine t_rd rfl (rd_extract rfl rfl) ?_
            refine t_ef0 (ef_stw (k := 2) hm1266 tA24 rfl rfl (oc_cons rfl (oc_cons rfl (oc_cons rfl (oc_cons rfl oc_nil)))) rfl rfl rfl) ?_
            intro _ w1268 hm1267
            refine t_rd rfl (rd_assign rfl) ?_
            refine rwt_nil ?_
            refine qn_then ?_
            refine cw_seq ?_
            refine cw_region ?_
            refine t_rd rfl (rd_ld tA24 rfl (hm1267.blk 4 rfl) rfl) ?_
            refine t_rd rfl (rd_move rfl) ?_
            obtain ⟨r1269, h1270, q1271⟩ := ob q1263; clear q1263
            refine t_ef rfl (ef_call tf17 rfl (pointmachine_Repair_ok h1270)) ?_
            rintro _ w1273 ⟨rfl, hm1272⟩
            have hm1274 := hm1267.call hm1272
            refine t_rd rfl (rd_move rfl) ?_
            refine t_rd rfl (rd_extract rfl rfl) ?_
            refine t_rd rfl (rd_extract rfl rfl) ?_
            refine t_ef0 (ef_stw (k := 1) hm1274 tA24 rfl rfl (oc_cons rfl (oc_cons rfl (oc_cons rfl (oc_cons rfl oc_nil)))) rfl rfl rfl) ?_
            intro _ w1276 hm1275
            refine t_rd rfl (rd_assign rfl) ?_
            refine rwt_nil ?_
            refine qn_then ?_
            refine cw_seq ?_
            refine cw_region ?_
            refine t_rd rfl (rd_ld tA24 rfl (hm1275.blk 4 rfl) rfl) ?_
            refine t_rd rfl (rd_move rfl) ?_
            obtain ⟨r1277, h1278, q1279⟩ := ob q1271; clear q1271
            refine t_ef rfl (ef_call tf18 rfl (r25_Repair_ok h1278)) ?_
            rintro _ w1281 ⟨rfl, hm1280⟩
            have hm1282 := hm1275.call hm1280
            refine t_rd rfl (rd_move rfl) ?_
            refine t_rd rfl (rd_extract rfl rfl) ?_
            refine t_rd rfl (rd_extract rfl rfl) ?_
            refine t_ef0 (ef_stw (k := 0) hm1282 tA24 rfl rfl (oc_cons rfl (oc_cons rfl (oc_cons rfl (oc_cons rfl oc_nil)))) rfl rfl rfl) ?_
            intro _ w1284 hm1283
            refine t_rd rfl (rd_assign rfl) ?_
            refine rwt_nil ?_
            refine qn_then ?_
            refine cw_seq ?_
            refine cw_region ?_
            refine t_rd rfl (rd_ld tA24 rfl (hm1283.blk 3 rfl) rfl) ?_
            refine t_rd rfl (rd_ld tA24 rfl (hm1283.blk 2 rfl) rfl) ?_
            refine t_rd rfl (rd_neqs eqs24 (a := r1253.1) (b := r1261.1) rfl rfl) ?_
            refine t_rd rfl (rd_move rfl) ?_
            refine t_rdg rfl rfl rfl rfl (gv_f _) (fun hg1285 => (rd_move rfl)) ?_
            refine t_rdg rfl rfl rfl rfl (gv_f _) (fun hg1286 => (rd_move rfl)) ?_
            refine t_rdg rfl rfl rfl rfl (gv_f _) (fun hg1287 => (rd_neq (gvx rfl hg1287) (gvx rfl hg1287))) ?_
            refine t_rd rfl (rd_or rfl (fun hc1288 => (gvx rfl (bnotIt hc1288)))) ?_
            refine t_rd rfl (rd_move rfl) ?_
            refine t_rdg rfl rfl rfl rfl (gv_f _) (fun hg1289 => (rd_ld tA24 rfl (hm1283.blk 1 rfl) rfl)) ?_
            refine t_rdg rfl rfl rfl rfl (gv_f _) (fun hg1290 => (rd_ld tA24 rfl (hm1283.blk 0 rfl) rfl)) ?_
            refine t_rdg rfl rfl rfl rfl (gv_f _) (fun hg1291 => (rd_neqs eqs24 (a := r1269.1) (b := r1277.1) (gvx rfl hg1291) (gvx rfl hg1291))) ?_
            refine t_rd rfl (rd_or rfl (fun hc1292 => (gvx rfl (bnotIt hc1292)))) ?_
            refine t_rd rfl (rd_move rfl) ?_
            refine t_rdg rfl rfl rfl rfl (gv_f _) (fun hg1293 => (rd_move rfl)) ?_
            refine t_rdg rfl rfl rfl rfl (gv_f _) (fun hg1294 => (rd_move rfl)) ?_
            refine t_rdg rfl rfl rfl rfl (gv_f _) (fun hg1295 => (rd_neq (gvx rfl hg1295) (gvx rfl hg1295))) ?_
            refine t_rd rfl (rd_or rfl (fun hc1296 => (gvx rfl (bnotIt hc1296)))) ?_
            refine rwt_nil ?_
            refine qn_then ?_
            obtain ⟨hb1297, q1298⟩ | ⟨hb1297, q1298⟩ := oi q1279 <;> clear q1279
            · refine cw_t rfl hb1297 ?_
              refine cw_seq ?_
              refine cw_region ?_
              refine t_rd rfl (rd_assign rfl) ?_
              refine rwt_nil ?_
              refine qn_then ?_
              refine cw_ret ?_
              refine qr_block (qr_then (qr_then ?_))
              obtain rfl := hr867 _ (os q1298)
              refine .inl (⟨_, rfl, ⟨rfl, ?_⟩⟩)
              exact ret1 rfl rfl ⟨rfl, (hm1283.pick [] (by decide) rfl)⟩
            · refine cw_f rfl hb1297 ?_
              refine cw_skip ?_
              refine qn_block (qn_then ?_)
              refine cw_region ?_
              refine t_rd rfl (rd_move rfl) ?_
              obtain ⟨x1299, h1300, q1301⟩ := ob q1298; clear q1298
              refine t_rd rfl (rd_add64 h1300 rfl rfl) ?_
              refine t_rd rfl (rd_assign rfl) ?_
              refine rwt_nil ?_
              refine qn_then ?_
              refine ⟨_, (os q1301), (by repeat (first | exact Sub.nil _ | refine Sub.cons rfl ?_)), (hm1283.pick [5] (by decide) rfl)⟩
    · refine cw_f rfl hb874 ?_
      refine cw_exit ?_
      refine qx_then (qx_then ?_)
      obtain rfl := hr867 _ (os q875)
      exact .inr (⟨_, rfl, ⟨rfl, (by repeat (first | exact Sub.nil _ | refine Sub.cons rfl ?_)), (hm873.pick [] (by decide) rfl)⟩⟩)
  · skip
    intro e env1302 w1303 hX1304
    rcases hX1304 with hX1304 | hX1304
    · obtain ⟨p1306, rfl, hX1304⟩ := hX1304
      obtain ⟨rfl, hq1308⟩ := hX1304
      exact qr_block (qr_then ((by have e := os q870; subst e; exact hq1308)))
    · obtain ⟨p1309, rfl, hX1304⟩ := hX1304
      obtain ⟨rfl, hs1310, hm1311⟩ := hX1304
      refine qx_same (qn_then ?_)
      refine cw_sub hs1310 ?_
      refine cw_seq ?_
      refine cw_region ?_
      obtain ⟨r1312, h1313, q1314⟩ := ob q870; clear q870
      refine t_ef rfl (ef_call tf12 rfl (law25_sane_ok h1313)) ?_
      rintro _ w1316 ⟨rfl, hm1315⟩
      have hm1317 := hm1311.call hm1315
      refine t_rd rfl (rd_assign rfl) ?_
      refine rwt_nil ?_
      refine qn_then ?_
      refine cw_ret ?_
      obtain rfl := os q1314
      exact ret1 rfl rfl ⟨rfl, (hm1317.pick [] (by decide) rfl)⟩

theorem law25_PointmachineRepairs_ok {N : Nat} {a0 : Int} {a1 : Int} {res : Bool} (h : law25_PointmachineRepairs N a0 a1 = some res) {w : World}   :
    CallsR Try.prog 6 [(Value.int .i64 a0), (Value.int .i64 a1)] w (fun u w' => u = (Value.bool res) ∧ Mem w No [] w') := by
  unfold law25_PointmachineRepairs at h
  refine fn_ok Try.func6 rfl rfl rfl ?_
  have hm0 := Mem.nil w
  refine cw_seq ?_
  refine cw_region ?_
  refine t_rd rfl (rd_assign rfl) ?_
  refine rwt_nil ?_
  refine qn_then ?_
  refine cw_seq ?_
  refine cw_region ?_
  refine t_rd rfl (rd_build (cs := #[(Value.int .i64 1), (Value.int .i64 100), (Value.int .i64 0), (Value.bool false)]) rfl (by kernel_rfl)) ?_
  refine t_ef rfl (ef_alloc hm0 tZ24 rfl) ?_
  rintro _ w3 ⟨g1, rfl, hm2⟩
  refine t_ef0 (ef_stw (k := 0) hm2 tA24 rfl rfl (oc_cons rfl (oc_cons rfl (oc_cons rfl (oc_cons rfl oc_nil)))) rfl rfl rfl) ?_
  intro _ w5 hm4
  refine rwt_nil ?_
  refine qn_then ?_
  refine cw_seq ?_
  refine cw_region ?_
  refine t_rd rfl (rd_move rfl) ?_
  obtain ⟨r6, h7, q8⟩ := ob h; clear h
  refine t_ef rfl (ef_call tf7 rfl (yardgen_Place_ok h7)) ?_
  rintro _ w10 ⟨rfl, hm9⟩
  have hm11 := hm4.call hm9
  obtain ⟨x12, h13, q14⟩ := ob q8; clear q8
  refine t_rd rfl (rd_add64 h13 rfl rfl) ?_
  refine t_rd rfl (rd_assign rfl) ?_
  refine rwt_nil ?_
  refine qn_then ?_
  refine cw_seq ?_
  refine cw_seq ?_
  refine cw_region ?_
  refine t_rd rfl (rd_assign rfl) ?_
  refine rwt_nil ?_
  refine qn_then ?_
  refine cw_block ?_
  obtain ⟨r75, hit76, q77⟩ := ob q14; clear q14
  refine cw_loop2 (I := fun q envq wq => Sub [(0, (Value.int .i64 x12)), (1, (Value.int .i64 a1)), (5, (Value.pointer (some ⟨g1, 0, none⟩))), (6, (Value.int .i64 q.1))] envq ∧ Mem w No [blk g1 24 [(Value.int .i64 q.2.1), (Value.int .i64 q.2.2.1), (Value.int .i64 q.2.2.2.1), (Value.bool q.2.2.2.2)]] wq) (X := fun eq envq wq => (∃ p78, r75 = (Sum.inl p78) ∧ eq = .ret ∧ retQ Try.prog 109 Try.f6 (fun u w' => u = (Value.bool p78) ∧ Mem w No [] w') .ret envq wq) ∨ (∃ p79, r75 = (Sum.inr p79) ∧ eq = .exit 0 ∧ Sub [(0, (Value.int .i64 x12)), (1, (Value.int .i64 a1)), (5, (Value.pointer (some ⟨g1, 0, none⟩)))] envq ∧ Mem w No [blk g1 24 [(Value.int .i64 p79.1), (Value.int .i64 p79.2.1), (Value.int .i64 p79.2.2.1), (Value.bool p79.2.2.2)]] wq)) hit76 ⟨(by repeat (first | exact Sub.nil _ | refine Sub.cons rfl ?_)), (hm11.pick [0] (by decide) rfl)⟩ ?_ ?_
  · rintro ⟨i64, i65, i66, i67, b68⟩ x70 env71 w72 hf73 hr74 ⟨hs_, hm_⟩
    have hs_ : Sub [(0, (Value.int .i64 x12)), (1, (Value.int .i64 a1)), (5, (Value.pointer (some ⟨g1, 0, none⟩))), (6, (Value.int .i64 i64))] env71 := hs_
    have hm80 : Mem w No [blk g1 24 [(Value.int .i64 i65), (Value.int .i64 i66), (Value.int .i64 i67), (Value.bool b68)]] w72 := hm_
    refine cw_sub hs_ ?_
    clear hs_ hm_ q77
    have h : law25_PointmachineRepairs_l1 N x12 i64 i65 i66 i67 b68 = some x70 := hf73
    clear hf73
    refine cw_seq ?_
    refine cw_seq ?_
    refine cw_region ?_
    refine t_rd rfl (rd_move rfl) ?_
    refine t_rd rfl (rd_move rfl) ?_
    refine t_rd rfl (rd_lss rfl rfl) ?_
    refine rwt_nil ?_
    refine qn_then ?_
    obtain ⟨hb81, q82⟩ | ⟨hb81, q82⟩ := oi h <;> clear h
    · refine cw_t rfl hb81 ?_
      refine cw_skip ?_
      refine qn_then ?_
      refine cw_seq ?_
      refine cw_block ?_
      refine cw_seq ?_
      refine cw_region ?_
      refine t_rd rfl (rd_ld tA24 rfl (hm80.blk 0 rfl) rfl) ?_
      obtain ⟨r83, h84, q85⟩ := ob q82; clear q82
      refine t_ef rfl (ef_call tf9 rfl (pointmachine_Enter_ok h84)) ?_
      rintro _ w87 ⟨rfl, hm86⟩
      have hm88 := hm80.call hm86
      refine t_rd rfl (rd_move rfl) ?_
      refine t_rd rfl (rd_extract rfl rfl) ?_
      refine t_rd rfl (rd_extract rfl rfl) ?_
      refine t_rd rfl (rd_extract rfl rfl) ?_
      refine t_ef rfl (ef_alloc hm88 tZ24 rfl) ?_
      rintro _ w91 ⟨g89, rfl, hm90⟩
      refine t_ef0 (ef_stw (k := 0) hm90 tA24 rfl rfl (oc_cons rfl (oc_cons rfl (oc_cons rfl (oc_cons rfl oc_nil)))) rfl rfl rfl) ?_
      intro _ w93 hm92
      refine t_rd rfl (rd_assign rfl) ?_
      refine t_rd rfl (rd_assign rfl) ?_
      refine rwt_nil ?_
      refine qn_then ?_
      refine cw_seq ?_
      refine cw_seq ?_
      refine cw_region ?_
      refine t_rd rfl (rd_move rfl) ?_
      refine t_rd rfl (rd_neq rfl rfl) ?_
      refine rwt_nil ?_
      refine qn_then ?_
      obtain ⟨hb94, q95⟩ | ⟨hb94, q95⟩ := oi q85 <;> clear q85
      · refine cw_t rfl hb94 ?_
        refine cw_seq ?_
        refine cw_region ?_
        refine t_rd rfl (rd_assign rfl) ?_
        refine rwt_nil ?_
        refine qn_then ?_
        refine cw_ret ?_
        refine qr_then (qr_block (qr_then (qr_then ?_)))
        obtain rfl := hr74 _ (os q95)
        refine .inl (⟨_, rfl, ⟨rfl, ?_⟩⟩)
        exact ret1 rfl rfl ⟨rfl, (hm92.pick [] (by decide) rfl)⟩
      · refine cw_f rfl hb94 ?_
        refine cw_skip ?_
        refine qn_then ?_
        refine cw_region ?_
        refine t_rd rfl (rd_ld tA24 rfl (hm92.blk 0 rfl) rfl) ?_
        refine t_ef0 (ef_stw (k := 1) hm92 tA24 rfl rfl (oc_cons rfl (oc_cons rfl (oc_cons rfl (oc_cons rfl oc_nil)))) rfl rfl rfl) ?_
        intro _ w97 hm96
        refine rwt_nil ?_
        refine qn_block (qn_then ?_)
        refine cw_region ?_
        refine t_rd rfl (rd_move rfl) ?_
        obtain ⟨x98, h99, q100⟩ := ob q95; clear q95
        refine t_rd rfl (rd_add64 h99 rfl rfl) ?_
        refine t_rd rfl (rd_assign rfl) ?_
        refine rwt_nil ?_
        refine qn_then ?_
        refine ⟨_, (os q100), (by repeat (first | exact Sub.nil _ | refine Sub.cons rfl ?_)), (hm96.pick [1] (by decide) rfl)⟩
    · refine cw_f rfl hb81 ?_
      refine cw_exit ?_
      refine qx_then (qx_then ?_)
      obtain rfl := hr74 _ (os q82)
      exact .inr (⟨_, rfl, ⟨rfl, (by repeat (first | exact Sub.nil _ | refine Sub.cons rfl ?_)), (hm80.pick [0] (by decide) rfl)⟩⟩)
  · skip
    intro e env101 w102 hX103
    rcases hX103 with hX103 | hX103
    · obtain ⟨p105, rfl, hX103⟩ := hX103
      obtain ⟨rfl, hq107⟩ := hX103
      exact qr_block (qr_then ((by have e := os q77; subst e; exact hq107)))
    · obtain ⟨p108, rfl, hX103⟩ := hX103
      obtain ⟨rfl, hs109, hm110⟩ := hX103
      refine qx_same (qn_then ?_)
      refine cw_sub hs109 ?_
      refine cw_seq ?_
      refine cw_seq ?_
      refine cw_region ?_
      refine t_rd rfl (rd_assign rfl) ?_
      refine rwt_nil ?_
      refine qn_then ?_
      refine cw_block ?_
      obtain ⟨r227, hit228, q229⟩ := ob q77; clear q77
      refine cw_loop2 (I := fun q envq wq => Sub [(0, (Value.int .i64 x12)), (1, (Value.int .i64 a1)), (5, (Value.pointer (some ⟨g1, 0, none⟩))), (10, (Value.int .i64 q.1))] envq ∧ Mem w No [blk g1 24 [(Value.int .i64 q.2.1), (Value.int .i64 q.2.2.1), (Value.int .i64 q.2.2.2.1), (Value.bool q.2.2.2.2)]] wq) (X := fun eq envq wq => (∃ p230, r227 = (Sum.inl p230) ∧ eq = .ret ∧ retQ Try.prog 109 Try.f6 (fun u w' => u = (Value.bool p230) ∧ Mem w No [] w') .ret envq wq) ∨ (∃ p231, r227 = (Sum.inr p231) ∧ eq = .exit 2 ∧ Sub [(1, (Value.int .i64 a1)), (5, (Value.pointer (some ⟨g1, 0, none⟩)))] envq ∧ Mem w No [blk g1 24 [(Value.int .i64 p231.1), (Value.int .i64 p231.2.1), (Value.int .i64 p231.2.2.1), (Value.bool p231.2.2.2)]] wq)) hit228 ⟨(by repeat (first | exact Sub.nil _ | refine Sub.cons rfl ?_)), (hm110.pick [0] (by decide) rfl)⟩ ?_ ?_
      · rintro ⟨i216, i217, i218, i219, b220⟩ x222 env223 w224 hf225 hr226 ⟨hs_, hm_⟩
        have hs_ : Sub [(0, (Value.int .i64 x12)), (1, (Value.int .i64 a1)), (5, (Value.pointer (some ⟨g1, 0, none⟩))), (10, (Value.int .i64 i216))] env223 := hs_
        have hm232 : Mem w No [blk g1 24 [(Value.int .i64 i217), (Value.int .i64 i218), (Value.int .i64 i219), (Value.bool b220)]] w224 := hm_
        refine cw_sub hs_ ?_
        clear hs_ hm_ q229
        have h : law25_PointmachineRepairs_l2 N x12 i216 i217 i218 i219 b220 = some x222 := hf225
        clear hf225
        refine cw_seq ?_
        refine cw_seq ?_
        refine cw_region ?_
        refine t_rd rfl (rd_move rfl) ?_
        refine t_rd rfl (rd_move rfl) ?_
        refine t_rd rfl (rd_lss rfl rfl) ?_
        refine rwt_nil ?_
        refine qn_then ?_
        obtain ⟨hb233, q234⟩ | ⟨hb233, q234⟩ := oi h <;> clear h
        · refine cw_t rfl hb233 ?_
          refine cw_skip ?_
          refine qn_then ?_
          refine cw_seq ?_
          refine cw_block ?_
          refine cw_seq ?_
          refine cw_region ?_
          refine t_rd rfl (rd_ld tA24 rfl (hm232.blk 0 rfl) rfl) ?_
          obtain ⟨r235, h236, q237⟩ := ob q234; clear q234
          refine t_ef rfl (ef_call tf8 rfl (pointmachine_Throw_ok h236)) ?_
          rintro _ w239 ⟨rfl, hm238⟩
          have hm240 := hm232.call hm238
          refine t_rd rfl (rd_move rfl) ?_
          refine t_rd rfl (rd_extract rfl rfl) ?_
          refine t_rd rfl (rd_extract rfl rfl) ?_
          refine t_ef rfl (ef_alloc hm240 tZ24 rfl) ?_
          rintro _ w243 ⟨g241, rfl, hm242⟩
          refine t_ef0 (ef_stw (k := 0) hm242 tA24 rfl rfl (oc_cons rfl (oc_cons rfl (oc_cons rfl (oc_cons rfl oc_nil)))) rfl rfl rfl) ?_
          intro _ w245 hm244
          refine t_rd rfl (rd_assign rfl) ?_
          refine rwt_nil ?_
          refine qn_then ?_
          refine cw_seq ?_
          refine cw_region ?_
          refine t_rd rfl (rd_ld tA24 rfl (hm244.blk 1 rfl) rfl) ?_
          obtain ⟨r246, h247, q248⟩ := ob q237; clear q237
          refine t_ef rfl (ef_call tf17 rfl (pointmachine_Repair_ok h247)) ?_
          rintro _ w250 ⟨rfl, hm249⟩
          have hm251 := hm244.call hm249
          refine t_rd rfl (rd_move rfl) ?_
          refine t_rd rfl (rd_extract rfl rfl) ?_
          refine t_rd rfl (rd_extract rfl rfl) ?_
          refine t_ef rfl (ef_alloc hm251 tZ24 rfl) ?_
          rintro _ w254 ⟨g252, rfl, hm253⟩
          refine t_ef0 (ef_stw (k := 0) hm253 tA24 rfl rfl (oc_cons rfl (oc_cons rfl (oc_cons rfl (oc_cons rfl oc_nil)))) rfl rfl rfl) ?_
          intro _ w256 hm255
          refine t_rd rfl (rd_assign rfl) ?_
          refine rwt_nil ?_
          refine qn_then ?_
          refine cw_seq ?_
          refine cw_region ?_
          refine t_rd rfl (rd_ld tA24 rfl (hm255.blk 2 rfl) rfl) ?_
          obtain ⟨r257, h258, q259⟩ := ob q248; clear q248
          refine t_ef rfl (ef_call tf10 rfl (pointmachine_Leave_ok h258)) ?_
          rintro _ w261 ⟨rfl, hm260⟩
          have hm262 := hm255.call hm260
          refine t_rd rfl (rd_move rfl) ?_
          refine t_rd rfl (rd_extract rfl rfl) ?_
          refine t_rd rfl (rd_extract rfl rfl) ?_
          refine t_ef rfl (ef_alloc hm262 tZ24 rfl) ?_
          rintro _ w265 ⟨g263, rfl, hm264⟩
          refine t_ef0 (ef_stw (k := 0) hm264 tA24 rfl rfl (oc_cons rfl (oc_cons rfl (oc_cons rfl (oc_cons rfl oc_nil)))) rfl rfl rfl) ?_
          intro _ w267 hm266
          refine t_rd rfl (rd_assign rfl) ?_
          refine rwt_nil ?_
          refine qn_then ?_
          refine cw_seq ?_
          refine cw_seq ?_
          refine cw_region ?_
          refine t_rd rfl (rd_move rfl) ?_
          refine t_rd rfl (rd_neq rfl rfl) ?_
          refine t_rd rfl (rd_move rfl) ?_
          refine t_rdg rfl rfl rfl rfl (gv_f _) (fun hg268 => (rd_move rfl)) ?_
          refine t_rdg rfl rfl rfl rfl (gv_f _) (fun hg269 => (rd_neq (gvx rfl hg269) rfl)) ?_
          refine t_rd rfl (rd_or rfl (fun hc270 => (gvx rfl (bnotIt hc270)))) ?_
          refine t_rd rfl (rd_move rfl) ?_
          refine t_rdg rfl rfl rfl rfl (gv_f _) (fun hg271 => (rd_move rfl)) ?_
          refine t_rdg rfl rfl rfl rfl (gv_f _) (fun hg272 => (rd_neq (gvx rfl hg272) rfl)) ?_
          refine t_rd rfl (rd_or rfl (fun hc273 => (gvx rfl (bnotIt hc273)))) ?_
          refine rwt_nil ?_
          refine qn_then ?_
          obtain ⟨hb274, q275⟩ | ⟨hb274, q275⟩ := oi q259 <;> clear q259
          · refine cw_t rfl hb274 ?_
            refine cw_seq ?_
            refine cw_region ?_
            refine t_rd rfl (rd_assign rfl) ?_
            refine rwt_nil ?_
            refine qn_then ?_
            refine cw_ret ?_
            refine qr_then (qr_block (qr_then (qr_then ?_)))
            obtain rfl := hr226 _ (os q275)
            refine .inl (⟨_, rfl, ⟨rfl, ?_⟩⟩)
            exact ret1 rfl rfl ⟨rfl, (hm266.pick [] (by decide) rfl)⟩
          · refine cw_f rfl hb274 ?_
            refine cw_skip ?_
            refine qn_then ?_
            refine cw_region ?_
            refine t_rd rfl (rd_ld tA24 rfl (hm266.blk 0 rfl) rfl) ?_
            refine t_ef0 (ef_stw (k := 3) hm266 tA24 rfl rfl (oc_cons rfl (oc_cons rfl (oc_cons rfl (oc_cons rfl oc_nil)))) rfl rfl rfl) ?_
            intro _ w277 hm276
            refine rwt_nil ?_
            refine qn_block (qn_then ?_)
            refine cw_region ?_
            refine t_rd rfl (rd_move rfl) ?_
            obtain ⟨x278, h279, q280⟩ := ob q275; clear q275
            refine t_rd rfl (rd_add64 h279 rfl rfl) ?_
            refine t_rd rfl (rd_assign rfl) ?_
            refine rwt_nil ?_
            refine qn_then ?_
            refine ⟨_, (os q280), (by repeat (first | exact Sub.nil _ | refine Sub.cons rfl ?_)), (hm276.pick [3] (by decide) rfl)⟩
        · refine cw_f rfl hb233 ?_
          refine cw_exit ?_
          refine qx_then (qx_then ?_)
          obtain rfl := hr226 _ (os q234)
          exact .inr (⟨_, rfl, ⟨rfl, (by repeat (first | exact Sub.nil _ | refine Sub.cons rfl ?_)), (hm232.pick [0] (by decide) rfl)⟩⟩)
      · skip
        intro e env281 w282 hX283
        rcases hX283 with hX283 | hX283
        · obtain ⟨p285, rfl, hX283⟩ := hX283
          obtain ⟨rfl, hq287⟩ := hX283
          exact qr_block (qr_then ((by have e := os q229; subst e; exact hq287)))
        · obtain ⟨p288, rfl, hX283⟩ := hX283
          obtain ⟨rfl, hs289, hm290⟩ := hX283
          refine qx_same (qn_then ?_)
          refine cw_sub hs289 ?_
          refine cw_seq ?_
          refine cw_region ?_
          refine t_rd rfl (rd_move rfl) ?_
          obtain ⟨r291, h292, q293⟩ := ob q229; clear q229
          refine t_ef rfl (ef_call tf7 rfl (yardgen_Place_ok h292)) ?_
          rintro _ w295 ⟨rfl, hm294⟩
          have hm296 := hm290.call hm294
          obtain ⟨x297, h298, q299⟩ := ob q293; clear q293
          refine t_rd rfl (rd_add64 h298 rfl rfl) ?_
          refine t_rd rfl (rd_assign rfl) ?_
          refine rwt_nil ?_
          refine qn_then ?_
          refine cw_seq ?_
          refine cw_region ?_
          refine t_rd rfl (rd_ld tA24 rfl (hm296.blk 0 rfl) rfl) ?_
          refine t_rd rfl (rd_move rfl) ?_
          obtain ⟨r300, h301, q302⟩ := ob q299; clear q299
          refine t_ef rfl (ef_call tf17 rfl (pointmachine_Repair_ok h301)) ?_
          rintro _ w304 ⟨rfl, hm303⟩
          have hm305 := hm296.call hm303
          refine t_rd rfl (rd_move rfl) ?_
          refine t_rd rfl (rd_extract rfl rfl) ?_
          refine t_rd rfl (rd_extract rfl rfl) ?_
          refine t_ef rfl (ef_alloc hm305 tZ24 rfl) ?_
          rintro _ w308 ⟨g306, rfl, hm307⟩
          refine t_ef0 (ef_stw (k := 0) hm307 tA24 rfl rfl (oc_cons rfl (oc_cons rfl (oc_cons rfl (oc_cons rfl oc_nil)))) rfl rfl rfl) ?_
          intro _ w310 hm309
          refine t_rd rfl (rd_assign rfl) ?_
          refine rwt_nil ?_
          refine qn_then ?_
          refine cw_seq ?_
          refine cw_region ?_
          refine t_rd rfl (rd_ld tA24 rfl (hm309.blk 0 rfl) rfl) ?_
          refine t_rd rfl (rd_move rfl) ?_
          obtain ⟨x311, h312, q313⟩ := ob q302; clear q302
          refine t_rd rfl (rd_sub64 h312 rfl rfl) ?_
          obtain ⟨r314, h315, q316⟩ := ob q313; clear q313
          refine t_ef rfl (ef_call tf8 rfl (pointmachine_Throw_ok h315)) ?_
          rintro _ w318 ⟨rfl, hm317⟩
          have hm319 := hm309.call hm317
          refine t_rd rfl (rd_move rfl) ?_
          refine t_rd rfl (rd_extract rfl rfl) ?_
          refine t_rd rfl (rd_extract rfl rfl) ?_
          refine t_ef rfl (ef_alloc hm319 tZ24 rfl) ?_
          rintro _ w322 ⟨g320, rfl, hm321⟩
          refine t_ef0 (ef_stw (k := 0) hm321 tA24 rfl rfl (oc_cons rfl (oc_cons rfl (oc_cons rfl (oc_cons rfl oc_nil)))) rfl rfl rfl) ?_
          intro _ w324 hm323
          refine t_rd rfl (rd_assign rfl) ?_
          refine rwt_nil ?_
          refine qn_then ?_
          refine cw_seq ?_
          refine cw_region ?_
          refine t_rd rfl (rd_move rfl) ?_
          refine t_rd rfl (rd_eql rfl rfl) ?_
          refine t_rd rfl (rd_move rfl) ?_
          refine t_rdg rfl rfl rfl rfl (gv_t _) (fun hg325 => (rd_ld tA24 rfl (hm323.blk 1 rfl) rfl)) ?_
          refine t_rdg rfl rfl rfl rfl (gv_t _) (fun hg326 => (rd_move rfl)) ?_
          refine t_rdg rfl rfl rfl rfl (gv_t _) (fun hg327 => (rd_build (cs := #[(Value.int .i64 x297), (Value.int .i64 0), (Value.int .i64 0), (Value.bool false)]) (epc (gvx rfl hg327) epn) (by kernel_rfl))) ?_
          refine t_rdg rfl rfl rfl rfl (gv_t _) (fun hg328 => (rd_eqs eqs24 (a := r300.1) (b := (T_Machine.mk x297 0 0 false)) (gvx rfl hg328) (gvx rfl hg328))) ?_
          refine t_rd rfl (rd_and rfl (fun hc329 => (gvx rfl hc329))) ?_
          refine t_rd rfl (rd_move rfl) ?_
          refine t_rdg rfl rfl rfl rfl (gv_t _) (fun hg330 => (rd_move rfl)) ?_
          refine t_rdg rfl rfl rfl rfl (gv_t _) (fun hg331 => (rd_eql (gvx rfl hg331) rfl)) ?_
          refine t_rd rfl (rd_and rfl (fun hc332 => (gvx rfl hc332))) ?_
          refine t_rd rfl (rd_move rfl) ?_
          refine t_rdg rfl rfl rfl rfl (gv_t _) (fun hg333 => (rd_fld tF24_0 rfl)) ?_
          refine t_rdg rfl rfl rfl rfl (gv_t _) (fun hg334 => (rd_ld1 tO3 (gvx rfl hg334) (hm323.blk 0 rfl) (off := 0) rfl)) ?_
          refine t_rdg rfl rfl rfl rfl (gv_t _) (fun hg335 => (rd_move rfl)) ?_
          obtain ⟨x337, h338, q339⟩ := ob q316; clear q316
          refine t_rdg rfl rfl rfl rfl (gv_t _) (fun hg336 => (rd_sub64 (gO_t h338 hg336) rfl (gvx rfl hg336))) ?_
          refine t_rdg rfl rfl rfl rfl (gv_t _) (fun hg340 => (rd_eql (gvx rfl hg340) (gvx rfl hg340))) ?_
          refine t_rd rfl (rd_and rfl (fun hc341 => (gvx rfl hc341))) ?_
          refine t_rd rfl (rd_move rfl) ?_
          obtain ⟨r343, h344, q345⟩ := ob q339; clear q339
          refine t_efg rfl rfl rfl rfl (R := (fun v w' => v = gV (((decide (r300.2 = 0) && decide (r300.1 = (T_Machine.mk x297 0 0 false))) && decide (r314.2 = 0)) && decide (r314.1.Side = x337)) (Value.bool r343) ∧ Mem w324 No [] w')) (gv_t _) (fun hg342 => (ef_call tf12 rfl (law25_sane_ok (gO_t h344 hg342))).mono (by rintro _ _ ⟨rfl, q⟩; exact ⟨(gV_t hg342).symm, q⟩)) (fun q => ⟨(gV_f q).symm, Mem.nil _⟩) ?_
          rintro _ w347 ⟨rfl, hm346⟩
          have hm348 := hm323.call hm346
          refine t_rd rfl (rd_and rfl (fun hc349 => (gvx rfl hc349))) ?_
          refine t_rd rfl (rd_assign rfl) ?_
          refine rwt_nil ?_
          refine qn_then ?_
          refine cw_ret ?_
          obtain rfl := os q345
          exact ret1 rfl rfl ⟨rfl, (hm348.pick [] (by decide) rfl)⟩

end Go.Proofs.Ytcfihcaidbcmhaa
