/- Each call computes what its mirror does; written by a program of mine (gowalk.py). -/
import Derived.Test.YtpelfidmcpcmjaaWkb
namespace Go.Proofs.Ytpelfidmcpcmjaa
open Go.Gv Go.RowKit
set_option linter.unusedVariables false
set_option maxRecDepth 100000

theorem throwplan_serves_ok {N : Nat} {a0 : List T_Command} {a1 : Int} {a2 : Int} {a3 : Int} {a4 : Int} {a5 : Int} {res : Bool} (h : throwplan_serves N a0 a1 a2 a3 a4 a5 = some res) {w : World} {v0 : Value} (hv0 : Sl (Old w No) w v0 a0) :
    CallsR Try.prog 34 [v0, (Value.int .i64 a1), (Value.int .i64 a2), (Value.int .i64 a3), (Value.int .i64 a4), (Value.int .i64 a5)] w (fun u w' => u = (Value.bool res) ∧ Mem w No [] w') := by
  unfold throwplan_serves at h
  refine fn_ok Try.func34 rfl rfl rfl ?_
  have hm0 := Mem.nil w
  refine cw_seq ?_
  refine cw_region ?_
  refine t_rd rfl (rd_assign rfl) ?_
  refine rwt_nil ?_
  refine qn_then ?_
  refine cw_seq ?_
  refine cw_region ?_
  refine t_rd rfl (rd_move rfl) ?_
  refine t_rd rfl (rd_assign rfl) ?_
  refine t_rd rfl (rd_assign rfl) ?_
  refine rwt_nil ?_
  refine qn_then ?_
  refine cw_seq ?_
  refine cw_seq ?_
  refine cw_region ?_
  refine t_rd rfl (rd_move rfl) ?_
  refine t_rd rfl (rd_lenS tS25 rfl (hv0.of_old hm0)) ?_
  refine t_rd rfl (rd_move rfl) ?_
  refine rwt_nil ?_
  refine qn_then ?_
  refine cw_block ?_
  obtain ⟨r98, hit99, q100⟩ := ob h; clear h
  refine cw_loop2 (I := fun q envq wq => Sub [(1, (Value.int .i64 a1)), (3, (Value.int .i64 a3)), (4, (Value.int .i64 a4)), (5, (Value.int .i64 a5)), (13, (Value.int .i64 q.1)), (14, (Value.int .i64 q.2.1)), (18, v0), (19, (Value.int .i64 (List.length a0 : Int))), (20, (Value.int .i64 q.2.2))] envq ∧ Mem w No [] wq) (X := fun eq envq wq => (∃ p101, r98 = (Sum.inl p101) ∧ eq = .ret ∧ retQ Try.prog 56 Try.f34 (fun u w' => u = (Value.bool p101) ∧ Mem w No [] w') .ret envq wq) ∨ (∃ p102, r98 = (Sum.inr p102) ∧ eq = .exit 0 ∧ Sub [(3, (Value.int .i64 a3)), (14, (Value.int .i64 p102))] envq ∧ Mem w No [] wq)) hit99 ⟨(by repeat (first | exact Sub.nil _ | refine Sub.cons rfl ?_)), (hm0.pick [] (by decide) rfl)⟩ ?_ ?_
  · rintro ⟨i89, i90, i91⟩ x93 env94 w95 hf96 hr97 ⟨hs_, hm_⟩
    have hs_ : Sub [(1, (Value.int .i64 a1)), (3, (Value.int .i64 a3)), (4, (Value.int .i64 a4)), (5, (Value.int .i64 a5)), (13, (Value.int .i64 i89)), (14, (Value.int .i64 i90)), (18, v0), (19, (Value.int .i64 (List.length a0 : Int))), (20, (Value.int .i64 i91))] env94 := hs_
    have hm103 : Mem w No [] w95 := hm_
    refine cw_sub hs_ ?_
    clear hs_ hm_ q100
    have h : throwplan_serves_l1 N a0 a1 a4 a5 i89 i90 i91 = some x93 := hf96
    clear hf96
    refine cw_seq ?_
    refine cw_region ?_
    refine t_rd rfl (rd_lss rfl rfl) ?_
    refine rwt_nil ?_
    refine qn_then ?_
    refine cw_seq ?_
    obtain ⟨hb104, q105⟩ | ⟨hb104, q105⟩ := oi h <;> clear h
    · refine cw_t rfl hb104 ?_
      refine cw_skip ?_
      refine qn_then ?_
      refine cw_seq ?_
      refine cw_block ?_
      refine cw_seq ?_
      refine cw_region ?_
      obtain ⟨x106, h107, q108⟩ := ob q105; clear q105
      refine t_rd rfl (rd_index tS25 rfl rfl (hv0.of_old hm103) h107) ?_
      refine t_rd rfl (rd_ld tA41 rfl ((hv0.of_old hm103).cells h107) rfl) ?_
      refine t_ef rfl (ef_alloc hm103 tZ41 rfl) ?_
      rintro _ w111 ⟨g109, rfl, hm110⟩
      refine t_ef0 (ef_stw (k := 0) hm110 tA41 rfl rfl (oc_cons rfl (oc_cons rfl (oc_cons rfl (oc_cons rfl oc_nil)))) rfl rfl rfl) ?_
      intro _ w113 hm112
      refine rwt_nil ?_
      refine qn_then ?_
      refine cw_seq ?_
      refine cw_seq ?_
      refine cw_region ?_
      refine t_rd rfl (rd_fld tF41_0 rfl) ?_
      refine t_rd rfl (rd_ld1 tO3 rfl (hm112.blk 0 rfl) (off := 0) rfl) ?_
      refine t_rd rfl (rd_move rfl) ?_
      refine t_rd rfl (rd_lss rfl rfl) ?_
      refine t_rd rfl (rd_move rfl) ?_
      refine t_rdg rfl rfl rfl rfl (gv_t _) (fun hg114 => (rd_fld tF41_0 rfl)) ?_
      refine t_rdg rfl rfl rfl rfl (gv_t _) (fun hg115 => (rd_ld1 tO3 (gvx rfl hg115) (hm112.blk 0 rfl) (off := 0) rfl)) ?_
      refine t_rdg rfl rfl rfl rfl (gv_t _) (fun hg116 => (rd_move rfl)) ?_
      obtain ⟨x118, h119, q120⟩ := ob q108; clear q108
      refine t_rdg rfl rfl rfl rfl (gv_t _) (fun hg117 => (rd_add64 (gO_t h119 hg117) (gvx rfl hg117) (gvx rfl hg117))) ?_
      refine t_rdg rfl rfl rfl rfl (gv_t _) (fun hg121 => (rd_move rfl)) ?_
      refine t_rdg rfl rfl rfl rfl (gv_t _) (fun hg122 => (rd_gtr (gvx rfl hg122) (gvx rfl hg122))) ?_
      refine t_rd rfl (rd_and rfl (fun hc123 => (gvx rfl hc123))) ?_
      refine rwt_nil ?_
      refine qn_then ?_
      obtain ⟨hb124, q125⟩ | ⟨hb124, q125⟩ := oi q120 <;> clear q120
      · refine cw_t rfl hb124 ?_
        refine cw_seq ?_
        refine cw_region ?_
        refine t_rd rfl (rd_assign rfl) ?_
        refine rwt_nil ?_
        refine qn_then ?_
        refine cw_ret ?_
        refine qr_then (qr_block (qr_then (qr_then ?_)))
        obtain rfl := hr97 _ (os q125)
        refine .inl (⟨_, rfl, ⟨rfl, ?_⟩⟩)
        exact ret1 rfl rfl ⟨rfl, (hm112.pick [] (by decide) rfl)⟩
      · refine cw_f rfl hb124 ?_
        refine cw_skip ?_
        refine qn_then ?_
        refine cw_seq ?_
        refine cw_region ?_
        refine t_rd rfl (rd_fld tF41_0 rfl) ?_
        refine t_rd rfl (rd_ld1 tO3 rfl (hm112.blk 0 rfl) (off := 0) rfl) ?_
        refine t_rd rfl (rd_move rfl) ?_
        obtain ⟨x126, h127, q128⟩ := ob q125; clear q125
        refine t_rd rfl (rd_add64 h127 rfl rfl) ?_
        refine t_rd rfl (rd_move rfl) ?_
        refine t_rd rfl (rd_leq rfl rfl) ?_
        refine t_rd rfl (rd_move rfl) ?_
        refine t_rdg rfl rfl rfl rfl (gv_t _) (fun hg129 => (rd_fld tF41_0 rfl)) ?_
        refine t_rdg rfl rfl rfl rfl (gv_t _) (fun hg130 => (rd_ld1 tO3 (gvx rfl hg130) (hm112.blk 0 rfl) (off := 0) rfl)) ?_
        refine t_rdg rfl rfl rfl rfl (gv_t _) (fun hg131 => (rd_move rfl)) ?_
        refine t_rdg rfl rfl rfl rfl (gv_t _) (fun hg132 => (rd_geq (gvx rfl hg132) (gvx rfl hg132))) ?_
        refine t_rd rfl (rd_and rfl (fun hc133 => (gvx rfl hc133))) ?_
        refine rwt_nil ?_
        refine qn_then ?_
        obtain ⟨hb134, q135⟩ | ⟨hb134, q135⟩ := oi q128 <;> clear q128
        · refine cw_t rfl hb134 ?_
          obtain ⟨w137, he139⟩ : ∃ q, q = w113.drew := ⟨_, rfl⟩
          have hm138 := hm112.drew; rw [← he139] at hm138
          refine cw_region_s (fun q => q = w137) (cls [] []) mixed ?_
          rintro _ rfl; rw [← he139]
          refine s_rp (i := 0) rfl (by kernel_rfl) rfl (fun _ => (rd_fld tF41_0 rfl)) ?_
          refine s_rd (i := 1) rfl (by kernel_rfl) rfl (fun _ hS => by rw [hS]; exact (rd_ld1 tO3 rfl (hm138.blk 0 rfl) (off := 0) rfl)) rfl ?_
          refine s_rp (i := 2) rfl (by kernel_rfl) rfl (fun _ => (rd_fld tF41_2 rfl)) ?_
          refine s_rd (i := 3) rfl (by kernel_rfl) rfl (fun _ hS => by rw [hS]; exact (rd_ld1 tO3 rfl (hm138.blk 0 rfl) (off := 2) rfl)) rfl ?_
          refine s_rp (i := 4) rfl (by kernel_rfl) rfl (fun _ => (rd_assign rfl)) ?_
          refine s_rp (i := 5) rfl (by kernel_rfl) rfl (fun _ => (rd_assign rfl)) ?_
          refine s_nil (by kernel_rfl) ?_
          refine qn_block (qn_then ?_)
          refine cw_region ?_
          obtain ⟨x140, h141, q142⟩ := ob q135; clear q135
          refine t_rd rfl (rd_add64 h141 rfl rfl) ?_
          refine t_rd rfl (rd_move rfl) ?_
          refine rwt_nil ?_
          refine qn_then ?_
          refine ⟨_, (os q142), (by repeat (first | exact Sub.nil _ | refine Sub.cons rfl ?_)), (hm138.pick [] (by decide) rfl)⟩
        · refine cw_f rfl hb134 ?_
          refine cw_skip ?_
          refine qn_block (qn_then ?_)
          refine cw_region ?_
          obtain ⟨x143, h144, q145⟩ := ob q135; clear q135
          refine t_rd rfl (rd_add64 h144 rfl rfl) ?_
          refine t_rd rfl (rd_move rfl) ?_
          refine rwt_nil ?_
          refine qn_then ?_
          refine ⟨_, (os q145), (by repeat (first | exact Sub.nil _ | refine Sub.cons rfl ?_)), (hm112.pick [] (by decide) rfl)⟩
    · refine cw_f rfl hb104 ?_
      refine cw_exit ?_
      refine qx_then (qx_then ?_)
      obtain rfl := hr97 _ (os q105)
      exact .inr (⟨_, rfl, ⟨rfl, (by repeat (first | exact Sub.nil _ | refine Sub.cons rfl ?_)), (hm103.pick [] (by decide) rfl)⟩⟩)
  · skip
    intro e env146 w147 hX148
    rcases hX148 with hX148 | hX148
    · obtain ⟨p150, rfl, hX148⟩ := hX148
      obtain ⟨rfl, hq152⟩ := hX148
      exact qr_block (qr_then ((by have e := os q100; subst e; exact hq152)))
    · obtain ⟨p153, rfl, hX148⟩ := hX148
      obtain ⟨rfl, hs154, hm155⟩ := hX148
      refine qx_same (qn_then ?_)
      refine cw_sub hs154 ?_
      refine cw_seq ?_
      refine cw_region ?_
      refine t_rd rfl (rd_move rfl) ?_
      refine t_rd rfl (rd_move rfl) ?_
      refine t_rd rfl (rd_eql rfl rfl) ?_
      refine t_rd rfl (rd_assign rfl) ?_
      refine rwt_nil ?_
      refine qn_then ?_
      refine cw_ret ?_
      obtain rfl := os q100
      exact ret1 rfl rfl ⟨rfl, (hm155.pick [] (by decide) rfl)⟩

theorem throwplan_Safe_ok {N : Nat} {a0 : List (List T_Span)} {a1 : List Int} {a2 : Int} {a3 : List T_Throw} {a4 : List T_Command} {res : Bool × Int} (h : throwplan_Safe N a0 a1 a2 a3 a4 = some res) {w : World} {v0 : Value} {v1 : Value} {v3 : Value} {v4 : Value} (hv0 : Sl (Old w No) w v0 a0) (hv1 : Sl (Old w No) w v1 a1) (hv3 : Sl (Old w No) w v3 a3) (hv4 : Sl (Old w No) w v4 a4) :
    CallsR Try.prog 17 [v0, v1, (Value.int .i64 a2), v3, v4] w (fun u w' => u = (Value.tuple #[(Value.bool res.1), (Value.int .i64 res.2)]) ∧ Mem w No [] w') := by
  unfold throwplan_Safe at h
  refine fn_ok Try.func17 rfl rfl rfl ?_
  obtain ⟨zs_a0, hn0⟩ := hv0.nest
  have hm0 := Mem.nil w
  refine cw_seq ?_
  refine cw_region ?_
  refine t_rd rfl (rd_assign rfl) ?_
  refine t_rd rfl (rd_assign rfl) ?_
  refine rwt_nil ?_
  refine qn_then ?_
  refine cw_seq ?_
  refine cw_seq ?_
  refine cw_region ?_
  refine t_rd rfl (rd_move rfl) ?_
  refine t_rd rfl (rd_move rfl) ?_
  refine t_rd rfl (rd_move rfl) ?_
  refine t_rd rfl (rd_move rfl) ?_
  obtain ⟨r1, h2, q3⟩ := ob h; clear h
  refine t_ef rfl (ef_call tf28 rfl (throwplan_check_ok h2 ((hn0.to_call hm0).sl) (hv1.to_call hm0) (hv3.to_call hm0))) ?_
  rintro _ w5 ⟨e_, hm4⟩
  obtain rfl := e_.symm
  have hm6 := hm0.call hm4
  refine t_rd rfl (rd_assign rfl) ?_
  refine rwt_nil ?_
  refine qn_then ?_
  refine cw_seq ?_
  refine cw_region ?_
  refine t_rd rfl (rd_move rfl) ?_
  refine t_rd rfl (rd_neq rfl rfl) ?_
  refine rwt_nil ?_
  refine qn_then ?_
  obtain ⟨hb7, q8⟩ | ⟨hb7, q8⟩ := oi q3 <;> clear q3
  · refine cw_t rfl hb7 ?_
    refine cw_seq ?_
    refine cw_region ?_
    refine t_rd rfl (rd_move rfl) ?_
    refine t_rd rfl (rd_assign rfl) ?_
    refine t_rd rfl (rd_assign rfl) ?_
    refine rwt_nil ?_
    refine qn_then ?_
    refine cw_ret ?_
    refine qr_then ?_
    obtain rfl := os q8
    exact ret2 rfl rfl rfl ⟨rfl, (hm6.pick [] (by decide) rfl)⟩
  · refine cw_f rfl hb7 ?_
    refine cw_skip ?_
    refine qn_then ?_
    refine cw_seq ?_
    refine cw_seq ?_
    refine cw_region ?_
    refine t_rd rfl (rd_move rfl) ?_
    refine t_rd rfl (rd_lenS tS25 rfl (hv4.of_old hm6)) ?_
    refine t_rd rfl (rd_gtr rfl rfl) ?_
    refine rwt_nil ?_
    refine qn_then ?_
    obtain ⟨hb9, q10⟩ | ⟨hb9, q10⟩ := oi q8 <;> clear q8
    · refine cw_t rfl hb9 ?_
      refine cw_seq ?_
      refine cw_region ?_
      refine t_rd rfl (rd_assign rfl) ?_
      refine t_rd rfl (rd_assign rfl) ?_
      refine rwt_nil ?_
      refine qn_then ?_
      refine cw_ret ?_
      refine qr_then ?_
      obtain rfl := os q10
      exact ret2 rfl rfl rfl ⟨rfl, (hm6.pick [] (by decide) rfl)⟩
    · refine cw_f rfl hb9 ?_
      refine cw_skip ?_
      refine qn_then ?_
      refine cw_seq ?_
      refine cw_region ?_
      refine t_ef rfl (ef_makeMap hm6 Hdr) ?_
      rintro _ w13 ⟨g11, rfl, hm12⟩
      have hm14 := hm12.mrowsNil T_Command 41
      refine t_rd rfl (rd_assign rfl) ?_
      refine rwt_nil ?_
      refine qn_then ?_
      refine cw_seq ?_
      refine cw_seq ?_
      refine cw_region ?_
      refine t_rd rfl (rd_move rfl) ?_
      refine t_rd rfl (rd_lenS tS25 rfl (hv4.of_old hm14)) ?_
      refine t_rd rfl (rd_move rfl) ?_
      refine rwt_nil ?_
      refine qn_then ?_
      refine cw_block ?_
      obtain ⟨r173, hit174, q175⟩ := ob q10; clear q10
      refine cw_loop2 (I := fun q envq wq => ∃ (zm166 : List (Int × Hdr)), Sub [(0, v0), (1, v1), (2, (Value.int .i64 a2)), (3, v3), (13, (Value.map (some g11))), (33, v4), (34, (Value.int .i64 (List.length a4 : Int))), (35, (Value.int .i64 q.1))] envq ∧ Mem w No [mrows 41 zm166 (q.2 : List (Int × List T_Command)) none, mapC g11 (zm166 : List (Int × Hdr))] wq) (X := fun eq envq wq => (∃ p176, r173 = (Sum.inl p176) ∧ eq = .ret ∧ retQ Try.prog 118 Try.f17 (fun u w' => u = (Value.tuple #[(Value.bool p176.1), (Value.int .i64 p176.2)]) ∧ Mem w No [] w') .ret envq wq) ∨ (∃ p177, r173 = (Sum.inr p177) ∧ eq = .exit 0 ∧ ∃ (zm163 : List (Int × Hdr)), Sub [(0, v0), (1, v1), (2, (Value.int .i64 a2)), (3, v3), (13, (Value.map (some g11)))] envq ∧ Mem w No [mrows 41 zm163 (p177 : List (Int × List T_Command)) none, mapC g11 (zm163 : List (Int × Hdr))] wq)) hit174 ⟨[], (by repeat (first | exact Sub.nil _ | refine Sub.cons rfl ?_)), (hm14.pick [0, 1] (by decide) rfl)⟩ ?_ ?_
      · rintro ⟨i164, m165⟩ x168 env169 w170 hf171 hr172 ⟨zm166, hs_, hm_⟩
        have hs_ : Sub [(0, v0), (1, v1), (2, (Value.int .i64 a2)), (3, v3), (13, (Value.map (some g11))), (33, v4), (34, (Value.int .i64 (List.length a4 : Int))), (35, (Value.int .i64 i164))] env169 := hs_
        have hm178 : Mem w No [mrows 41 zm166 (m165 : List (Int × List T_Command)) none, mapC g11 (zm166 : List (Int × Hdr))] w170 := hm_
        refine cw_sub hs_ ?_
        clear hs_ hm_ q175
        have h : throwplan_Safe_l1 N a4 i164 m165 = some x168 := hf171
        clear hf171
        refine cw_seq ?_
        refine cw_region ?_
        refine t_rd rfl (rd_lss rfl rfl) ?_
        refine rwt_nil ?_
        refine qn_then ?_
        refine cw_seq ?_
        obtain ⟨hb179, q180⟩ | ⟨hb179, q180⟩ := oi h <;> clear h
        · refine cw_t rfl hb179 ?_
          refine cw_skip ?_
          refine qn_then ?_
          refine cw_seq ?_
          refine cw_block ?_
          refine cw_seq ?_
          refine cw_region ?_
          obtain ⟨x181, h182, q183⟩ := ob q180; clear q180
          refine t_rd rfl (rd_index tS25 rfl rfl (hv4.of_old hm178) h182) ?_
          refine t_rd rfl (rd_ld tA41 rfl ((hv4.of_old hm178).cells h182) rfl) ?_
          refine t_ef rfl (ef_alloc hm178 tZ41 rfl) ?_
          rintro _ w186 ⟨g184, rfl, hm185⟩
          refine t_ef0 (ef_stw (k := 0) hm185 tA41 rfl rfl (oc_cons rfl (oc_cons rfl (oc_cons rfl (oc_cons rfl oc_nil)))) rfl rfl rfl) ?_
          intro _ w188 hm187
          refine rwt_nil ?_
          refine qn_then ?_
          refine cw_seq ?_
          refine cw_seq ?_
          refine cw_region ?_
          refine t_rd rfl (rd_fld tF41_0 rfl) ?_
          refine t_rd rfl (rd_ld1 tO3 rfl (hm187.blk 0 rfl) (off := 0) rfl) ?_
          refine t_rd rfl (rd_lss rfl rfl) ?_
          refine t_rd rfl (rd_move rfl) ?_
          refine t_rdg rfl rfl rfl rfl (gv_f _) (fun hg189 => (rd_fld tF41_0 rfl)) ?_
          refine t_rdg rfl rfl rfl rfl (gv_f _) (fun hg190 => (rd_ld1 tO3 (gvx rfl hg190) (hm187.blk 0 rfl) (off := 0) rfl)) ?_
          refine t_rdg rfl rfl rfl rfl (gv_f _) (fun hg191 => (rd_gtr (gvx rfl hg191) rfl)) ?_
          refine t_rd rfl (rd_or rfl (fun hc192 => (gvx rfl (bnotIt hc192)))) ?_
          refine t_rd rfl (rd_move rfl) ?_
          refine t_rdg rfl rfl rfl rfl (gv_f _) (fun hg193 => (rd_fld tF41_1 rfl)) ?_
          refine t_rdg rfl rfl rfl rfl (gv_f _) (fun hg194 => (rd_ld1 tO3 (gvx rfl hg194) (hm187.blk 0 rfl) (off := 1) rfl)) ?_
          refine t_rdg rfl rfl rfl rfl (gv_f _) (fun hg195 => (rd_lss (gvx rfl hg195) rfl)) ?_
          refine t_rd rfl (rd_or rfl (fun hc196 => (gvx rfl (bnotIt hc196)))) ?_
          refine t_rd rfl (rd_move rfl) ?_
          refine t_rdg rfl rfl rfl rfl (gv_f _) (fun hg197 => (rd_fld tF41_2 rfl)) ?_
          refine t_rdg rfl rfl rfl rfl (gv_f _) (fun hg198 => (rd_ld1 tO3 (gvx rfl hg198) (hm187.blk 0 rfl) (off := 2) rfl)) ?_
          obtain ⟨r200, h201, q202⟩ := ob q183; clear q183
          refine t_efg rfl rfl rfl rfl (R := (fun v w' => v = gV (!((decide (x181.Time < 0) || decide (1000000000 < x181.Time)) || decide (x181.Element < 0))) (Value.bool r200) ∧ Mem w188 No [] w')) (gv_f _) (fun hg199 => (ef_call tf33 (evc (gvx rfl hg199) evn) (throwplan_lies_ok (gO_t h201 hg199))).mono (by rintro _ _ ⟨rfl, q⟩; exact ⟨(gV_t hg199).symm, q⟩)) (fun q => ⟨(gV_f q).symm, Mem.nil _⟩) ?_
          rintro _ w204 ⟨rfl, hm203⟩
          have hm205 := hm187.call hm203
          refine t_rdg rfl rfl rfl rfl (gv_f _) (fun hg206 => (rd_not (gvx rfl hg206))) ?_
          refine t_rd rfl (rd_or rfl (fun hc207 => (gvx rfl (bnotIt hc207)))) ?_
          refine rwt_nil ?_
          refine qn_then ?_
          obtain ⟨hb208, q209⟩ | ⟨hb208, q209⟩ := oi q202 <;> clear q202
          · refine cw_t rfl hb208 ?_
            refine cw_seq ?_
            refine cw_region ?_
            refine t_rd rfl (rd_assign rfl) ?_
            refine t_rd rfl (rd_assign rfl) ?_
            refine rwt_nil ?_
            refine qn_then ?_
            refine cw_ret ?_
            refine qr_then (qr_block (qr_then (qr_then ?_)))
            obtain rfl := hr172 _ (os q209)
            refine .inl (⟨_, rfl, ⟨rfl, ?_⟩⟩)
            exact ret2 rfl rfl rfl ⟨rfl, (hm205.pick [] (by decide) rfl)⟩
          · refine cw_f rfl hb208 ?_
            refine cw_skip ?_
            refine qn_then ?_
            obtain ⟨w211, he213⟩ : ∃ q, q = w204.drew := ⟨_, rfl⟩
            have hm212 := hm205.drew; rw [← he213] at hm212
            refine cw_region_s (fun q => (blk g184 41 [(Value.int .i64 x181.Time), (Value.int .i64 x181.Element), (Value.int .i64 x181.Side), (Value.int .i64 x181.Cut)]).φ q ∧ (mapC g11 (zm166 : List (Int × Hdr))).φ q) (cls [8, 9] [10]) mixed ?_
            rintro _ rfl; rw [← he213]
            refine s_rp (i := 0) rfl (by kernel_rfl) rfl (fun _ => (rd_move rfl)) ?_
            refine s_rp (i := 1) rfl (by kernel_rfl) rfl (fun _ => (rd_fld tF41_1 rfl)) ?_
            refine s_rd (i := 2) rfl (by kernel_rfl) rfl (fun w210 hS => (rd_ld1 tO3 rfl (cells_blk hS.1) (off := 1) rfl)) ⟨(hm212.get (k := 0) rfl), (hm212.get (k := 2) rfl)⟩ ?_
            refine s_rp (i := 3) rfl (by kernel_rfl) rfl (fun _ => (rd_move rfl)) ?_
            refine s_rp (i := 4) rfl (by kernel_rfl) rfl (fun _ => (rd_fld tF41_1 rfl)) ?_
            refine s_rd (i := 5) rfl (by kernel_rfl) rfl (fun w210 hS => (rd_ld1 tO3 rfl (cells_blk hS.1) (off := 1) rfl)) ⟨(hm212.get (k := 0) rfl), (hm212.get (k := 2) rfl)⟩ ?_
            refine s_rd (i := 6) rfl (by kernel_rfl) rfl (fun w210 hS => (rd_lookup tM72 hS.2 rfl rfl)) ⟨(hm212.get (k := 0) rfl), (hm212.get (k := 2) rfl)⟩ ?_
            refine s_rd (i := 7) rfl (by kernel_rfl) rfl (fun w210 hS => (rd_ld tA41 rfl (cells_blk hS.1) rfl)) ⟨(hm212.get (k := 0) rfl), (hm212.get (k := 2) rfl)⟩ ?_
            refine s_ef (i := 8) rfl (by kernel_rfl) rfl (ef_bslice (l := ([x181] : List T_Command)) hm212 tS25 rfl (cs := #[(Value.int .i64 x181.Time), (Value.int .i64 x181.Element), (Value.int .i64 x181.Side), (Value.int .i64 x181.Cut)]) (by unfold bsl; kernel_rfl) rfl rfl) (by decide) ?_ ?_
            · intro v231 w233 hm232
              intro _
              exact ⟨(hm232.get (k := 1) rfl), (hm232.get (k := 3) rfl)⟩
            intro v231 w233 hm232
            have hm234 := hm232.pick [2, 0, 1, 3] (L' := [mrows 41 zm166 (m165 : List (Int × List T_Command)) none, ownL 41 v231 ([x181] : List T_Command), blk g184 41 [(Value.int .i64 x181.Time), (Value.int .i64 x181.Element), (Value.int .i64 x181.Side), (Value.int .i64 x181.Cut)], mapC g11 (zm166 : List (Int × Hdr))]) (by decide) rfl
            have hm235 := hm234.mfocus x181.Element
            obtain ⟨l236, h237, q238⟩ := ob q209; clear q209
            refine s_ef (i := 9) rfl (by kernel_rfl) rfl (ef_append (k := 1) hm235 tS25 tE41 rfl rfl rfl rfl (hm235.sl 2 rfl) h237) (by decide) ?_ ?_
            · intro v239 w241 hm240
              intro _
              exact ⟨(hm240.get (k := 3) rfl), (hm240.get (k := 4) rfl)⟩
            intro v239 w241 hm240
            have hz242 := sl_one (hm240.sl 1 rfl)
            refine s_ef0 (i := 10) rfl (by kernel_rfl) (ef_mapUpdate (kq := 4) hm240 tM72 rfl (⟨v239, hz242⟩ : Hdr) rfl rfl rfl) (by decide) (fun _ _ _ q => absurd q (by decide)) ?_
            intro _ w244 hm243
            have hm245 := hm243.mfill (z := (⟨v239, hz242⟩ : Hdr))
            obtain ⟨zm246, ez247⟩ : ∃ q, q = mset zm166 x181.Element (⟨v239, hz242⟩ : Hdr) := ⟨_, rfl⟩; rw [← ez247] at hm245
            refine s_nil (by kernel_rfl) ?_
            refine qn_block (qn_then ?_)
            refine cw_region ?_
            obtain ⟨x248, h249, q250⟩ := ob q238; clear q238
            refine t_rd rfl (rd_add64 h249 rfl rfl) ?_
            refine t_rd rfl (rd_move rfl) ?_
            refine rwt_nil ?_
            refine qn_then ?_
            refine ⟨_, (os q250), zm246, (by repeat (first | exact Sub.nil _ | refine Sub.cons rfl ?_)), (hm245.pick [0, 3] (by decide) rfl)⟩
        · refine cw_f rfl hb179 ?_
          refine cw_exit ?_
          refine qx_then (qx_then ?_)
          obtain rfl := hr172 _ (os q180)
          exact .inr (⟨_, rfl, ⟨rfl, zm166, (by repeat (first | exact Sub.nil _ | refine Sub.cons rfl ?_)), (hm178.pick [0, 1] (by decide) rfl)⟩⟩)
      · skip
        intro e env251 w252 hX253
        rcases hX253 with hX253 | hX253
        · obtain ⟨p255, rfl, hX253⟩ := hX253
          obtain ⟨rfl, hq257⟩ := hX253
          exact qr_block (qr_then ((by have e := os q175; subst e; exact hq257)))
        · obtain ⟨p258, rfl, hX253⟩ := hX253
          obtain ⟨rfl, zm163, hs259, hm260⟩ := hX253
          refine qx_same (qn_then ?_)
          refine cw_sub hs259 ?_
          refine cw_seq ?_
          refine cw_region ?_
          refine t_rd rfl (rd_move rfl) ?_
          obtain ⟨r261, h262, q263⟩ := ob q175; clear q175
          refine t_ef rfl (ef_call tf29 rfl (throwplan_sides_ok h262 (hv3.to_call hm260))) ?_
          rintro _ w266 ⟨g264, e_, hm265⟩
          obtain rfl := e_.symm
          have hm267 := hm260.call hm265
          refine t_rd rfl (rd_assign rfl) ?_
          refine rwt_nil ?_
          refine qn_then ?_
          refine cw_seq ?_
          refine cw_seq ?_
          refine cw_region ?_
          refine t_rd rfl (rd_move rfl) ?_
          refine t_rd rfl (rd_lenS tS23 rfl ((hn0.of_old hm267).sl)) ?_
          refine t_rd rfl (rd_move rfl) ?_
          refine rwt_nil ?_
          refine qn_then ?_
          refine cw_block ?_
          obtain ⟨r1082, hit1083, q1084⟩ := ob q263; clear q263
          refine cw_loop2 (I := fun q envq wq => Sub [(1, v1), (2, (Value.int .i64 a2)), (13, (Value.map (some g11))), (16, (Value.map (some g264))), (71, v0), (72, (Value.int .i64 (List.length a0 : Int))), (73, (Value.int .i64 q))] envq ∧ Mem w No [mapC g264 (r261 : List (Int × Int)), mrows 41 zm163 (p258 : List (Int × List T_Command)) none, mapC g11 (zm163 : List (Int × Hdr))] wq) (X := fun eq envq wq => (∃ p1085, r1082 = (Sum.inl p1085) ∧ eq = .ret ∧ retQ Try.prog 118 Try.f17 (fun u w' => u = (Value.tuple #[(Value.bool p1085.1), (Value.int .i64 p1085.2)]) ∧ Mem w No [] w') .ret envq wq) ∨ (∃ p1086, r1082 = (Sum.inr p1086) ∧ eq = .exit 2 ∧ Sub [] envq ∧ Mem w No [] wq)) hit1083 ⟨(by repeat (first | exact Sub.nil _ | refine Sub.cons rfl ?_)), (hm267.pick [0, 1, 2] (by decide) rfl)⟩ ?_ ?_
          · rintro i1075 x1077 env1078 w1079 hf1080 hr1081 ⟨hs_, hm_⟩
            have hs_ : Sub [(1, v1), (2, (Value.int .i64 a2)), (13, (Value.map (some g11))), (16, (Value.map (some g264))), (71, v0), (72, (Value.int .i64 (List.length a0 : Int))), (73, (Value.int .i64 i1075))] env1078 := hs_
            have hm1087 : Mem w No [mapC g264 (r261 : List (Int × Int)), mrows 41 zm163 (p258 : List (Int × List T_Command)) none, mapC g11 (zm163 : List (Int × Hdr))] w1079 := hm_
            refine cw_sub hs_ ?_
            clear hs_ hm_ q1084
            have h : throwplan_Safe_l4 N a0 a1 a2 p258 r261 i1075 = some x1077 := hf1080
            clear hf1080
            refine cw_seq ?_
            refine cw_region ?_
            refine t_rd rfl (rd_lss rfl rfl) ?_
            refine rwt_nil ?_
            refine qn_then ?_
            refine cw_seq ?_
            obtain ⟨hb1088, q1089⟩ | ⟨hb1088, q1089⟩ := oi h <;> clear h
            · refine cw_t rfl hb1088 ?_
              refine cw_skip ?_
              refine qn_then ?_
              refine cw_seq ?_
              refine cw_block ?_
              refine cw_seq ?_
              refine cw_region ?_
              refine t_rd rfl (rd_move rfl) ?_
              obtain ⟨x1090, h1091, q1092⟩ := ob q1089; clear q1089
              refine t_rd rfl (rd_index tS23 rfl rfl ((hn0.of_old hm1087).sl) h1091) ?_
              obtain ⟨zd1093, hz1094⟩ := (hn0.of_old hm1087).row h1091
              refine t_rd rfl (rd_ld1 tO34 rfl ((hn0.of_old hm1087).cells hz1094) (off := 0) rfl) ?_
              refine t_rd rfl (rd_assign rfl) ?_
              refine t_rd rfl (rd_assign rfl) ?_
              refine rwt_nil ?_
              refine qn_then ?_
              refine cw_seq ?_
              refine cw_region ?_
              refine t_rd rfl (rd_move rfl) ?_
              refine t_rd rfl (rd_lenS tS34 rfl ((hn0.of_old hm1087).get hz1094 h1091)) ?_
              refine t_rd rfl (rd_move rfl) ?_
              refine rwt_nil ?_
              refine qn_then ?_
              refine cw_block ?_
              obtain ⟨r1349, hit1350, q1351⟩ := ob q1092; clear q1092
              refine cw_loop2 (I := fun q envq wq => Sub [(1, v1), (2, (Value.int .i64 a2)), (13, (Value.map (some g11))), (16, (Value.map (some g264))), (17, (Value.int .i64 i1075)), (71, v0), (72, (Value.int .i64 (List.length a0 : Int))), (73, (Value.int .i64 i1075)), (78, zd1093.1), (79, (Value.int .i64 (List.length x1090 : Int))), (80, (Value.int .i64 q))] envq ∧ Mem w No [mapC g264 (r261 : List (Int × Int)), mrows 41 zm163 (p258 : List (Int × List T_Command)) none, mapC g11 (zm163 : List (Int × Hdr))] wq) (X := fun eq envq wq => (∃ p1352, r1349 = (Sum.inl p1352) ∧ eq = .ret ∧ retQ Try.prog 118 Try.f17 (fun u w' => u = (Value.tuple #[(Value.bool p1352.1), (Value.int .i64 p1352.2)]) ∧ Mem w No [] w') .ret envq wq) ∨ (∃ p1353, r1349 = (Sum.inr p1353) ∧ eq = .exit 4 ∧ Sub [(1, v1), (2, (Value.int .i64 a2)), (13, (Value.map (some g11))), (16, (Value.map (some g264))), (71, v0), (72, (Value.int .i64 (List.length a0 : Int))), (73, (Value.int .i64 i1075))] envq ∧ Mem w No [mapC g264 (r261 : List (Int × Int)), mrows 41 zm163 (p258 : List (Int × List T_Command)) none, mapC g11 (zm163 : List (Int × Hdr))] wq)) hit1350 ⟨(by repeat (first | exact Sub.nil _ | refine Sub.cons rfl ?_)), (hm1087.pick [0, 1, 2] (by decide) rfl)⟩ ?_ ?_
              · rintro i1342 x1344 env1345 w1346 hf1347 hr1348 ⟨hs_, hm_⟩
                have hs_ : Sub [(1, v1), (2, (Value.int .i64 a2)), (13, (Value.map (some g11))), (16, (Value.map (some g264))), (17, (Value.int .i64 i1075)), (71, v0), (72, (Value.int .i64 (List.length a0 : Int))), (73, (Value.int .i64 i1075)), (78, zd1093.1), (79, (Value.int .i64 (List.length x1090 : Int))), (80, (Value.int .i64 i1342))] env1345 := hs_
                have hm1354 : Mem w No [mapC g264 (r261 : List (Int × Int)), mrows 41 zm163 (p258 : List (Int × List T_Command)) none, mapC g11 (zm163 : List (Int × Hdr))] w1346 := hm_
                refine cw_sub hs_ ?_
                clear hs_ hm_ q1351
                have h : throwplan_Safe_l5 N a1 a2 p258 r261 i1075 x1090 i1342 = some x1344 := hf1347
                clear hf1347
                refine cw_seq ?_
                refine cw_region ?_
                refine t_rd rfl (rd_lss rfl rfl) ?_
                refine rwt_nil ?_
                refine qn_then ?_
                refine cw_seq ?_
                obtain ⟨hb1355, q1356⟩ | ⟨hb1355, q1356⟩ := oi h <;> clear h
                · refine cw_t rfl hb1355 ?_
                  refine cw_skip ?_
                  refine qn_then ?_
                  refine cw_seq ?_
                  refine cw_block ?_
                  refine cw_seq ?_
                  refine cw_region ?_
                  obtain ⟨x1357, h1358, q1359⟩ := ob q1356; clear q1356
                  refine t_rd rfl (rd_index tS34 rfl rfl ((hn0.of_old hm1354).get hz1094 h1091) h1358) ?_
                  refine t_rd rfl (rd_ld tA52 rfl (((hn0.of_old hm1354).get hz1094 h1091).cells h1358) rfl) ?_
                  refine t_ef rfl (ef_alloc hm1354 tZ52 rfl) ?_
                  rintro _ w1362 ⟨g1360, rfl, hm1361⟩
                  refine t_ef0 (ef_stw (k := 0) hm1361 tA52 rfl rfl (oc_cons rfl (oc_cons rfl (oc_cons rfl (oc_cons rfl oc_nil)))) rfl rfl rfl) ?_
                  intro _ w1364 hm1363
                  refine rwt_nil ?_
                  refine qn_then ?_
                  refine cw_seq ?_
                  obtain ⟨w1366, he1368⟩ : ∃ q, q = w1364.drew := ⟨_, rfl⟩
                  have hm1367 := hm1363.drew; rw [← he1368] at hm1367
                  refine cw_region_s (fun q => (blk g1360 52 [(Value.int .i64 x1357.Element), (Value.int .i64 x1357.Side), (Value.int .i64 x1357.From), (Value.int .i64 x1357.To)]).φ q ∧ (mapC g11 (zm163 : List (Int × Hdr))).φ q ∧ Sl (Old w No) q v1 a1) (cls [12] [29]) mixed ?_
                  rintro _ rfl; rw [← he1368]
                  refine s_rp (i := 0) rfl (by kernel_rfl) rfl (fun _ => (rd_fld tF52_1 rfl)) ?_
                  refine s_rd (i := 1) rfl (by kernel_rfl) rfl (fun w1365 hS => (rd_ld1 tO3 rfl (cells_blk hS.1) (off := 1) rfl)) ⟨(hm1367.get (k := 0) rfl), (hm1367.get (k := 3) rfl), (hv1.of_old hm1367)⟩ ?_
                  refine s_rp (i := 2) rfl (by kernel_rfl) rfl (fun _ => (rd_neq rfl rfl)) ?_
                  refine s_rp (i := 3) rfl (by kernel_rfl) rfl (fun _ => (rd_move rfl)) ?_
                  refine s_rpg (i := 4) rfl (by kernel_rfl) rfl rfl rfl rfl (gv_t _) (fun hg1421 _ => (rd_move rfl)) ?_
                  refine s_rpg (i := 5) rfl (by kernel_rfl) rfl rfl rfl rfl (gv_t _) (fun hg1422 _ => (rd_fld tF52_0 rfl)) ?_
                  refine s_rdg (i := 6) rfl (by kernel_rfl) rfl rfl rfl rfl (gv_t _) (fun hg1423 => (fun w1365 hS => (rd_ld1 tO3 (gvx rfl hg1423) (cells_blk hS.1) (off := 0) rfl))) ⟨(hm1367.get (k := 0) rfl), (hm1367.get (k := 3) rfl), (hv1.of_old hm1367)⟩ ?_
                  refine s_rdg (i := 7) rfl (by kernel_rfl) rfl rfl rfl rfl (gv_t _) (fun hg1424 => (fun w1365 hS => (rd_lookup tM72 hS.2.1 (gvx rfl hg1424) (gvx rfl hg1424)))) ⟨(hm1367.get (k := 0) rfl), (hm1367.get (k := 3) rfl), (hv1.of_old hm1367)⟩ ?_
                  refine s_rpg (i := 8) rfl (by kernel_rfl) rfl rfl rfl rfl (gv_t _) (fun hg1425 _ => (rd_move rfl)) ?_
                  refine s_rpg (i := 9) rfl (by kernel_rfl) rfl rfl rfl rfl (gv_t _) (fun hg1426 _ => (rd_move rfl)) ?_
                  refine s_rpg (i := 10) rfl (by kernel_rfl) rfl rfl rfl rfl (gv_t _) (fun hg1427 _ => (rd_fld tF52_0 rfl)) ?_
                  refine s_rdg (i := 11) rfl (by kernel_rfl) rfl rfl rfl rfl (gv_t _) (fun hg1428 => (fun w1365 hS => (rd_ld1 tO3 (gvx rfl hg1428) (cells_blk hS.1) (off := 0) rfl))) ⟨(hm1367.get (k := 0) rfl), (hm1367.get (k := 3) rfl), (hv1.of_old hm1367)⟩ ?_
                  refine s_rpg (i := 13) rfl (by kernel_rfl) rfl rfl rfl rfl (gv_t _) (fun hg1429 _ => (rd_fld tF52_1 rfl)) ?_
                  refine s_rdg (i := 14) rfl (by kernel_rfl) rfl rfl rfl rfl (gv_t _) (fun hg1430 => (fun w1365 hS => (rd_ld1 tO3 (gvx rfl hg1430) (cells_blk hS.1) (off := 1) rfl))) ⟨(hm1367.get (k := 0) rfl), (hm1367.get (k := 3) rfl), (hv1.of_old hm1367)⟩ ?_
                  refine s_rpg (i := 15) rfl (by kernel_rfl) rfl rfl rfl rfl (gv_t _) (fun hg1431 _ => (rd_move rfl)) ?_
                  refine s_rpg (i := 16) rfl (by kernel_rfl) rfl rfl rfl rfl (gv_t _) (fun hg1432 _ => (rd_move rfl)) ?_
                  obtain ⟨x1434, h1435, q1436⟩ := ob q1359; clear q1359
                  refine s_rpg (i := 17) rfl (by kernel_rfl) rfl rfl rfl rfl (gv_t _) (fun hg1433 _ => (rd_index tS22 (gvx rfl hg1433) (gvx rfl hg1433) (hv1.of_old hm1367) (gO_t h1435 hg1433))) ?_
                  refine s_rdg (i := 18) rfl (by kernel_rfl) rfl rfl rfl rfl (gv_t _) (fun hg1437 => (fun w1365 hS => (rd_ld1 tO3 (gvx rfl hg1437) (hS.2.2.cells (gO_t h1435 hg1437)) (off := 0) rfl))) ⟨(hm1367.get (k := 0) rfl), (hm1367.get (k := 3) rfl), (hv1.of_old hm1367)⟩ ?_
                  refine s_rpg (i := 19) rfl (by kernel_rfl) rfl rfl rfl rfl (gv_t _) (fun hg1438 _ => (rd_fld tF52_2 rfl)) ?_
                  refine s_rdg (i := 20) rfl (by kernel_rfl) rfl rfl rfl rfl (gv_t _) (fun hg1439 => (fun w1365 hS => (rd_ld1 tO3 (gvx rfl hg1439) (cells_blk hS.1) (off := 2) rfl))) ⟨(hm1367.get (k := 0) rfl), (hm1367.get (k := 3) rfl), (hv1.of_old hm1367)⟩ ?_
                  obtain ⟨x1441, h1442, q1443⟩ := ob q1436; clear q1436
                  refine s_rpg (i := 21) rfl (by kernel_rfl) rfl rfl rfl rfl (gv_t _) (fun hg1440 _ => (rd_add64 (gO_t h1442 hg1440) (gvx rfl hg1440) (gvx rfl hg1440))) ?_
                  refine s_rpg (i := 22) rfl (by kernel_rfl) rfl rfl rfl rfl (gv_t _) (fun hg1444 _ => (rd_move rfl)) ?_
                  refine s_rpg (i := 23) rfl (by kernel_rfl) rfl rfl rfl rfl (gv_t _) (fun hg1445 _ => (rd_move rfl)) ?_
                  obtain ⟨x1447, h1448, q1449⟩ := ob q1443; clear q1443
                  refine s_rpg (i := 24) rfl (by kernel_rfl) rfl rfl rfl rfl (gv_t _) (fun hg1446 _ => (rd_index tS22 (gvx rfl hg1446) (gvx rfl hg1446) (hv1.of_old hm1367) (gO_t h1448 hg1446))) ?_
                  refine s_rdg (i := 25) rfl (by kernel_rfl) rfl rfl rfl rfl (gv_t _) (fun hg1450 => (fun w1365 hS => (rd_ld1 tO3 (gvx rfl hg1450) (hS.2.2.cells (gO_t h1448 hg1450)) (off := 0) rfl))) ⟨(hm1367.get (k := 0) rfl), (hm1367.get (k := 3) rfl), (hv1.of_old hm1367)⟩ ?_
                  refine s_rpg (i := 26) rfl (by kernel_rfl) rfl rfl rfl rfl (gv_t _) (fun hg1451 _ => (rd_fld tF52_3 rfl)) ?_
                  refine s_rdg (i := 27) rfl (by kernel_rfl) rfl rfl rfl rfl (gv_t _) (fun hg1452 => (fun w1365 hS => (rd_ld1 tO3 (gvx rfl hg1452) (cells_blk hS.1) (off := 3) rfl))) ⟨(hm1367.get (k := 0) rfl), (hm1367.get (k := 3) rfl), (hv1.of_old hm1367)⟩ ?_
                  obtain ⟨x1454, h1455, q1456⟩ := ob q1449; clear q1449
                  refine s_rpg (i := 28) rfl (by kernel_rfl) rfl rfl rfl rfl (gv_t _) (fun hg1453 _ => (rd_add64 (gO_t h1455 hg1453) (gvx rfl hg1453) (gvx rfl hg1453))) ?_
                  obtain ⟨r1458, h1459, q1460⟩ := ob q1456; clear q1456
                  refine s_efg (i := 12) rfl (by kernel_rfl) rfl rfl rfl rfl (R := (fun v w' => v = gV (!decide (x1357.Side = 0)) (Value.int .i64 r1458) ∧ Mem w1366 No [] w')) (gv_t _) (fun hg1457 => (ef_call tf35 (evc (gvx rfl hg1457) (evc (gvx rfl hg1457) evn)) (throwplan_side_ok (gO_t h1459 hg1457) (hm1367.map_call 1 rfl))).mono (by rintro _ _ ⟨rfl, q⟩; exact ⟨(gV_t hg1457).symm, q⟩)) (fun q => ⟨(gV_f q).symm, Mem.nil _⟩) (by decide) ?_ ?_
                  · rintro _ w1462 ⟨rfl, hm1461⟩
                    have hm1463 := hm1367.call hm1461
                    intro _
                    exact ⟨(hm1463.get (k := 0) rfl), (hm1463.get (k := 3) rfl), (hv1.of_old hm1463)⟩
                  rintro _ w1462 ⟨rfl, hm1461⟩
                  have hm1463 := hm1367.call hm1461
                  obtain ⟨r1465, h1466, q1467⟩ := ob q1460; clear q1460
                  refine s_efg (i := 29) rfl (by kernel_rfl) rfl rfl rfl rfl (R := (fun v w' => v = gV (!decide (x1357.Side = 0)) (Value.bool r1465) ∧ Mem w1462 No [] w')) (gv_t _) (fun hg1464 => (ef_call tf34 (evc (gvx rfl hg1464) (evc (gvx rfl hg1464) (evc (gvx rfl hg1464) (evc (gvx rfl hg1464) (evc (gvx rfl hg1464) (evc (gvx rfl hg1464) evn)))))) (throwplan_serves_ok (gO_t h1466 hg1464) (hm1463.mrow_call 2 rfl x1357.Element))).mono (by rintro _ _ ⟨rfl, q⟩; exact ⟨(gV_t hg1464).symm, q⟩)) (fun q => ⟨(gV_f q).symm, Mem.nil _⟩) (by decide) (fun _ _ _ q => absurd q (by decide)) ?_
                  rintro _ w1469 ⟨rfl, hm1468⟩
                  have hm1470 := hm1463.call hm1468
                  refine s_rpg (i := 30) rfl (by kernel_rfl) rfl rfl rfl rfl (gv_t _) (fun hg1471 _ => (rd_not (gvx rfl hg1471))) ?_
                  refine s_rp (i := 31) rfl (by kernel_rfl) rfl (fun _ => (rd_and rfl (fun hc1472 => (gvx rfl hc1472)))) ?_
                  refine s_nil (by kernel_rfl) ?_
                  refine qn_then ?_
                  obtain ⟨hb1473, q1474⟩ | ⟨hb1473, q1474⟩ := oi q1467 <;> clear q1467
                  · refine cw_t rfl hb1473 ?_
                    refine cw_seq ?_
                    refine cw_region ?_
                    refine t_rd rfl (rd_assign rfl) ?_
                    refine t_rd rfl (rd_assign rfl) ?_
                    refine rwt_nil ?_
                    refine qn_then ?_
                    refine cw_ret ?_
                    refine qr_block (qr_then (qr_then ?_))
                    obtain rfl := hr1348 _ (os q1474)
                    refine .inl (⟨_, rfl, ⟨rfl, ?_⟩⟩)
                    exact ret2 rfl rfl rfl ⟨rfl, (hm1470.pick [] (by decide) rfl)⟩
                  · refine cw_f rfl hb1473 ?_
                    refine cw_skip ?_
                    refine qn_block (qn_then ?_)
                    refine cw_region ?_
                    obtain ⟨x1475, h1476, q1477⟩ := ob q1474; clear q1474
                    refine t_rd rfl (rd_add64 h1476 rfl rfl) ?_
                    refine t_rd rfl (rd_move rfl) ?_
                    refine rwt_nil ?_
                    refine qn_then ?_
                    refine ⟨_, (os q1477), (by repeat (first | exact Sub.nil _ | refine Sub.cons rfl ?_)), (hm1470.pick [1, 2, 3] (by decide) rfl)⟩
                · refine cw_f rfl hb1355 ?_
                  refine cw_exit ?_
                  refine qx_then (qx_then ?_)
                  obtain rfl := hr1348 _ (os q1356)
                  exact .inr (⟨_, rfl, ⟨rfl, (by repeat (first | exact Sub.nil _ | refine Sub.cons rfl ?_)), (hm1354.pick [0, 1, 2] (by decide) rfl)⟩⟩)
              · skip
                intro e env1478 w1479 hX1480
                rcases hX1480 with hX1480 | hX1480
                · obtain ⟨p1482, rfl, hX1480⟩ := hX1480
                  obtain ⟨rfl, hq1484⟩ := hX1480
                  obtain rfl := hr1081 _ (os q1351)
                  exact qr_block (qr_block (qr_then (qr_then (.inl (⟨_, rfl, ⟨rfl, hq1484⟩⟩)))))
                · obtain ⟨p1485, rfl, hX1480⟩ := hX1480
                  obtain ⟨rfl, hs1486, hm1487⟩ := hX1480
                  refine qx_same (qn_block (qn_then ?_))
                  refine cw_sub hs1486 ?_
                  refine cw_region ?_
                  obtain ⟨x1488, h1489, q1490⟩ := ob q1351; clear q1351
                  refine t_rd rfl (rd_add64 h1489 rfl rfl) ?_
                  refine t_rd rfl (rd_move rfl) ?_
                  refine rwt_nil ?_
                  refine qn_then ?_
                  refine ⟨_, (os q1490), (by repeat (first | exact Sub.nil _ | refine Sub.cons rfl ?_)), (hm1487.pick [0, 1, 2] (by decide) rfl)⟩
            · refine cw_f rfl hb1088 ?_
              refine cw_exit ?_
              refine qx_then (qx_then ?_)
              obtain rfl := hr1081 _ (os q1089)
              exact .inr (⟨_, rfl, ⟨rfl, (by repeat (first | exact Sub.nil _ | refine Sub.cons rfl ?_)), (hm1087.pick [] (by decide) rfl)⟩⟩)
          · skip
            intro e env1491 w1492 hX1493
            rcases hX1493 with hX1493 | hX1493
            · obtain ⟨p1495, rfl, hX1493⟩ := hX1493
              obtain ⟨rfl, hq1497⟩ := hX1493
              exact qr_block (qr_then ((by have e := os q1084; subst e; exact hq1497)))
            · obtain ⟨p1498, rfl, hX1493⟩ := hX1493
              obtain ⟨rfl, hs1499, hm1500⟩ := hX1493
              refine qx_same (qn_then ?_)
              refine cw_sub hs1499 ?_
              refine cw_seq ?_
              refine cw_region ?_
              refine t_rd rfl (rd_assign rfl) ?_
              refine t_rd rfl (rd_assign rfl) ?_
              refine rwt_nil ?_
              refine qn_then ?_
              refine cw_ret ?_
              obtain rfl := os q1084
              exact ret2 rfl rfl rfl ⟨rfl, (hm1500.pick [] (by decide) rfl)⟩

theorem r24_Serves_ok {N : Nat} {a0 : List T_Command} {a1 : List T_Throw} {a2 : T_Span} {a3 : Int} {a4 : Int} {a5 : Int} {res : Bool} (h : r24_Serves N a0 a1 a2 a3 a4 a5 = some res) {w : World} {v0 : Value} {v1 : Value} (hv0 : Sl (Old w No) w v0 a0) (hv1 : Sl (Old w No) w v1 a1) :
    CallsR Try.prog 40 [v0, v1, (Value.agg (Flat.enc a2).toArray), (Value.int .i64 a3), (Value.int .i64 a4), (Value.int .i64 a5)] w (fun u w' => u = (Value.bool res) ∧ Mem w No [] w') := by
  unfold r24_Serves at h
  refine fn_ok Try.func40 rfl rfl rfl ?_
  have hm0 := Mem.nil w
  refine cw_seq ?_
  refine cw_region ?_
  refine t_ef rfl (ef_box hm0 rfl rfl) ?_
  rintro _ w3 ⟨g1, rfl, hm2⟩
  refine t_rd rfl (rd_assign rfl) ?_
  refine rwt_nil ?_
  refine qn_then ?_
  refine cw_seq ?_
  refine cw_region ?_
  refine t_rd rfl (rd_move rfl) ?_
  refine t_rd rfl (rd_fld tF52_0 rfl) ?_
  refine t_rd rfl (rd_ld1 tO3 rfl (hm2.blk 0 rfl) (off := 0) rfl) ?_
  obtain ⟨r4, h5, q6⟩ := ob h; clear h
  refine t_ef rfl (ef_call tf21 rfl (r24_First_ok h5 (hv1.to_call hm2))) ?_
  rintro _ w8 ⟨e_, hm7⟩
  obtain rfl := e_.symm
  have hm9 := hm2.call hm7
  refine t_rd rfl (rd_assign rfl) ?_
  refine t_rd rfl (rd_assign rfl) ?_
  refine rwt_nil ?_
  refine qn_then ?_
  refine cw_seq ?_
  refine cw_seq ?_
  refine cw_region ?_
  refine t_rd rfl (rd_assign rfl) ?_
  refine rwt_nil ?_
  refine qn_then ?_
  refine cw_block ?_
  obtain ⟨r163, hit164, q165⟩ := ob q6; clear q6
  refine cw_loop2 (I := fun q envq wq => Sub [(0, v0), (3, (Value.int .i64 a3)), (4, (Value.int .i64 a4)), (5, (Value.int .i64 a5)), (8, (Value.pointer (some ⟨g1, 0, none⟩))), (13, (Value.int .i64 q.1)), (14, (Value.int .i64 q.2.1)), (15, (Value.int .i64 q.2.2))] envq ∧ Mem w No [blk g1 52 [(Value.int .i64 a2.Element), (Value.int .i64 a2.Side), (Value.int .i64 a2.From), (Value.int .i64 a2.To)]] wq) (X := fun eq envq wq => (∃ p166, r163 = (Sum.inl p166) ∧ eq = .ret ∧ retQ Try.prog 84 Try.f40 (fun u w' => u = (Value.bool p166) ∧ Mem w No [] w') .ret envq wq) ∨ (∃ p167, r163 = (Sum.inr p167) ∧ eq = .exit 0 ∧ Sub [(8, (Value.pointer (some ⟨g1, 0, none⟩))), (13, (Value.int .i64 p167))] envq ∧ Mem w No [blk g1 52 [(Value.int .i64 a2.Element), (Value.int .i64 a2.Side), (Value.int .i64 a2.From), (Value.int .i64 a2.To)]] wq)) hit164 ⟨(by repeat (first | exact Sub.nil _ | refine Sub.cons rfl ?_)), (hm9.pick [0] (by decide) rfl)⟩ ?_ ?_
  · rintro ⟨i154, i155, i156⟩ x158 env159 w160 hf161 hr162 ⟨hs_, hm_⟩
    have hs_ : Sub [(0, v0), (3, (Value.int .i64 a3)), (4, (Value.int .i64 a4)), (5, (Value.int .i64 a5)), (8, (Value.pointer (some ⟨g1, 0, none⟩))), (13, (Value.int .i64 i154)), (14, (Value.int .i64 i155)), (15, (Value.int .i64 i156))] env159 := hs_
    have hm168 : Mem w No [blk g1 52 [(Value.int .i64 a2.Element), (Value.int .i64 a2.Side), (Value.int .i64 a2.From), (Value.int .i64 a2.To)]] w160 := hm_
    refine cw_sub hs_ ?_
    clear hs_ hm_ q165
    have h : r24_Serves_l1 N a0 a2 a3 a4 a5 i154 i155 i156 = some x158 := hf161
    clear hf161
    refine cw_seq ?_
    refine cw_seq ?_
    refine cw_region ?_
    refine t_rd rfl (rd_move rfl) ?_
    refine t_rd rfl (rd_move rfl) ?_
    refine t_rd rfl (rd_lenS tS25 rfl (hv0.of_old hm168)) ?_
    refine t_rd rfl (rd_lss rfl rfl) ?_
    refine rwt_nil ?_
    refine qn_then ?_
    obtain ⟨hb169, q170⟩ | ⟨hb169, q170⟩ := oi h <;> clear h
    · refine cw_t rfl hb169 ?_
      refine cw_skip ?_
      refine qn_then ?_
      refine cw_seq ?_
      refine cw_block ?_
      refine cw_seq ?_
      refine cw_seq ?_
      obtain ⟨w172, he174⟩ : ∃ q, q = w160.drew := ⟨_, rfl⟩
      have hm173 := hm168.drew; rw [← he174] at hm173
      refine cw_region_s (fun q => q = w172) (cls [] []) mixed ?_
      rintro _ rfl; rw [← he174]
      refine s_rp (i := 0) rfl (by kernel_rfl) rfl (fun _ => (rd_move rfl)) ?_
      refine s_rp (i := 1) rfl (by kernel_rfl) rfl (fun _ => (rd_move rfl)) ?_
      obtain ⟨x175, h176, q177⟩ := ob q170; clear q170
      refine s_rp (i := 2) rfl (by kernel_rfl) rfl (fun _ => (rd_index tS25 rfl rfl (hv0.of_old hm173) h176)) ?_
      refine s_rp (i := 3) rfl (by kernel_rfl) rfl (fun _ => (rd_fld tF41_1 rfl)) ?_
      refine s_rd (i := 4) rfl (by kernel_rfl) rfl (fun _ hS => by rw [hS]; exact (rd_ld1 tO3 rfl ((hv0.of_old hm173).cells h176) (off := 1) rfl)) rfl ?_
      refine s_rp (i := 5) rfl (by kernel_rfl) rfl (fun _ => (rd_fld tF52_0 rfl)) ?_
      refine s_rd (i := 6) rfl (by kernel_rfl) rfl (fun _ hS => by rw [hS]; exact (rd_ld1 tO3 rfl (hm173.blk 0 rfl) (off := 0) rfl)) rfl ?_
      refine s_rp (i := 7) rfl (by kernel_rfl) rfl (fun _ => (rd_neq rfl rfl)) ?_
      refine s_nil (by kernel_rfl) ?_
      refine qn_then ?_
      obtain ⟨hb178, q179⟩ | ⟨hb178, q179⟩ := oi q177 <;> clear q177
      · refine cw_t rfl hb178 ?_
        refine cw_exit ?_
        refine qx_then (qx_same (qn_then ?_))
        refine cw_region ?_
        refine t_rd rfl (rd_move rfl) ?_
        obtain ⟨x180, h181, q182⟩ := ob q179; clear q179
        refine t_rd rfl (rd_add64 h181 rfl rfl) ?_
        refine t_rd rfl (rd_assign rfl) ?_
        refine rwt_nil ?_
        refine qn_then ?_
        refine ⟨_, (os q182), (by repeat (first | exact Sub.nil _ | refine Sub.cons rfl ?_)), (hm173.pick [0] (by decide) rfl)⟩
      · refine cw_f rfl hb178 ?_
        refine cw_skip ?_
        refine qn_then ?_
        refine cw_seq ?_
        refine cw_seq ?_
        refine cw_region ?_
        refine t_rd rfl (rd_move rfl) ?_
        refine t_rd rfl (rd_move rfl) ?_
        obtain ⟨x183, h184, q185⟩ := ob q179; clear q179
        refine t_rd rfl (rd_index tS25 rfl rfl (hv0.of_old hm173) h184) ?_
        refine t_rd rfl (rd_fld tF41_0 rfl) ?_
        refine t_rd rfl (rd_ld1 tO3 rfl ((hv0.of_old hm173).cells h184) (off := 0) rfl) ?_
        refine t_rd rfl (rd_move rfl) ?_
        refine t_rd rfl (rd_lss rfl rfl) ?_
        refine t_rd rfl (rd_move rfl) ?_
        refine t_rdg rfl rfl rfl rfl (gv_t _) (fun hg186 => (rd_move rfl)) ?_
        refine t_rdg rfl rfl rfl rfl (gv_t _) (fun hg187 => (rd_move rfl)) ?_
        obtain ⟨x189, h190, q191⟩ := ob q185; clear q185
        refine t_rdg rfl rfl rfl rfl (gv_t _) (fun hg188 => (rd_index tS25 (gvx rfl hg188) (gvx rfl hg188) (hv0.of_old hm173) (gO_t h190 hg188))) ?_
        refine t_rdg rfl rfl rfl rfl (gv_t _) (fun hg192 => (rd_fld tF41_0 (gvx rfl hg192))) ?_
        refine t_rdg rfl rfl rfl rfl (gv_t _) (fun hg193 => (rd_ld1 tO3 (gvx rfl hg193) ((hv0.of_old hm173).cells (gO_t h190 hg193)) (off := 0) rfl)) ?_
        refine t_rdg rfl rfl rfl rfl (gv_t _) (fun hg194 => (rd_move rfl)) ?_
        obtain ⟨x196, h197, q198⟩ := ob q191; clear q191
        refine t_rdg rfl rfl rfl rfl (gv_t _) (fun hg195 => (rd_add64 (gO_t h197 hg195) (gvx rfl hg195) (gvx rfl hg195))) ?_
        refine t_rdg rfl rfl rfl rfl (gv_t _) (fun hg199 => (rd_move rfl)) ?_
        refine t_rdg rfl rfl rfl rfl (gv_t _) (fun hg200 => (rd_gtr (gvx rfl hg200) (gvx rfl hg200))) ?_
        refine t_rd rfl (rd_and rfl (fun hc201 => (gvx rfl hc201))) ?_
        refine rwt_nil ?_
        refine qn_then ?_
        obtain ⟨hb202, q203⟩ | ⟨hb202, q203⟩ := oi q198 <;> clear q198
        · refine cw_t rfl hb202 ?_
          refine cw_seq ?_
          refine cw_region ?_
          refine t_rd rfl (rd_assign rfl) ?_
          refine rwt_nil ?_
          refine qn_then ?_
          refine cw_ret ?_
          refine qr_then (qr_block (qr_then (qr_then ?_)))
          obtain rfl := hr162 _ (os q203)
          refine .inl (⟨_, rfl, ⟨rfl, ?_⟩⟩)
          exact ret1 rfl rfl ⟨rfl, (hm173.pick [] (by decide) rfl)⟩
        · refine cw_f rfl hb202 ?_
          refine cw_skip ?_
          refine qn_then ?_
          refine cw_seq ?_
          refine cw_region ?_
          refine t_rd rfl (rd_move rfl) ?_
          refine t_rd rfl (rd_move rfl) ?_
          obtain ⟨x204, h205, q206⟩ := ob q203; clear q203
          refine t_rd rfl (rd_index tS25 rfl rfl (hv0.of_old hm173) h205) ?_
          refine t_rd rfl (rd_fld tF41_0 rfl) ?_
          refine t_rd rfl (rd_ld1 tO3 rfl ((hv0.of_old hm173).cells h205) (off := 0) rfl) ?_
          refine t_rd rfl (rd_move rfl) ?_
          obtain ⟨x207, h208, q209⟩ := ob q206; clear q206
          refine t_rd rfl (rd_add64 h208 rfl rfl) ?_
          refine t_rd rfl (rd_move rfl) ?_
          refine t_rd rfl (rd_leq rfl rfl) ?_
          refine t_rd rfl (rd_move rfl) ?_
          refine t_rdg rfl rfl rfl rfl (gv_t _) (fun hg210 => (rd_move rfl)) ?_
          refine t_rdg rfl rfl rfl rfl (gv_t _) (fun hg211 => (rd_move rfl)) ?_
          obtain ⟨x213, h214, q215⟩ := ob q209; clear q209
          refine t_rdg rfl rfl rfl rfl (gv_t _) (fun hg212 => (rd_index tS25 (gvx rfl hg212) (gvx rfl hg212) (hv0.of_old hm173) (gO_t h214 hg212))) ?_
          refine t_rdg rfl rfl rfl rfl (gv_t _) (fun hg216 => (rd_fld tF41_0 (gvx rfl hg216))) ?_
          refine t_rdg rfl rfl rfl rfl (gv_t _) (fun hg217 => (rd_ld1 tO3 (gvx rfl hg217) ((hv0.of_old hm173).cells (gO_t h214 hg217)) (off := 0) rfl)) ?_
          refine t_rdg rfl rfl rfl rfl (gv_t _) (fun hg218 => (rd_move rfl)) ?_
          refine t_rdg rfl rfl rfl rfl (gv_t _) (fun hg219 => (rd_geq (gvx rfl hg219) (gvx rfl hg219))) ?_
          refine t_rd rfl (rd_and rfl (fun hc220 => (gvx rfl hc220))) ?_
          refine rwt_nil ?_
          refine qn_then ?_
          obtain ⟨hb221, q222⟩ | ⟨hb221, q222⟩ := oi q215 <;> clear q215
          · refine cw_t rfl hb221 ?_
            obtain ⟨w224, he226⟩ : ∃ q, q = w172.drew := ⟨_, rfl⟩
            have hm225 := hm173.drew; rw [← he226] at hm225
            refine cw_region_s (fun q => q = w224) (cls [] []) mixed ?_
            rintro _ rfl; rw [← he226]
            refine s_rp (i := 0) rfl (by kernel_rfl) rfl (fun _ => (rd_move rfl)) ?_
            refine s_rp (i := 1) rfl (by kernel_rfl) rfl (fun _ => (rd_move rfl)) ?_
            obtain ⟨x227, h228, q229⟩ := ob q222; clear q222
            refine s_rp (i := 2) rfl (by kernel_rfl) rfl (fun _ => (rd_index tS25 rfl rfl (hv0.of_old hm225) h228)) ?_
            refine s_rp (i := 3) rfl (by kernel_rfl) rfl (fun _ => (rd_fld tF41_2 rfl)) ?_
            refine s_rd (i := 4) rfl (by kernel_rfl) rfl (fun _ hS => by rw [hS]; exact (rd_ld1 tO3 rfl ((hv0.of_old hm225).cells h228) (off := 2) rfl)) rfl ?_
            refine s_rp (i := 5) rfl (by kernel_rfl) rfl (fun _ => (rd_move rfl)) ?_
            refine s_rp (i := 6) rfl (by kernel_rfl) rfl (fun _ => (rd_move rfl)) ?_
            obtain ⟨x230, h231, q232⟩ := ob q229; clear q229
            refine s_rp (i := 7) rfl (by kernel_rfl) rfl (fun _ => (rd_index tS25 rfl rfl (hv0.of_old hm225) h231)) ?_
            refine s_rp (i := 8) rfl (by kernel_rfl) rfl (fun _ => (rd_fld tF41_0 rfl)) ?_
            refine s_rd (i := 9) rfl (by kernel_rfl) rfl (fun _ hS => by rw [hS]; exact (rd_ld1 tO3 rfl ((hv0.of_old hm225).cells h231) (off := 0) rfl)) rfl ?_
            refine s_rp (i := 10) rfl (by kernel_rfl) rfl (fun _ => (rd_assign rfl)) ?_
            refine s_rp (i := 11) rfl (by kernel_rfl) rfl (fun _ => (rd_assign rfl)) ?_
            refine s_nil (by kernel_rfl) ?_
            refine qn_block (qn_then ?_)
            refine cw_region ?_
            refine t_rd rfl (rd_move rfl) ?_
            obtain ⟨x233, h234, q235⟩ := ob q232; clear q232
            refine t_rd rfl (rd_add64 h234 rfl rfl) ?_
            refine t_rd rfl (rd_assign rfl) ?_
            refine rwt_nil ?_
            refine qn_then ?_
            refine ⟨_, (os q235), (by repeat (first | exact Sub.nil _ | refine Sub.cons rfl ?_)), (hm225.pick [0] (by decide) rfl)⟩
          · refine cw_f rfl hb221 ?_
            refine cw_skip ?_
            refine qn_block (qn_then ?_)
            refine cw_region ?_
            refine t_rd rfl (rd_move rfl) ?_
            obtain ⟨x236, h237, q238⟩ := ob q222; clear q222
            refine t_rd rfl (rd_add64 h237 rfl rfl) ?_
            refine t_rd rfl (rd_assign rfl) ?_
            refine rwt_nil ?_
            refine qn_then ?_
            refine ⟨_, (os q238), (by repeat (first | exact Sub.nil _ | refine Sub.cons rfl ?_)), (hm173.pick [0] (by decide) rfl)⟩
    · refine cw_f rfl hb169 ?_
      refine cw_exit ?_
      refine qx_then (qx_then ?_)
      obtain rfl := hr162 _ (os q170)
      exact .inr (⟨_, rfl, ⟨rfl, (by repeat (first | exact Sub.nil _ | refine Sub.cons rfl ?_)), (hm168.pick [0] (by decide) rfl)⟩⟩)
  · skip
    intro e env239 w240 hX241
    rcases hX241 with hX241 | hX241
    · obtain ⟨p243, rfl, hX241⟩ := hX241
      obtain ⟨rfl, hq245⟩ := hX241
      exact qr_block (qr_then ((by have e := os q165; subst e; exact hq245)))
    · obtain ⟨p246, rfl, hX241⟩ := hX241
      obtain ⟨rfl, hs247, hm248⟩ := hX241
      refine qx_same (qn_then ?_)
      refine cw_sub hs247 ?_
      refine cw_seq ?_
      refine cw_region ?_
      refine t_rd rfl (rd_move rfl) ?_
      refine t_rd rfl (rd_fld tF52_1 rfl) ?_
      refine t_rd rfl (rd_ld1 tO3 rfl (hm248.blk 0 rfl) (off := 1) rfl) ?_
      refine t_rd rfl (rd_eql rfl rfl) ?_
      refine t_rd rfl (rd_assign rfl) ?_
      refine rwt_nil ?_
      refine qn_then ?_
      refine cw_ret ?_
      obtain rfl := os q165
      exact ret1 rfl rfl ⟨rfl, (hm248.pick [] (by decide) rfl)⟩

theorem r24_Safe_ok {N : Nat} {a0 : List (List T_Span)} {a1 : List Int} {a2 : Int} {a3 : List T_Throw} {a4 : List T_Command} {res : Bool × Int} (h : r24_Safe N a0 a1 a2 a3 a4 = some res) {w : World} {v0 : Value} {v1 : Value} {v3 : Value} {v4 : Value} (hv0 : Sl (Old w No) w v0 a0) (hv1 : Sl (Old w No) w v1 a1) (hv3 : Sl (Old w No) w v3 a3) (hv4 : Sl (Old w No) w v4 a4) :
    CallsR Try.prog 26 [v0, v1, (Value.int .i64 a2), v3, v4] w (fun u w' => u = (Value.tuple #[(Value.bool res.1), (Value.int .i64 res.2)]) ∧ Mem w No [] w') := by
  unfold r24_Safe at h
  refine fn_ok Try.func26 rfl rfl rfl ?_
  obtain ⟨zs_a0, hn0⟩ := hv0.nest
  have hm0 := Mem.nil w
  refine cw_seq ?_
  refine cw_region ?_
  refine t_rd rfl (rd_assign rfl) ?_
  refine t_rd rfl (rd_assign rfl) ?_
  refine rwt_nil ?_
  refine qn_then ?_
  refine cw_seq ?_
  refine cw_seq ?_
  refine cw_region ?_
  refine t_rd rfl (rd_move rfl) ?_
  refine t_rd rfl (rd_move rfl) ?_
  refine t_rd rfl (rd_move rfl) ?_
  refine t_rd rfl (rd_move rfl) ?_
  obtain ⟨r1, h2, q3⟩ := ob h; clear h
  refine t_ef rfl (ef_call tf25 rfl (r24_check_ok h2 ((hn0.to_call hm0).sl) (hv1.to_call hm0) (hv3.to_call hm0))) ?_
  rintro _ w5 ⟨e_, hm4⟩
  obtain rfl := e_.symm
  have hm6 := hm0.call hm4
  refine t_rd rfl (rd_assign rfl) ?_
  refine rwt_nil ?_
  refine qn_then ?_
  refine cw_seq ?_
  refine cw_region ?_
  refine t_rd rfl (rd_move rfl) ?_
  refine t_rd rfl (rd_neq rfl rfl) ?_
  refine rwt_nil ?_
  refine qn_then ?_
  obtain ⟨hb7, q8⟩ | ⟨hb7, q8⟩ := oi q3 <;> clear q3
  · refine cw_t rfl hb7 ?_
    refine cw_seq ?_
    refine cw_region ?_
    refine t_rd rfl (rd_move rfl) ?_
    refine t_rd rfl (rd_assign rfl) ?_
    refine t_rd rfl (rd_assign rfl) ?_
    refine rwt_nil ?_
    refine qn_then ?_
    refine cw_ret ?_
    refine qr_then ?_
    obtain rfl := os q8
    exact ret2 rfl rfl rfl ⟨rfl, (hm6.pick [] (by decide) rfl)⟩
  · refine cw_f rfl hb7 ?_
    refine cw_skip ?_
    refine qn_then ?_
    refine cw_seq ?_
    refine cw_seq ?_
    refine cw_region ?_
    refine t_rd rfl (rd_move rfl) ?_
    refine t_rd rfl (rd_lenS tS25 rfl (hv4.of_old hm6)) ?_
    refine t_rd rfl (rd_gtr rfl rfl) ?_
    refine rwt_nil ?_
    refine qn_then ?_
    obtain ⟨hb9, q10⟩ | ⟨hb9, q10⟩ := oi q8 <;> clear q8
    · refine cw_t rfl hb9 ?_
      refine cw_seq ?_
      refine cw_region ?_
      refine t_rd rfl (rd_assign rfl) ?_
      refine t_rd rfl (rd_assign rfl) ?_
      refine rwt_nil ?_
      refine qn_then ?_
      refine cw_ret ?_
      refine qr_then ?_
      obtain rfl := os q10
      exact ret2 rfl rfl rfl ⟨rfl, (hm6.pick [] (by decide) rfl)⟩
    · refine cw_f rfl hb9 ?_
      refine cw_skip ?_
      refine qn_then ?_
      refine cw_seq ?_
      refine cw_seq ?_
      refine cw_region ?_
      refine t_rd rfl (rd_assign rfl) ?_
      refine rwt_nil ?_
      refine qn_then ?_
      refine cw_block ?_
      obtain ⟨r123, hit124, q125⟩ := ob q10; clear q10
      refine cw_loop2 (I := fun q envq wq => Sub [(0, v0), (1, v1), (2, (Value.int .i64 a2)), (3, v3), (4, v4), (13, (Value.int .i64 q))] envq ∧ Mem w No [] wq) (X := fun eq envq wq => (∃ p126, r123 = (Sum.inl p126) ∧ eq = .ret ∧ retQ Try.prog 119 Try.f26 (fun u w' => u = (Value.tuple #[(Value.bool p126.1), (Value.int .i64 p126.2)]) ∧ Mem w No [] w') .ret envq wq) ∨ (∃ p127, r123 = (Sum.inr p127) ∧ eq = .exit 0 ∧ Sub [(0, v0), (1, v1), (2, (Value.int .i64 a2)), (3, v3), (4, v4)] envq ∧ Mem w No [] wq)) hit124 ⟨(by repeat (first | exact Sub.nil _ | refine Sub.cons rfl ?_)), (hm6.pick [] (by decide) rfl)⟩ ?_ ?_
      · rintro i116 x118 env119 w120 hf121 hr122 ⟨hs_, hm_⟩
        have hs_ : Sub [(0, v0), (1, v1), (2, (Value.int .i64 a2)), (3, v3), (4, v4), (13, (Value.int .i64 i116))] env119 := hs_
        have hm128 : Mem w No [] w120 := hm_
        refine cw_sub hs_ ?_
        clear hs_ hm_ q125
        have h : r24_Safe_l1 N a4 i116 = some x118 := hf121
        clear hf121
        refine cw_seq ?_
        refine cw_seq ?_
        refine cw_region ?_
        refine t_rd rfl (rd_move rfl) ?_
        refine t_rd rfl (rd_move rfl) ?_
        refine t_rd rfl (rd_lenS tS25 rfl (hv4.of_old hm128)) ?_
        refine t_rd rfl (rd_lss rfl rfl) ?_
        refine rwt_nil ?_
        refine qn_then ?_
        obtain ⟨hb129, q130⟩ | ⟨hb129, q130⟩ := oi h <;> clear h
        · refine cw_t rfl hb129 ?_
          refine cw_skip ?_
          refine qn_then ?_
          refine cw_seq ?_
          refine cw_block ?_
          refine cw_seq ?_
          refine cw_region ?_
          refine t_rd rfl (rd_move rfl) ?_
          refine t_rd rfl (rd_move rfl) ?_
          obtain ⟨x131, h132, q133⟩ := ob q130; clear q130
          refine t_rd rfl (rd_index tS25 rfl rfl (hv4.of_old hm128) h132) ?_
          refine t_rd rfl (rd_fld tF41_0 rfl) ?_
          refine t_rd rfl (rd_ld1 tO3 rfl ((hv4.of_old hm128).cells h132) (off := 0) rfl) ?_
          refine t_rd rfl (rd_lss rfl rfl) ?_
          refine t_rd rfl (rd_move rfl) ?_
          refine t_rdg rfl rfl rfl rfl (gv_f _) (fun hg134 => (rd_move rfl)) ?_
          refine t_rdg rfl rfl rfl rfl (gv_f _) (fun hg135 => (rd_move rfl)) ?_
          obtain ⟨x137, h138, q139⟩ := ob q133; clear q133
          refine t_rdg rfl rfl rfl rfl (gv_f _) (fun hg136 => (rd_index tS25 (gvx rfl hg136) (gvx rfl hg136) (hv4.of_old hm128) (gO_t h138 hg136))) ?_
          refine t_rdg rfl rfl rfl rfl (gv_f _) (fun hg140 => (rd_fld tF41_0 (gvx rfl hg140))) ?_
          refine t_rdg rfl rfl rfl rfl (gv_f _) (fun hg141 => (rd_ld1 tO3 (gvx rfl hg141) ((hv4.of_old hm128).cells (gO_t h138 hg141)) (off := 0) rfl)) ?_
          refine t_rdg rfl rfl rfl rfl (gv_f _) (fun hg142 => (rd_gtr (gvx rfl hg142) rfl)) ?_
          refine t_rd rfl (rd_or rfl (fun hc143 => (gvx rfl (bnotIt hc143)))) ?_
          refine t_rd rfl (rd_move rfl) ?_
          refine t_rdg rfl rfl rfl rfl (gv_f _) (fun hg144 => (rd_move rfl)) ?_
          refine t_rdg rfl rfl rfl rfl (gv_f _) (fun hg145 => (rd_move rfl)) ?_
          obtain ⟨x147, h148, q149⟩ := ob q139; clear q139
          refine t_rdg rfl rfl rfl rfl (gv_f _) (fun hg146 => (rd_index tS25 (gvx rfl hg146) (gvx rfl hg146) (hv4.of_old hm128) (gO_t h148 hg146))) ?_
          refine t_rdg rfl rfl rfl rfl (gv_f _) (fun hg150 => (rd_fld tF41_1 (gvx rfl hg150))) ?_
          refine t_rdg rfl rfl rfl rfl (gv_f _) (fun hg151 => (rd_ld1 tO3 (gvx rfl hg151) ((hv4.of_old hm128).cells (gO_t h148 hg151)) (off := 1) rfl)) ?_
          refine t_rdg rfl rfl rfl rfl (gv_f _) (fun hg152 => (rd_lss (gvx rfl hg152) rfl)) ?_
          refine t_rd rfl (rd_or rfl (fun hc153 => (gvx rfl (bnotIt hc153)))) ?_
          refine t_rd rfl (rd_move rfl) ?_
          refine t_rdg rfl rfl rfl rfl (gv_f _) (fun hg154 => (rd_move rfl)) ?_
          refine t_rdg rfl rfl rfl rfl (gv_f _) (fun hg155 => (rd_move rfl)) ?_
          obtain ⟨x157, h158, q159⟩ := ob q149; clear q149
          refine t_rdg rfl rfl rfl rfl (gv_f _) (fun hg156 => (rd_index tS25 (gvx rfl hg156) (gvx rfl hg156) (hv4.of_old hm128) (gO_t h158 hg156))) ?_
          refine t_rdg rfl rfl rfl rfl (gv_f _) (fun hg160 => (rd_fld tF41_2 (gvx rfl hg160))) ?_
          refine t_rdg rfl rfl rfl rfl (gv_f _) (fun hg161 => (rd_ld1 tO3 (gvx rfl hg161) ((hv4.of_old hm128).cells (gO_t h158 hg161)) (off := 2) rfl)) ?_
          refine t_rdg rfl rfl rfl rfl (gv_f _) (fun hg162 => (rd_neq (gvx rfl hg162) rfl)) ?_
          refine t_rdg rfl rfl rfl rfl (gv_f _) (fun hg163 => (rd_move (gvx rfl hg163))) ?_
          refine t_rdg rfl rfl rfl rfl (gv_nt _ _) (fun hg164 => (rd_move rfl)) ?_
          refine t_rdg rfl rfl rfl rfl (gv_nt _ _) (fun hg165 => (rd_move rfl)) ?_
          obtain ⟨x167, h168, q169⟩ := ob q159; clear q159
          refine t_rdg rfl rfl rfl rfl (gv_nt _ _) (fun hg166 => (rd_index tS25 (gvx rfl hg166) (gvx rfl hg166) (hv4.of_old hm128) (gO_t h168 hg166))) ?_
          refine t_rdg rfl rfl rfl rfl (gv_nt _ _) (fun hg170 => (rd_fld tF41_2 (gvx rfl hg170))) ?_
          refine t_rdg rfl rfl rfl rfl (gv_nt _ _) (fun hg171 => (rd_ld1 tO3 (gvx rfl hg171) ((hv4.of_old hm128).cells (gO_t h168 hg171)) (off := 2) rfl)) ?_
          refine t_rdg rfl rfl rfl rfl (gv_nt _ _) (fun hg172 => (rd_neq (gvx rfl hg172) rfl)) ?_
          refine t_rdg rfl rfl rfl rfl (gv_f _) (fun hg173 => (rd_and (gvx rfl hg173) (fun hc174 => (gvx rfl (band hg173 hc174))))) ?_
          refine t_rd rfl (rd_or rfl (fun hc175 => (gvx rfl (bnotIt hc175)))) ?_
          refine rwt_nil ?_
          refine qn_then ?_
          obtain ⟨hb176, q177⟩ | ⟨hb176, q177⟩ := oi q169 <;> clear q169
          · refine cw_t rfl hb176 ?_
            refine cw_seq ?_
            refine cw_region ?_
            refine t_rd rfl (rd_assign rfl) ?_
            refine t_rd rfl (rd_assign rfl) ?_
            refine rwt_nil ?_
            refine qn_then ?_
            refine cw_ret ?_
            refine qr_block (qr_then (qr_then ?_))
            obtain rfl := hr122 _ (os q177)
            refine .inl (⟨_, rfl, ⟨rfl, ?_⟩⟩)
            exact ret2 rfl rfl rfl ⟨rfl, (hm128.pick [] (by decide) rfl)⟩
          · refine cw_f rfl hb176 ?_
            refine cw_skip ?_
            refine qn_block (qn_then ?_)
            refine cw_region ?_
            refine t_rd rfl (rd_move rfl) ?_
            obtain ⟨x178, h179, q180⟩ := ob q177; clear q177
            refine t_rd rfl (rd_add64 h179 rfl rfl) ?_
            refine t_rd rfl (rd_assign rfl) ?_
            refine rwt_nil ?_
            refine qn_then ?_
            refine ⟨_, (os q180), (by repeat (first | exact Sub.nil _ | refine Sub.cons rfl ?_)), (hm128.pick [] (by decide) rfl)⟩
        · refine cw_f rfl hb129 ?_
          refine cw_exit ?_
          refine qx_then (qx_then ?_)
          obtain rfl := hr122 _ (os q130)
          exact .inr (⟨_, rfl, ⟨rfl, (by repeat (first | exact Sub.nil _ | refine Sub.cons rfl ?_)), (hm128.pick [] (by decide) rfl)⟩⟩)
      · skip
        intro e env181 w182 hX183
        rcases hX183 with hX183 | hX183
        · obtain ⟨p185, rfl, hX183⟩ := hX183
          obtain ⟨rfl, hq187⟩ := hX183
          exact qr_block (qr_then ((by have e := os q125; subst e; exact hq187)))
        · obtain ⟨p188, rfl, hX183⟩ := hX183
          obtain ⟨rfl, hs189, hm190⟩ := hX183
          refine qx_same (qn_then ?_)
          refine cw_sub hs189 ?_
          refine cw_seq ?_
          refine cw_seq ?_
          refine cw_region ?_
          refine t_rd rfl (rd_assign rfl) ?_
          refine rwt_nil ?_
          refine qn_then ?_
          refine cw_block ?_
          obtain ⟨r665, hit666, q667⟩ := ob q125; clear q125
          refine cw_loop2 (I := fun q envq wq => Sub [(0, v0), (1, v1), (2, (Value.int .i64 a2)), (3, v3), (4, v4), (14, (Value.int .i64 q))] envq ∧ Mem w No [] wq) (X := fun eq envq wq => (∃ p668, r665 = (Sum.inl p668) ∧ eq = .ret ∧ retQ Try.prog 119 Try.f26 (fun u w' => u = (Value.tuple #[(Value.bool p668.1), (Value.int .i64 p668.2)]) ∧ Mem w No [] w') .ret envq wq) ∨ (∃ p669, r665 = (Sum.inr p669) ∧ eq = .exit 2 ∧ Sub [] envq ∧ Mem w No [] wq)) hit666 ⟨(by repeat (first | exact Sub.nil _ | refine Sub.cons rfl ?_)), (hm190.pick [] (by decide) rfl)⟩ ?_ ?_
          · rintro i658 x660 env661 w662 hf663 hr664 ⟨hs_, hm_⟩
            have hs_ : Sub [(0, v0), (1, v1), (2, (Value.int .i64 a2)), (3, v3), (4, v4), (14, (Value.int .i64 i658))] env661 := hs_
            have hm670 : Mem w No [] w662 := hm_
            refine cw_sub hs_ ?_
            clear hs_ hm_ q667
            have h : r24_Safe_l4 N a0 a1 a2 a3 a4 i658 = some x660 := hf663
            clear hf663
            refine cw_seq ?_
            refine cw_seq ?_
            refine cw_region ?_
            refine t_rd rfl (rd_move rfl) ?_
            refine t_rd rfl (rd_move rfl) ?_
            refine t_rd rfl (rd_lenS tS23 rfl ((hn0.of_old hm670).sl)) ?_
            refine t_rd rfl (rd_lss rfl rfl) ?_
            refine rwt_nil ?_
            refine qn_then ?_
            obtain ⟨hb671, q672⟩ | ⟨hb671, q672⟩ := oi h <;> clear h
            · refine cw_t rfl hb671 ?_
              refine cw_skip ?_
              refine qn_then ?_
              refine cw_seq ?_
              refine cw_block ?_
              refine cw_seq ?_
              refine cw_region ?_
              refine t_rd rfl (rd_assign rfl) ?_
              refine rwt_nil ?_
              refine qn_then ?_
              refine cw_block ?_
              obtain ⟨r817, hit818, q819⟩ := ob q672; clear q672
              refine cw_loop2 (I := fun q envq wq => Sub [(0, v0), (1, v1), (2, (Value.int .i64 a2)), (3, v3), (4, v4), (14, (Value.int .i64 i658)), (15, (Value.int .i64 q))] envq ∧ Mem w No [] wq) (X := fun eq envq wq => (∃ p820, r817 = (Sum.inl p820) ∧ eq = .ret ∧ retQ Try.prog 119 Try.f26 (fun u w' => u = (Value.tuple #[(Value.bool p820.1), (Value.int .i64 p820.2)]) ∧ Mem w No [] w') .ret envq wq) ∨ (∃ p821, r817 = (Sum.inr p821) ∧ eq = .exit 4 ∧ Sub [(0, v0), (1, v1), (2, (Value.int .i64 a2)), (3, v3), (4, v4), (14, (Value.int .i64 i658))] envq ∧ Mem w No [] wq)) hit818 ⟨(by repeat (first | exact Sub.nil _ | refine Sub.cons rfl ?_)), (hm670.pick [] (by decide) rfl)⟩ ?_ ?_
              · rintro i810 x812 env813 w814 hf815 hr816 ⟨hs_, hm_⟩
                have hs_ : Sub [(0, v0), (1, v1), (2, (Value.int .i64 a2)), (3, v3), (4, v4), (14, (Value.int .i64 i658)), (15, (Value.int .i64 i810))] env813 := hs_
                have hm822 : Mem w No [] w814 := hm_
                refine cw_sub hs_ ?_
                clear hs_ hm_ q819
                have h : r24_Safe_l5 N a0 a1 a2 a3 a4 i658 i810 = some x812 := hf815
                clear hf815
                refine cw_seq ?_
                refine cw_seq ?_
                refine cw_region ?_
                refine t_rd rfl (rd_move rfl) ?_
                refine t_rd rfl (rd_move rfl) ?_
                refine t_rd rfl (rd_move rfl) ?_
                obtain ⟨x823, h824, q825⟩ := ob h; clear h
                refine t_rd rfl (rd_index tS23 rfl rfl ((hn0.of_old hm822).sl) h824) ?_
                obtain ⟨zd826, hz827⟩ := (hn0.of_old hm822).row h824
                refine t_rd rfl (rd_ld1 tO34 rfl ((hn0.of_old hm822).cells hz827) (off := 0) rfl) ?_
                refine t_rd rfl (rd_lenS tS34 rfl ((hn0.of_old hm822).get hz827 h824)) ?_
                refine t_rd rfl (rd_lss rfl rfl) ?_
                refine rwt_nil ?_
                refine qn_then ?_
                obtain ⟨hb828, q829⟩ | ⟨hb828, q829⟩ := oi q825 <;> clear q825
                · refine cw_t rfl hb828 ?_
                  refine cw_skip ?_
                  refine qn_then ?_
                  refine cw_seq ?_
                  refine cw_block ?_
                  refine cw_seq ?_
                  refine cw_region ?_
                  refine t_rd rfl (rd_move rfl) ?_
                  refine t_rd rfl (rd_move rfl) ?_
                  obtain ⟨x830, h831, q832⟩ := ob q829; clear q829
                  refine t_rd rfl (rd_index tS23 rfl rfl ((hn0.of_old hm822).sl) h831) ?_
                  obtain ⟨zd833, hz834⟩ := (hn0.of_old hm822).row h831
                  refine t_rd rfl (rd_ld1 tO34 rfl ((hn0.of_old hm822).cells hz834) (off := 0) rfl) ?_
                  refine t_rd rfl (rd_move rfl) ?_
                  obtain ⟨x835, h836, q837⟩ := ob q832; clear q832
                  refine t_rd rfl (rd_index tS34 rfl rfl ((hn0.of_old hm822).get hz834 h831) h836) ?_
                  refine t_rd rfl (rd_ld tA52 rfl (((hn0.of_old hm822).get hz834 h831).cells h836) rfl) ?_
                  refine t_ef rfl (ef_alloc hm822 tZ52 rfl) ?_
                  rintro _ w840 ⟨g838, rfl, hm839⟩
                  refine t_ef0 (ef_stw (k := 0) hm839 tA52 rfl rfl (oc_cons rfl (oc_cons rfl (oc_cons rfl (oc_cons rfl oc_nil)))) rfl rfl rfl) ?_
                  intro _ w842 hm841
                  refine rwt_nil ?_
                  refine qn_then ?_
                  refine cw_seq ?_
                  obtain ⟨w844, he846⟩ : ∃ q, q = w842.drew := ⟨_, rfl⟩
                  have hm845 := hm841.drew; rw [← he846] at hm845
                  refine cw_region_s (fun q => q = w844) (cls [] [22]) mixed ?_
                  rintro _ rfl; rw [← he846]
                  refine s_rp (i := 0) rfl (by kernel_rfl) rfl (fun _ => (rd_fld tF52_1 rfl)) ?_
                  refine s_rd (i := 1) rfl (by kernel_rfl) rfl (fun _ hS => by rw [hS]; exact (rd_ld1 tO3 rfl (hm845.blk 0 rfl) (off := 1) rfl)) rfl ?_
                  refine s_rp (i := 2) rfl (by kernel_rfl) rfl (fun _ => (rd_neq rfl rfl)) ?_
                  refine s_rp (i := 3) rfl (by kernel_rfl) rfl (fun _ => (rd_move rfl)) ?_
                  refine s_rpg (i := 4) rfl (by kernel_rfl) rfl rfl rfl rfl (gv_t _) (fun hg847 _ => (rd_move rfl)) ?_
                  refine s_rpg (i := 5) rfl (by kernel_rfl) rfl rfl rfl rfl (gv_t _) (fun hg848 _ => (rd_move rfl)) ?_
                  refine s_rdg (i := 6) rfl (by kernel_rfl) rfl rfl rfl rfl (gv_t _) (fun hg849 => (fun _ hS => by rw [hS]; exact (rd_ld tA52 rfl (hm845.blk 0 rfl) rfl))) rfl ?_
                  refine s_rpg (i := 7) rfl (by kernel_rfl) rfl rfl rfl rfl (gv_t _) (fun hg850 _ => (rd_move rfl)) ?_
                  refine s_rpg (i := 8) rfl (by kernel_rfl) rfl rfl rfl rfl (gv_t _) (fun hg851 _ => (rd_move rfl)) ?_
                  obtain ⟨x853, h854, q855⟩ := ob q837; clear q837
                  refine s_rpg (i := 9) rfl (by kernel_rfl) rfl rfl rfl rfl (gv_t _) (fun hg852 _ => (rd_index tS22 (gvx rfl hg852) (gvx rfl hg852) (hv1.of_old hm845) (gO_t h854 hg852))) ?_
                  refine s_rdg (i := 10) rfl (by kernel_rfl) rfl rfl rfl rfl (gv_t _) (fun hg856 => (fun _ hS => by rw [hS]; exact (rd_ld1 tO3 (gvx rfl hg856) ((hv1.of_old hm845).cells (gO_t h854 hg856)) (off := 0) rfl))) rfl ?_
                  refine s_rpg (i := 11) rfl (by kernel_rfl) rfl rfl rfl rfl (gv_t _) (fun hg857 _ => (rd_fld tF52_2 rfl)) ?_
                  refine s_rdg (i := 12) rfl (by kernel_rfl) rfl rfl rfl rfl (gv_t _) (fun hg858 => (fun _ hS => by rw [hS]; exact (rd_ld1 tO3 (gvx rfl hg858) (hm845.blk 0 rfl) (off := 2) rfl))) rfl ?_
                  obtain ⟨x860, h861, q862⟩ := ob q855; clear q855
                  refine s_rpg (i := 13) rfl (by kernel_rfl) rfl rfl rfl rfl (gv_t _) (fun hg859 _ => (rd_add64 (gO_t h861 hg859) (gvx rfl hg859) (gvx rfl hg859))) ?_
                  refine s_rpg (i := 14) rfl (by kernel_rfl) rfl rfl rfl rfl (gv_t _) (fun hg863 _ => (rd_move rfl)) ?_
                  refine s_rpg (i := 15) rfl (by kernel_rfl) rfl rfl rfl rfl (gv_t _) (fun hg864 _ => (rd_move rfl)) ?_
                  obtain ⟨x866, h867, q868⟩ := ob q862; clear q862
                  refine s_rpg (i := 16) rfl (by kernel_rfl) rfl rfl rfl rfl (gv_t _) (fun hg865 _ => (rd_index tS22 (gvx rfl hg865) (gvx rfl hg865) (hv1.of_old hm845) (gO_t h867 hg865))) ?_
                  refine s_rdg (i := 17) rfl (by kernel_rfl) rfl rfl rfl rfl (gv_t _) (fun hg869 => (fun _ hS => by rw [hS]; exact (rd_ld1 tO3 (gvx rfl hg869) ((hv1.of_old hm845).cells (gO_t h867 hg869)) (off := 0) rfl))) rfl ?_
                  refine s_rpg (i := 18) rfl (by kernel_rfl) rfl rfl rfl rfl (gv_t _) (fun hg870 _ => (rd_fld tF52_3 rfl)) ?_
                  refine s_rdg (i := 19) rfl (by kernel_rfl) rfl rfl rfl rfl (gv_t _) (fun hg871 => (fun _ hS => by rw [hS]; exact (rd_ld1 tO3 (gvx rfl hg871) (hm845.blk 0 rfl) (off := 3) rfl))) rfl ?_
                  obtain ⟨x873, h874, q875⟩ := ob q868; clear q868
                  refine s_rpg (i := 20) rfl (by kernel_rfl) rfl rfl rfl rfl (gv_t _) (fun hg872 _ => (rd_add64 (gO_t h874 hg872) (gvx rfl hg872) (gvx rfl hg872))) ?_
                  refine s_rpg (i := 21) rfl (by kernel_rfl) rfl rfl rfl rfl (gv_t _) (fun hg876 _ => (rd_move rfl)) ?_
                  obtain ⟨r878, h879, q880⟩ := ob q875; clear q875
                  refine s_efg (i := 22) rfl (by kernel_rfl) rfl rfl rfl rfl (R := (fun v w' => v = gV (!decide (x835.Side = 0)) (Value.bool r878) ∧ Mem w844 No [] w')) (gv_t _) (fun hg877 => (ef_call tf40 (evc (gvx rfl hg877) (evc (gvx rfl hg877) (evc (gvx rfl hg877) (evc (gvx rfl hg877) (evc (gvx rfl hg877) (evc (gvx rfl hg877) evn)))))) (r24_Serves_ok (gO_t h879 hg877) (hv4.to_call hm845) (hv3.to_call hm845))).mono (by rintro _ _ ⟨rfl, q⟩; exact ⟨(gV_t hg877).symm, q⟩)) (fun q => ⟨(gV_f q).symm, Mem.nil _⟩) (by decide) (fun _ _ _ q => absurd q (by decide)) ?_
                  rintro _ w882 ⟨rfl, hm881⟩
                  have hm883 := hm845.call hm881
                  refine s_rpg (i := 23) rfl (by kernel_rfl) rfl rfl rfl rfl (gv_t _) (fun hg884 _ => (rd_not (gvx rfl hg884))) ?_
                  refine s_rp (i := 24) rfl (by kernel_rfl) rfl (fun _ => (rd_and rfl (fun hc885 => (gvx rfl hc885)))) ?_
                  refine s_nil (by kernel_rfl) ?_
                  refine qn_then ?_
                  obtain ⟨hb886, q887⟩ | ⟨hb886, q887⟩ := oi q880 <;> clear q880
                  · refine cw_t rfl hb886 ?_
                    refine cw_seq ?_
                    refine cw_region ?_
                    refine t_rd rfl (rd_assign rfl) ?_
                    refine t_rd rfl (rd_assign rfl) ?_
                    refine rwt_nil ?_
                    refine qn_then ?_
                    refine cw_ret ?_
                    refine qr_block (qr_then (qr_then ?_))
                    obtain rfl := hr816 _ (os q887)
                    refine .inl (⟨_, rfl, ⟨rfl, ?_⟩⟩)
                    exact ret2 rfl rfl rfl ⟨rfl, (hm883.pick [] (by decide) rfl)⟩
                  · refine cw_f rfl hb886 ?_
                    refine cw_skip ?_
                    refine qn_block (qn_then ?_)
                    refine cw_region ?_
                    refine t_rd rfl (rd_move rfl) ?_
                    obtain ⟨x888, h889, q890⟩ := ob q887; clear q887
                    refine t_rd rfl (rd_add64 h889 rfl rfl) ?_
                    refine t_rd rfl (rd_assign rfl) ?_
                    refine rwt_nil ?_
                    refine qn_then ?_
                    refine ⟨_, (os q890), (by repeat (first | exact Sub.nil _ | refine Sub.cons rfl ?_)), (hm883.pick [] (by decide) rfl)⟩
                · refine cw_f rfl hb828 ?_
                  refine cw_exit ?_
                  refine qx_then (qx_then ?_)
                  obtain rfl := hr816 _ (os q829)
                  exact .inr (⟨_, rfl, ⟨rfl, (by repeat (first | exact Sub.nil _ | refine Sub.cons rfl ?_)), (hm822.pick [] (by decide) rfl)⟩⟩)
              · skip
                intro e env891 w892 hX893
                rcases hX893 with hX893 | hX893
                · obtain ⟨p895, rfl, hX893⟩ := hX893
                  obtain ⟨rfl, hq897⟩ := hX893
                  obtain rfl := hr664 _ (os q819)
                  exact qr_block (qr_block (qr_then (qr_then (.inl (⟨_, rfl, ⟨rfl, hq897⟩⟩)))))
                · obtain ⟨p898, rfl, hX893⟩ := hX893
                  obtain ⟨rfl, hs899, hm900⟩ := hX893
                  refine qx_same (qn_block (qn_then ?_))
                  refine cw_sub hs899 ?_
                  refine cw_region ?_
                  refine t_rd rfl (rd_move rfl) ?_
                  obtain ⟨x901, h902, q903⟩ := ob q819; clear q819
                  refine t_rd rfl (rd_add64 h902 rfl rfl) ?_
                  refine t_rd rfl (rd_assign rfl) ?_
                  refine rwt_nil ?_
                  refine qn_then ?_
                  refine ⟨_, (os q903), (by repeat (first | exact Sub.nil _ | refine Sub.cons rfl ?_)), (hm900.pick [] (by decide) rfl)⟩
            · refine cw_f rfl hb671 ?_
              refine cw_exit ?_
              refine qx_then (qx_then ?_)
              obtain rfl := hr664 _ (os q672)
              exact .inr (⟨_, rfl, ⟨rfl, (by repeat (first | exact Sub.nil _ | refine Sub.cons rfl ?_)), (hm670.pick [] (by decide) rfl)⟩⟩)
          · skip
            intro e env904 w905 hX906
            rcases hX906 with hX906 | hX906
            · obtain ⟨p908, rfl, hX906⟩ := hX906
              obtain ⟨rfl, hq910⟩ := hX906
              exact qr_block (qr_then ((by have e := os q667; subst e; exact hq910)))
            · obtain ⟨p911, rfl, hX906⟩ := hX906
              obtain ⟨rfl, hs912, hm913⟩ := hX906
              refine qx_same (qn_then ?_)
              refine cw_sub hs912 ?_
              refine cw_seq ?_
              refine cw_region ?_
              refine t_rd rfl (rd_assign rfl) ?_
              refine t_rd rfl (rd_assign rfl) ?_
              refine rwt_nil ?_
              refine qn_then ?_
              refine cw_ret ?_
              obtain rfl := os q667
              exact ret2 rfl rfl rfl ⟨rfl, (hm913.pick [] (by decide) rfl)⟩

theorem yardgen_SameCommands_ok {N : Nat} {a0 : List T_Command} {a1 : List T_Command} {res : Bool} (h : yardgen_SameCommands N a0 a1 = some res) {w : World} {v0 : Value} {v1 : Value} (hv0 : Sl (Old w No) w v0 a0) (hv1 : Sl (Old w No) w v1 a1) :
    CallsR Try.prog 27 [v0, v1] w (fun u w' => u = (Value.bool res) ∧ Mem w No [] w') := by
  unfold yardgen_SameCommands at h
  refine fn_ok Try.func27 rfl rfl rfl ?_
  have hm0 := Mem.nil w
  refine cw_seq ?_
  refine cw_region ?_
  refine t_rd rfl (rd_assign rfl) ?_
  refine rwt_nil ?_
  refine qn_then ?_
  refine cw_seq ?_
  refine cw_seq ?_
  refine cw_region ?_
  refine t_rd rfl (rd_move rfl) ?_
  refine t_rd rfl (rd_lenS tS25 rfl (hv0.of_old hm0)) ?_
  refine t_rd rfl (rd_move rfl) ?_
  refine t_rd rfl (rd_lenS tS25 rfl (hv1.of_old hm0)) ?_
  refine t_rd rfl (rd_neq rfl rfl) ?_
  refine rwt_nil ?_
  refine qn_then ?_
  obtain ⟨hb1, q2⟩ | ⟨hb1, q2⟩ := oi h <;> clear h
  · refine cw_t rfl hb1 ?_
    refine cw_seq ?_
    refine cw_region ?_
    refine t_rd rfl (rd_assign rfl) ?_
    refine rwt_nil ?_
    refine qn_then ?_
    refine cw_ret ?_
    refine qr_then ?_
    obtain rfl := os q2
    exact ret1 rfl rfl ⟨rfl, (hm0.pick [] (by decide) rfl)⟩
  · refine cw_f rfl hb1 ?_
    refine cw_skip ?_
    refine qn_then ?_
    refine cw_seq ?_
    refine cw_seq ?_
    refine cw_region ?_
    refine t_rd rfl (rd_assign rfl) ?_
    refine rwt_nil ?_
    refine qn_then ?_
    refine cw_block ?_
    obtain ⟨r45, hit46, q47⟩ := ob q2; clear q2
    refine cw_loop2 (I := fun q envq wq => Sub [(0, v0), (1, v1), (5, (Value.int .i64 q))] envq ∧ Mem w No [] wq) (X := fun eq envq wq => (∃ p48, r45 = (Sum.inl p48) ∧ eq = .ret ∧ retQ Try.prog 26 Try.f27 (fun u w' => u = (Value.bool p48) ∧ Mem w No [] w') .ret envq wq) ∨ (∃ p49, r45 = (Sum.inr p49) ∧ eq = .exit 0 ∧ Sub [] envq ∧ Mem w No [] wq)) hit46 ⟨(by repeat (first | exact Sub.nil _ | refine Sub.cons rfl ?_)), (hm0.pick [] (by decide) rfl)⟩ ?_ ?_
    · rintro i38 x40 env41 w42 hf43 hr44 ⟨hs_, hm_⟩
      have hs_ : Sub [(0, v0), (1, v1), (5, (Value.int .i64 i38))] env41 := hs_
      have hm50 : Mem w No [] w42 := hm_
      refine cw_sub hs_ ?_
      clear hs_ hm_ q47
      have h : yardgen_SameCommands_l1 N a0 a1 i38 = some x40 := hf43
      clear hf43
      refine cw_seq ?_
      refine cw_seq ?_
      refine cw_region ?_
      refine t_rd rfl (rd_move rfl) ?_
      refine t_rd rfl (rd_move rfl) ?_
      refine t_rd rfl (rd_lenS tS25 rfl (hv0.of_old hm50)) ?_
      refine t_rd rfl (rd_lss rfl rfl) ?_
      refine rwt_nil ?_
      refine qn_then ?_
      obtain ⟨hb51, q52⟩ | ⟨hb51, q52⟩ := oi h <;> clear h
      · refine cw_t rfl hb51 ?_
        refine cw_skip ?_
        refine qn_then ?_
        refine cw_seq ?_
        refine cw_block ?_
        refine cw_seq ?_
        obtain ⟨w54, he56⟩ : ∃ q, q = w42.drew := ⟨_, rfl⟩
        have hm55 := hm50.drew; rw [← he56] at hm55
        refine cw_region_s (fun q => q = w54) (cls [] []) mixed ?_
        rintro _ rfl; rw [← he56]
        refine s_rp (i := 0) rfl (by kernel_rfl) rfl (fun _ => (rd_move rfl)) ?_
        refine s_rp (i := 1) rfl (by kernel_rfl) rfl (fun _ => (rd_move rfl)) ?_
        obtain ⟨x57, h58, q59⟩ := ob q52; clear q52
        refine s_rp (i := 2) rfl (by kernel_rfl) rfl (fun _ => (rd_index tS25 rfl rfl (hv0.of_old hm55) h58)) ?_
        refine s_rd (i := 3) rfl (by kernel_rfl) rfl (fun _ hS => by rw [hS]; exact (rd_ld tA41 rfl ((hv0.of_old hm55).cells h58) rfl)) rfl ?_
        refine s_rp (i := 4) rfl (by kernel_rfl) rfl (fun _ => (rd_move rfl)) ?_
        refine s_rp (i := 5) rfl (by kernel_rfl) rfl (fun _ => (rd_move rfl)) ?_
        obtain ⟨x60, h61, q62⟩ := ob q59; clear q59
        refine s_rp (i := 6) rfl (by kernel_rfl) rfl (fun _ => (rd_index tS25 rfl rfl (hv1.of_old hm55) h61)) ?_
        refine s_rd (i := 7) rfl (by kernel_rfl) rfl (fun _ hS => by rw [hS]; exact (rd_ld tA41 rfl ((hv1.of_old hm55).cells h61) rfl)) rfl ?_
        refine s_rp (i := 8) rfl (by kernel_rfl) rfl (fun _ => (rd_neqs eqs41 (a := x57) (b := x60) rfl rfl)) ?_
        refine s_nil (by kernel_rfl) ?_
        refine qn_then ?_
        obtain ⟨hb63, q64⟩ | ⟨hb63, q64⟩ := oi q62 <;> clear q62
        · refine cw_t rfl hb63 ?_
          refine cw_seq ?_
          refine cw_region ?_
          refine t_rd rfl (rd_assign rfl) ?_
          refine rwt_nil ?_
          refine qn_then ?_
          refine cw_ret ?_
          refine qr_block (qr_then (qr_then ?_))
          obtain rfl := hr44 _ (os q64)
          refine .inl (⟨_, rfl, ⟨rfl, ?_⟩⟩)
          exact ret1 rfl rfl ⟨rfl, (hm55.pick [] (by decide) rfl)⟩
        · refine cw_f rfl hb63 ?_
          refine cw_skip ?_
          refine qn_block (qn_then ?_)
          refine cw_region ?_
          refine t_rd rfl (rd_move rfl) ?_
          obtain ⟨x65, h66, q67⟩ := ob q64; clear q64
          refine t_rd rfl (rd_add64 h66 rfl rfl) ?_
          refine t_rd rfl (rd_assign rfl) ?_
          refine rwt_nil ?_
          refine qn_then ?_
          refine ⟨_, (os q67), (by repeat (first | exact Sub.nil _ | refine Sub.cons rfl ?_)), (hm55.pick [] (by decide) rfl)⟩
      · refine cw_f rfl hb51 ?_
        refine cw_exit ?_
        refine qx_then (qx_then ?_)
        obtain rfl := hr44 _ (os q52)
        exact .inr (⟨_, rfl, ⟨rfl, (by repeat (first | exact Sub.nil _ | refine Sub.cons rfl ?_)), (hm50.pick [] (by decide) rfl)⟩⟩)
    · skip
      intro e env68 w69 hX70
      rcases hX70 with hX70 | hX70
      · obtain ⟨p72, rfl, hX70⟩ := hX70
        obtain ⟨rfl, hq74⟩ := hX70
        exact qr_block (qr_then ((by have e := os q47; subst e; exact hq74)))
      · obtain ⟨p75, rfl, hX70⟩ := hX70
        obtain ⟨rfl, hs76, hm77⟩ := hX70
        refine qx_same (qn_then ?_)
        refine cw_sub hs76 ?_
        refine cw_seq ?_
        refine cw_region ?_
        refine t_rd rfl (rd_assign rfl) ?_
        refine rwt_nil ?_
        refine qn_then ?_
        refine cw_ret ?_
        obtain rfl := os q47
        exact ret1 rfl rfl ⟨rfl, (hm77.pick [] (by decide) rfl)⟩

theorem law24_exact_ok {N : Nat} {a0 : List (List T_Span)} {a1 : List Int} {a2 : Int} {a3 : List T_Throw} {a4 : List T_Command} {res : Bool} (h : law24_exact N a0 a1 a2 a3 a4 = some res) {w : World} {v0 : Value} {v1 : Value} {v3 : Value} {v4 : Value} (hv0 : Sl (Old w No) w v0 a0) (hv1 : Sl (Old w No) w v1 a1) (hv3 : Sl (Old w No) w v3 a3) (hv4 : Sl (Old w No) w v4 a4) :
    CallsR Try.prog 14 [v0, v1, (Value.int .i64 a2), v3, v4] w (fun u w' => u = (Value.bool res) ∧ Mem w No [] w') := by
  unfold law24_exact at h
  refine fn_ok Try.func14 rfl rfl rfl ?_
  obtain ⟨zs_a0, hn0⟩ := hv0.nest
  have hm0 := Mem.nil w
  refine cw_seq ?_
  refine cw_region ?_
  refine t_rd rfl (rd_assign rfl) ?_
  refine rwt_nil ?_
  refine qn_then ?_
  refine cw_seq ?_
  refine cw_region ?_
  refine t_rd rfl (rd_move rfl) ?_
  refine t_rd rfl (rd_move rfl) ?_
  refine t_rd rfl (rd_move rfl) ?_
  refine t_rd rfl (rd_move rfl) ?_
  obtain ⟨r1, h2, q3⟩ := ob h; clear h
  refine t_ef rfl (ef_call tf16 rfl (throwplan_Commands_ok h2 ((hn0.to_call hm0).sl) (hv1.to_call hm0) (hv3.to_call hm0))) ?_
  rintro _ w6 ⟨v4, e_, hm5⟩
  obtain rfl := e_.symm
  have hm7 := hm0.call hm5
  refine t_rd rfl (rd_move rfl) ?_
  refine t_rd rfl (rd_extract rfl rfl) ?_
  refine t_rd rfl (rd_extract rfl rfl) ?_
  refine t_rd rfl (rd_assign rfl) ?_
  refine t_rd rfl (rd_assign rfl) ?_
  refine rwt_nil ?_
  refine qn_then ?_
  refine cw_seq ?_
  refine cw_region ?_
  refine t_rd rfl (rd_move rfl) ?_
  refine t_rd rfl (rd_move rfl) ?_
  refine t_rd rfl (rd_move rfl) ?_
  refine t_rd rfl (rd_move rfl) ?_
  obtain ⟨r8, h9, q10⟩ := ob q3; clear q3
  refine t_ef rfl (ef_call tf10 rfl (r24_Commands_ok h9 ((hn0.to_call hm7).sl) (hv1.to_call hm7) (hv3.to_call hm7))) ?_
  rintro _ w13 ⟨v11, e_, hm12⟩
  obtain rfl := e_.symm
  have hm14 := hm7.call hm12
  refine t_rd rfl (rd_move rfl) ?_
  refine t_rd rfl (rd_extract rfl rfl) ?_
  refine t_rd rfl (rd_extract rfl rfl) ?_
  refine t_rd rfl (rd_assign rfl) ?_
  refine t_rd rfl (rd_assign rfl) ?_
  refine rwt_nil ?_
  refine qn_then ?_
  refine cw_seq ?_
  refine cw_region ?_
  refine t_rd rfl (rd_move rfl) ?_
  refine t_rd rfl (rd_move rfl) ?_
  refine t_rd rfl (rd_move rfl) ?_
  refine t_rd rfl (rd_move rfl) ?_
  refine t_rd rfl (rd_move rfl) ?_
  obtain ⟨r15, h16, q17⟩ := ob q10; clear q10
  refine t_ef rfl (ef_call tf17 rfl (throwplan_Safe_ok h16 ((hn0.to_call hm14).sl) (hv1.to_call hm14) (hv3.to_call hm14) (hv4.to_call hm14))) ?_
  rintro _ w19 ⟨e_, hm18⟩
  obtain rfl := e_.symm
  have hm20 := hm14.call hm18
  refine t_rd rfl (rd_move rfl) ?_
  refine t_rd rfl (rd_extract rfl rfl) ?_
  refine t_rd rfl (rd_extract rfl rfl) ?_
  refine t_rd rfl (rd_assign rfl) ?_
  refine t_rd rfl (rd_assign rfl) ?_
  refine rwt_nil ?_
  refine qn_then ?_
  refine cw_seq ?_
  refine cw_region ?_
  refine t_rd rfl (rd_move rfl) ?_
  refine t_rd rfl (rd_move rfl) ?_
  refine t_rd rfl (rd_move rfl) ?_
  refine t_rd rfl (rd_move rfl) ?_
  refine t_rd rfl (rd_move rfl) ?_
  obtain ⟨r21, h22, q23⟩ := ob q17; clear q17
  refine t_ef rfl (ef_call tf26 rfl (r24_Safe_ok h22 ((hn0.to_call hm20).sl) (hv1.to_call hm20) (hv3.to_call hm20) (hv4.to_call hm20))) ?_
  rintro _ w25 ⟨e_, hm24⟩
  obtain rfl := e_.symm
  have hm26 := hm20.call hm24
  refine t_rd rfl (rd_move rfl) ?_
  refine t_rd rfl (rd_extract rfl rfl) ?_
  refine t_rd rfl (rd_extract rfl rfl) ?_
  refine t_rd rfl (rd_assign rfl) ?_
  refine t_rd rfl (rd_assign rfl) ?_
  refine rwt_nil ?_
  refine qn_then ?_
  refine cw_seq ?_
  refine cw_region ?_
  refine t_rd rfl (rd_move rfl) ?_
  refine t_rd rfl (rd_move rfl) ?_
  obtain ⟨r27, h28, q29⟩ := ob q23; clear q23
  refine t_ef rfl (ef_call tf27 rfl (yardgen_SameCommands_ok h28 (hm26.sl_call 1 rfl) (hm26.sl_call 0 rfl))) ?_
  rintro _ w31 ⟨e_, hm30⟩
  obtain rfl := e_.symm
  have hm32 := hm26.call hm30
  refine t_rd rfl (rd_move rfl) ?_
  refine t_rdg rfl rfl rfl rfl (gv_t _) (fun hg33 => (rd_move rfl)) ?_
  refine t_rdg rfl rfl rfl rfl (gv_t _) (fun hg34 => (rd_move rfl)) ?_
  refine t_rdg rfl rfl rfl rfl (gv_t _) (fun hg35 => (rd_eql (gvx rfl hg35) (gvx rfl hg35))) ?_
  refine t_rd rfl (rd_and rfl (fun hc36 => (gvx rfl hc36))) ?_
  refine t_rd rfl (rd_move rfl) ?_
  refine t_rdg rfl rfl rfl rfl (gv_t _) (fun hg37 => (rd_move rfl)) ?_
  refine t_rdg rfl rfl rfl rfl (gv_t _) (fun hg38 => (rd_move rfl)) ?_
  refine t_rdg rfl rfl rfl rfl (gv_t _) (fun hg39 => (rd_eqlb tB4 (gvx rfl hg39) (gvx rfl hg39))) ?_
  refine t_rd rfl (rd_and rfl (fun hc40 => (gvx rfl hc40))) ?_
  refine t_rd rfl (rd_move rfl) ?_
  refine t_rdg rfl rfl rfl rfl (gv_t _) (fun hg41 => (rd_move rfl)) ?_
  refine t_rdg rfl rfl rfl rfl (gv_t _) (fun hg42 => (rd_move rfl)) ?_
  refine t_rdg rfl rfl rfl rfl (gv_t _) (fun hg43 => (rd_eql (gvx rfl hg43) (gvx rfl hg43))) ?_
  refine t_rd rfl (rd_and rfl (fun hc44 => (gvx rfl hc44))) ?_
  refine t_rd rfl (rd_assign rfl) ?_
  refine rwt_nil ?_
  refine qn_then ?_
  refine cw_ret ?_
  obtain rfl := os q29
  exact ret1 rfl rfl ⟨rfl, (hm32.pick [] (by decide) rfl)⟩

theorem law24_sane_ok {N : Nat} {res : Bool} (h : law24_sane N = some res) {w : World}   :
    CallsR Try.prog 15 [] w (fun u w' => u = (Value.bool res) ∧ Mem w No [] w') := by
  unfold law24_sane at h
  refine fn_ok Try.func15 rfl rfl rfl ?_
  have hm0 := Mem.nil w
  refine cw_seq ?_
  refine cw_region ?_
  refine t_rd rfl (rd_assign rfl) ?_
  refine rwt_nil ?_
  refine qn_then ?_
  refine cw_seq ?_
  refine cw_region ?_
  refine t_rd rfl (rd_build (cs := #[(Value.int .i64 2), (Value.int .i64 2), (Value.int .i64 3000), (Value.int .i64 9000)]) rfl (by kernel_rfl)) ?_
  refine t_ef rfl (ef_bslice (l := ([(T_Span.mk 2 2 3000 9000)] : List T_Span)) hm0 tS34 rfl (cs := #[(Value.int .i64 2), (Value.int .i64 2), (Value.int .i64 3000), (Value.int .i64 9000)]) (by unfold bsl; kernel_rfl) rfl rfl) ?_
  intro v1 w3 hm2
  refine t_rd rfl (rd_build (cs := #[(Value.int .i64 2), (Value.int .i64 1), (Value.int .i64 3000), (Value.int .i64 9000)]) rfl (by kernel_rfl)) ?_
  refine t_ef rfl (ef_bslice (l := ([(T_Span.mk 2 1 3000 9000)] : List T_Span)) hm2 tS34 rfl (cs := #[(Value.int .i64 2), (Value.int .i64 1), (Value.int .i64 3000), (Value.int .i64 9000)]) (by unfold bsl; kernel_rfl) rfl rfl) ?_
  intro v4 w6 hm5
  obtain ⟨zd7, ez8⟩ : ∃ z : Hdr, z.1 = v1 := ⟨⟨v1, sl_one (hm5.sl 1 rfl)⟩, rfl⟩
  obtain ⟨zd9, ez10⟩ : ∃ z : Hdr, z.1 = v4 := ⟨⟨v4, sl_one (hm5.sl 0 rfl)⟩, rfl⟩
  refine t_ef rfl (ef_bslice (l := ([zd7, zd9] : List Hdr)) hm5 tS23 rfl (cs := #[v1, v4]) (by obtain ⟨_, _, e⟩ : ∃ A c, v1 = Value.slice A (List.length [(T_Span.mk 2 2 3000 9000)]) c := ((hm5.sl 1 rfl)).val; rw [e]; clear e; obtain ⟨_, _, e⟩ : ∃ A c, v4 = Value.slice A (List.length [(T_Span.mk 2 1 3000 9000)]) c := ((hm5.sl 0 rfl)).val; rw [e]; clear e; unfold bsl; kernel_rfl) (by show [zd7.1, zd9.1] = [v1, v4]; rw [ez8, ez10]) rfl) ?_
  intro v11 w13 hm12
  refine t_rd rfl (rd_assign rfl) ?_
  refine rwt_nil ?_
  refine qn_then ?_
  refine cw_seq ?_
  refine cw_region ?_
  refine t_rd rfl (rd_move rfl) ?_
  refine t_ef rfl (ef_bslice (l := ([0, 10000] : List Int)) hm12 tS22 rfl (cs := #[(Value.int .i64 0), (Value.int .i64 10000)]) (by unfold bsl; kernel_rfl) rfl rfl) ?_
  intro v14 w16 hm15
  obtain ⟨r17, h18, q19⟩ := ob h; clear h
  refine t_ef rfl (ef_call tf16 rfl (throwplan_Commands_ok h18 ((Nl.mk (hm15.sl_call 1 rfl) (Rows.cons (hm15.sl_call 3 rfl) ez8 (Rows.cons (hm15.sl_call 2 rfl) ez10 Rows.nil))).sl) (hm15.sl_call 0 rfl) (Sl.nil _ _))) ?_
  rintro _ w22 ⟨v20, e_, hm21⟩
  obtain rfl := e_.symm
  have hm23 := hm15.call hm21
  refine t_rd rfl (rd_move rfl) ?_
  refine t_rd rfl (rd_extract rfl rfl) ?_
  refine t_rd rfl (rd_extract rfl rfl) ?_
  refine t_rd rfl (rd_assign rfl) ?_
  refine t_rd rfl (rd_assign rfl) ?_
  refine rwt_nil ?_
  refine qn_then ?_
  refine cw_seq ?_
  refine cw_region ?_
  refine t_rd rfl (rd_move rfl) ?_
  refine t_ef rfl (ef_bslice (l := ([0, 10000] : List Int)) hm23 tS22 rfl (cs := #[(Value.int .i64 0), (Value.int .i64 10000)]) (by unfold bsl; kernel_rfl) rfl rfl) ?_
  intro v24 w26 hm25
  refine t_rd rfl (rd_move rfl) ?_
  obtain ⟨r27, h28, q29⟩ := ob q19; clear q19
  refine t_ef rfl (ef_call tf17 rfl (throwplan_Safe_ok h28 ((Nl.mk (hm25.sl_call 3 rfl) (Rows.cons (hm25.sl_call 5 rfl) ez8 (Rows.cons (hm25.sl_call 4 rfl) ez10 Rows.nil))).sl) (hm25.sl_call 0 rfl) (Sl.nil _ _) (hm25.sl_call 1 rfl))) ?_
  rintro _ w31 ⟨e_, hm30⟩
  obtain rfl := e_.symm
  have hm32 := hm25.call hm30
  refine t_rd rfl (rd_move rfl) ?_
  refine t_rd rfl (rd_extract rfl rfl) ?_
  refine t_rd rfl (rd_extract rfl rfl) ?_
  refine t_rd rfl (rd_assign rfl) ?_
  refine t_rd rfl (rd_assign rfl) ?_
  refine rwt_nil ?_
  refine qn_then ?_
  refine cw_seq ?_
  refine cw_region ?_
  refine t_rd rfl (rd_move rfl) ?_
  refine t_ef rfl (ef_bslice (l := ([0, 7000] : List Int)) hm32 tS22 rfl (cs := #[(Value.int .i64 0), (Value.int .i64 7000)]) (by unfold bsl; kernel_rfl) rfl rfl) ?_
  intro v33 w35 hm34
  obtain ⟨r36, h37, q38⟩ := ob q29; clear q29
  refine t_ef rfl (ef_call tf16 rfl (throwplan_Commands_ok h37 ((Nl.mk (hm34.sl_call 4 rfl) (Rows.cons (hm34.sl_call 6 rfl) ez8 (Rows.cons (hm34.sl_call 5 rfl) ez10 Rows.nil))).sl) (hm34.sl_call 0 rfl) (Sl.nil _ _))) ?_
  rintro _ w41 ⟨v39, e_, hm40⟩
  obtain rfl := e_.symm
  have hm42 := hm34.call hm40
  refine t_rd rfl (rd_move rfl) ?_
  refine t_rd rfl (rd_extract rfl rfl) ?_
  refine t_rd rfl (rd_extract rfl rfl) ?_
  refine t_rd rfl (rd_assign rfl) ?_
  refine t_rd rfl (rd_assign rfl) ?_
  refine rwt_nil ?_
  refine qn_then ?_
  refine cw_seq ?_
  refine cw_region ?_
  refine t_rd rfl (rd_move rfl) ?_
  refine t_rd rfl (rd_eql rfl rfl) ?_
  refine t_rd rfl (rd_move rfl) ?_
  refine t_rdg rfl rfl rfl rfl (gv_t _) (fun hg43 => (rd_move rfl)) ?_
  refine t_rdg rfl rfl rfl rfl (gv_t _) (fun hg44 => (rd_build (cs := #[(Value.int .i64 0), (Value.int .i64 2), (Value.int .i64 2), (Value.int .i64 0)]) rfl (by kernel_rfl))) ?_
  refine t_rdg rfl rfl rfl rfl (gv_t _) (fun hg45 => (rd_build (cs := #[(Value.int .i64 9000), (Value.int .i64 2), (Value.int .i64 1), (Value.int .i64 1)]) rfl (by kernel_rfl))) ?_
  obtain ⟨hb47, q48⟩ | ⟨hb47, q48⟩ := oi q38 <;> clear q38
  · skip
    refine t_efg rfl rfl rfl rfl (gv_t _) (fun _ => (ef_bslice (l := ([(T_Command.mk 0 2 2 0), (T_Command.mk 9000 2 1 1)] : List T_Command)) hm42 tS25 (epc (gvx rfl hb47) (epc (gvx rfl hb47) epn)) (cs := #[(Value.int .i64 0), (Value.int .i64 2), (Value.int .i64 2), (Value.int .i64 0), (Value.int .i64 9000), (Value.int .i64 2), (Value.int .i64 1), (Value.int .i64 1)]) (by unfold bsl; kernel_rfl) rfl rfl)) (fun q => bcontra q hb47) ?_
    intro v50 w52 hm51
    obtain ⟨r54, h55, q56⟩ := ob q48; clear q48
    refine t_efg rfl rfl rfl rfl (gv_t _) (fun _ => (ef_call tf27 (evc (gvx rfl hb47) (evc rfl evn)) (yardgen_SameCommands_ok h55 (hm51.sl_call 4 rfl) (hm51.sl_call 0 rfl)))) (fun q => bcontra q hb47) ?_
    rintro _ w58 ⟨e_, hm57⟩
    obtain rfl := e_.symm
    have hm59 := hm51.call hm57
    refine t_rd rfl (rd_and rfl (fun hc60 => rfl)) ?_
    refine t_rd rfl (rd_move rfl) ?_
    refine t_rdg rfl rfl rfl rfl (gv_t _) (fun hg61 => (rd_move rfl)) ?_
    refine t_rdg rfl rfl rfl rfl (gv_t _) (fun hg62 => (rd_eql (gvx rfl hg62) rfl)) ?_
    refine t_rd rfl (rd_and rfl (fun hc63 => (gvx rfl hc63))) ?_
    refine t_rd rfl (rd_move rfl) ?_
    refine t_rdg rfl rfl rfl rfl (gv_t _) (fun hg64 => (rd_move rfl)) ?_
    refine t_rd rfl (rd_and rfl (fun hc65 => (gvx rfl hc65))) ?_
    refine t_rd rfl (rd_move rfl) ?_
    refine t_rdg rfl rfl rfl rfl (gv_t _) (fun hg66 => (rd_move rfl)) ?_
    refine t_rdg rfl rfl rfl rfl (gv_t _) (fun hg67 => (rd_eql (gvx rfl hg67) rfl)) ?_
    refine t_rd rfl (rd_and rfl (fun hc68 => (gvx rfl hc68))) ?_
    refine t_rd rfl (rd_assign rfl) ?_
    refine rwt_nil ?_
    refine qn_then ?_
    refine cw_ret ?_
    obtain rfl := os q56
    exact ret1 rfl rfl ⟨rfl, (hm59.pick [] (by decide) rfl)⟩
  · skip
    refine t_efg rfl rfl rfl rfl (R := fun v w' => v = undef ∧ w' = w41) (gv_t _) (fun hg69 => bcontra hb47 hg69) (fun _ => ⟨rfl, rfl⟩) ?_
    rintro v_ w_ ⟨e1_, e2_⟩; rw [e1_, e2_]; clear e1_ e2_ v_ w_
    refine t_efg rfl rfl rfl rfl (R := fun v w' => v = undef ∧ w' = w41) (gv_t _) (fun hg70 => bcontra hb47 hg70) (fun _ => ⟨rfl, rfl⟩) ?_
    rintro v_ w_ ⟨e1_, e2_⟩; rw [e1_, e2_]; clear e1_ e2_ v_ w_
    refine t_rd rfl (rd_and (b := false) rfl (fun hc71 => bcontra hb47 hc71)) ?_
    refine t_rd rfl (rd_move rfl) ?_
    refine t_rdg rfl rfl rfl rfl (gv_t _) (v := undef) (fun hg72 => (bcontra (bandF hb47) hg72)) ?_
    refine t_rdg rfl rfl rfl rfl (gv_t _) (v := undef) (fun hg73 => (bcontra (bandF hb47) hg73)) ?_
    refine t_rd rfl (rd_and (b := false) rfl (fun hc74 => bcontra (bandF hb47) hc74)) ?_
    refine t_rd rfl (rd_move rfl) ?_
    refine t_rdg rfl rfl rfl rfl (gv_t _) (v := undef) (fun hg75 => (bcontra (bandF (bandF hb47)) hg75)) ?_
    refine t_rd rfl (rd_and (b := false) rfl (fun hc76 => bcontra (bandF (bandF hb47)) hc76)) ?_
    refine t_rd rfl (rd_move rfl) ?_
    refine t_rdg rfl rfl rfl rfl (gv_t _) (v := undef) (fun hg77 => (bcontra (bandF (bandF (bandF hb47))) hg77)) ?_
    refine t_rdg rfl rfl rfl rfl (gv_t _) (v := undef) (fun hg78 => (bcontra (bandF (bandF (bandF hb47))) hg78)) ?_
    refine t_rd rfl (rd_and (b := false) rfl (fun hc79 => bcontra (bandF (bandF (bandF hb47))) hc79)) ?_
    refine t_rd rfl (rd_assign rfl) ?_
    refine rwt_nil ?_
    refine qn_then ?_
    refine cw_ret ?_
    obtain rfl := os q48
    exact ret1 rfl rfl ⟨rfl, (hm42.pick [] (by decide) rfl)⟩

theorem law24_ThrowplanExact_ok {N : Nat} {a0 : List Int} {a1 : List (List T_Span)} {a2 : List Int} {a3 : List T_Throw} {a4 : List T_Command} {res : Bool} (h : law24_ThrowplanExact N a0 a1 a2 a3 a4 = some res) {w : World} {v0 : Value} {v1 : Value} {v2 : Value} {v3 : Value} {v4 : Value} (hv0 : Sl (Old w No) w v0 a0) (hv1 : Sl (Old w No) w v1 a1) (hv2 : Sl (Old w No) w v2 a2) (hv3 : Sl (Old w No) w v3 a3) (hv4 : Sl (Old w No) w v4 a4) :
    CallsR Try.prog 3 [v0, v1, v2, v3, v4] w (fun u w' => u = (Value.bool res) ∧ Mem w No [] w') := by
  unfold law24_ThrowplanExact at h
  refine fn_ok Try.func3 rfl rfl rfl ?_
  obtain ⟨zs_a1, hn1⟩ := hv1.nest
  have hm0 := Mem.nil w
  refine cw_seq ?_
  refine cw_region ?_
  refine t_rd rfl (rd_assign rfl) ?_
  refine rwt_nil ?_
  refine qn_then ?_
  refine cw_seq ?_
  refine cw_region ?_
  refine t_rd rfl (rd_move rfl) ?_
  obtain ⟨r1, h2, q3⟩ := ob h; clear h
  refine t_ef rfl (ef_call tf8 rfl (humpgen_New_ok h2 (hv0.to_call hm0))) ?_
  rintro _ w6 ⟨g4, e_, hm5⟩
  obtain rfl := e_.symm
  have hm7 := hm0.call hm5
  refine t_rd rfl (rd_assign rfl) ?_
  refine rwt_nil ?_
  refine qn_then ?_
  refine cw_seq ?_
  refine cw_seq ?_
  refine cw_region ?_
  refine t_rd rfl (rd_assign rfl) ?_
  refine rwt_nil ?_
  refine qn_then ?_
  refine cw_block ?_
  obtain ⟨r2447, hit2448, q2449⟩ := ob q3; clear q3
  refine cw_loop2 (I := fun q envq wq => Sub [(1, v1), (2, v2), (3, v3), (4, v4), (11, (Value.pointer (some ⟨g4, 0, none⟩))), (12, (Value.int .i64 q.1))] envq ∧ Mem w No [blk g4 55 [v0, (Value.int .i64 q.2)]] wq) (X := fun eq envq wq => (∃ p2450, r2447 = (Sum.inl p2450) ∧ eq = .ret ∧ retQ Try.prog 205 Try.f3 (fun u w' => u = (Value.bool p2450) ∧ Mem w No [] w') .ret envq wq) ∨ (∃ p2451, r2447 = (Sum.inr p2451) ∧ eq = .exit 0 ∧ Sub [(1, v1), (2, v2), (3, v3), (4, v4), (11, (Value.pointer (some ⟨g4, 0, none⟩)))] envq ∧ Mem w No [blk g4 55 [v0, (Value.int .i64 p2451)]] wq)) hit2448 ⟨(by repeat (first | exact Sub.nil _ | refine Sub.cons rfl ?_)), (hm7.pick [0] (by decide) rfl)⟩ ?_ ?_
  · rintro ⟨i2439, i2440⟩ x2442 env2443 w2444 hf2445 hr2446 ⟨hs_, hm_⟩
    have hs_ : Sub [(1, v1), (2, v2), (3, v3), (4, v4), (11, (Value.pointer (some ⟨g4, 0, none⟩))), (12, (Value.int .i64 i2439))] env2443 := hs_
    have hm2452 : Mem w No [blk g4 55 [v0, (Value.int .i64 i2440)]] w2444 := hm_
    refine cw_sub hs_ ?_
    clear hs_ hm_ q2449
    have h : law24_ThrowplanExact_l5 N a0 a4 i2439 i2440 = some x2442 := hf2445
    clear hf2445
    refine cw_seq ?_
    refine cw_seq ?_
    refine cw_region ?_
    refine t_rd rfl (rd_move rfl) ?_
    refine t_rd rfl (rd_lss rfl rfl) ?_
    refine rwt_nil ?_
    refine qn_then ?_
    obtain ⟨hb2453, q2454⟩ | ⟨hb2453, q2454⟩ := oi h <;> clear h
    · refine cw_t rfl hb2453 ?_
      refine cw_skip ?_
      refine qn_then ?_
      refine cw_seq ?_
      refine cw_block ?_
      refine cw_seq ?_
      refine cw_region ?_
      refine t_rd rfl (rd_move rfl) ?_
      obtain ⟨r2455, h2456, q2457⟩ := ob q2454; clear q2454
      refine t_ef rfl (ef_call tf9 rfl (law24_planned_ok h2456 (hv0.to_callT (k := 0) hm2452 rfl) (hm2452.get (k := 0) rfl))) ?_
      rintro _ w2463 ⟨zs2459, v2458, v2460, v2461, e_, hm2462⟩
      obtain rfl := e_.symm
      have hm2464 := hm2452.callT (k := 0) rfl (fun _ h => h) hm2462 (fun _ => Iff.rfl)
      refine t_rd rfl (rd_move rfl) ?_
      refine t_rd rfl (rd_extract rfl rfl) ?_
      refine t_rd rfl (rd_extract rfl rfl) ?_
      refine t_rd rfl (rd_extract rfl rfl) ?_
      refine t_rd rfl (rd_extract rfl rfl) ?_
      refine t_rd rfl (rd_assign rfl) ?_
      refine t_rd rfl (rd_assign rfl) ?_
      refine t_rd rfl (rd_assign rfl) ?_
      refine t_rd rfl (rd_assign rfl) ?_
      refine rwt_nil ?_
      refine qn_then ?_
      refine cw_seq ?_
      refine cw_region ?_
      refine t_rd rfl (rd_move rfl) ?_
      refine t_rd rfl (rd_move rfl) ?_
      refine t_rd rfl (rd_move rfl) ?_
      refine t_rd rfl (rd_move rfl) ?_
      obtain ⟨r2465, h2466, q2467⟩ := ob q2457; clear q2457
      refine t_ef rfl (ef_call tf10 rfl (r24_Commands_ok h2466 ((Nl.mk (hm2464.sl_call 0 rfl) (hm2464.rows_call 1 rfl)).sl) (hm2464.sl_call 2 rfl) (hm2464.sl_call 3 rfl))) ?_
      rintro _ w2470 ⟨v2468, e_, hm2469⟩
      obtain rfl := e_.symm
      have hm2471 := hm2464.call hm2469
      refine t_rd rfl (rd_move rfl) ?_
      refine t_rd rfl (rd_extract rfl rfl) ?_
      refine t_rd rfl (rd_extract rfl rfl) ?_
      refine t_rd rfl (rd_assign rfl) ?_
      refine t_rd rfl (rd_assign rfl) ?_
      refine rwt_nil ?_
      refine qn_then ?_
      refine cw_seq ?_
      refine cw_seq ?_
      refine cw_region ?_
      refine t_rd rfl (rd_move rfl) ?_
      refine rwt_nil ?_
      refine qn_then ?_
      obtain ⟨j3040, hit3041, q3042⟩ := ob q2467; clear q2467
      refine cw_join (X := fun eq envq wq => eq = .normal ∧ ∃ (v3034 : Value) (zs3035 : List Hdr) (v3038 : Value), Sub [(1, v1), (2, v2), (3, v3), (4, v4), (11, (Value.pointer (some ⟨g4, 0, none⟩))), (12, (Value.int .i64 i2439)), (13, v3034), (14, v2460), (15, (Value.int .i64 r2455.2.2.2.1)), (16, v3038), (17, v2468)] envq ∧ Mem w No [ownL 41 v2468 (j3040.2.2.2.2 : List T_Command), ownL 34 v3034 (zs3035 : List Hdr), rowsC 52 zs3035 (j3040.2.1 : List (List T_Span)) none, ownL 3 v2460 (j3040.2.2.1 : List Int), ownL 38 v3038 (j3040.2.2.2.1 : List T_Throw), blk g4 55 [v0, (Value.int .i64 j3040.1)]] wq) ?_ ?_
      · clear q3042
        refine cw_block ?_
        refine cw_seq ?_
        refine cw_region ?_
        refine t_rd rfl (rd_eql rfl rfl) ?_
        refine t_rd rfl (rd_assign rfl) ?_
        refine rwt_nil ?_
        refine qn_then ?_
        obtain ⟨hb3043, q3044⟩ | ⟨hb3043, q3044⟩ := oi hit3041 <;> clear hit3041
        · refine cw_t rfl hb3043 ?_
          refine cw_seq ?_
          refine cw_region ?_
          refine t_rd rfl (rd_assign rfl) ?_
          refine rwt_nil ?_
          refine qn_then ?_
          refine cw_block ?_
          obtain ⟨r3255, hit3256, q3257⟩ := ob q3044; clear q3044
          refine cw_loop2 (I := fun q envq wq => Sub [(1, v1), (2, v2), (3, v3), (4, v4), (11, (Value.pointer (some ⟨g4, 0, none⟩))), (12, (Value.int .i64 i2439)), (13, v2458), (14, v2460), (15, (Value.int .i64 r2455.2.2.2.1)), (16, v2461), (17, v2468), (19, (Value.int .i64 q.1))] envq ∧ Mem w No [ownL 41 v2468 (r2465.1 : List T_Command), ownL 34 v2458 (zs2459 : List Hdr), rowsC 52 zs2459 (r2455.2.1 : List (List T_Span)) none, ownL 3 v2460 (q.2.2 : List Int), ownL 38 v2461 (r2455.2.2.2.2 : List T_Throw), blk g4 55 [v0, (Value.int .i64 q.2.1)]] wq) (X := fun eq envq wq => eq = .exit 3 ∧ Sub [(1, v1), (2, v2), (3, v3), (4, v4), (11, (Value.pointer (some ⟨g4, 0, none⟩))), (12, (Value.int .i64 i2439)), (13, v2458), (14, v2460), (15, (Value.int .i64 r2455.2.2.2.1)), (16, v2461), (17, v2468)] envq ∧ Mem w No [ownL 41 v2468 (r2465.1 : List T_Command), ownL 34 v2458 (zs2459 : List Hdr), rowsC 52 zs2459 (r2455.2.1 : List (List T_Span)) none, ownL 3 v2460 (r3255.2 : List Int), ownL 38 v2461 (r2455.2.2.2.2 : List T_Throw), blk g4 55 [v0, (Value.int .i64 r3255.1)]] wq) hit3256 ⟨(by repeat (first | exact Sub.nil _ | refine Sub.cons rfl ?_)), (hm2471.pick [0, 1, 2, 3, 4, 5] (by decide) rfl)⟩ ?_ ?_
          · rintro ⟨i3246, i3247, l3248⟩ x3250 env3251 w3252 hf3253 hr3254 ⟨hs_, hm_⟩
            have hs_ : Sub [(1, v1), (2, v2), (3, v3), (4, v4), (11, (Value.pointer (some ⟨g4, 0, none⟩))), (12, (Value.int .i64 i2439)), (13, v2458), (14, v2460), (15, (Value.int .i64 r2455.2.2.2.1)), (16, v2461), (17, v2468), (19, (Value.int .i64 i3246))] env3251 := hs_
            have hm3258 : Mem w No [ownL 41 v2468 (r2465.1 : List T_Command), ownL 34 v2458 (zs2459 : List Hdr), rowsC 52 zs2459 (r2455.2.1 : List (List T_Span)) none, ownL 3 v2460 (l3248 : List Int), ownL 38 v2461 (r2455.2.2.2.2 : List T_Throw), blk g4 55 [v0, (Value.int .i64 i3247)]] w3252 := hm_
            refine cw_sub hs_ ?_
            clear hs_ hm_ q3257
            have h : law24_ThrowplanExact_l7 N a0 i3246 i3247 l3248 = some x3250 := hf3253
            clear hf3253
            refine cw_seq ?_
            refine cw_seq ?_
            refine cw_region ?_
            refine t_rd rfl (rd_move rfl) ?_
            refine t_rd rfl (rd_move rfl) ?_
            refine t_rd rfl (rd_lenS tS22 rfl (hm3258.sl 3 rfl)) ?_
            refine t_rd rfl (rd_lss rfl rfl) ?_
            refine rwt_nil ?_
            refine qn_then ?_
            obtain ⟨hb3259, q3260⟩ | ⟨hb3259, q3260⟩ := oi h <;> clear h
            · refine cw_t rfl hb3259 ?_
              refine cw_skip ?_
              refine qn_then ?_
              refine cw_seq ?_
              refine cw_block ?_
              refine cw_seq ?_
              obtain ⟨w3262, he3264⟩ : ∃ q, q = w3252.drew := ⟨_, rfl⟩
              have hm3263 := hm3258.drew; rw [← he3264] at hm3263
              refine cw_region_s (fun q => (ownL 3 v2460 (l3248 : List Int)).φ q) (cls [7] [11]) mixed ?_
              rintro _ rfl; rw [← he3264]
              refine s_rp (i := 0) rfl (by kernel_rfl) rfl (fun _ => (rd_move rfl)) ?_
              refine s_rp (i := 1) rfl (by kernel_rfl) rfl (fun _ => (rd_move rfl)) ?_
              refine s_rp (i := 2) rfl (by kernel_rfl) rfl (fun _ => (rd_move rfl)) ?_
              refine s_rp (i := 3) rfl (by kernel_rfl) rfl (fun _ => (rd_move rfl)) ?_
              obtain ⟨x3282, h3283, q3284⟩ := ob q3260; clear q3260
              refine s_rp (i := 4) rfl (by kernel_rfl) rfl (fun _ => (rd_index tS22 rfl rfl (hm3263.sl 3 rfl) h3283)) ?_
              refine s_rd (i := 5) rfl (by kernel_rfl) rfl (fun w3261 hS => (rd_ld1 tO3 rfl ((sl_of_own hS).cells h3283) (off := 0) rfl)) (hm3263.get (k := 3) rfl) ?_
              refine s_rp (i := 6) rfl (by kernel_rfl) rfl (fun _ => (rd_move rfl)) ?_
              obtain ⟨r3285, h3286, q3287⟩ := ob q3284; clear q3284
              refine s_ef (i := 7) rfl (by kernel_rfl) rfl (ef_call tf11 rfl (Maker_Next_ok h3286 (hv0.to_callT (k := 5) hm3263 rfl) (hm3263.get (k := 5) rfl))) (by decide) ?_ ?_
              · rintro _ w3289 ⟨e_, hm3288⟩
                obtain rfl := e_.symm
                have hm3290 := hm3263.callT (k := 5) rfl (fun _ h => h) hm3288 (fun _ => Iff.rfl)
                intro _
                exact (hm3290.get (k := 3) rfl)
              rintro _ w3289 ⟨e_, hm3288⟩
              obtain rfl := e_.symm
              have hm3290 := hm3263.callT (k := 5) rfl (fun _ h => h) hm3288 (fun _ => Iff.rfl)
              obtain ⟨x3291, h3292, q3293⟩ := ob q3287; clear q3287
              refine s_rp (i := 8) rfl (by kernel_rfl) rfl (fun _ => (rd_sub64 h3292 rfl rfl)) ?_
              refine s_rp (i := 9) rfl (by kernel_rfl) rfl (fun _ => (rd_max rfl rfl)) ?_
              obtain ⟨x3294, h3295, q3296⟩ := ob q3293; clear q3293
              refine s_rp (i := 10) rfl (by kernel_rfl) rfl (fun _ => (rd_index tS22 rfl rfl (hm3290.sl 3 rfl) h3295)) ?_
              refine s_ef0 (i := 11) rfl (by kernel_rfl) (ef_stl (k := 3) (off := 0) (x' := (max 0 x3291)) hm3290 tO3 rfl rfl rfl rfl h3295 rfl rfl) (by decide) (fun _ _ _ q => absurd q (by decide)) ?_
              intro _ w3298 hm3297
              refine s_nil (by kernel_rfl) ?_
              refine qn_then ?_
              refine cw_seq ?_
              refine cw_region ?_
              refine t_rd rfl (rd_move rfl) ?_
              refine t_rd rfl (rd_gtr rfl rfl) ?_
              refine rwt_nil ?_
              refine qn_then ?_
              obtain ⟨hb3299, q3300⟩ | ⟨hb3299, q3300⟩ := oi q3296 <;> clear q3296
              · refine cw_t rfl hb3299 ?_
                obtain ⟨w3302, he3304⟩ : ∃ q, q = w3298.drew := ⟨_, rfl⟩
                have hm3303 := hm3297.drew; rw [← he3304] at hm3303
                refine cw_region_s (fun q => (ownL 3 v2460 ((List.set l3248 (Int.toNat i3246) (max 0 x3291)) : List Int)).φ q) (cls [12] [16]) mixed ?_
                rintro _ rfl; rw [← he3304]
                refine s_rp (i := 0) rfl (by kernel_rfl) rfl (fun _ => (rd_move rfl)) ?_
                refine s_rp (i := 1) rfl (by kernel_rfl) rfl (fun _ => (rd_move rfl)) ?_
                refine s_rp (i := 2) rfl (by kernel_rfl) rfl (fun _ => (rd_move rfl)) ?_
                refine s_rp (i := 3) rfl (by kernel_rfl) rfl (fun _ => (rd_move rfl)) ?_
                obtain ⟨x3328, h3329, q3330⟩ := ob q3300; clear q3300
                refine s_rp (i := 4) rfl (by kernel_rfl) rfl (fun _ => (rd_index tS22 rfl rfl (hm3303.sl 3 rfl) h3329)) ?_
                refine s_rd (i := 5) rfl (by kernel_rfl) rfl (fun w3301 hS => (rd_ld1 tO3 rfl ((sl_of_own hS).cells h3329) (off := 0) rfl)) (hm3303.get (k := 3) rfl) ?_
                refine s_rp (i := 6) rfl (by kernel_rfl) rfl (fun _ => (rd_move rfl)) ?_
                refine s_rp (i := 7) rfl (by kernel_rfl) rfl (fun _ => (rd_move rfl)) ?_
                obtain ⟨x3331, h3332, q3333⟩ := ob q3330; clear q3330
                refine s_rp (i := 8) rfl (by kernel_rfl) rfl (fun _ => (rd_sub64 h3332 rfl rfl)) ?_
                obtain ⟨x3334, h3335, q3336⟩ := ob q3333; clear q3333
                refine s_rp (i := 9) rfl (by kernel_rfl) rfl (fun _ => (rd_index tS22 rfl rfl (hm3303.sl 3 rfl) h3335)) ?_
                refine s_rd (i := 10) rfl (by kernel_rfl) rfl (fun w3301 hS => (rd_ld1 tO3 rfl ((sl_of_own hS).cells h3335) (off := 0) rfl)) (hm3303.get (k := 3) rfl) ?_
                refine s_rp (i := 11) rfl (by kernel_rfl) rfl (fun _ => (rd_move rfl)) ?_
                obtain ⟨r3337, h3338, q3339⟩ := ob q3336; clear q3336
                refine s_ef (i := 12) rfl (by kernel_rfl) rfl (ef_call tf11 rfl (Maker_Next_ok h3338 (hv0.to_callT (k := 5) hm3303 rfl) (hm3303.get (k := 5) rfl))) (by decide) ?_ ?_
                · rintro _ w3341 ⟨e_, hm3340⟩
                  obtain rfl := e_.symm
                  have hm3342 := hm3303.callT (k := 5) rfl (fun _ h => h) hm3340 (fun _ => Iff.rfl)
                  intro _
                  exact (hm3342.get (k := 3) rfl)
                rintro _ w3341 ⟨e_, hm3340⟩
                obtain rfl := e_.symm
                have hm3342 := hm3303.callT (k := 5) rfl (fun _ h => h) hm3340 (fun _ => Iff.rfl)
                obtain ⟨x3343, h3344, q3345⟩ := ob q3339; clear q3339
                refine s_rp (i := 13) rfl (by kernel_rfl) rfl (fun _ => (rd_sub64 h3344 rfl rfl)) ?_
                refine s_rp (i := 14) rfl (by kernel_rfl) rfl (fun _ => (rd_max rfl rfl)) ?_
                obtain ⟨x3346, h3347, q3348⟩ := ob q3345; clear q3345
                refine s_rp (i := 15) rfl (by kernel_rfl) rfl (fun _ => (rd_index tS22 rfl rfl (hm3342.sl 3 rfl) h3347)) ?_
                refine s_ef0 (i := 16) rfl (by kernel_rfl) (ef_stl (k := 3) (off := 0) (x' := (max x3328 x3343)) hm3342 tO3 rfl rfl rfl rfl h3347 rfl rfl) (by decide) (fun _ _ _ q => absurd q (by decide)) ?_
                intro _ w3350 hm3349
                refine s_nil (by kernel_rfl) ?_
                refine qn_block (qn_then ?_)
                refine cw_region ?_
                refine t_rd rfl (rd_move rfl) ?_
                obtain ⟨x3351, h3352, q3353⟩ := ob q3348; clear q3348
                refine t_rd rfl (rd_add64 h3352 rfl rfl) ?_
                refine t_rd rfl (rd_assign rfl) ?_
                refine rwt_nil ?_
                refine qn_then ?_
                refine ⟨_, (os q3353), (by repeat (first | exact Sub.nil _ | refine Sub.cons rfl ?_)), (hm3349.pick [0, 1, 2, 3, 4, 5] (by decide) rfl)⟩
              · refine cw_f rfl hb3299 ?_
                refine cw_skip ?_
                refine qn_block (qn_then ?_)
                refine cw_region ?_
                refine t_rd rfl (rd_move rfl) ?_
                obtain ⟨x3354, h3355, q3356⟩ := ob q3300; clear q3300
                refine t_rd rfl (rd_add64 h3355 rfl rfl) ?_
                refine t_rd rfl (rd_assign rfl) ?_
                refine rwt_nil ?_
                refine qn_then ?_
                refine ⟨_, (os q3356), (by repeat (first | exact Sub.nil _ | refine Sub.cons rfl ?_)), (hm3297.pick [0, 1, 2, 3, 4, 5] (by decide) rfl)⟩
            · refine cw_f rfl hb3259 ?_
              refine cw_exit ?_
              refine qx_then (qx_then ?_)
              obtain rfl := hr3254 _ (os q3260)
              exact ⟨rfl, (by repeat (first | exact Sub.nil _ | refine Sub.cons rfl ?_)), (hm3258.pick [0, 1, 2, 3, 4, 5] (by decide) rfl)⟩
          · skip
            intro e env3357 w3358 hX3359
            obtain ⟨rfl, hs3360, hm3361⟩ := hX3359
            refine qx_same (qn_block ?_)
            obtain rfl := os q3257
            exact ⟨rfl, v2458, zs2459, v2461, (Sub.tr (by repeat (first | exact Sub.nil _ | refine Sub.cons rfl ?_)) hs3360), (hm3361.pick [0, 1, 2, 3, 4, 5] (by decide) rfl)⟩
        · refine cw_f rfl hb3043 ?_
          refine cw_seq ?_
          refine cw_region ?_
          refine t_rd rfl (rd_eql rfl rfl) ?_
          refine t_rd rfl (rd_assign rfl) ?_
          refine rwt_nil ?_
          refine qn_then ?_
          obtain ⟨hb3362, q3363⟩ | ⟨hb3362, q3363⟩ := oi q3044 <;> clear q3044
          · refine cw_t rfl hb3362 ?_
            refine cw_seq ?_
            refine cw_seq ?_
            refine cw_region ?_
            refine t_rd rfl (rd_move rfl) ?_
            refine t_rd rfl (rd_lenS tS23 rfl ((Nl.mk (hm2471.sl_call 1 rfl) (hm2471.rows_call 2 rfl)).sl)) ?_
            refine t_rd rfl (rd_gtr rfl rfl) ?_
            refine rwt_nil ?_
            refine qn_then ?_
            obtain ⟨j3434, hit3435, q3436⟩ := ob q3363; clear q3363
            refine cw_join (X := fun eq envq wq => eq = .normal ∧ ∃ (v3432 : Value) (zs3433 : List Hdr), Sub [(1, v1), (2, v2), (3, v3), (4, v4), (11, (Value.pointer (some ⟨g4, 0, none⟩))), (12, (Value.int .i64 i2439)), (13, v3432), (14, v2460), (15, (Value.int .i64 r2455.2.2.2.1)), (16, v2461), (17, v2468)] envq ∧ Mem w No [ownL 41 v2468 (r2465.1 : List T_Command), ownL 34 v3432 (zs3433 : List Hdr), rowsC 52 zs3433 (j3434.2 : List (List T_Span)) none, ownL 3 v2460 (r2455.2.2.1 : List Int), ownL 38 v2461 (r2455.2.2.2.2 : List T_Throw), blk g4 55 [v0, (Value.int .i64 j3434.1)]] wq) ?_ ?_
            · clear q3436
              obtain ⟨hb3437, q3438⟩ | ⟨hb3437, q3438⟩ := oi hit3435 <;> clear hit3435
              · refine cw_t rfl hb3437 ?_
                obtain ⟨w3440, he3442⟩ : ∃ q, q = w2470.drew := ⟨_, rfl⟩
                have hm3441 := hm2471.drew; rw [← he3442] at hm3441
                refine cw_region_s (fun q => (ownL 34 v2458 (zs2459 : List Hdr)).φ q ∧ (rowsC 52 zs2459 (r2455.2.1 : List (List T_Span)) none).φ q) (cls [4] [9, 11]) mixed ?_
                rintro _ rfl; rw [← he3442]
                refine s_rp (i := 0) rfl (by kernel_rfl) rfl (fun _ => (rd_move rfl)) ?_
                refine s_rp (i := 1) rfl (by kernel_rfl) rfl (fun _ => (rd_move rfl)) ?_
                refine s_rp (i := 2) rfl (by kernel_rfl) rfl (fun _ => (rd_move rfl)) ?_
                refine s_rp (i := 3) rfl (by kernel_rfl) rfl (fun _ => (rd_lenS tS23 rfl ((Nl.mk (hm3441.sl_call 1 rfl) (hm3441.rows_call 2 rfl)).sl))) ?_
                refine s_rp (i := 5) rfl (by kernel_rfl) rfl (fun _ => (rd_move rfl)) ?_
                refine s_rp (i := 6) rfl (by kernel_rfl) rfl (fun _ => (rd_move rfl)) ?_
                obtain ⟨x3473, h3474, q3475⟩ := ob q3438; clear q3438
                refine s_rp (i := 7) rfl (by kernel_rfl) rfl (fun _ => (rd_index tS23 rfl rfl ((Nl.mk (hm3441.sl_call 1 rfl) (hm3441.rows_call 2 rfl)).sl) h3474)) ?_
                obtain ⟨zd3476, hz3477⟩ := (Nl.mk (hm3441.sl_call 1 rfl) (hm3441.rows_call 2 rfl)).row h3474
                refine s_rd (i := 8) rfl (by kernel_rfl) rfl (fun w3439 hS => (rd_ld1 tO34 rfl ((nl_φ hS.1 hS.2).cells hz3477) (off := 0) rfl)) ⟨(hm3441.get (k := 1) rfl), (hm3441.get (k := 2) rfl)⟩ ?_
                obtain ⟨r3478, h3479, q3480⟩ := ob q3475; clear q3475
                refine s_ef (i := 4) rfl (by kernel_rfl) rfl (ef_call tf11 rfl (Maker_Next_ok h3479 (hv0.to_callT (k := 5) hm3441 rfl) (hm3441.get (k := 5) rfl))) (by decide) ?_ ?_
                · rintro _ w3482 ⟨e_, hm3481⟩
                  obtain rfl := e_.symm
                  have hm3483 := hm3441.callT (k := 5) rfl (fun _ h => h) hm3481 (fun _ => Iff.rfl)
                  intro _
                  exact ⟨(hm3483.get (k := 1) rfl), (hm3483.get (k := 2) rfl)⟩
                rintro _ w3482 ⟨e_, hm3481⟩
                obtain rfl := e_.symm
                have hm3483 := hm3441.callT (k := 5) rfl (fun _ h => h) hm3481 (fun _ => Iff.rfl)
                obtain ⟨r3484, h3485, q3486⟩ := ob q3480; clear q3480
                refine s_ef (i := 9) rfl (by kernel_rfl) rfl (ef_call tf12 rfl (yardgen_SpoilSpans_ok h3485 (hv0.to_callT (k := 5) hm3483 rfl) (hm3483.get (k := 5) rfl) ((Nl.mk (hm3483.sl_callT 1 5 rfl rfl (by decide)) (hm3483.rows_callT 2 5 rfl rfl (by decide))).get hz3477 h3474))) (by decide) (fun _ _ _ q => absurd q (by decide)) ?_
                rintro _ w3489 ⟨v3487, e_, hm3488⟩
                obtain rfl := e_.symm
                have hm3490 := hm3483.callT (k := 5) rfl (fun _ h => h) hm3488 (fun _ => Iff.rfl)
                obtain ⟨x3491, h3492, q3493⟩ := ob q3486; clear q3486
                refine s_rp (i := 10) rfl (by kernel_rfl) rfl (fun _ => (rd_index tS23 rfl rfl ((Nl.mk (hm3490.sl_call 2 rfl) (hm3490.rows_call 3 rfl)).sl) h3492)) ?_
                obtain ⟨zd3494, ez3495⟩ : ∃ z : Hdr, z.1 = v3487 := ⟨⟨v3487, sl_one (hm3490.sl 0 rfl)⟩, rfl⟩
                obtain ⟨zd3496, hz3497⟩ := (Nl.mk (hm3490.sl_call 2 rfl) (hm3490.rows_call 3 rfl)).row h3492
                have hm3498 := hm3490.pick [3, 0, 1, 2, 4, 5, 6] (L' := [rowsC 52 zs2459 (r2455.2.1 : List (List T_Span)) none, ownL 52 v3487 (r3484.2 : List T_Span), ownL 41 v2468 (r2465.1 : List T_Command), ownL 34 v2458 (zs2459 : List Hdr), ownL 3 v2460 (r2455.2.2.1 : List Int), ownL 38 v2461 (r2455.2.2.2.2 : List T_Throw), blk g4 55 [v0, (Value.int .i64 r3484.1)]]) (by decide) rfl
                have hm3499 := hm3498.hole (Int.toNat r3478.2)
                refine s_ef0 (i := 11) rfl (by kernel_rfl) (ef_stl (k := 3) (off := 0) (x' := zd3494) hm3499 tO34 rfl rfl (sl_one (hm3499.sl 1 rfl)) rfl hz3497 (by show [v3487] = [zd3494.1]; rw [ez3495]) rfl) (by decide) (fun _ _ _ q => absurd q (by decide)) ?_
                intro _ w3501 hm3500
                have hm3502 := hm3500.fill ez3495
                refine s_nil (by kernel_rfl) ?_
                obtain rfl := os q3493
                exact ⟨rfl, v2458, (List.set zs2459 (Int.toNat r3478.2) zd3494), (by repeat (first | exact Sub.nil _ | refine Sub.cons rfl ?_)), (hm3502.pick [1, 2, 0, 3, 4, 5] (by decide) rfl)⟩
              · refine cw_f rfl hb3437 ?_
                refine cw_skip ?_
                obtain rfl := os q3438
                exact ⟨rfl, v2458, zs2459, (by repeat (first | exact Sub.nil _ | refine Sub.cons rfl ?_)), (hm2471.pick [0, 1, 2, 3, 4, 5] (by decide) rfl)⟩
            · clear hit3435
              intro e env3503 w3504 hX3505
              obtain ⟨rfl, v3432, zs3433, hs3506, hm3507⟩ := hX3505
              refine qn_then ?_
              refine cw_sub hs3506 ?_
              refine cw_region ?_
              refine t_rd rfl (rd_move rfl) ?_
              refine t_rd rfl (rd_move rfl) ?_
              refine t_ef rfl (ef_bslice (l := ([2, (-1), 6] : List Int)) hm3507 tS22 rfl (cs := #[(Value.int .i64 2), (Value.int .i64 (-1)), (Value.int .i64 6)]) (by unfold bsl; kernel_rfl) rfl rfl) ?_
              intro v3508 w3510 hm3509
              obtain ⟨r3511, h3512, q3513⟩ := ob q3436; clear q3436
              refine t_ef rfl (ef_call tf13 rfl (Maker_Pick_ok h3512 (hv0.to_callT (k := 6) hm3509 rfl) (hm3509.get (k := 6) rfl) (hm3509.sl_callT 0 6 rfl rfl (by decide)))) ?_
              rintro _ w3515 ⟨e_, hm3514⟩
              obtain rfl := e_.symm
              have hm3516 := hm3509.callT (k := 6) rfl (fun _ h => h) hm3514 (fun _ => Iff.rfl)
              refine t_rd rfl (rd_move rfl) ?_
              refine t_ef rfl (ef_bslice (l := ([0, 1, 2, 3] : List Int)) hm3516 tS22 rfl (cs := #[(Value.int .i64 0), (Value.int .i64 1), (Value.int .i64 2), (Value.int .i64 3)]) (by unfold bsl; kernel_rfl) rfl rfl) ?_
              intro v3517 w3519 hm3518
              obtain ⟨r3520, h3521, q3522⟩ := ob q3513; clear q3513
              refine t_ef rfl (ef_call tf13 rfl (Maker_Pick_ok h3521 (hv0.to_callT (k := 7) hm3518 rfl) (hm3518.get (k := 7) rfl) (hm3518.sl_callT 0 7 rfl rfl (by decide)))) ?_
              rintro _ w3524 ⟨e_, hm3523⟩
              obtain rfl := e_.symm
              have hm3525 := hm3518.callT (k := 7) rfl (fun _ h => h) hm3523 (fun _ => Iff.rfl)
              refine t_rd rfl (rd_build (cs := #[(Value.int .i64 r3511.2), (Value.int .i64 r3520.2)]) rfl (by kernel_rfl)) ?_
              refine t_ef rfl (ef_bslice (l := ([(T_Throw.mk r3511.2 r3520.2)] : List T_Throw)) hm3525 tS24 rfl (cs := #[(Value.int .i64 r3511.2), (Value.int .i64 r3520.2)]) (by unfold bsl; kernel_rfl) rfl rfl) ?_
              intro v3526 w3528 hm3527
              obtain ⟨l3529, h3530, q3531⟩ := ob q3522; clear q3522
              refine t_ef rfl (ef_append (k := 7) hm3527 tS24 tE38 rfl rfl rfl rfl (hm3527.sl 0 rfl) h3530) ?_
              intro v3532 w3534 hm3533
              refine t_rd rfl (rd_assign rfl) ?_
              refine rwt_nil ?_
              refine qn_block ?_
              obtain rfl := os q3531
              exact ⟨rfl, v3432, zs3433, v3532, (by repeat (first | exact Sub.nil _ | refine Sub.cons rfl ?_)), (hm3533.pick [3, 4, 5, 6, 7, 8] (by decide) rfl)⟩
          · refine cw_f rfl hb3362 ?_
            refine cw_seq ?_
            refine cw_region ?_
            refine t_rd rfl (rd_eql rfl rfl) ?_
            refine t_rd rfl (rd_assign rfl) ?_
            refine rwt_nil ?_
            refine qn_then ?_
            obtain ⟨hb3535, q3536⟩ | ⟨hb3535, q3536⟩ := oi q3363 <;> clear q3363
            · refine cw_t rfl hb3535 ?_
              refine cw_seq ?_
              refine cw_region ?_
              refine t_rd rfl (rd_move rfl) ?_
              refine t_rd rfl (rd_lenS tS25 rfl (hm2471.sl 0 rfl)) ?_
              refine t_rd rfl (rd_gtr rfl rfl) ?_
              refine rwt_nil ?_
              refine qn_then ?_
              obtain ⟨hb3537, q3538⟩ | ⟨hb3537, q3538⟩ := oi q3536 <;> clear q3536
              · refine cw_t rfl hb3537 ?_
                refine cw_seq ?_
                refine cw_region ?_
                refine t_rd rfl (rd_move rfl) ?_
                refine t_rd rfl (rd_move rfl) ?_
                refine t_rd rfl (rd_move rfl) ?_
                refine t_rd rfl (rd_lenS tS25 rfl (hm2471.sl 0 rfl)) ?_
                obtain ⟨r3539, h3540, q3541⟩ := ob q3538; clear q3538
                refine t_ef rfl (ef_call tf11 rfl (Maker_Next_ok h3540 (hv0.to_callT (k := 5) hm2471 rfl) (hm2471.get (k := 5) rfl))) ?_
                rintro _ w3543 ⟨e_, hm3542⟩
                obtain rfl := e_.symm
                have hm3544 := hm2471.callT (k := 5) rfl (fun _ h => h) hm3542 (fun _ => Iff.rfl)
                obtain ⟨x3545, h3546, q3547⟩ := ob q3541; clear q3541
                refine t_rd rfl (rd_index tS25 rfl rfl (hm3544.sl 0 rfl) h3546) ?_
                refine t_rd rfl (rd_assign rfl) ?_
                refine rwt_nil ?_
                refine qn_then ?_
                refine cw_seq ?_
                obtain ⟨w3549, he3551⟩ : ∃ q, q = w3543.drew := ⟨_, rfl⟩
                have hm3550 := hm3544.drew; rw [← he3551] at hm3550
                refine cw_region_s (fun q => (ownL 41 v2468 (r2465.1 : List T_Command)).φ q) (cls [11, 12] [16]) mixed ?_
                rintro _ rfl; rw [← he3551]
                refine s_rp (i := 0) rfl (by kernel_rfl) rfl (fun _ => (rd_move rfl)) ?_
                refine s_rp (i := 1) rfl (by kernel_rfl) rfl (fun _ => (rd_nilCheck rfl)) ?_
                refine s_rp (i := 2) rfl (by kernel_rfl) rfl (fun _ => (rd_fld tF41_0 rfl)) ?_
                refine s_rd (i := 3) rfl (by kernel_rfl) rfl (fun w3548 hS => (rd_ld1 tO3 rfl ((sl_of_own hS).cells h3546) (off := 0) rfl)) (hm3550.get (k := 0) rfl) ?_
                refine s_rp (i := 4) rfl (by kernel_rfl) rfl (fun _ => (rd_move rfl)) ?_
                refine s_rp (i := 5) rfl (by kernel_rfl) rfl (fun _ => (rd_move rfl)) ?_
                refine s_rp (i := 6) rfl (by kernel_rfl) rfl (fun _ => (rd_nilCheck rfl)) ?_
                refine s_rp (i := 7) rfl (by kernel_rfl) rfl (fun _ => (rd_fld tF41_0 rfl)) ?_
                refine s_rd (i := 8) rfl (by kernel_rfl) rfl (fun w3548 hS => (rd_ld1 tO3 rfl ((sl_of_own hS).cells h3546) (off := 0) rfl)) (hm3550.get (k := 0) rfl) ?_
                obtain ⟨x3572, h3573, q3574⟩ := ob q3547; clear q3547
                refine s_rp (i := 9) rfl (by kernel_rfl) rfl (fun _ => (rd_neg64 h3573 rfl)) ?_
                obtain ⟨x3575, h3576, q3577⟩ := ob q3574; clear q3574
                refine s_rp (i := 10) rfl (by kernel_rfl) rfl (fun _ => (rd_sub64 h3576 rfl rfl)) ?_
                refine s_ef (i := 11) rfl (by kernel_rfl) rfl (ef_bslice (l := ([x3575, (-1), 1, 5000] : List Int)) hm3550 tS22 rfl (cs := #[(Value.int .i64 x3575), (Value.int .i64 (-1)), (Value.int .i64 1), (Value.int .i64 5000)]) (by unfold bsl; kernel_rfl) rfl rfl) (by decide) ?_ ?_
                · intro v3578 w3580 hm3579
                  intro _
                  exact (hm3579.get (k := 1) rfl)
                intro v3578 w3580 hm3579
                obtain ⟨r3581, h3582, q3583⟩ := ob q3577; clear q3577
                refine s_ef (i := 12) rfl (by kernel_rfl) rfl (ef_call tf13 rfl (Maker_Pick_ok h3582 (hv0.to_callT (k := 6) hm3579 rfl) (hm3579.get (k := 6) rfl) (hm3579.sl_callT 0 6 rfl rfl (by decide)))) (by decide) ?_ ?_
                · rintro _ w3585 ⟨e_, hm3584⟩
                  obtain rfl := e_.symm
                  have hm3586 := hm3579.callT (k := 6) rfl (fun _ h => h) hm3584 (fun _ => Iff.rfl)
                  intro _
                  exact (hm3586.get (k := 1) rfl)
                rintro _ w3585 ⟨e_, hm3584⟩
                obtain rfl := e_.symm
                have hm3586 := hm3579.callT (k := 6) rfl (fun _ h => h) hm3584 (fun _ => Iff.rfl)
                obtain ⟨x3587, h3588, q3589⟩ := ob q3583; clear q3583
                refine s_rp (i := 13) rfl (by kernel_rfl) rfl (fun _ => (rd_add64 h3588 rfl rfl)) ?_
                refine s_rp (i := 14) rfl (by kernel_rfl) rfl (fun _ => (rd_nilCheck rfl)) ?_
                refine s_rp (i := 15) rfl (by kernel_rfl) rfl (fun _ => (rd_fld tF41_0 rfl)) ?_
                refine s_ef0 (i := 16) rfl (by kernel_rfl) (ef_stl (k := 1) (off := 0) (x' := (T_Command.mk x3587 x3545.Element x3545.Side x3545.Cut)) hm3586 tO3 rfl rfl rfl rfl h3546 rfl rfl) (by decide) (fun _ _ _ q => absurd q (by decide)) ?_
                intro _ w3591 hm3590
                refine s_nil (by kernel_rfl) ?_
                refine qn_then ?_
                refine cw_region ?_
                refine t_rd rfl (rd_move rfl) ?_
                refine t_rd rfl (rd_move rfl) ?_
                refine t_rd rfl (rd_move rfl) ?_
                refine t_rd rfl (rd_nilCheck rfl) ?_
                refine t_rd rfl (rd_fld tF41_2 rfl) ?_
                refine t_rd rfl (rd_ld1 tO3 rfl ((hm3590.sl 1 rfl).cells (idx_set_same h3546)) (off := 2) rfl) ?_
                refine t_ef rfl (ef_bslice (l := ([(T_Command.mk x3587 x3545.Element x3545.Side x3545.Cut).Side, 0, 1, 2] : List Int)) hm3590 tS22 rfl (cs := #[(Value.int .i64 ((T_Command.mk x3587 x3545.Element x3545.Side x3545.Cut).Side)), (Value.int .i64 0), (Value.int .i64 1), (Value.int .i64 2)]) (by unfold bsl; kernel_rfl) rfl rfl) ?_
                intro v3592 w3594 hm3593
                obtain ⟨r3595, h3596, q3597⟩ := ob q3589; clear q3589
                refine t_ef rfl (ef_call tf13 rfl (Maker_Pick_ok h3596 (hv0.to_callT (k := 7) hm3593 rfl) (hm3593.get (k := 7) rfl) (hm3593.sl_callT 0 7 rfl rfl (by decide)))) ?_
                rintro _ w3599 ⟨e_, hm3598⟩
                obtain rfl := e_.symm
                have hm3600 := hm3593.callT (k := 7) rfl (fun _ h => h) hm3598 (fun _ => Iff.rfl)
                refine t_rd rfl (rd_nilCheck rfl) ?_
                refine t_rd rfl (rd_fld tF41_2 rfl) ?_
                refine t_ef0 (ef_stl (k := 2) (off := 2) (x' := (T_Command.mk ((T_Command.mk x3587 x3545.Element x3545.Side x3545.Cut).Time) ((T_Command.mk x3587 x3545.Element x3545.Side x3545.Cut).Element) r3595.2 ((T_Command.mk x3587 x3545.Element x3545.Side x3545.Cut).Cut))) hm3600 tO3 rfl rfl rfl rfl (idx_set_same h3546) rfl rfl) ?_
                intro _ w3602 hm3601
                refine rwt_nil ?_
                refine qn_block ?_
                obtain rfl := os q3597
                exact ⟨rfl, v2458, zs2459, v2461, (by repeat (first | exact Sub.nil _ | refine Sub.cons rfl ?_)), (hm3601.pick [2, 3, 4, 5, 6, 7] (by decide) rfl)⟩
              · refine cw_f rfl hb3537 ?_
                refine cw_skip ?_
                refine qn_block ?_
                obtain rfl := os q3538
                exact ⟨rfl, v2458, zs2459, v2461, (by repeat (first | exact Sub.nil _ | refine Sub.cons rfl ?_)), (hm2471.pick [0, 1, 2, 3, 4, 5] (by decide) rfl)⟩
            · refine cw_f rfl hb3535 ?_
              refine cw_skip ?_
              refine qn_block ?_
              obtain rfl := os q3536
              exact ⟨rfl, v2458, zs2459, v2461, (by repeat (first | exact Sub.nil _ | refine Sub.cons rfl ?_)), (hm2471.pick [0, 1, 2, 3, 4, 5] (by decide) rfl)⟩
      · clear hit3041
        intro e env3603 w3604 hX3605
        obtain ⟨rfl, v3034, zs3035, v3038, hs3606, hm3607⟩ := hX3605
        refine qn_then ?_
        refine cw_sub hs3606 ?_
        refine cw_seq ?_
        refine cw_region ?_
        refine t_rd rfl (rd_move rfl) ?_
        refine t_rd rfl (rd_move rfl) ?_
        refine t_rd rfl (rd_move rfl) ?_
        refine t_rd rfl (rd_move rfl) ?_
        refine t_rd rfl (rd_move rfl) ?_
        obtain ⟨r3608, h3609, q3610⟩ := ob q3042; clear q3042
        refine t_ef rfl (ef_call tf14 rfl (law24_exact_ok h3609 ((Nl.mk (hm3607.sl_call 1 rfl) (hm3607.rows_call 2 rfl)).sl) (hm3607.sl_call 3 rfl) (hm3607.sl_call 4 rfl) (hm3607.sl_call 0 rfl))) ?_
        rintro _ w3612 ⟨e_, hm3611⟩
        obtain rfl := e_.symm
        have hm3613 := hm3607.call hm3611
        refine t_rd rfl (rd_not rfl) ?_
        refine t_rd rfl (rd_move rfl) ?_
        refine t_rdg rfl rfl rfl rfl (gv_f _) (fun hg3614 => (rd_move rfl)) ?_
        refine t_rdg rfl rfl rfl rfl (gv_f _) (fun hg3615 => (rd_lenS tS25 (gvx rfl hg3615) (hv4.of_old hm3613))) ?_
        refine t_rdg rfl rfl rfl rfl (gv_f _) (fun hg3616 => (rd_lss (gvx rfl hg3616) rfl)) ?_
        refine t_rdg rfl rfl rfl rfl (gv_f _) (fun hg3617 => (rd_move (gvx rfl hg3617))) ?_
        refine t_rdg rfl rfl rfl rfl (gv_nt _ _) (fun hg3618 => (rd_move rfl)) ?_
        refine t_rdg rfl rfl rfl rfl (gv_nt _ _) (fun hg3619 => (rd_move rfl)) ?_
        refine t_rdg rfl rfl rfl rfl (gv_nt _ _) (fun hg3620 => (rd_move rfl)) ?_
        obtain ⟨hb3622, q3623⟩ | ⟨hb3622, q3623⟩ := oi q3610 <;> clear q3610
        · skip
          refine t_efg rfl rfl rfl rfl (gv_nt _ _) (fun _ => (ef_bslice (l := ([(-1), 1000000000, 4000] : List Int)) hm3613 tS22 rfl (cs := #[(Value.int .i64 (-1)), (Value.int .i64 1000000000), (Value.int .i64 4000)]) (by unfold bsl; kernel_rfl) rfl rfl)) (fun q => bcontra q hb3622) ?_
          intro v3625 w3627 hm3626
          obtain ⟨r3629, h3630, q3631⟩ := ob q3623; clear q3623
          refine t_efg rfl rfl rfl rfl (gv_nt _ _) (fun _ => (ef_call tf13 (evc (gvx rfl hb3622) (evc rfl evn)) (Maker_Pick_ok h3630 (hv0.to_callT (k := 6) hm3626 rfl) (hm3626.get (k := 6) rfl) (hm3626.sl_callT 0 6 rfl rfl (by decide))))) (fun q => bcontra q hb3622) ?_
          rintro _ w3633 ⟨e_, hm3632⟩
          obtain rfl := e_.symm
          have hm3634 := hm3626.callT (k := 6) rfl (fun _ h => h) hm3632 (fun _ => Iff.rfl)
          refine t_rdg rfl rfl rfl rfl (gv_nt _ _) (fun hg3635 => (rd_move rfl)) ?_
          refine t_rdg rfl rfl rfl rfl (gv_nt _ _) (fun hg3636 => (rd_move rfl)) ?_
          obtain ⟨r3638, h3639, q3640⟩ := ob q3631; clear q3631
          refine t_efg rfl rfl rfl rfl (gv_nt _ _) (fun _ => (ef_call tf14 (evc (gvx rfl hb3622) (evc (gvx rfl hb3622) (evc rfl (evc (gvx rfl hb3622) (evc (gvx rfl hb3622) evn))))) (law24_exact_ok h3639 ((Nl.mk (hm3634.sl_call 2 rfl) (hm3634.rows_call 3 rfl)).sl) (hm3634.sl_call 4 rfl) (hm3634.sl_call 5 rfl) (hv4.to_call hm3634)))) (fun q => bcontra q hb3622) ?_
          rintro _ w3642 ⟨e_, hm3641⟩
          obtain rfl := e_.symm
          have hm3643 := hm3634.call hm3641
          refine t_rdg rfl rfl rfl rfl (gv_nt _ _) (fun hg3644 => (rd_not rfl)) ?_
          refine t_rdg rfl rfl rfl rfl (gv_f _) (fun hg3645 => (rd_and (gvx rfl hg3645) (fun hc3646 => (gvx rfl hb3622)))) ?_
          refine t_rd rfl (rd_or rfl (fun hc3647 => (gvx rfl (bandl hb3622)))) ?_
          refine rwt_nil ?_
          refine qn_then ?_
          obtain ⟨hb3648, q3649⟩ | ⟨hb3648, q3649⟩ := oi q3640 <;> clear q3640
          · refine cw_t rfl hb3648 ?_
            refine cw_seq ?_
            refine cw_region ?_
            refine t_rd rfl (rd_assign rfl) ?_
            refine rwt_nil ?_
            refine qn_then ?_
            refine cw_ret ?_
            refine qr_block (qr_then (qr_then ?_))
            obtain rfl := hr2446 _ (os q3649)
            refine .inl (⟨_, rfl, ⟨rfl, ?_⟩⟩)
            exact ret1 rfl rfl ⟨rfl, (hm3643.pick [] (by decide) rfl)⟩
          · refine cw_f rfl hb3648 ?_
            refine cw_skip ?_
            refine qn_block (qn_then ?_)
            refine cw_region ?_
            refine t_rd rfl (rd_move rfl) ?_
            obtain ⟨x3650, h3651, q3652⟩ := ob q3649; clear q3649
            refine t_rd rfl (rd_add64 h3651 rfl rfl) ?_
            refine t_rd rfl (rd_assign rfl) ?_
            refine rwt_nil ?_
            refine qn_then ?_
            refine ⟨_, (os q3652), (by repeat (first | exact Sub.nil _ | refine Sub.cons rfl ?_)), (hm3643.pick [6] (by decide) rfl)⟩
        · skip
          refine t_efg rfl rfl rfl rfl (R := fun v w' => v = undef ∧ w' = w3612) (gv_nt _ _) (fun hg3653 => bcontra hb3622 hg3653) (fun _ => ⟨rfl, rfl⟩) ?_
          rintro v_ w_ ⟨e1_, e2_⟩; rw [e1_, e2_]; clear e1_ e2_ v_ w_
          refine t_efg rfl rfl rfl rfl (R := fun v w' => v = undef ∧ w' = w3612) (gv_nt _ _) (fun hg3654 => bcontra hb3622 hg3654) (fun _ => ⟨rfl, rfl⟩) ?_
          rintro v_ w_ ⟨e1_, e2_⟩; rw [e1_, e2_]; clear e1_ e2_ v_ w_
          refine t_rdg rfl rfl rfl rfl (gv_nt _ _) (v := undef) (fun hg3655 => (bcontra hb3622 hg3655)) ?_
          refine t_rdg rfl rfl rfl rfl (gv_nt _ _) (v := undef) (fun hg3656 => (bcontra hb3622 hg3656)) ?_
          refine t_efg rfl rfl rfl rfl (R := fun v w' => v = undef ∧ w' = w3612) (gv_nt _ _) (fun hg3657 => bcontra hb3622 hg3657) (fun _ => ⟨rfl, rfl⟩) ?_
          rintro v_ w_ ⟨e1_, e2_⟩; rw [e1_, e2_]; clear e1_ e2_ v_ w_
          refine t_rdg rfl rfl rfl rfl (gv_nt _ _) (v := undef) (fun hg3658 => (bcontra hb3622 hg3658)) ?_
          refine t_rdg rfl rfl rfl rfl (gv_f _) (fun hg3659 => (rd_and (b := false) (gvx rfl hg3659) (fun hc3660 => bcontra (andNl hb3622 hg3659) hc3660))) ?_
          refine t_rd rfl (rd_or rfl (fun hc3661 => (gvx rfl (bnotIt hc3661)))) ?_
          refine rwt_nil ?_
          refine qn_then ?_
          obtain ⟨hb3662, q3663⟩ | ⟨hb3662, q3663⟩ := oi q3623 <;> clear q3623
          · refine cw_t rfl hb3662 ?_
            refine cw_seq ?_
            refine cw_region ?_
            refine t_rd rfl (rd_assign rfl) ?_
            refine rwt_nil ?_
            refine qn_then ?_
            refine cw_ret ?_
            refine qr_block (qr_then (qr_then ?_))
            obtain rfl := hr2446 _ (os q3663)
            refine .inl (⟨_, rfl, ⟨rfl, ?_⟩⟩)
            exact ret1 rfl rfl ⟨rfl, (hm3613.pick [] (by decide) rfl)⟩
          · refine cw_f rfl hb3662 ?_
            refine cw_skip ?_
            refine qn_block (qn_then ?_)
            refine cw_region ?_
            refine t_rd rfl (rd_move rfl) ?_
            obtain ⟨x3664, h3665, q3666⟩ := ob q3663; clear q3663
            refine t_rd rfl (rd_add64 h3665 rfl rfl) ?_
            refine t_rd rfl (rd_assign rfl) ?_
            refine rwt_nil ?_
            refine qn_then ?_
            refine ⟨_, (os q3666), (by repeat (first | exact Sub.nil _ | refine Sub.cons rfl ?_)), (hm3613.pick [5] (by decide) rfl)⟩
    · refine cw_f rfl hb2453 ?_
      refine cw_exit ?_
      refine qx_then (qx_then ?_)
      obtain rfl := hr2446 _ (os q2454)
      exact .inr (⟨_, rfl, ⟨rfl, (by repeat (first | exact Sub.nil _ | refine Sub.cons rfl ?_)), (hm2452.pick [0] (by decide) rfl)⟩⟩)
  · skip
    intro e env3667 w3668 hX3669
    rcases hX3669 with hX3669 | hX3669
    · obtain ⟨p3671, rfl, hX3669⟩ := hX3669
      obtain ⟨rfl, hq3673⟩ := hX3669
      exact qr_block (qr_then ((by have e := os q2449; subst e; exact hq3673)))
    · obtain ⟨p3674, rfl, hX3669⟩ := hX3669
      obtain ⟨rfl, hs3675, hm3676⟩ := hX3669
      refine qx_same (qn_then ?_)
      refine cw_sub hs3675 ?_
      refine cw_seq ?_
      refine cw_seq ?_
      refine cw_region ?_
      refine t_rd rfl (rd_move rfl) ?_
      refine t_rd rfl (rd_lenS tS23 rfl ((hn1.of_old hm3676).sl)) ?_
      refine t_rd rfl (rd_gtr rfl rfl) ?_
      refine t_rd rfl (rd_move rfl) ?_
      refine t_rdg rfl rfl rfl rfl (gv_f _) (fun hg3677 => (rd_move rfl)) ?_
      refine t_rdg rfl rfl rfl rfl (gv_f _) (fun hg3678 => (rd_lenS tS25 (gvx rfl hg3678) (hv4.of_old hm3676))) ?_
      refine t_rdg rfl rfl rfl rfl (gv_f _) (fun hg3679 => (rd_gtr (gvx rfl hg3679) rfl)) ?_
      refine t_rd rfl (rd_or rfl (fun hc3680 => (gvx rfl (bnotIt hc3680)))) ?_
      refine t_rd rfl (rd_move rfl) ?_
      refine t_rdg rfl rfl rfl rfl (gv_f _) (fun hg3681 => (rd_move rfl)) ?_
      refine t_rdg rfl rfl rfl rfl (gv_f _) (fun hg3682 => (rd_lenS tS24 (gvx rfl hg3682) (hv3.of_old hm3676))) ?_
      refine t_rdg rfl rfl rfl rfl (gv_f _) (fun hg3683 => (rd_gtr (gvx rfl hg3683) rfl)) ?_
      refine t_rd rfl (rd_or rfl (fun hc3684 => (gvx rfl (bnotIt hc3684)))) ?_
      refine rwt_nil ?_
      refine qn_then ?_
      obtain ⟨hb3685, q3686⟩ | ⟨hb3685, q3686⟩ := oi q2449 <;> clear q2449
      · refine cw_t rfl hb3685 ?_
        refine cw_seq ?_
        refine cw_region ?_
        obtain ⟨r3687, h3688, q3689⟩ := ob q3686; clear q3686
        refine t_ef rfl (ef_call tf15 rfl (law24_sane_ok h3688)) ?_
        rintro _ w3691 ⟨e_, hm3690⟩
        obtain rfl := e_.symm
        have hm3692 := hm3676.call hm3690
        refine t_rd rfl (rd_assign rfl) ?_
        refine rwt_nil ?_
        refine qn_then ?_
        refine cw_ret ?_
        refine qr_then ?_
        obtain rfl := os q3689
        exact ret1 rfl rfl ⟨rfl, (hm3692.pick [] (by decide) rfl)⟩
      · refine cw_f rfl hb3685 ?_
        refine cw_skip ?_
        refine qn_then ?_
        refine cw_seq ?_
        refine cw_seq ?_
        refine cw_region ?_
        refine t_rd rfl (rd_assign rfl) ?_
        refine rwt_nil ?_
        refine qn_then ?_
        refine cw_block ?_
        obtain ⟨r3737, hit3738, q3739⟩ := ob q3686; clear q3686
        refine cw_loop2 (I := fun q envq wq => Sub [(1, v1), (2, v2), (3, v3), (4, v4), (11, (Value.pointer (some ⟨g4, 0, none⟩))), (21, (Value.int .i64 q))] envq ∧ Mem w No [blk g4 55 [v0, (Value.int .i64 p3674)]] wq) (X := fun eq envq wq => (∃ p3740, r3737 = (Sum.inl p3740) ∧ eq = .ret ∧ retQ Try.prog 205 Try.f3 (fun u w' => u = (Value.bool p3740) ∧ Mem w No [] w') .ret envq wq) ∨ (∃ p3741, r3737 = (Sum.inr p3741) ∧ eq = .exit 5 ∧ Sub [(1, v1), (2, v2), (3, v3), (4, v4), (11, (Value.pointer (some ⟨g4, 0, none⟩)))] envq ∧ Mem w No [blk g4 55 [v0, (Value.int .i64 p3674)]] wq)) hit3738 ⟨(by repeat (first | exact Sub.nil _ | refine Sub.cons rfl ?_)), (hm3676.pick [0] (by decide) rfl)⟩ ?_ ?_
        · rintro i3730 x3732 env3733 w3734 hf3735 hr3736 ⟨hs_, hm_⟩
          have hs_ : Sub [(1, v1), (2, v2), (3, v3), (4, v4), (11, (Value.pointer (some ⟨g4, 0, none⟩))), (21, (Value.int .i64 i3730))] env3733 := hs_
          have hm3742 : Mem w No [blk g4 55 [v0, (Value.int .i64 p3674)]] w3734 := hm_
          refine cw_sub hs_ ?_
          clear hs_ hm_ q3739
          have h : law24_ThrowplanExact_l8 N a1 i3730 = some x3732 := hf3735
          clear hf3735
          refine cw_seq ?_
          refine cw_seq ?_
          refine cw_region ?_
          refine t_rd rfl (rd_move rfl) ?_
          refine t_rd rfl (rd_move rfl) ?_
          refine t_rd rfl (rd_lenS tS23 rfl ((hn1.of_old hm3742).sl)) ?_
          refine t_rd rfl (rd_lss rfl rfl) ?_
          refine rwt_nil ?_
          refine qn_then ?_
          obtain ⟨hb3743, q3744⟩ | ⟨hb3743, q3744⟩ := oi h <;> clear h
          · refine cw_t rfl hb3743 ?_
            refine cw_skip ?_
            refine qn_then ?_
            refine cw_seq ?_
            refine cw_block ?_
            refine cw_seq ?_
            refine cw_region ?_
            refine t_rd rfl (rd_move rfl) ?_
            refine t_rd rfl (rd_move rfl) ?_
            obtain ⟨x3745, h3746, q3747⟩ := ob q3744; clear q3744
            refine t_rd rfl (rd_index tS23 rfl rfl ((hn1.of_old hm3742).sl) h3746) ?_
            obtain ⟨zd3748, hz3749⟩ := (hn1.of_old hm3742).row h3746
            refine t_rd rfl (rd_ld1 tO34 rfl ((hn1.of_old hm3742).cells hz3749) (off := 0) rfl) ?_
            refine t_rd rfl (rd_lenS tS34 rfl ((hn1.of_old hm3742).get hz3749 h3746)) ?_
            refine t_rd rfl (rd_gtr rfl rfl) ?_
            refine rwt_nil ?_
            refine qn_then ?_
            obtain ⟨hb3750, q3751⟩ | ⟨hb3750, q3751⟩ := oi q3747 <;> clear q3747
            · refine cw_t rfl hb3750 ?_
              refine cw_seq ?_
              refine cw_region ?_
              obtain ⟨r3752, h3753, q3754⟩ := ob q3751; clear q3751
              refine t_ef rfl (ef_call tf15 rfl (law24_sane_ok h3753)) ?_
              rintro _ w3756 ⟨e_, hm3755⟩
              obtain rfl := e_.symm
              have hm3757 := hm3742.call hm3755
              refine t_rd rfl (rd_assign rfl) ?_
              refine rwt_nil ?_
              refine qn_then ?_
              refine cw_ret ?_
              refine qr_block (qr_then (qr_then ?_))
              obtain rfl := hr3736 _ (os q3754)
              refine .inl (⟨_, rfl, ⟨rfl, ?_⟩⟩)
              exact ret1 rfl rfl ⟨rfl, (hm3757.pick [] (by decide) rfl)⟩
            · refine cw_f rfl hb3750 ?_
              refine cw_skip ?_
              refine qn_block (qn_then ?_)
              refine cw_region ?_
              refine t_rd rfl (rd_move rfl) ?_
              obtain ⟨x3758, h3759, q3760⟩ := ob q3751; clear q3751
              refine t_rd rfl (rd_add64 h3759 rfl rfl) ?_
              refine t_rd rfl (rd_assign rfl) ?_
              refine rwt_nil ?_
              refine qn_then ?_
              refine ⟨_, (os q3760), (by repeat (first | exact Sub.nil _ | refine Sub.cons rfl ?_)), (hm3742.pick [0] (by decide) rfl)⟩
          · refine cw_f rfl hb3743 ?_
            refine cw_exit ?_
            refine qx_then (qx_then ?_)
            obtain rfl := hr3736 _ (os q3744)
            exact .inr (⟨_, rfl, ⟨rfl, (by repeat (first | exact Sub.nil _ | refine Sub.cons rfl ?_)), (hm3742.pick [0] (by decide) rfl)⟩⟩)
        · skip
          intro e env3761 w3762 hX3763
          rcases hX3763 with hX3763 | hX3763
          · obtain ⟨p3765, rfl, hX3763⟩ := hX3763
            obtain ⟨rfl, hq3767⟩ := hX3763
            exact qr_block (qr_then ((by have e := os q3739; subst e; exact hq3767)))
          · obtain ⟨p3768, rfl, hX3763⟩ := hX3763
            obtain ⟨rfl, hs3769, hm3770⟩ := hX3763
            refine qx_same (qn_then ?_)
            refine cw_sub hs3769 ?_
            refine cw_seq ?_
            refine cw_region ?_
            refine t_rd rfl (rd_move rfl) ?_
            refine t_rd rfl (rd_move rfl) ?_
            refine t_rd rfl (rd_move rfl) ?_
            refine t_ef rfl (ef_bslice (l := ([0, 1000] : List Int)) hm3770 tS22 rfl (cs := #[(Value.int .i64 0), (Value.int .i64 1000)]) (by unfold bsl; kernel_rfl) rfl rfl) ?_
            intro v3771 w3773 hm3772
            obtain ⟨r3774, h3775, q3776⟩ := ob q3739; clear q3739
            refine t_ef rfl (ef_call tf13 rfl (Maker_Pick_ok h3775 (hv0.to_callT (k := 1) hm3772 rfl) (hm3772.get (k := 1) rfl) (hm3772.sl_callT 0 1 rfl rfl (by decide)))) ?_
            rintro _ w3778 ⟨e_, hm3777⟩
            obtain rfl := e_.symm
            have hm3779 := hm3772.callT (k := 1) rfl (fun _ h => h) hm3777 (fun _ => Iff.rfl)
            refine t_rd rfl (rd_move rfl) ?_
            refine t_rd rfl (rd_move rfl) ?_
            obtain ⟨r3780, h3781, q3782⟩ := ob q3776; clear q3776
            refine t_ef rfl (ef_call tf14 rfl (law24_exact_ok h3781 ((hn1.to_call hm3779).sl) (hv2.to_call hm3779) (hv3.to_call hm3779) (hv4.to_call hm3779))) ?_
            rintro _ w3784 ⟨e_, hm3783⟩
            obtain rfl := e_.symm
            have hm3785 := hm3779.call hm3783
            refine t_rd rfl (rd_move rfl) ?_
            obtain ⟨r3787, h3788, q3789⟩ := ob q3782; clear q3782
            refine t_efg rfl rfl rfl rfl (R := (fun v w' => v = gV r3780 (Value.bool r3787) ∧ Mem w3784 No [] w')) (gv_t _) (fun hg3786 => (ef_call tf15 rfl (law24_sane_ok (gO_t h3788 hg3786))).mono (by rintro _ _ ⟨rfl, q⟩; exact ⟨(gV_t hg3786).symm, q⟩)) (fun q => ⟨(gV_f q).symm, Mem.nil _⟩) ?_
            rintro _ w3791 ⟨rfl, hm3790⟩
            have hm3792 := hm3785.call hm3790
            refine t_rd rfl (rd_and rfl (fun hc3793 => (gvx rfl hc3793))) ?_
            refine t_rd rfl (rd_assign rfl) ?_
            refine rwt_nil ?_
            refine qn_then ?_
            refine cw_ret ?_
            obtain rfl := os q3789
            exact ret1 rfl rfl ⟨rfl, (hm3792.pick [] (by decide) rfl)⟩

theorem law24_ThrowplanSafe_ok {N : Nat} {a0 : List Int} {res : Bool} (h : law24_ThrowplanSafe N a0 = some res) {w : World} {v0 : Value} (hv0 : Sl (Old w No) w v0 a0) :
    CallsR Try.prog 4 [v0] w (fun u w' => u = (Value.bool res) ∧ Mem w No [] w') := by
  unfold law24_ThrowplanSafe at h
  refine fn_ok Try.func4 rfl rfl rfl ?_
  have hm0 := Mem.nil w
  refine cw_seq ?_
  refine cw_region ?_
  refine t_rd rfl (rd_assign rfl) ?_
  refine rwt_nil ?_
  refine qn_then ?_
  refine cw_seq ?_
  refine cw_region ?_
  refine t_rd rfl (rd_move rfl) ?_
  obtain ⟨r1, h2, q3⟩ := ob h; clear h
  refine t_ef rfl (ef_call tf8 rfl (humpgen_New_ok h2 (hv0.to_call hm0))) ?_
  rintro _ w6 ⟨g4, e_, hm5⟩
  obtain rfl := e_.symm
  have hm7 := hm0.call hm5
  refine t_rd rfl (rd_assign rfl) ?_
  refine rwt_nil ?_
  refine qn_then ?_
  refine cw_seq ?_
  refine cw_region ?_
  refine t_rd rfl (rd_move rfl) ?_
  obtain ⟨r8, h9, q10⟩ := ob q3; clear q3
  refine t_ef rfl (ef_call tf9 rfl (law24_planned_ok h9 (hv0.to_callT (k := 0) hm7 rfl) (hm7.get (k := 0) rfl))) ?_
  rintro _ w16 ⟨zs12, v11, v13, v14, e_, hm15⟩
  obtain rfl := e_.symm
  have hm17 := hm7.callT (k := 0) rfl (fun _ h => h) hm15 (fun _ => Iff.rfl)
  refine t_rd rfl (rd_move rfl) ?_
  refine t_rd rfl (rd_extract rfl rfl) ?_
  refine t_rd rfl (rd_extract rfl rfl) ?_
  refine t_rd rfl (rd_extract rfl rfl) ?_
  refine t_rd rfl (rd_extract rfl rfl) ?_
  refine t_rd rfl (rd_assign rfl) ?_
  refine t_rd rfl (rd_assign rfl) ?_
  refine t_rd rfl (rd_assign rfl) ?_
  refine t_rd rfl (rd_assign rfl) ?_
  refine rwt_nil ?_
  refine qn_then ?_
  refine cw_seq ?_
  refine cw_region ?_
  refine t_rd rfl (rd_move rfl) ?_
  refine t_rd rfl (rd_move rfl) ?_
  refine t_rd rfl (rd_move rfl) ?_
  refine t_rd rfl (rd_move rfl) ?_
  obtain ⟨r18, h19, q20⟩ := ob q10; clear q10
  refine t_ef rfl (ef_call tf16 rfl (throwplan_Commands_ok h19 ((Nl.mk (hm17.sl_call 0 rfl) (hm17.rows_call 1 rfl)).sl) (hm17.sl_call 2 rfl) (hm17.sl_call 3 rfl))) ?_
  rintro _ w23 ⟨v21, e_, hm22⟩
  obtain rfl := e_.symm
  have hm24 := hm17.call hm22
  refine t_rd rfl (rd_move rfl) ?_
  refine t_rd rfl (rd_extract rfl rfl) ?_
  refine t_rd rfl (rd_extract rfl rfl) ?_
  refine t_rd rfl (rd_assign rfl) ?_
  refine t_rd rfl (rd_assign rfl) ?_
  refine rwt_nil ?_
  refine qn_then ?_
  refine cw_seq ?_
  refine cw_region ?_
  refine t_rd rfl (rd_move rfl) ?_
  refine t_rd rfl (rd_move rfl) ?_
  refine t_rd rfl (rd_move rfl) ?_
  refine t_rd rfl (rd_move rfl) ?_
  refine t_rd rfl (rd_move rfl) ?_
  obtain ⟨r25, h26, q27⟩ := ob q20; clear q20
  refine t_ef rfl (ef_call tf17 rfl (throwplan_Safe_ok h26 ((Nl.mk (hm24.sl_call 1 rfl) (hm24.rows_call 2 rfl)).sl) (hm24.sl_call 3 rfl) (hm24.sl_call 4 rfl) (hm24.sl_call 0 rfl))) ?_
  rintro _ w29 ⟨e_, hm28⟩
  obtain rfl := e_.symm
  have hm30 := hm24.call hm28
  refine t_rd rfl (rd_move rfl) ?_
  refine t_rd rfl (rd_extract rfl rfl) ?_
  refine t_rd rfl (rd_extract rfl rfl) ?_
  refine t_rd rfl (rd_assign rfl) ?_
  refine t_rd rfl (rd_assign rfl) ?_
  refine rwt_nil ?_
  refine qn_then ?_
  refine cw_seq ?_
  refine cw_region ?_
  refine t_rd rfl (rd_move rfl) ?_
  refine t_rd rfl (rd_eql rfl rfl) ?_
  refine t_rd rfl (rd_move rfl) ?_
  refine t_rdg rfl rfl rfl rfl (gv_t _) (fun hg31 => (rd_move rfl)) ?_
  refine t_rdg rfl rfl rfl rfl (gv_t _) (fun hg32 => (rd_eql (gvx rfl hg32) rfl)) ?_
  refine t_rd rfl (rd_and rfl (fun hc33 => (gvx rfl hc33))) ?_
  refine t_rd rfl (rd_move rfl) ?_
  refine t_rdg rfl rfl rfl rfl (gv_t _) (fun hg34 => (rd_move rfl)) ?_
  refine t_rd rfl (rd_and rfl (fun hc35 => (gvx rfl hc35))) ?_
  refine t_rd rfl (rd_move rfl) ?_
  obtain ⟨r37, h38, q39⟩ := ob q27; clear q27
  refine t_efg rfl rfl rfl rfl (R := (fun v w' => v = gV ((decide (r18.2 = 0) && decide (r25.2 = 0)) && r25.1) (Value.bool r37) ∧ Mem w29 No [] w')) (gv_t _) (fun hg36 => (ef_call tf15 rfl (law24_sane_ok (gO_t h38 hg36))).mono (by rintro _ _ ⟨rfl, q⟩; exact ⟨(gV_t hg36).symm, q⟩)) (fun q => ⟨(gV_f q).symm, Mem.nil _⟩) ?_
  rintro _ w41 ⟨rfl, hm40⟩
  have hm42 := hm30.call hm40
  refine t_rd rfl (rd_and rfl (fun hc43 => (gvx rfl hc43))) ?_
  refine t_rd rfl (rd_assign rfl) ?_
  refine rwt_nil ?_
  refine qn_then ?_
  refine cw_ret ?_
  obtain rfl := os q39
  exact ret1 rfl rfl ⟨rfl, (hm42.pick [] (by decide) rfl)⟩

theorem yardgen_Within_ok {N : Nat} {a0_l : List Int} {a0_n : Int} {a1 : List T_Span} {res : Int × List T_Span} (h : yardgen_Within N a0_l a0_n a1 = some res) {w : World} {v0_l : Value} {g0 : Nat} {v1 : Value} (hv0_l : Sl (Old w (fun k => k = g0)) w v0_l a0_l) (hk0 : (blk g0 55 [v0_l, (Value.int .i64 a0_n)]).φ w) (hv1 : Sl (Old w (fun k => k = g0)) w v1 a1) :
    CallsR Try.prog 18 [(Value.pointer (some ⟨g0, 0, none⟩)), v1] w (fun u w' => ∃ (y0 : Value), u = y0 ∧ Mem w (fun k => k = g0) [blk g0 55 [v0_l, (Value.int .i64 res.1)], ownL 52 y0 (res.2 : List T_Span)] w') := by
  unfold yardgen_Within at h
  refine fn_ok Try.func18 rfl rfl rfl ?_
  have hm0 := Mem.one hk0
  refine cw_seq ?_
  refine cw_region ?_
  refine t_rd rfl (rd_assign rfl) ?_
  refine rwt_nil ?_
  refine qn_then ?_
  refine cw_seq ?_
  refine cw_region ?_
  refine t_rd rfl (rd_assign rfl) ?_
  refine rwt_nil ?_
  refine qn_then ?_
  refine cw_seq ?_
  refine cw_seq ?_
  refine cw_region ?_
  refine t_rd rfl (rd_assign rfl) ?_
  refine rwt_nil ?_
  refine qn_then ?_
  refine cw_block ?_
  have hm492 := hm0.addNil (α := T_Span) 52
  obtain ⟨r696, hit697, q698⟩ := ob h; clear h
  refine cw_loop2 (I := fun q envq wq => ∃ (v689 : Value), Sub [(0, (Value.pointer (some ⟨g0, 0, none⟩))), (1, v1), (5, v689), (6, (Value.int .i64 q.1))] envq ∧ Mem w (fun k => k = g0) [ownL 52 v689 (q.2.2 : List T_Span), blk g0 55 [v0_l, (Value.int .i64 q.2.1)]] wq) (X := fun eq envq wq => eq = .exit 0 ∧ ∃ (v685 : Value), Sub [(5, v685)] envq ∧ Mem w (fun k => k = g0) [ownL 52 v685 (r696.2 : List T_Span), blk g0 55 [v0_l, (Value.int .i64 r696.1)]] wq) hit697 ⟨(Value.slice none 0 0), (by repeat (first | exact Sub.nil _ | refine Sub.cons rfl ?_)), (hm492.pick [0, 1] (by decide) rfl)⟩ ?_ ?_
  · rintro ⟨i686, i687, l688⟩ x691 env692 w693 hf694 hr695 ⟨v689, hs_, hm_⟩
    have hs_ : Sub [(0, (Value.pointer (some ⟨g0, 0, none⟩))), (1, v1), (5, v689), (6, (Value.int .i64 i686))] env692 := hs_
    have hm699 : Mem w (fun k => k = g0) [ownL 52 v689 (l688 : List T_Span), blk g0 55 [v0_l, (Value.int .i64 i687)]] w693 := hm_
    refine cw_sub hs_ ?_
    clear hs_ hm_ q698
    have h : yardgen_Within_l1 N a0_l a1 i686 i687 l688 = some x691 := hf694
    clear hf694
    refine cw_seq ?_
    refine cw_seq ?_
    refine cw_region ?_
    refine t_rd rfl (rd_move rfl) ?_
    refine t_rd rfl (rd_move rfl) ?_
    refine t_rd rfl (rd_lenS tS34 rfl (hv1.of_old hm699)) ?_
    refine t_rd rfl (rd_lss rfl rfl) ?_
    refine rwt_nil ?_
    refine qn_then ?_
    obtain ⟨hb700, q701⟩ | ⟨hb700, q701⟩ := oi h <;> clear h
    · refine cw_t rfl hb700 ?_
      refine cw_skip ?_
      refine qn_then ?_
      refine cw_seq ?_
      refine cw_block ?_
      refine cw_seq ?_
      refine cw_region ?_
      refine t_rd rfl (rd_move rfl) ?_
      refine t_rd rfl (rd_move rfl) ?_
      obtain ⟨x702, h703, q704⟩ := ob q701; clear q701
      refine t_rd rfl (rd_index tS34 rfl rfl (hv1.of_old hm699) h703) ?_
      refine t_rd rfl (rd_ld tA52 rfl ((hv1.of_old hm699).cells h703) rfl) ?_
      refine t_ef rfl (ef_alloc hm699 tZ52 rfl) ?_
      rintro _ w707 ⟨g705, rfl, hm706⟩
      refine t_ef0 (ef_stw (k := 0) hm706 tA52 rfl rfl (oc_cons rfl (oc_cons rfl (oc_cons rfl (oc_cons rfl oc_nil)))) rfl rfl rfl) ?_
      intro _ w709 hm708
      refine rwt_nil ?_
      refine qn_then ?_
      refine cw_seq ?_
      obtain ⟨w711, he713⟩ : ∃ q, q = w709.drew := ⟨_, rfl⟩
      have hm712 := hm708.drew; rw [← he713] at hm712
      refine cw_region_s (fun q => (blk g705 52 [(Value.int .i64 x702.Element), (Value.int .i64 x702.Side), (Value.int .i64 x702.From), (Value.int .i64 x702.To)]).φ q) (cls [8] [11]) mixed ?_
      rintro _ rfl; rw [← he713]
      refine s_rp (i := 0) rfl (by kernel_rfl) rfl (fun _ => (rd_fld tF52_2 rfl)) ?_
      refine s_rd (i := 1) rfl (by kernel_rfl) rfl (fun w710 hS => (rd_ld1 tO3 rfl (cells_blk hS) (off := 2) rfl)) (hm712.get (k := 0) rfl) ?_
      refine s_rp (i := 2) rfl (by kernel_rfl) rfl (fun _ => (rd_move rfl)) ?_
      refine s_rp (i := 3) rfl (by kernel_rfl) rfl (fun _ => (rd_fld tF52_3 rfl)) ?_
      refine s_rd (i := 4) rfl (by kernel_rfl) rfl (fun w710 hS => (rd_ld1 tO3 rfl (cells_blk hS) (off := 3) rfl)) (hm712.get (k := 0) rfl) ?_
      refine s_rp (i := 5) rfl (by kernel_rfl) rfl (fun _ => (rd_fld tF52_2 rfl)) ?_
      refine s_rd (i := 6) rfl (by kernel_rfl) rfl (fun w710 hS => (rd_ld1 tO3 rfl (cells_blk hS) (off := 2) rfl)) (hm712.get (k := 0) rfl) ?_
      obtain ⟨x728, h729, q730⟩ := ob q704; clear q704
      refine s_rp (i := 7) rfl (by kernel_rfl) rfl (fun _ => (rd_sub64 h729 rfl rfl)) ?_
      obtain ⟨r731, h732, q733⟩ := ob q730; clear q730
      refine s_ef (i := 8) rfl (by kernel_rfl) rfl (ef_call tf11 rfl (Maker_Next_ok h732 (hv0_l.to_callT (k := 2) hm712 rfl) (hm712.get (k := 2) rfl))) (by decide) ?_ ?_
      · rintro _ w735 ⟨e_, hm734⟩
        obtain rfl := e_.symm
        have hm736 := hm712.callT (k := 2) rfl (fun _ h => h) hm734 (fun _ => Iff.rfl)
        intro _
        exact (hm736.get (k := 0) rfl)
      rintro _ w735 ⟨e_, hm734⟩
      obtain rfl := e_.symm
      have hm736 := hm712.callT (k := 2) rfl (fun _ h => h) hm734 (fun _ => Iff.rfl)
      obtain ⟨x737, h738, q739⟩ := ob q733; clear q733
      refine s_rp (i := 9) rfl (by kernel_rfl) rfl (fun _ => (rd_add64 h738 rfl rfl)) ?_
      refine s_rp (i := 10) rfl (by kernel_rfl) rfl (fun _ => (rd_fld tF52_2 rfl)) ?_
      refine s_ef0 (i := 11) rfl (by kernel_rfl) (ef_st1 (k := 0) (off := 2) hm736 tO3 rfl rfl rfl rfl rfl rfl) (by decide) (fun _ _ _ q => absurd q (by decide)) ?_
      intro _ w741 hm740
      refine s_nil (by kernel_rfl) ?_
      refine qn_then ?_
      refine cw_seq ?_
      obtain ⟨w743, he745⟩ : ∃ q, q = w741.drew := ⟨_, rfl⟩
      have hm744 := hm740.drew; rw [← he745] at hm744
      refine cw_region_s (fun q => (blk g705 52 [(Value.int .i64 x702.Element), (Value.int .i64 x702.Side), (Value.int .i64 x737), (Value.int .i64 x702.To)]).φ q) (cls [9] [12]) mixed ?_
      rintro _ rfl; rw [← he745]
      refine s_rp (i := 0) rfl (by kernel_rfl) rfl (fun _ => (rd_fld tF52_2 rfl)) ?_
      refine s_rd (i := 1) rfl (by kernel_rfl) rfl (fun w742 hS => (rd_ld1 tO3 rfl (cells_blk hS) (off := 2) rfl)) (hm744.get (k := 0) rfl) ?_
      obtain ⟨x763, h764, q765⟩ := ob q739; clear q739
      refine s_rp (i := 2) rfl (by kernel_rfl) rfl (fun _ => (rd_add64 h764 rfl rfl)) ?_
      refine s_rp (i := 3) rfl (by kernel_rfl) rfl (fun _ => (rd_move rfl)) ?_
      refine s_rp (i := 4) rfl (by kernel_rfl) rfl (fun _ => (rd_fld tF52_3 rfl)) ?_
      refine s_rd (i := 5) rfl (by kernel_rfl) rfl (fun w742 hS => (rd_ld1 tO3 rfl (cells_blk hS) (off := 3) rfl)) (hm744.get (k := 0) rfl) ?_
      refine s_rp (i := 6) rfl (by kernel_rfl) rfl (fun _ => (rd_fld tF52_2 rfl)) ?_
      refine s_rd (i := 7) rfl (by kernel_rfl) rfl (fun w742 hS => (rd_ld1 tO3 rfl (cells_blk hS) (off := 2) rfl)) (hm744.get (k := 0) rfl) ?_
      obtain ⟨x766, h767, q768⟩ := ob q765; clear q765
      refine s_rp (i := 8) rfl (by kernel_rfl) rfl (fun _ => (rd_sub64 h767 rfl rfl)) ?_
      obtain ⟨r769, h770, q771⟩ := ob q768; clear q768
      refine s_ef (i := 9) rfl (by kernel_rfl) rfl (ef_call tf11 rfl (Maker_Next_ok h770 (hv0_l.to_callT (k := 2) hm744 rfl) (hm744.get (k := 2) rfl))) (by decide) ?_ ?_
      · rintro _ w773 ⟨e_, hm772⟩
        obtain rfl := e_.symm
        have hm774 := hm744.callT (k := 2) rfl (fun _ h => h) hm772 (fun _ => Iff.rfl)
        intro _
        exact (hm774.get (k := 0) rfl)
      rintro _ w773 ⟨e_, hm772⟩
      obtain rfl := e_.symm
      have hm774 := hm744.callT (k := 2) rfl (fun _ h => h) hm772 (fun _ => Iff.rfl)
      obtain ⟨x775, h776, q777⟩ := ob q771; clear q771
      refine s_rp (i := 10) rfl (by kernel_rfl) rfl (fun _ => (rd_add64 h776 rfl rfl)) ?_
      refine s_rp (i := 11) rfl (by kernel_rfl) rfl (fun _ => (rd_fld tF52_3 rfl)) ?_
      refine s_ef0 (i := 12) rfl (by kernel_rfl) (ef_st1 (k := 0) (off := 3) hm774 tO3 rfl rfl rfl rfl rfl rfl) (by decide) (fun _ _ _ q => absurd q (by decide)) ?_
      intro _ w779 hm778
      refine s_nil (by kernel_rfl) ?_
      refine qn_then ?_
      refine cw_region ?_
      refine t_rd rfl (rd_move rfl) ?_
      refine t_rd rfl (rd_ld tA52 rfl (hm778.blk 0 rfl) rfl) ?_
      refine t_ef rfl (ef_bslice (l := ([(T_Span.mk x702.Element x702.Side x737 x775)] : List T_Span)) hm778 tS34 rfl (cs := #[(Value.int .i64 x702.Element), (Value.int .i64 x702.Side), (Value.int .i64 x737), (Value.int .i64 x775)]) (by unfold bsl; kernel_rfl) rfl rfl) ?_
      intro v780 w782 hm781
      obtain ⟨l783, h784, q785⟩ := ob q777; clear q777
      refine t_ef rfl (ef_append (k := 2) hm781 tS34 tE52 rfl rfl rfl rfl (hm781.sl 0 rfl) h784) ?_
      intro v786 w788 hm787
      refine t_rd rfl (rd_assign rfl) ?_
      refine rwt_nil ?_
      refine qn_block (qn_then ?_)
      refine cw_region ?_
      refine t_rd rfl (rd_move rfl) ?_
      obtain ⟨x789, h790, q791⟩ := ob q785; clear q785
      refine t_rd rfl (rd_add64 h790 rfl rfl) ?_
      refine t_rd rfl (rd_assign rfl) ?_
      refine rwt_nil ?_
      refine qn_then ?_
      refine ⟨_, (os q791), v786, (by repeat (first | exact Sub.nil _ | refine Sub.cons rfl ?_)), (hm787.pick [2, 3] (by decide) rfl)⟩
    · refine cw_f rfl hb700 ?_
      refine cw_exit ?_
      refine qx_then (qx_then ?_)
      obtain rfl := hr695 _ (os q701)
      exact ⟨rfl, v689, (by repeat (first | exact Sub.nil _ | refine Sub.cons rfl ?_)), (hm699.pick [0, 1] (by decide) rfl)⟩
  · skip
    intro e env792 w793 hX794
    obtain ⟨rfl, v685, hs795, hm796⟩ := hX794
    refine qx_same (qn_then ?_)
    refine cw_sub hs795 ?_
    refine cw_seq ?_
    refine cw_region ?_
    refine t_rd rfl (rd_move rfl) ?_
    refine t_rd rfl (rd_assign rfl) ?_
    refine rwt_nil ?_
    refine qn_then ?_
    refine cw_ret ?_
    obtain rfl := os q698
    exact ret1 rfl rfl ⟨v685, rfl, (hm796.pick [1, 0] (by decide) rfl)⟩

theorem law24_ThrowplanInside_ok {N : Nat} {a0 : List Int} {res : Bool} (h : law24_ThrowplanInside N a0 = some res) {w : World} {v0 : Value} (hv0 : Sl (Old w No) w v0 a0) :
    CallsR Try.prog 5 [v0] w (fun u w' => u = (Value.bool res) ∧ Mem w No [] w') := by
  unfold law24_ThrowplanInside at h
  refine fn_ok Try.func5 rfl rfl rfl ?_
  have hm0 := Mem.nil w
  refine cw_seq ?_
  refine cw_region ?_
  refine t_rd rfl (rd_assign rfl) ?_
  refine rwt_nil ?_
  refine qn_then ?_
  refine cw_seq ?_
  refine cw_region ?_
  refine t_rd rfl (rd_move rfl) ?_
  obtain ⟨r1, h2, q3⟩ := ob h; clear h
  refine t_ef rfl (ef_call tf8 rfl (humpgen_New_ok h2 (hv0.to_call hm0))) ?_
  rintro _ w6 ⟨g4, e_, hm5⟩
  obtain rfl := e_.symm
  have hm7 := hm0.call hm5
  refine t_rd rfl (rd_assign rfl) ?_
  refine rwt_nil ?_
  refine qn_then ?_
  refine cw_seq ?_
  refine cw_region ?_
  refine t_rd rfl (rd_move rfl) ?_
  obtain ⟨r8, h9, q10⟩ := ob q3; clear q3
  refine t_ef rfl (ef_call tf9 rfl (law24_planned_ok h9 (hv0.to_callT (k := 0) hm7 rfl) (hm7.get (k := 0) rfl))) ?_
  rintro _ w16 ⟨zs12, v11, v13, v14, e_, hm15⟩
  obtain rfl := e_.symm
  have hm17 := hm7.callT (k := 0) rfl (fun _ h => h) hm15 (fun _ => Iff.rfl)
  refine t_rd rfl (rd_move rfl) ?_
  refine t_rd rfl (rd_extract rfl rfl) ?_
  refine t_rd rfl (rd_extract rfl rfl) ?_
  refine t_rd rfl (rd_extract rfl rfl) ?_
  refine t_rd rfl (rd_extract rfl rfl) ?_
  refine t_rd rfl (rd_assign rfl) ?_
  refine t_rd rfl (rd_assign rfl) ?_
  refine t_rd rfl (rd_assign rfl) ?_
  refine t_rd rfl (rd_assign rfl) ?_
  refine rwt_nil ?_
  refine qn_then ?_
  refine cw_seq ?_
  refine cw_region ?_
  refine t_rd rfl (rd_move rfl) ?_
  refine t_rd rfl (rd_move rfl) ?_
  refine t_rd rfl (rd_move rfl) ?_
  refine t_rd rfl (rd_move rfl) ?_
  obtain ⟨r18, h19, q20⟩ := ob q10; clear q10
  refine t_ef rfl (ef_call tf16 rfl (throwplan_Commands_ok h19 ((Nl.mk (hm17.sl_call 0 rfl) (hm17.rows_call 1 rfl)).sl) (hm17.sl_call 2 rfl) (hm17.sl_call 3 rfl))) ?_
  rintro _ w23 ⟨v21, e_, hm22⟩
  obtain rfl := e_.symm
  have hm24 := hm17.call hm22
  refine t_rd rfl (rd_move rfl) ?_
  refine t_rd rfl (rd_extract rfl rfl) ?_
  refine t_rd rfl (rd_extract rfl rfl) ?_
  refine t_rd rfl (rd_assign rfl) ?_
  refine t_rd rfl (rd_assign rfl) ?_
  refine rwt_nil ?_
  refine qn_then ?_
  refine cw_seq ?_
  refine cw_region ?_
  refine t_rd rfl (rd_assign rfl) ?_
  refine rwt_nil ?_
  refine qn_then ?_
  refine cw_seq ?_
  refine cw_seq ?_
  refine cw_region ?_
  refine t_rd rfl (rd_assign rfl) ?_
  refine rwt_nil ?_
  refine qn_then ?_
  refine cw_block ?_
  have hm59 := hm24.addNil (α := Hdr) 34
  have hm60 := hm59.rowsNil (α := T_Span) 52
  obtain ⟨r146, hit147, q148⟩ := ob q20; clear q20
  refine cw_loop2 (I := fun q envq wq => ∃ (v138 : Value) (zs139 : List Hdr), Sub [(3, (Value.pointer (some ⟨g4, 0, none⟩))), (4, v11), (5, v13), (6, (Value.int .i64 r8.2.2.2.1)), (7, v14), (8, v21), (9, (Value.int .i64 r18.2)), (10, v138), (11, (Value.int .i64 q.1))] envq ∧ Mem w No [rowsC 52 zs139 (q.2.2 : List (List T_Span)) none, ownL 34 v138 (zs139 : List Hdr), ownL 41 v21 (r18.1 : List T_Command), ownL 34 v11 (zs12 : List Hdr), rowsC 52 zs12 (r8.2.1 : List (List T_Span)) none, ownL 3 v13 (r8.2.2.1 : List Int), ownL 38 v14 (r8.2.2.2.2 : List T_Throw), blk g4 55 [v0, (Value.int .i64 q.2.1)]] wq) (X := fun eq envq wq => eq = .exit 0 ∧ ∃ (v133 : Value) (zs134 : List Hdr), Sub [(5, v13), (6, (Value.int .i64 r8.2.2.2.1)), (7, v14), (8, v21), (9, (Value.int .i64 r18.2)), (10, v133)] envq ∧ Mem w No [rowsC 52 zs134 (r146 : List (List T_Span)) none, ownL 34 v133 (zs134 : List Hdr), ownL 41 v21 (r18.1 : List T_Command), ownL 3 v13 (r8.2.2.1 : List Int), ownL 38 v14 (r8.2.2.2.2 : List T_Throw)] wq) hit147 ⟨(Value.slice none 0 0), [], (by repeat (first | exact Sub.nil _ | refine Sub.cons rfl ?_)), (hm60.pick [0, 1, 2, 3, 4, 5, 6, 7] (by decide) rfl)⟩ ?_ ?_
  · rintro ⟨i135, i136, l137⟩ x141 env142 w143 hf144 hr145 ⟨v138, zs139, hs_, hm_⟩
    have hs_ : Sub [(3, (Value.pointer (some ⟨g4, 0, none⟩))), (4, v11), (5, v13), (6, (Value.int .i64 r8.2.2.2.1)), (7, v14), (8, v21), (9, (Value.int .i64 r18.2)), (10, v138), (11, (Value.int .i64 i135))] env142 := hs_
    have hm149 : Mem w No [rowsC 52 zs139 (l137 : List (List T_Span)) none, ownL 34 v138 (zs139 : List Hdr), ownL 41 v21 (r18.1 : List T_Command), ownL 34 v11 (zs12 : List Hdr), rowsC 52 zs12 (r8.2.1 : List (List T_Span)) none, ownL 3 v13 (r8.2.2.1 : List Int), ownL 38 v14 (r8.2.2.2.2 : List T_Throw), blk g4 55 [v0, (Value.int .i64 i136)]] w143 := hm_
    refine cw_sub hs_ ?_
    clear hs_ hm_ q148
    have h : law24_ThrowplanInside_l1 N a0 r8 i135 i136 l137 = some x141 := hf144
    clear hf144
    refine cw_seq ?_
    refine cw_seq ?_
    refine cw_region ?_
    refine t_rd rfl (rd_move rfl) ?_
    refine t_rd rfl (rd_move rfl) ?_
    refine t_rd rfl (rd_lenS tS23 rfl ((Nl.mk (hm149.sl_call 3 rfl) (hm149.rows_call 4 rfl)).sl)) ?_
    refine t_rd rfl (rd_lss rfl rfl) ?_
    refine rwt_nil ?_
    refine qn_then ?_
    obtain ⟨hb150, q151⟩ | ⟨hb150, q151⟩ := oi h <;> clear h
    · refine cw_t rfl hb150 ?_
      refine cw_skip ?_
      refine qn_then ?_
      refine cw_seq ?_
      refine cw_block ?_
      refine cw_region ?_
      refine t_rd rfl (rd_move rfl) ?_
      refine t_rd rfl (rd_move rfl) ?_
      refine t_rd rfl (rd_move rfl) ?_
      refine t_rd rfl (rd_move rfl) ?_
      obtain ⟨x152, h153, q154⟩ := ob q151; clear q151
      refine t_rd rfl (rd_index tS23 rfl rfl ((Nl.mk (hm149.sl_call 3 rfl) (hm149.rows_call 4 rfl)).sl) h153) ?_
      obtain ⟨zd155, hz156⟩ := (Nl.mk (hm149.sl_call 3 rfl) (hm149.rows_call 4 rfl)).row h153
      refine t_rd rfl (rd_ld1 tO34 rfl ((Nl.mk (hm149.sl_call 3 rfl) (hm149.rows_call 4 rfl)).cells hz156) (off := 0) rfl) ?_
      obtain ⟨r157, h158, q159⟩ := ob q154; clear q154
      refine t_ef rfl (ef_call tf18 rfl (yardgen_Within_ok h158 (hv0.to_callT (k := 7) hm149 rfl) (hm149.get (k := 7) rfl) ((Nl.mk (hm149.sl_callT 3 7 rfl rfl (by decide)) (hm149.rows_callT 4 7 rfl rfl (by decide))).get hz156 h153))) ?_
      rintro _ w162 ⟨v160, e_, hm161⟩
      obtain rfl := e_.symm
      have hm163 := hm149.callT (k := 7) rfl (fun _ h => h) hm161 (fun _ => Iff.rfl)
      obtain ⟨zd164, ez165⟩ : ∃ z : Hdr, z.1 = v160 := ⟨⟨v160, sl_one (hm163.sl 0 rfl)⟩, rfl⟩
      refine t_ef rfl (ef_bslice (l := ([zd164] : List Hdr)) hm163 tS23 rfl (cs := #[v160]) (by obtain ⟨_, _, e⟩ : ∃ A c, v160 = Value.slice A (List.length r157.2) c := ((hm163.sl 0 rfl)).val; rw [e]; clear e; unfold bsl; kernel_rfl) (by show [zd164.1] = [v160]; rw [ez165]) rfl) ?_
      intro v166 w168 hm167
      obtain ⟨l169, h170, q171⟩ := ob q159; clear q159
      obtain ⟨ha172, he173⟩ := app_h h170 (hm167.get (k := 2) rfl).1 ((Nl.mk (hm167.sl_call 0 rfl) (Rows.cons (hm167.sl_call 1 rfl) ez165 Rows.nil))).rows.1
      refine t_ef rfl (ef_append (k := 3) hm167 tS23 tE34 rfl rfl rfl rfl ((Nl.mk (hm167.sl_call 0 rfl) (Rows.cons (hm167.sl_call 1 rfl) ez165 Rows.nil))).sp ha172) ?_
      intro v174 w176 hm175
      have hm177 := hm175.pick [2, 1, 0, 3, 4, 5, 6, 7, 8, 9] (L' := [rowsC 52 zs139 (l137 : List (List T_Span)) none, ownL 52 v160 (r157.2 : List T_Span), ownL 34 v166 ([zd164] : List Hdr), ownL 34 v174 ((zs139 ++ [zd164]) : List Hdr), ownL 41 v21 (r18.1 : List T_Command), ownL 34 v11 (zs12 : List Hdr), rowsC 52 zs12 (r8.2.1 : List (List T_Span)) none, ownL 3 v13 (r8.2.2.1 : List Int), ownL 38 v14 (r8.2.2.2.2 : List T_Throw), blk g4 55 [v0, (Value.int .i64 r157.1)]]) (by decide) rfl
      have hm178 := hm177.absorb ez165 he173
      refine t_rd rfl (rd_assign rfl) ?_
      refine rwt_nil ?_
      refine qn_block (qn_then ?_)
      refine cw_region ?_
      refine t_rd rfl (rd_move rfl) ?_
      obtain ⟨x179, h180, q181⟩ := ob q171; clear q171
      refine t_rd rfl (rd_add64 h180 rfl rfl) ?_
      refine t_rd rfl (rd_assign rfl) ?_
      refine rwt_nil ?_
      refine qn_then ?_
      refine ⟨_, (os q181), v174, (zs139 ++ [zd164]), (by repeat (first | exact Sub.nil _ | refine Sub.cons rfl ?_)), (hm178.pick [0, 2, 3, 4, 5, 6, 7, 8] (by decide) rfl)⟩
    · refine cw_f rfl hb150 ?_
      refine cw_exit ?_
      refine qx_then (qx_then ?_)
      obtain rfl := hr145 _ (os q151)
      exact ⟨rfl, v138, zs139, (by repeat (first | exact Sub.nil _ | refine Sub.cons rfl ?_)), (hm149.pick [0, 1, 2, 5, 6] (by decide) rfl)⟩
  · skip
    intro e env182 w183 hX184
    obtain ⟨rfl, v133, zs134, hs185, hm186⟩ := hX184
    refine qx_same (qn_then ?_)
    refine cw_sub hs185 ?_
    refine cw_seq ?_
    refine cw_region ?_
    refine t_rd rfl (rd_move rfl) ?_
    refine t_rd rfl (rd_move rfl) ?_
    refine t_rd rfl (rd_move rfl) ?_
    refine t_rd rfl (rd_move rfl) ?_
    refine t_rd rfl (rd_move rfl) ?_
    obtain ⟨r187, h188, q189⟩ := ob q148; clear q148
    refine t_ef rfl (ef_call tf17 rfl (throwplan_Safe_ok h188 ((Nl.mk (hm186.sl_call 1 rfl) (hm186.rows_call 0 rfl)).sl) (hm186.sl_call 3 rfl) (hm186.sl_call 4 rfl) (hm186.sl_call 2 rfl))) ?_
    rintro _ w191 ⟨e_, hm190⟩
    obtain rfl := e_.symm
    have hm192 := hm186.call hm190
    refine t_rd rfl (rd_move rfl) ?_
    refine t_rd rfl (rd_extract rfl rfl) ?_
    refine t_rd rfl (rd_extract rfl rfl) ?_
    refine t_rd rfl (rd_assign rfl) ?_
    refine t_rd rfl (rd_assign rfl) ?_
    refine rwt_nil ?_
    refine qn_then ?_
    refine cw_seq ?_
    refine cw_region ?_
    refine t_rd rfl (rd_move rfl) ?_
    refine t_rd rfl (rd_eql rfl rfl) ?_
    refine t_rd rfl (rd_move rfl) ?_
    refine t_rdg rfl rfl rfl rfl (gv_t _) (fun hg193 => (rd_move rfl)) ?_
    refine t_rdg rfl rfl rfl rfl (gv_t _) (fun hg194 => (rd_eql (gvx rfl hg194) rfl)) ?_
    refine t_rd rfl (rd_and rfl (fun hc195 => (gvx rfl hc195))) ?_
    refine t_rd rfl (rd_move rfl) ?_
    refine t_rdg rfl rfl rfl rfl (gv_t _) (fun hg196 => (rd_move rfl)) ?_
    refine t_rd rfl (rd_and rfl (fun hc197 => (gvx rfl hc197))) ?_
    refine t_rd rfl (rd_move rfl) ?_
    obtain ⟨r199, h200, q201⟩ := ob q189; clear q189
    refine t_efg rfl rfl rfl rfl (R := (fun v w' => v = gV ((decide (r18.2 = 0) && decide (r187.2 = 0)) && r187.1) (Value.bool r199) ∧ Mem w191 No [] w')) (gv_t _) (fun hg198 => (ef_call tf15 rfl (law24_sane_ok (gO_t h200 hg198))).mono (by rintro _ _ ⟨rfl, q⟩; exact ⟨(gV_t hg198).symm, q⟩)) (fun q => ⟨(gV_f q).symm, Mem.nil _⟩) ?_
    rintro _ w203 ⟨rfl, hm202⟩
    have hm204 := hm192.call hm202
    refine t_rd rfl (rd_and rfl (fun hc205 => (gvx rfl hc205))) ?_
    refine t_rd rfl (rd_assign rfl) ?_
    refine rwt_nil ?_
    refine qn_then ?_
    refine cw_ret ?_
    obtain rfl := os q201
    exact ret1 rfl rfl ⟨rfl, (hm204.pick [] (by decide) rfl)⟩

theorem yardgen_Place_ok {N : Nat} {a0 : Int} {a1 : Int} {res : Int} (h : yardgen_Place N a0 a1 = some res) {w : World}   :
    CallsR Try.prog 19 [(Value.int .i64 a0), (Value.int .i64 a1)] w (fun u w' => u = (Value.int .i64 res) ∧ Mem w No [] w') := by
  unfold yardgen_Place at h
  refine fn_ok Try.func19 rfl rfl rfl ?_
  have hm0 := Mem.nil w
  refine cw_seq ?_
  refine cw_region ?_
  refine t_rd rfl (rd_assign rfl) ?_
  refine rwt_nil ?_
  refine qn_then ?_
  refine cw_seq ?_
  refine cw_seq ?_
  refine cw_region ?_
  refine t_rd rfl (rd_move rfl) ?_
  refine t_rd rfl (rd_lss rfl rfl) ?_
  refine rwt_nil ?_
  refine qn_then ?_
  obtain ⟨hb1, q2⟩ | ⟨hb1, q2⟩ := oi h <;> clear h
  · refine cw_t rfl hb1 ?_
    refine cw_seq ?_
    refine cw_region ?_
    refine t_rd rfl (rd_assign rfl) ?_
    refine rwt_nil ?_
    refine qn_then ?_
    refine cw_ret ?_
    refine qr_then ?_
    obtain rfl := os q2
    exact ret1 rfl rfl ⟨rfl, (hm0.pick [] (by decide) rfl)⟩
  · refine cw_f rfl hb1 ?_
    refine cw_skip ?_
    refine qn_then ?_
    refine cw_seq ?_
    refine cw_region ?_
    refine t_rd rfl (rd_move rfl) ?_
    refine t_rd rfl (rd_move rfl) ?_
    obtain ⟨x3, h4, q5⟩ := ob q2; clear q2
    refine t_rd rfl (rd_rem64 h4 rfl rfl) ?_
    refine t_rd rfl (rd_assign rfl) ?_
    refine rwt_nil ?_
    refine qn_then ?_
    refine cw_seq ?_
    refine cw_seq ?_
    refine cw_region ?_
    refine t_rd rfl (rd_move rfl) ?_
    refine t_rd rfl (rd_lss rfl rfl) ?_
    refine rwt_nil ?_
    refine qn_then ?_
    obtain ⟨hb6, q7⟩ | ⟨hb6, q7⟩ := oi q5 <;> clear q5
    · refine cw_t rfl hb6 ?_
      refine cw_region ?_
      refine t_rd rfl (rd_move rfl) ?_
      refine t_rd rfl (rd_move rfl) ?_
      obtain ⟨x8, h9, q10⟩ := ob q7; clear q7
      refine t_rd rfl (rd_add64 h9 rfl rfl) ?_
      refine t_rd rfl (rd_assign rfl) ?_
      refine rwt_nil ?_
      refine qn_then ?_
      refine cw_seq ?_
      refine cw_region ?_
      refine t_rd rfl (rd_move rfl) ?_
      refine t_rd rfl (rd_assign rfl) ?_
      refine rwt_nil ?_
      refine qn_then ?_
      refine cw_ret ?_
      obtain rfl := os q10
      exact ret1 rfl rfl ⟨rfl, (hm0.pick [] (by decide) rfl)⟩
    · refine cw_f rfl hb6 ?_
      refine cw_skip ?_
      refine qn_then ?_
      refine cw_seq ?_
      refine cw_region ?_
      refine t_rd rfl (rd_move rfl) ?_
      refine t_rd rfl (rd_assign rfl) ?_
      refine rwt_nil ?_
      refine qn_then ?_
      refine cw_ret ?_
      obtain rfl := os q7
      exact ret1 rfl rfl ⟨rfl, (hm0.pick [] (by decide) rfl)⟩

theorem law24_ThrowplanNeeded_ok {N : Nat} {a0 : List Int} {a1 : Int} {res : Bool} (h : law24_ThrowplanNeeded N a0 a1 = some res) {w : World} {v0 : Value} (hv0 : Sl (Old w No) w v0 a0) :
    CallsR Try.prog 6 [v0, (Value.int .i64 a1)] w (fun u w' => u = (Value.bool res) ∧ Mem w No [] w') := by
  unfold law24_ThrowplanNeeded at h
  refine fn_ok Try.func6 rfl rfl rfl ?_
  have hm0 := Mem.nil w
  refine cw_seq ?_
  refine cw_region ?_
  refine t_rd rfl (rd_assign rfl) ?_
  refine rwt_nil ?_
  refine qn_then ?_
  refine cw_seq ?_
  refine cw_region ?_
  refine t_rd rfl (rd_move rfl) ?_
  obtain ⟨r1, h2, q3⟩ := ob h; clear h
  refine t_ef rfl (ef_call tf8 rfl (humpgen_New_ok h2 (hv0.to_call hm0))) ?_
  rintro _ w6 ⟨g4, e_, hm5⟩
  obtain rfl := e_.symm
  have hm7 := hm0.call hm5
  refine t_rd rfl (rd_assign rfl) ?_
  refine rwt_nil ?_
  refine qn_then ?_
  refine cw_seq ?_
  refine cw_region ?_
  refine t_rd rfl (rd_move rfl) ?_
  obtain ⟨r8, h9, q10⟩ := ob q3; clear q3
  refine t_ef rfl (ef_call tf9 rfl (law24_planned_ok h9 (hv0.to_callT (k := 0) hm7 rfl) (hm7.get (k := 0) rfl))) ?_
  rintro _ w16 ⟨zs12, v11, v13, v14, e_, hm15⟩
  obtain rfl := e_.symm
  have hm17 := hm7.callT (k := 0) rfl (fun _ h => h) hm15 (fun _ => Iff.rfl)
  refine t_rd rfl (rd_move rfl) ?_
  refine t_rd rfl (rd_extract rfl rfl) ?_
  refine t_rd rfl (rd_extract rfl rfl) ?_
  refine t_rd rfl (rd_extract rfl rfl) ?_
  refine t_rd rfl (rd_extract rfl rfl) ?_
  refine t_rd rfl (rd_assign rfl) ?_
  refine t_rd rfl (rd_assign rfl) ?_
  refine t_rd rfl (rd_assign rfl) ?_
  refine t_rd rfl (rd_assign rfl) ?_
  refine rwt_nil ?_
  refine qn_then ?_
  refine cw_seq ?_
  refine cw_region ?_
  refine t_rd rfl (rd_move rfl) ?_
  refine t_rd rfl (rd_move rfl) ?_
  refine t_rd rfl (rd_move rfl) ?_
  refine t_rd rfl (rd_move rfl) ?_
  obtain ⟨r18, h19, q20⟩ := ob q10; clear q10
  refine t_ef rfl (ef_call tf16 rfl (throwplan_Commands_ok h19 ((Nl.mk (hm17.sl_call 0 rfl) (hm17.rows_call 1 rfl)).sl) (hm17.sl_call 2 rfl) (hm17.sl_call 3 rfl))) ?_
  rintro _ w23 ⟨v21, e_, hm22⟩
  obtain rfl := e_.symm
  have hm24 := hm17.call hm22
  refine t_rd rfl (rd_move rfl) ?_
  refine t_rd rfl (rd_extract rfl rfl) ?_
  refine t_rd rfl (rd_extract rfl rfl) ?_
  refine t_rd rfl (rd_assign rfl) ?_
  refine t_rd rfl (rd_assign rfl) ?_
  refine rwt_nil ?_
  refine qn_then ?_
  refine cw_seq ?_
  refine cw_seq ?_
  refine cw_region ?_
  refine t_rd rfl (rd_move rfl) ?_
  refine t_rd rfl (rd_neq rfl rfl) ?_
  refine rwt_nil ?_
  refine qn_then ?_
  obtain ⟨hb25, q26⟩ | ⟨hb25, q26⟩ := oi q20 <;> clear q20
  · refine cw_t rfl hb25 ?_
    refine cw_seq ?_
    refine cw_region ?_
    refine t_rd rfl (rd_assign rfl) ?_
    refine rwt_nil ?_
    refine qn_then ?_
    refine cw_ret ?_
    refine qr_then ?_
    obtain rfl := os q26
    exact ret1 rfl rfl ⟨rfl, (hm24.pick [] (by decide) rfl)⟩
  · refine cw_f rfl hb25 ?_
    refine cw_skip ?_
    refine qn_then ?_
    refine cw_seq ?_
    refine cw_seq ?_
    refine cw_region ?_
    refine t_rd rfl (rd_move rfl) ?_
    refine t_rd rfl (rd_lenS tS25 rfl (hm24.sl 0 rfl)) ?_
    refine t_rd rfl (rd_eql rfl rfl) ?_
    refine rwt_nil ?_
    refine qn_then ?_
    obtain ⟨hb27, q28⟩ | ⟨hb27, q28⟩ := oi q26 <;> clear q26
    · refine cw_t rfl hb27 ?_
      refine cw_seq ?_
      refine cw_region ?_
      obtain ⟨r29, h30, q31⟩ := ob q28; clear q28
      refine t_ef rfl (ef_call tf15 rfl (law24_sane_ok h30)) ?_
      rintro _ w33 ⟨e_, hm32⟩
      obtain rfl := e_.symm
      have hm34 := hm24.call hm32
      refine t_rd rfl (rd_assign rfl) ?_
      refine rwt_nil ?_
      refine qn_then ?_
      refine cw_ret ?_
      refine qr_then ?_
      obtain rfl := os q31
      exact ret1 rfl rfl ⟨rfl, (hm34.pick [] (by decide) rfl)⟩
    · refine cw_f rfl hb27 ?_
      refine cw_skip ?_
      refine qn_then ?_
      refine cw_seq ?_
      refine cw_region ?_
      refine t_rd rfl (rd_move rfl) ?_
      refine t_rd rfl (rd_move rfl) ?_
      refine t_rd rfl (rd_lenS tS25 rfl (hm24.sl 0 rfl)) ?_
      obtain ⟨r35, h36, q37⟩ := ob q28; clear q28
      refine t_ef rfl (ef_call tf19 rfl (yardgen_Place_ok h36)) ?_
      rintro _ w39 ⟨e_, hm38⟩
      obtain rfl := e_.symm
      have hm40 := hm24.call hm38
      refine t_rd rfl (rd_assign rfl) ?_
      refine rwt_nil ?_
      refine qn_then ?_
      refine cw_seq ?_
      obtain ⟨w42, he44⟩ : ∃ q, q = w39.drew := ⟨_, rfl⟩
      have hm43 := hm40.drew; rw [← he44] at hm43
      refine cw_region_s (fun q => q = w42) (cls [] [0, 4, 9]) mixed ?_
      rintro _ rfl; rw [← he44]
      refine s_rp (i := 1) rfl (by kernel_rfl) rfl (fun _ => (rd_move rfl)) ?_
      refine s_rp (i := 2) rfl (by kernel_rfl) rfl (fun _ => (rd_move rfl)) ?_
      obtain ⟨l45, h46, q47⟩ := ob q37; clear q37
      refine s_rp (i := 3) rfl (by kernel_rfl) rfl (fun _ => (rd_slcH tS25 rfl rfl (hm43.sl 0 rfl) h46)) ?_
      refine s_rp (i := 5) rfl (by kernel_rfl) rfl (fun _ => (rd_move rfl)) ?_
      refine s_rp (i := 6) rfl (by kernel_rfl) rfl (fun _ => (rd_move rfl)) ?_
      obtain ⟨x48, h49, q50⟩ := ob q47; clear q47
      refine s_rp (i := 7) rfl (by kernel_rfl) rfl (fun _ => (rd_add64 h49 rfl rfl)) ?_
      obtain ⟨l51, h52, q53⟩ := ob q50; clear q50
      refine s_rp (i := 8) rfl (by kernel_rfl) rfl (fun _ => (rd_slcL tS25 rfl rfl (hm43.sl 0 rfl) h52)) ?_
      refine s_ef (i := 0) rfl (by kernel_rfl) rfl (ef_bslice0 (α := T_Command) hm43 tS25) (by decide) (fun _ _ _ q => absurd q (by decide)) ?_
      intro v54 w56 hm55
      obtain ⟨l57, h58, q59⟩ := ob q53; clear q53
      refine s_ef (i := 4) rfl (by kernel_rfl) rfl (ef_append (k := 0) hm55 tS25 tE41 rfl rfl rfl rfl ((hm55.sl 1 rfl).sub h46) h58) (by decide) (fun _ _ _ q => absurd q (by decide)) ?_
      intro v60 w62 hm61
      obtain ⟨l63, h64, q65⟩ := ob q59; clear q59
      refine s_ef (i := 9) rfl (by kernel_rfl) rfl (ef_append (k := 0) hm61 tS25 tE41 rfl rfl rfl rfl ((hm61.sl 1 rfl).sub h52) h64) (by decide) (fun _ _ _ q => absurd q (by decide)) ?_
      intro v66 w68 hm67
      refine s_rp (i := 10) rfl (by kernel_rfl) rfl (fun _ => (rd_assign rfl)) ?_
      refine s_nil (by kernel_rfl) ?_
      refine qn_then ?_
      refine cw_seq ?_
      refine cw_region ?_
      refine t_rd rfl (rd_move rfl) ?_
      refine t_rd rfl (rd_move rfl) ?_
      refine t_rd rfl (rd_move rfl) ?_
      refine t_rd rfl (rd_move rfl) ?_
      refine t_rd rfl (rd_move rfl) ?_
      obtain ⟨r69, h70, q71⟩ := ob q65; clear q65
      refine t_ef rfl (ef_call tf17 rfl (throwplan_Safe_ok h70 ((Nl.mk (hm67.sl_call 2 rfl) (hm67.rows_call 3 rfl)).sl) (hm67.sl_call 4 rfl) (hm67.sl_call 5 rfl) (hm67.sl_call 0 rfl))) ?_
      rintro _ w73 ⟨e_, hm72⟩
      obtain rfl := e_.symm
      have hm74 := hm67.call hm72
      refine t_rd rfl (rd_move rfl) ?_
      refine t_rd rfl (rd_extract rfl rfl) ?_
      refine t_rd rfl (rd_extract rfl rfl) ?_
      refine t_rd rfl (rd_assign rfl) ?_
      refine t_rd rfl (rd_assign rfl) ?_
      refine rwt_nil ?_
      refine qn_then ?_
      refine cw_seq ?_
      refine cw_region ?_
      refine t_rd rfl (rd_move rfl) ?_
      refine t_rd rfl (rd_eql rfl rfl) ?_
      refine t_rd rfl (rd_move rfl) ?_
      refine t_rdg rfl rfl rfl rfl (gv_t _) (fun hg75 => (rd_move rfl)) ?_
      refine t_rdg rfl rfl rfl rfl (gv_t _) (fun hg76 => (rd_not (gvx rfl hg76))) ?_
      refine t_rd rfl (rd_and rfl (fun hc77 => (gvx rfl hc77))) ?_
      refine t_rd rfl (rd_move rfl) ?_
      obtain ⟨r79, h80, q81⟩ := ob q71; clear q71
      refine t_efg rfl rfl rfl rfl (R := (fun v w' => v = gV (decide (r69.2 = 0) && (!r69.1)) (Value.bool r79) ∧ Mem w73 No [] w')) (gv_t _) (fun hg78 => (ef_call tf15 rfl (law24_sane_ok (gO_t h80 hg78))).mono (by rintro _ _ ⟨rfl, q⟩; exact ⟨(gV_t hg78).symm, q⟩)) (fun q => ⟨(gV_f q).symm, Mem.nil _⟩) ?_
      rintro _ w83 ⟨rfl, hm82⟩
      have hm84 := hm74.call hm82
      refine t_rd rfl (rd_and rfl (fun hc85 => (gvx rfl hc85))) ?_
      refine t_rd rfl (rd_assign rfl) ?_
      refine rwt_nil ?_
      refine qn_then ?_
      refine cw_ret ?_
      obtain rfl := os q81
      exact ret1 rfl rfl ⟨rfl, (hm84.pick [] (by decide) rfl)⟩

end Go.Proofs.Ytpelfidmcpcmjaa
