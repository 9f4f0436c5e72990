/- Each call computes what its mirror does; written by a program of mine (gowalk.py). -/
import Derived.Test.YtpelfidmcpcmjaaWka
namespace Go.Proofs.Ytpelfidmcpcmjaa
open Go.Gv Go.RowKit
set_option linter.unusedVariables false
set_option maxRecDepth 100000

theorem separation_valid_ok {N : Nat} {a0 : List T_Span} {res : Bool} (h : separation_valid N a0 = some res) {w : World} {v0 : Value} (hv0 : Sl (Old w No) w v0 a0) :
    CallsR Try.prog 49 [v0] w (fun u w' => u = (Value.bool res) ∧ Mem w No [] w') := by
  unfold separation_valid at h
  refine fn_ok Try.func49 rfl rfl rfl ?_
  have hm0 := Mem.nil w
  refine cw_seq ?_
  refine cw_region ?_
  refine t_rd rfl (rd_assign rfl) ?_
  refine rwt_nil ?_
  refine qn_then ?_
  refine cw_seq ?_
  refine cw_seq ?_
  refine cw_region ?_
  refine t_rd rfl (rd_move rfl) ?_
  refine t_rd rfl (rd_lenS tS34 rfl (hv0.of_old hm0)) ?_
  refine t_rd rfl (rd_gtr rfl rfl) ?_
  refine rwt_nil ?_
  refine qn_then ?_
  obtain ⟨hb1, q2⟩ | ⟨hb1, q2⟩ := oi h <;> clear h
  · refine cw_t rfl hb1 ?_
    refine cw_seq ?_
    refine cw_region ?_
    refine t_rd rfl (rd_assign rfl) ?_
    refine rwt_nil ?_
    refine qn_then ?_
    refine cw_ret ?_
    refine qr_then ?_
    obtain rfl := os q2
    exact ret1 rfl rfl ⟨rfl, (hm0.pick [] (by decide) rfl)⟩
  · refine cw_f rfl hb1 ?_
    refine cw_skip ?_
    refine qn_then ?_
    refine cw_seq ?_
    refine cw_region ?_
    refine t_ef rfl (ef_makeMap hm0 Bool) ?_
    rintro _ w5 ⟨g3, rfl, hm4⟩
    refine t_rd rfl (rd_assign rfl) ?_
    refine rwt_nil ?_
    refine qn_then ?_
    refine cw_seq ?_
    refine cw_seq ?_
    refine cw_region ?_
    refine t_rd rfl (rd_move rfl) ?_
    refine t_rd rfl (rd_lenS tS34 rfl (hv0.of_old hm4)) ?_
    refine t_rd rfl (rd_move rfl) ?_
    refine rwt_nil ?_
    refine qn_then ?_
    refine cw_block ?_
    obtain ⟨r104, hit105, q106⟩ := ob q2; clear q2
    refine cw_loop2 (I := fun q envq wq => Sub [(3, (Value.map (some g3))), (10, v0), (11, (Value.int .i64 (List.length a0 : Int))), (12, (Value.int .i64 q.1))] envq ∧ Mem w No [mapC g3 (q.2 : List (Int × Bool))] wq) (X := fun eq envq wq => (∃ p107, r104 = (Sum.inl p107) ∧ eq = .ret ∧ retQ Try.prog 56 Try.f49 (fun u w' => u = (Value.bool p107) ∧ Mem w No [] w') .ret envq wq) ∨ (∃ p108, r104 = (Sum.inr p108) ∧ eq = .exit 0 ∧ Sub [] envq ∧ Mem w No [] wq)) hit105 ⟨(by repeat (first | exact Sub.nil _ | refine Sub.cons rfl ?_)), (hm4.pick [0] (by decide) rfl)⟩ ?_ ?_
    · rintro ⟨i96, m97⟩ x99 env100 w101 hf102 hr103 ⟨hs_, hm_⟩
      have hs_ : Sub [(3, (Value.map (some g3))), (10, v0), (11, (Value.int .i64 (List.length a0 : Int))), (12, (Value.int .i64 i96))] env100 := hs_
      have hm109 : Mem w No [mapC g3 (m97 : List (Int × Bool))] w101 := hm_
      refine cw_sub hs_ ?_
      clear hs_ hm_ q106
      have h : separation_valid_l1 N a0 i96 m97 = some x99 := hf102
      clear hf102
      refine cw_seq ?_
      refine cw_region ?_
      refine t_rd rfl (rd_lss rfl rfl) ?_
      refine rwt_nil ?_
      refine qn_then ?_
      refine cw_seq ?_
      obtain ⟨hb110, q111⟩ | ⟨hb110, q111⟩ := oi h <;> clear h
      · refine cw_t rfl hb110 ?_
        refine cw_skip ?_
        refine qn_then ?_
        refine cw_seq ?_
        refine cw_block ?_
        refine cw_seq ?_
        refine cw_region ?_
        obtain ⟨x112, h113, q114⟩ := ob q111; clear q111
        refine t_rd rfl (rd_index tS34 rfl rfl (hv0.of_old hm109) h113) ?_
        refine t_rd rfl (rd_ld tA52 rfl ((hv0.of_old hm109).cells h113) rfl) ?_
        refine t_ef rfl (ef_alloc hm109 tZ52 rfl) ?_
        rintro _ w117 ⟨g115, rfl, hm116⟩
        refine t_ef0 (ef_stw (k := 0) hm116 tA52 rfl rfl (oc_cons rfl (oc_cons rfl (oc_cons rfl (oc_cons rfl oc_nil)))) rfl rfl rfl) ?_
        intro _ w119 hm118
        refine rwt_nil ?_
        refine qn_then ?_
        refine cw_seq ?_
        refine cw_seq ?_
        refine cw_region ?_
        refine t_rd rfl (rd_fld tF52_0 rfl) ?_
        refine t_rd rfl (rd_ld1 tO3 rfl (hm118.blk 0 rfl) (off := 0) rfl) ?_
        refine t_rd rfl (rd_lss rfl rfl) ?_
        refine t_rd rfl (rd_move rfl) ?_
        refine t_rdg rfl rfl rfl rfl (gv_f _) (fun hg120 => (rd_move rfl)) ?_
        refine t_rdg rfl rfl rfl rfl (gv_f _) (fun hg121 => (rd_fld tF52_0 rfl)) ?_
        refine t_rdg rfl rfl rfl rfl (gv_f _) (fun hg122 => (rd_ld1 tO3 (gvx rfl hg122) (hm118.blk 0 rfl) (off := 0) rfl)) ?_
        refine t_rdg rfl rfl rfl rfl (gv_f _) (fun hg123 => (mvB (o := (mget m97 x112.Element)) ▸ rd_lookup tM66 (hm118.get (k := 1) rfl) (gvx rfl hg123) (gvx rfl hg123))) ?_
        refine t_rd rfl (rd_or rfl (fun hc124 => (gvx rfl (bnotIt hc124)))) ?_
        refine t_rd rfl (rd_move rfl) ?_
        refine t_rdg rfl rfl rfl rfl (gv_f _) (fun hg125 => (rd_fld tF52_1 rfl)) ?_
        refine t_rdg rfl rfl rfl rfl (gv_f _) (fun hg126 => (rd_ld1 tO3 (gvx rfl hg126) (hm118.blk 0 rfl) (off := 1) rfl)) ?_
        refine t_rdg rfl rfl rfl rfl (gv_f _) (fun hg127 => (rd_lss (gvx rfl hg127) rfl)) ?_
        refine t_rd rfl (rd_or rfl (fun hc128 => (gvx rfl (bnotIt hc128)))) ?_
        refine t_rd rfl (rd_move rfl) ?_
        refine t_rdg rfl rfl rfl rfl (gv_f _) (fun hg129 => (rd_fld tF52_1 rfl)) ?_
        refine t_rdg rfl rfl rfl rfl (gv_f _) (fun hg130 => (rd_ld1 tO3 (gvx rfl hg130) (hm118.blk 0 rfl) (off := 1) rfl)) ?_
        refine t_rdg rfl rfl rfl rfl (gv_f _) (fun hg131 => (rd_gtr (gvx rfl hg131) rfl)) ?_
        refine t_rd rfl (rd_or rfl (fun hc132 => (gvx rfl (bnotIt hc132)))) ?_
        refine t_rd rfl (rd_move rfl) ?_
        refine t_rdg rfl rfl rfl rfl (gv_f _) (fun hg133 => (rd_fld tF52_2 rfl)) ?_
        refine t_rdg rfl rfl rfl rfl (gv_f _) (fun hg134 => (rd_ld1 tO3 (gvx rfl hg134) (hm118.blk 0 rfl) (off := 2) rfl)) ?_
        refine t_rdg rfl rfl rfl rfl (gv_f _) (fun hg135 => (rd_lss (gvx rfl hg135) rfl)) ?_
        refine t_rd rfl (rd_or rfl (fun hc136 => (gvx rfl (bnotIt hc136)))) ?_
        refine t_rd rfl (rd_move rfl) ?_
        refine t_rdg rfl rfl rfl rfl (gv_f _) (fun hg137 => (rd_fld tF52_2 rfl)) ?_
        refine t_rdg rfl rfl rfl rfl (gv_f _) (fun hg138 => (rd_ld1 tO3 (gvx rfl hg138) (hm118.blk 0 rfl) (off := 2) rfl)) ?_
        refine t_rdg rfl rfl rfl rfl (gv_f _) (fun hg139 => (rd_fld tF52_3 rfl)) ?_
        refine t_rdg rfl rfl rfl rfl (gv_f _) (fun hg140 => (rd_ld1 tO3 (gvx rfl hg140) (hm118.blk 0 rfl) (off := 3) rfl)) ?_
        refine t_rdg rfl rfl rfl rfl (gv_f _) (fun hg141 => (rd_geq (gvx rfl hg141) (gvx rfl hg141))) ?_
        refine t_rd rfl (rd_or rfl (fun hc142 => (gvx rfl (bnotIt hc142)))) ?_
        refine t_rd rfl (rd_move rfl) ?_
        refine t_rdg rfl rfl rfl rfl (gv_f _) (fun hg143 => (rd_fld tF52_3 rfl)) ?_
        refine t_rdg rfl rfl rfl rfl (gv_f _) (fun hg144 => (rd_ld1 tO3 (gvx rfl hg144) (hm118.blk 0 rfl) (off := 3) rfl)) ?_
        refine t_rdg rfl rfl rfl rfl (gv_f _) (fun hg145 => (rd_gtr (gvx rfl hg145) rfl)) ?_
        refine t_rd rfl (rd_or rfl (fun hc146 => (gvx rfl (bnotIt hc146)))) ?_
        refine rwt_nil ?_
        refine qn_then ?_
        obtain ⟨hb147, q148⟩ | ⟨hb147, q148⟩ := oi q114 <;> clear q114
        · refine cw_t rfl hb147 ?_
          refine cw_seq ?_
          refine cw_region ?_
          refine t_rd rfl (rd_assign rfl) ?_
          refine rwt_nil ?_
          refine qn_then ?_
          refine cw_ret ?_
          refine qr_then (qr_block (qr_then (qr_then ?_)))
          obtain rfl := hr103 _ (os q148)
          refine .inl (⟨_, rfl, ⟨rfl, ?_⟩⟩)
          exact ret1 rfl rfl ⟨rfl, (hm118.pick [] (by decide) rfl)⟩
        · refine cw_f rfl hb147 ?_
          refine cw_skip ?_
          refine qn_then ?_
          refine cw_region ?_
          refine t_rd rfl (rd_move rfl) ?_
          refine t_rd rfl (rd_fld tF52_0 rfl) ?_
          refine t_rd rfl (rd_ld1 tO3 rfl (hm118.blk 0 rfl) (off := 0) rfl) ?_
          refine t_ef0 (ef_mapUpdate (kq := 1) hm118 tM66 rfl (true : Bool) rfl rfl rfl) ?_
          intro _ w150 hm149
          refine rwt_nil ?_
          refine qn_block (qn_then ?_)
          refine cw_region ?_
          obtain ⟨x151, h152, q153⟩ := ob q148; clear q148
          refine t_rd rfl (rd_add64 h152 rfl rfl) ?_
          refine t_rd rfl (rd_move rfl) ?_
          refine rwt_nil ?_
          refine qn_then ?_
          refine ⟨_, (os q153), (by repeat (first | exact Sub.nil _ | refine Sub.cons rfl ?_)), (hm149.pick [1] (by decide) rfl)⟩
      · refine cw_f rfl hb110 ?_
        refine cw_exit ?_
        refine qx_then (qx_then ?_)
        obtain rfl := hr103 _ (os q111)
        exact .inr (⟨_, rfl, ⟨rfl, (by repeat (first | exact Sub.nil _ | refine Sub.cons rfl ?_)), (hm109.pick [] (by decide) rfl)⟩⟩)
    · skip
      intro e env154 w155 hX156
      rcases hX156 with hX156 | hX156
      · obtain ⟨p158, rfl, hX156⟩ := hX156
        obtain ⟨rfl, hq160⟩ := hX156
        exact qr_block (qr_then ((by have e := os q106; subst e; exact hq160)))
      · obtain ⟨p161, rfl, hX156⟩ := hX156
        obtain ⟨rfl, hs162, hm163⟩ := hX156
        refine qx_same (qn_then ?_)
        refine cw_sub hs162 ?_
        refine cw_seq ?_
        refine cw_region ?_
        refine t_rd rfl (rd_assign rfl) ?_
        refine rwt_nil ?_
        refine qn_then ?_
        refine cw_ret ?_
        obtain rfl := os q106
        exact ret1 rfl rfl ⟨rfl, (hm163.pick [] (by decide) rfl)⟩

theorem separation_sound_ok {N : Nat} {a0 : List (List T_Span)} {a1 : Int} {res : Bool} (h : separation_sound N a0 a1 = some res) {w : World} {v0 : Value} (hv0 : Sl (Old w No) w v0 a0) :
    CallsR Try.prog 45 [v0, (Value.int .i64 a1)] w (fun u w' => u = (Value.bool res) ∧ Mem w No [] w') := by
  unfold separation_sound at h
  refine fn_ok Try.func45 rfl rfl rfl ?_
  obtain ⟨zs_a0, hn0⟩ := hv0.nest
  have hm0 := Mem.nil w
  refine cw_seq ?_
  refine cw_region ?_
  refine t_rd rfl (rd_assign rfl) ?_
  refine rwt_nil ?_
  refine qn_then ?_
  refine cw_seq ?_
  refine cw_seq ?_
  refine cw_region ?_
  refine t_rd rfl (rd_move rfl) ?_
  refine t_rd rfl (rd_lenS tS23 rfl ((hn0.of_old hm0).sl)) ?_
  refine t_rd rfl (rd_move rfl) ?_
  refine rwt_nil ?_
  refine qn_then ?_
  refine cw_block ?_
  obtain ⟨r45, hit46, q47⟩ := ob h; clear h
  refine cw_loop2 (I := fun q envq wq => Sub [(1, (Value.int .i64 a1)), (7, v0), (8, (Value.int .i64 (List.length a0 : Int))), (9, (Value.int .i64 q))] envq ∧ Mem w No [] wq) (X := fun eq envq wq => (∃ p48, r45 = (Sum.inl p48) ∧ eq = .ret ∧ retQ Try.prog 23 Try.f45 (fun u w' => u = (Value.bool p48) ∧ Mem w No [] w') .ret envq wq) ∨ (∃ p49, r45 = (Sum.inr p49) ∧ eq = .exit 0 ∧ Sub [(1, (Value.int .i64 a1))] envq ∧ Mem w No [] wq)) hit46 ⟨(by repeat (first | exact Sub.nil _ | refine Sub.cons rfl ?_)), (hm0.pick [] (by decide) rfl)⟩ ?_ ?_
  · rintro i38 x40 env41 w42 hf43 hr44 ⟨hs_, hm_⟩
    have hs_ : Sub [(1, (Value.int .i64 a1)), (7, v0), (8, (Value.int .i64 (List.length a0 : Int))), (9, (Value.int .i64 i38))] env41 := hs_
    have hm50 : Mem w No [] w42 := hm_
    refine cw_sub hs_ ?_
    clear hs_ hm_ q47
    have h : separation_sound_l1 N a0 i38 = some x40 := hf43
    clear hf43
    refine cw_seq ?_
    refine cw_region ?_
    refine t_rd rfl (rd_lss rfl rfl) ?_
    refine rwt_nil ?_
    refine qn_then ?_
    refine cw_seq ?_
    obtain ⟨hb51, q52⟩ | ⟨hb51, q52⟩ := oi h <;> clear h
    · refine cw_t rfl hb51 ?_
      refine cw_skip ?_
      refine qn_then ?_
      refine cw_seq ?_
      refine cw_block ?_
      refine cw_seq ?_
      refine cw_region ?_
      obtain ⟨x53, h54, q55⟩ := ob q52; clear q52
      refine t_rd rfl (rd_index tS23 rfl rfl ((hn0.of_old hm50).sl) h54) ?_
      obtain ⟨zd56, hz57⟩ := (hn0.of_old hm50).row h54
      refine t_rd rfl (rd_ld1 tO34 rfl ((hn0.of_old hm50).cells hz57) (off := 0) rfl) ?_
      refine t_rd rfl (rd_assign rfl) ?_
      refine rwt_nil ?_
      refine qn_then ?_
      refine cw_seq ?_
      refine cw_region ?_
      refine t_rd rfl (rd_move rfl) ?_
      obtain ⟨r58, h59, q60⟩ := ob q55; clear q55
      refine t_ef rfl (ef_call tf49 rfl (separation_valid_ok h59 ((hn0.to_call hm50).get hz57 h54))) ?_
      rintro _ w62 ⟨e_, hm61⟩
      obtain rfl := e_.symm
      have hm63 := hm50.call hm61
      refine t_rd rfl (rd_not rfl) ?_
      refine rwt_nil ?_
      refine qn_then ?_
      obtain ⟨hb64, q65⟩ | ⟨hb64, q65⟩ := oi q60 <;> clear q60
      · refine cw_t rfl hb64 ?_
        refine cw_seq ?_
        refine cw_region ?_
        refine t_rd rfl (rd_assign rfl) ?_
        refine rwt_nil ?_
        refine qn_then ?_
        refine cw_ret ?_
        refine qr_block (qr_then (qr_then ?_))
        obtain rfl := hr44 _ (os q65)
        refine .inl (⟨_, rfl, ⟨rfl, ?_⟩⟩)
        exact ret1 rfl rfl ⟨rfl, (hm63.pick [] (by decide) rfl)⟩
      · refine cw_f rfl hb64 ?_
        refine cw_skip ?_
        refine qn_block (qn_then ?_)
        refine cw_region ?_
        obtain ⟨x66, h67, q68⟩ := ob q65; clear q65
        refine t_rd rfl (rd_add64 h67 rfl rfl) ?_
        refine t_rd rfl (rd_move rfl) ?_
        refine rwt_nil ?_
        refine qn_then ?_
        refine ⟨_, (os q68), (by repeat (first | exact Sub.nil _ | refine Sub.cons rfl ?_)), (hm63.pick [] (by decide) rfl)⟩
    · refine cw_f rfl hb51 ?_
      refine cw_exit ?_
      refine qx_then (qx_then ?_)
      obtain rfl := hr44 _ (os q52)
      exact .inr (⟨_, rfl, ⟨rfl, (by repeat (first | exact Sub.nil _ | refine Sub.cons rfl ?_)), (hm50.pick [] (by decide) rfl)⟩⟩)
  · skip
    intro e env69 w70 hX71
    rcases hX71 with hX71 | hX71
    · obtain ⟨p73, rfl, hX71⟩ := hX71
      obtain ⟨rfl, hq75⟩ := hX71
      exact qr_block (qr_then ((by have e := os q47; subst e; exact hq75)))
    · obtain ⟨p76, rfl, hX71⟩ := hX71
      obtain ⟨rfl, hs77, hm78⟩ := hX71
      refine qx_same (qn_then ?_)
      refine cw_sub hs77 ?_
      refine cw_seq ?_
      refine cw_region ?_
      refine t_rd rfl (rd_move rfl) ?_
      refine t_rd rfl (rd_geq rfl rfl) ?_
      refine t_rd rfl (rd_move rfl) ?_
      refine t_rdg rfl rfl rfl rfl (gv_t _) (fun hg79 => (rd_move rfl)) ?_
      refine t_rdg rfl rfl rfl rfl (gv_t _) (fun hg80 => (rd_leq (gvx rfl hg80) rfl)) ?_
      refine t_rd rfl (rd_and rfl (fun hc81 => (gvx rfl hc81))) ?_
      refine t_rd rfl (rd_assign rfl) ?_
      refine rwt_nil ?_
      refine qn_then ?_
      refine cw_ret ?_
      obtain rfl := os q47
      exact ret1 rfl rfl ⟨rfl, (hm78.pick [] (by decide) rfl)⟩

theorem separation_gap_ok {N : Nat} {a0 : List T_Span} {a1 : List T_Span} {a2 : Int} {res : Int × Int} (h : separation_gap N a0 a1 a2 = some res) {w : World} {v0 : Value} {v1 : Value} (hv0 : Sl (Old w No) w v0 a0) (hv1 : Sl (Old w No) w v1 a1) :
    CallsR Try.prog 46 [v0, v1, (Value.int .i64 a2)] w (fun u w' => u = (Value.tuple #[(Value.int .i64 res.1), (Value.int .i64 res.2)]) ∧ Mem w No [] w') := by
  unfold separation_gap at h
  refine fn_ok Try.func46 rfl rfl rfl ?_
  have hm0 := Mem.nil w
  refine cw_seq ?_
  refine cw_region ?_
  refine t_rd rfl (rd_assign rfl) ?_
  refine t_rd rfl (rd_assign rfl) ?_
  refine rwt_nil ?_
  refine qn_then ?_
  refine cw_seq ?_
  refine cw_region ?_
  refine t_rd rfl (rd_assign rfl) ?_
  refine rwt_nil ?_
  refine qn_then ?_
  refine cw_seq ?_
  refine cw_seq ?_
  refine cw_region ?_
  refine t_rd rfl (rd_move rfl) ?_
  refine t_rd rfl (rd_lenS tS34 rfl (hv0.of_old hm0)) ?_
  refine t_rd rfl (rd_move rfl) ?_
  refine rwt_nil ?_
  refine qn_then ?_
  refine cw_block ?_
  obtain ⟨r338, hit339, q340⟩ := ob h; clear h
  refine cw_loop2 (I := fun q envq wq => Sub [(1, v1), (2, (Value.int .i64 a2)), (8, (Value.int .i64 q.1)), (14, v0), (15, (Value.int .i64 (List.length a0 : Int))), (16, (Value.int .i64 q.2))] envq ∧ Mem w No [] wq) (X := fun eq envq wq => (∃ p341, r338 = (Sum.inl p341) ∧ eq = .ret ∧ retQ Try.prog 63 Try.f46 (fun u w' => u = (Value.tuple #[(Value.int .i64 p341.1), (Value.int .i64 p341.2)]) ∧ Mem w No [] w') .ret envq wq) ∨ (∃ p342, r338 = (Sum.inr p342) ∧ eq = .exit 0 ∧ Sub [(8, (Value.int .i64 p342))] envq ∧ Mem w No [] wq)) hit339 ⟨(by repeat (first | exact Sub.nil _ | refine Sub.cons rfl ?_)), (hm0.pick [] (by decide) rfl)⟩ ?_ ?_
  · rintro ⟨i330, i331⟩ x333 env334 w335 hf336 hr337 ⟨hs_, hm_⟩
    have hs_ : Sub [(1, v1), (2, (Value.int .i64 a2)), (8, (Value.int .i64 i330)), (14, v0), (15, (Value.int .i64 (List.length a0 : Int))), (16, (Value.int .i64 i331))] env334 := hs_
    have hm343 : Mem w No [] w335 := hm_
    refine cw_sub hs_ ?_
    clear hs_ hm_ q340
    have h : separation_gap_l3 N a0 a1 a2 i330 i331 = some x333 := hf336
    clear hf336
    refine cw_seq ?_
    refine cw_region ?_
    refine t_rd rfl (rd_lss rfl rfl) ?_
    refine rwt_nil ?_
    refine qn_then ?_
    refine cw_seq ?_
    obtain ⟨hb344, q345⟩ | ⟨hb344, q345⟩ := oi h <;> clear h
    · refine cw_t rfl hb344 ?_
      refine cw_skip ?_
      refine qn_then ?_
      refine cw_seq ?_
      refine cw_block ?_
      refine cw_seq ?_
      refine cw_region ?_
      obtain ⟨x346, h347, q348⟩ := ob q345; clear q345
      refine t_rd rfl (rd_index tS34 rfl rfl (hv0.of_old hm343) h347) ?_
      refine t_rd rfl (rd_ld tA52 rfl ((hv0.of_old hm343).cells h347) rfl) ?_
      refine t_ef rfl (ef_alloc hm343 tZ52 rfl) ?_
      rintro _ w351 ⟨g349, rfl, hm350⟩
      refine t_ef0 (ef_stw (k := 0) hm350 tA52 rfl rfl (oc_cons rfl (oc_cons rfl (oc_cons rfl (oc_cons rfl oc_nil)))) rfl rfl rfl) ?_
      intro _ w353 hm352
      refine rwt_nil ?_
      refine qn_then ?_
      refine cw_seq ?_
      refine cw_region ?_
      refine t_rd rfl (rd_move rfl) ?_
      refine t_rd rfl (rd_lenS tS34 rfl (hv1.of_old hm352)) ?_
      refine t_rd rfl (rd_move rfl) ?_
      refine rwt_nil ?_
      refine qn_then ?_
      refine cw_block ?_
      obtain ⟨r447, hit448, q449⟩ := ob q348; clear q348
      refine cw_loop2 (I := fun q envq wq => Sub [(1, v1), (2, (Value.int .i64 a2)), (8, (Value.int .i64 q.1)), (10, (Value.pointer (some ⟨g349, 0, none⟩))), (14, v0), (15, (Value.int .i64 (List.length a0 : Int))), (16, (Value.int .i64 i331)), (20, v1), (21, (Value.int .i64 (List.length a1 : Int))), (22, (Value.int .i64 q.2))] envq ∧ Mem w No [blk g349 52 [(Value.int .i64 x346.Element), (Value.int .i64 x346.Side), (Value.int .i64 x346.From), (Value.int .i64 x346.To)]] wq) (X := fun eq envq wq => (∃ p450, r447 = (Sum.inl p450) ∧ eq = .ret ∧ retQ Try.prog 63 Try.f46 (fun u w' => u = (Value.tuple #[(Value.int .i64 p450.1), (Value.int .i64 p450.2)]) ∧ Mem w No [] w') .ret envq wq) ∨ (∃ p451, r447 = (Sum.inr p451) ∧ eq = .exit 2 ∧ Sub [(1, v1), (2, (Value.int .i64 a2)), (8, (Value.int .i64 p451)), (14, v0), (15, (Value.int .i64 (List.length a0 : Int))), (16, (Value.int .i64 i331))] envq ∧ Mem w No [] wq)) hit448 ⟨(by repeat (first | exact Sub.nil _ | refine Sub.cons rfl ?_)), (hm352.pick [0] (by decide) rfl)⟩ ?_ ?_
      · rintro ⟨i439, i440⟩ x442 env443 w444 hf445 hr446 ⟨hs_, hm_⟩
        have hs_ : Sub [(1, v1), (2, (Value.int .i64 a2)), (8, (Value.int .i64 i439)), (10, (Value.pointer (some ⟨g349, 0, none⟩))), (14, v0), (15, (Value.int .i64 (List.length a0 : Int))), (16, (Value.int .i64 i331)), (20, v1), (21, (Value.int .i64 (List.length a1 : Int))), (22, (Value.int .i64 i440))] env443 := hs_
        have hm452 : Mem w No [blk g349 52 [(Value.int .i64 x346.Element), (Value.int .i64 x346.Side), (Value.int .i64 x346.From), (Value.int .i64 x346.To)]] w444 := hm_
        refine cw_sub hs_ ?_
        clear hs_ hm_ q449
        have h : separation_gap_l4 N a1 a2 x346 i439 i440 = some x442 := hf445
        clear hf445
        refine cw_seq ?_
        refine cw_region ?_
        refine t_rd rfl (rd_lss rfl rfl) ?_
        refine rwt_nil ?_
        refine qn_then ?_
        refine cw_seq ?_
        obtain ⟨hb453, q454⟩ | ⟨hb453, q454⟩ := oi h <;> clear h
        · refine cw_t rfl hb453 ?_
          refine cw_skip ?_
          refine qn_then ?_
          refine cw_seq ?_
          refine cw_block ?_
          refine cw_seq ?_
          refine cw_region ?_
          obtain ⟨x455, h456, q457⟩ := ob q454; clear q454
          refine t_rd rfl (rd_index tS34 rfl rfl (hv1.of_old hm452) h456) ?_
          refine t_rd rfl (rd_ld tA52 rfl ((hv1.of_old hm452).cells h456) rfl) ?_
          refine t_ef rfl (ef_alloc hm452 tZ52 rfl) ?_
          rintro _ w460 ⟨g458, rfl, hm459⟩
          refine t_ef0 (ef_stw (k := 0) hm459 tA52 rfl rfl (oc_cons rfl (oc_cons rfl (oc_cons rfl (oc_cons rfl oc_nil)))) rfl rfl rfl) ?_
          intro _ w462 hm461
          refine rwt_nil ?_
          refine qn_then ?_
          refine cw_seq ?_
          refine cw_seq ?_
          refine cw_region ?_
          refine t_rd rfl (rd_fld tF52_0 rfl) ?_
          refine t_rd rfl (rd_ld1 tO3 rfl (hm461.blk 1 rfl) (off := 0) rfl) ?_
          refine t_rd rfl (rd_fld tF52_0 rfl) ?_
          refine t_rd rfl (rd_ld1 tO3 rfl (hm461.blk 0 rfl) (off := 0) rfl) ?_
          refine t_rd rfl (rd_neq rfl rfl) ?_
          refine rwt_nil ?_
          refine qn_then ?_
          obtain ⟨hb463, q464⟩ | ⟨hb463, q464⟩ := oi q457 <;> clear q457
          · refine cw_t rfl hb463 ?_
            refine cw_exit ?_
            refine qx_then (qx_same (qn_then ?_))
            refine cw_region ?_
            obtain ⟨x465, h466, q467⟩ := ob q464; clear q464
            refine t_rd rfl (rd_add64 h466 rfl rfl) ?_
            refine t_rd rfl (rd_move rfl) ?_
            refine rwt_nil ?_
            refine qn_then ?_
            refine ⟨_, (os q467), (by repeat (first | exact Sub.nil _ | refine Sub.cons rfl ?_)), (hm461.pick [1] (by decide) rfl)⟩
          · refine cw_f rfl hb463 ?_
            refine cw_skip ?_
            refine qn_then ?_
            refine cw_seq ?_
            refine cw_seq ?_
            refine cw_region ?_
            refine t_rd rfl (rd_fld tF52_3 rfl) ?_
            refine t_rd rfl (rd_ld1 tO3 rfl (hm461.blk 1 rfl) (off := 3) rfl) ?_
            refine t_rd rfl (rd_eql rfl rfl) ?_
            refine rwt_nil ?_
            refine qn_then ?_
            obtain ⟨hb468, q469⟩ | ⟨hb468, q469⟩ := oi q464 <;> clear q464
            · refine cw_t rfl hb468 ?_
              refine cw_seq ?_
              refine cw_region ?_
              refine t_rd rfl (rd_assign rfl) ?_
              refine t_rd rfl (rd_assign rfl) ?_
              refine rwt_nil ?_
              refine qn_then ?_
              refine cw_ret ?_
              refine qr_then (qr_block (qr_then (qr_then ?_)))
              obtain rfl := hr446 _ (os q469)
              refine .inl (⟨_, rfl, ⟨rfl, ?_⟩⟩)
              exact ret2 rfl rfl rfl ⟨rfl, (hm461.pick [] (by decide) rfl)⟩
            · refine cw_f rfl hb468 ?_
              refine cw_skip ?_
              refine qn_then ?_
              refine cw_seq ?_
              refine cw_region ?_
              refine t_rd rfl (rd_fld tF52_3 rfl) ?_
              refine t_rd rfl (rd_ld1 tO3 rfl (hm461.blk 1 rfl) (off := 3) rfl) ?_
              refine t_rd rfl (rd_fld tF52_2 rfl) ?_
              refine t_rd rfl (rd_ld1 tO3 rfl (hm461.blk 0 rfl) (off := 2) rfl) ?_
              obtain ⟨x470, h471, q472⟩ := ob q469; clear q469
              refine t_rd rfl (rd_sub64 h471 rfl rfl) ?_
              refine t_rd rfl (rd_assign rfl) ?_
              refine rwt_nil ?_
              refine qn_then ?_
              refine cw_seq ?_
              refine cw_seq ?_
              refine cw_region ?_
              refine t_rd rfl (rd_fld tF52_1 rfl) ?_
              refine t_rd rfl (rd_ld1 tO3 rfl (hm461.blk 1 rfl) (off := 1) rfl) ?_
              refine t_rd rfl (rd_neq rfl rfl) ?_
              refine t_rd rfl (rd_move rfl) ?_
              refine t_rdg rfl rfl rfl rfl (gv_t _) (fun hg473 => (rd_fld tF52_1 rfl)) ?_
              refine t_rdg rfl rfl rfl rfl (gv_t _) (fun hg474 => (rd_ld1 tO3 (gvx rfl hg474) (hm461.blk 0 rfl) (off := 1) rfl)) ?_
              refine t_rdg rfl rfl rfl rfl (gv_t _) (fun hg475 => (rd_neq (gvx rfl hg475) rfl)) ?_
              refine t_rd rfl (rd_and rfl (fun hc476 => (gvx rfl hc476))) ?_
              refine t_rd rfl (rd_move rfl) ?_
              refine t_rdg rfl rfl rfl rfl (gv_t _) (fun hg477 => (rd_fld tF52_1 rfl)) ?_
              refine t_rdg rfl rfl rfl rfl (gv_t _) (fun hg478 => (rd_ld1 tO3 (gvx rfl hg478) (hm461.blk 1 rfl) (off := 1) rfl)) ?_
              refine t_rdg rfl rfl rfl rfl (gv_t _) (fun hg479 => (rd_fld tF52_1 rfl)) ?_
              refine t_rdg rfl rfl rfl rfl (gv_t _) (fun hg480 => (rd_ld1 tO3 (gvx rfl hg480) (hm461.blk 0 rfl) (off := 1) rfl)) ?_
              refine t_rdg rfl rfl rfl rfl (gv_t _) (fun hg481 => (rd_neq (gvx rfl hg481) (gvx rfl hg481))) ?_
              refine t_rd rfl (rd_and rfl (fun hc482 => (gvx rfl hc482))) ?_
              refine rwt_nil ?_
              refine qn_then ?_
              obtain ⟨hb483, q484⟩ | ⟨hb483, q484⟩ := oi q472 <;> clear q472
              · refine cw_t rfl hb483 ?_
                refine cw_region ?_
                refine t_rd rfl (rd_move rfl) ?_
                refine t_rd rfl (rd_move rfl) ?_
                obtain ⟨x485, h486, q487⟩ := ob q484; clear q484
                refine t_rd rfl (rd_add64 h486 rfl rfl) ?_
                refine t_rd rfl (rd_assign rfl) ?_
                refine rwt_nil ?_
                refine qn_then ?_
                refine cw_region ?_
                refine t_rd rfl (rd_move rfl) ?_
                refine t_rd rfl (rd_move rfl) ?_
                refine t_rd rfl (rd_max rfl rfl) ?_
                refine t_rd rfl (rd_assign rfl) ?_
                refine rwt_nil ?_
                refine qn_block (qn_then ?_)
                refine cw_region ?_
                obtain ⟨x488, h489, q490⟩ := ob q487; clear q487
                refine t_rd rfl (rd_add64 h489 rfl rfl) ?_
                refine t_rd rfl (rd_move rfl) ?_
                refine rwt_nil ?_
                refine qn_then ?_
                refine ⟨_, (os q490), (by repeat (first | exact Sub.nil _ | refine Sub.cons rfl ?_)), (hm461.pick [1] (by decide) rfl)⟩
              · refine cw_f rfl hb483 ?_
                refine cw_skip ?_
                refine qn_then ?_
                refine cw_region ?_
                refine t_rd rfl (rd_move rfl) ?_
                refine t_rd rfl (rd_move rfl) ?_
                refine t_rd rfl (rd_max rfl rfl) ?_
                refine t_rd rfl (rd_assign rfl) ?_
                refine rwt_nil ?_
                refine qn_block (qn_then ?_)
                refine cw_region ?_
                obtain ⟨x491, h492, q493⟩ := ob q484; clear q484
                refine t_rd rfl (rd_add64 h492 rfl rfl) ?_
                refine t_rd rfl (rd_move rfl) ?_
                refine rwt_nil ?_
                refine qn_then ?_
                refine ⟨_, (os q493), (by repeat (first | exact Sub.nil _ | refine Sub.cons rfl ?_)), (hm461.pick [1] (by decide) rfl)⟩
        · refine cw_f rfl hb453 ?_
          refine cw_exit ?_
          refine qx_then (qx_then ?_)
          obtain rfl := hr446 _ (os q454)
          exact .inr (⟨_, rfl, ⟨rfl, (by repeat (first | exact Sub.nil _ | refine Sub.cons rfl ?_)), (hm452.pick [] (by decide) rfl)⟩⟩)
      · skip
        intro e env494 w495 hX496
        rcases hX496 with hX496 | hX496
        · obtain ⟨p498, rfl, hX496⟩ := hX496
          obtain ⟨rfl, hq500⟩ := hX496
          obtain rfl := hr337 _ (os q449)
          exact qr_block (qr_block (qr_then (qr_then (.inl (⟨_, rfl, ⟨rfl, hq500⟩⟩)))))
        · obtain ⟨p501, rfl, hX496⟩ := hX496
          obtain ⟨rfl, hs502, hm503⟩ := hX496
          refine qx_same (qn_block (qn_then ?_))
          refine cw_sub hs502 ?_
          refine cw_region ?_
          obtain ⟨x504, h505, q506⟩ := ob q449; clear q449
          refine t_rd rfl (rd_add64 h505 rfl rfl) ?_
          refine t_rd rfl (rd_move rfl) ?_
          refine rwt_nil ?_
          refine qn_then ?_
          refine ⟨_, (os q506), (by repeat (first | exact Sub.nil _ | refine Sub.cons rfl ?_)), (hm503.pick [] (by decide) rfl)⟩
    · refine cw_f rfl hb344 ?_
      refine cw_exit ?_
      refine qx_then (qx_then ?_)
      obtain rfl := hr337 _ (os q345)
      exact .inr (⟨_, rfl, ⟨rfl, (by repeat (first | exact Sub.nil _ | refine Sub.cons rfl ?_)), (hm343.pick [] (by decide) rfl)⟩⟩)
  · skip
    intro e env507 w508 hX509
    rcases hX509 with hX509 | hX509
    · obtain ⟨p511, rfl, hX509⟩ := hX509
      obtain ⟨rfl, hq513⟩ := hX509
      exact qr_block (qr_then ((by have e := os q340; subst e; exact hq513)))
    · obtain ⟨p514, rfl, hX509⟩ := hX509
      obtain ⟨rfl, hs515, hm516⟩ := hX509
      refine qx_same (qn_then ?_)
      refine cw_sub hs515 ?_
      refine cw_seq ?_
      refine cw_region ?_
      refine t_rd rfl (rd_move rfl) ?_
      refine t_rd rfl (rd_assign rfl) ?_
      refine t_rd rfl (rd_assign rfl) ?_
      refine rwt_nil ?_
      refine qn_then ?_
      refine cw_ret ?_
      obtain rfl := os q340
      exact ret2 rfl rfl rfl ⟨rfl, (hm516.pick [] (by decide) rfl)⟩

theorem separation_Gap_ok {N : Nat} {a0 : List T_Span} {a1 : List T_Span} {a2 : Int} {res : Int × Int} (h : separation_Gap N a0 a1 a2 = some res) {w : World} {v0 : Value} {v1 : Value} (hv0 : Sl (Old w No) w v0 a0) (hv1 : Sl (Old w No) w v1 a1) :
    CallsR Try.prog 41 [v0, v1, (Value.int .i64 a2)] w (fun u w' => u = (Value.tuple #[(Value.int .i64 res.1), (Value.int .i64 res.2)]) ∧ Mem w No [] w') := by
  unfold separation_Gap at h
  refine fn_ok Try.func41 rfl rfl rfl ?_
  have hm0 := Mem.nil w
  refine cw_seq ?_
  refine cw_region ?_
  refine t_rd rfl (rd_assign rfl) ?_
  refine t_rd rfl (rd_assign rfl) ?_
  refine rwt_nil ?_
  refine qn_then ?_
  refine cw_seq ?_
  refine cw_seq ?_
  refine cw_region ?_
  refine t_rd rfl (rd_move rfl) ?_
  refine t_rd rfl (rd_move rfl) ?_
  obtain ⟨zd1, ez2⟩ : ∃ z : Hdr, z.1 = v0 := ⟨⟨v0, sl_one (hv0.of_old hm0)⟩, rfl⟩
  obtain ⟨zd3, ez4⟩ : ∃ z : Hdr, z.1 = v1 := ⟨⟨v1, sl_one (hv1.of_old hm0)⟩, rfl⟩
  refine t_ef rfl (ef_bslice (l := ([zd1, zd3] : List Hdr)) hm0 tS23 rfl (cs := #[v0, v1]) (by obtain ⟨_, _, e⟩ : ∃ A c, v0 = Value.slice A (List.length a0) c := ((hv0.of_old hm0)).val; rw [e]; clear e; obtain ⟨_, _, e⟩ : ∃ A c, v1 = Value.slice A (List.length a1) c := ((hv1.of_old hm0)).val; rw [e]; clear e; unfold bsl; kernel_rfl) (by show [zd1.1, zd3.1] = [v0, v1]; rw [ez2, ez4]) rfl) ?_
  intro v5 w7 hm6
  refine t_rd rfl (rd_move rfl) ?_
  obtain ⟨r8, h9, q10⟩ := ob h; clear h
  refine t_ef rfl (ef_call tf45 rfl (separation_sound_ok h9 ((Nl.mk (hm6.sl_call 0 rfl) (Rows.cons (hv0.to_call hm6) ez2 (Rows.cons (hv1.to_call hm6) ez4 Rows.nil))).sl))) ?_
  rintro _ w12 ⟨e_, hm11⟩
  obtain rfl := e_.symm
  have hm13 := hm6.call hm11
  refine t_rd rfl (rd_not rfl) ?_
  refine rwt_nil ?_
  refine qn_then ?_
  obtain ⟨hb14, q15⟩ | ⟨hb14, q15⟩ := oi q10 <;> clear q10
  · refine cw_t rfl hb14 ?_
    refine cw_seq ?_
    refine cw_region ?_
    refine t_rd rfl (rd_assign rfl) ?_
    refine t_rd rfl (rd_assign rfl) ?_
    refine rwt_nil ?_
    refine qn_then ?_
    refine cw_ret ?_
    refine qr_then ?_
    obtain rfl := os q15
    exact ret2 rfl rfl rfl ⟨rfl, (hm13.pick [] (by decide) rfl)⟩
  · refine cw_f rfl hb14 ?_
    refine cw_skip ?_
    refine qn_then ?_
    refine cw_seq ?_
    refine cw_region ?_
    refine t_rd rfl (rd_move rfl) ?_
    refine t_rd rfl (rd_move rfl) ?_
    refine t_rd rfl (rd_move rfl) ?_
    obtain ⟨r16, h17, q18⟩ := ob q15; clear q15
    refine t_ef rfl (ef_call tf46 rfl (separation_gap_ok h17 (hv0.to_call hm13) (hv1.to_call hm13))) ?_
    rintro _ w20 ⟨e_, hm19⟩
    obtain rfl := e_.symm
    have hm21 := hm13.call hm19
    refine t_rd rfl (rd_extract rfl rfl) ?_
    refine t_rd rfl (rd_extract rfl rfl) ?_
    refine t_rd rfl (rd_assign rfl) ?_
    refine t_rd rfl (rd_assign rfl) ?_
    refine rwt_nil ?_
    refine qn_then ?_
    refine cw_ret ?_
    obtain rfl := os q18
    exact ret2 rfl rfl rfl ⟨rfl, (hm21.pick [] (by decide) rfl)⟩

theorem throwplan_lies_ok {N : Nat} {a0 : Int} {res : Bool} (h : throwplan_lies N a0 = some res) {w : World}   :
    CallsR Try.prog 33 [(Value.int .i64 a0)] w (fun u w' => u = (Value.bool res) ∧ Mem w No [] w') := by
  unfold throwplan_lies at h
  refine fn_ok Try.func33 rfl rfl rfl ?_
  have hm0 := Mem.nil w
  refine cw_seq ?_
  refine cw_region ?_
  refine t_rd rfl (rd_assign rfl) ?_
  refine rwt_nil ?_
  refine qn_then ?_
  refine cw_seq ?_
  refine cw_region ?_
  refine t_rd rfl (rd_move rfl) ?_
  refine t_rd rfl (rd_eql rfl rfl) ?_
  refine t_rd rfl (rd_move rfl) ?_
  refine t_rdg rfl rfl rfl rfl (gv_f _) (fun hg1 => (rd_move rfl)) ?_
  refine t_rdg rfl rfl rfl rfl (gv_f _) (fun hg2 => (rd_eql (gvx rfl hg2) rfl)) ?_
  refine t_rd rfl (rd_or rfl (fun hc3 => (gvx rfl (bnotIt hc3)))) ?_
  refine t_rd rfl (rd_assign rfl) ?_
  refine rwt_nil ?_
  refine qn_then ?_
  refine cw_ret ?_
  obtain rfl := os h
  exact ret1 rfl rfl ⟨rfl, (hm0.pick [] (by decide) rfl)⟩

theorem throwplan_check_ok {N : Nat} {a0 : List (List T_Span)} {a1 : List Int} {a2 : Int} {a3 : List T_Throw} {res : Int} (h : throwplan_check N a0 a1 a2 a3 = some res) {w : World} {v0 : Value} {v1 : Value} {v3 : Value} (hv0 : Sl (Old w No) w v0 a0) (hv1 : Sl (Old w No) w v1 a1) (hv3 : Sl (Old w No) w v3 a3) :
    CallsR Try.prog 28 [v0, v1, (Value.int .i64 a2), v3] w (fun u w' => u = (Value.int .i64 res) ∧ Mem w No [] w') := by
  unfold throwplan_check at h
  refine fn_ok Try.func28 rfl rfl rfl ?_
  obtain ⟨zs_a0, hn0⟩ := hv0.nest
  have hm0 := Mem.nil w
  refine cw_seq ?_
  refine cw_region ?_
  refine t_rd rfl (rd_assign rfl) ?_
  refine rwt_nil ?_
  refine qn_then ?_
  refine cw_seq ?_
  refine cw_seq ?_
  refine cw_region ?_
  refine t_rd rfl (rd_move rfl) ?_
  refine t_rd rfl (rd_lenS tS23 rfl ((hn0.of_old hm0).sl)) ?_
  refine t_rd rfl (rd_gtr rfl rfl) ?_
  refine rwt_nil ?_
  refine qn_then ?_
  obtain ⟨hb1, q2⟩ | ⟨hb1, q2⟩ := oi h <;> clear h
  · refine cw_t rfl hb1 ?_
    refine cw_seq ?_
    refine cw_region ?_
    refine t_rd rfl (rd_assign rfl) ?_
    refine rwt_nil ?_
    refine qn_then ?_
    refine cw_ret ?_
    refine qr_then ?_
    obtain rfl := os q2
    exact ret1 rfl rfl ⟨rfl, (hm0.pick [] (by decide) rfl)⟩
  · refine cw_f rfl hb1 ?_
    refine cw_skip ?_
    refine qn_then ?_
    refine cw_seq ?_
    refine cw_seq ?_
    refine cw_region ?_
    refine t_rd rfl (rd_move rfl) ?_
    refine t_rd rfl (rd_lenS tS23 rfl ((hn0.of_old hm0).sl)) ?_
    refine t_rd rfl (rd_move rfl) ?_
    refine rwt_nil ?_
    refine qn_then ?_
    refine cw_block ?_
    obtain ⟨r47, hit48, q49⟩ := ob q2; clear q2
    refine cw_loop2 (I := fun q envq wq => Sub [(0, v0), (1, v1), (2, (Value.int .i64 a2)), (3, v3), (21, v0), (22, (Value.int .i64 (List.length a0 : Int))), (23, (Value.int .i64 q))] envq ∧ Mem w No [] wq) (X := fun eq envq wq => (∃ p50, r47 = (Sum.inl p50) ∧ eq = .ret ∧ retQ Try.prog 108 Try.f28 (fun u w' => u = (Value.int .i64 p50) ∧ Mem w No [] w') .ret envq wq) ∨ (∃ p51, r47 = (Sum.inr p51) ∧ eq = .exit 0 ∧ Sub [(0, v0), (1, v1), (2, (Value.int .i64 a2)), (3, v3)] envq ∧ Mem w No [] wq)) hit48 ⟨(by repeat (first | exact Sub.nil _ | refine Sub.cons rfl ?_)), (hm0.pick [] (by decide) rfl)⟩ ?_ ?_
    · rintro i40 x42 env43 w44 hf45 hr46 ⟨hs_, hm_⟩
      have hs_ : Sub [(0, v0), (1, v1), (2, (Value.int .i64 a2)), (3, v3), (21, v0), (22, (Value.int .i64 (List.length a0 : Int))), (23, (Value.int .i64 i40))] env43 := hs_
      have hm52 : Mem w No [] w44 := hm_
      refine cw_sub hs_ ?_
      clear hs_ hm_ q49
      have h : throwplan_check_l1 N a0 a2 i40 = some x42 := hf45
      clear hf45
      refine cw_seq ?_
      refine cw_region ?_
      refine t_rd rfl (rd_lss rfl rfl) ?_
      refine rwt_nil ?_
      refine qn_then ?_
      refine cw_seq ?_
      obtain ⟨hb53, q54⟩ | ⟨hb53, q54⟩ := oi h <;> clear h
      · refine cw_t rfl hb53 ?_
        refine cw_skip ?_
        refine qn_then ?_
        refine cw_seq ?_
        refine cw_block ?_
        refine cw_seq ?_
        refine cw_region ?_
        obtain ⟨x55, h56, q57⟩ := ob q54; clear q54
        refine t_rd rfl (rd_index tS23 rfl rfl ((hn0.of_old hm52).sl) h56) ?_
        obtain ⟨zd58, hz59⟩ := (hn0.of_old hm52).row h56
        refine t_rd rfl (rd_ld1 tO34 rfl ((hn0.of_old hm52).cells hz59) (off := 0) rfl) ?_
        refine t_rd rfl (rd_assign rfl) ?_
        refine rwt_nil ?_
        refine qn_then ?_
        refine cw_seq ?_
        refine cw_region ?_
        refine t_rd rfl (rd_move rfl) ?_
        refine t_rd rfl (rd_move rfl) ?_
        obtain ⟨r60, h61, q62⟩ := ob q57; clear q57
        refine t_ef rfl (ef_call tf41 rfl (separation_Gap_ok h61 ((hn0.to_call hm52).get hz59 h56) (Sl.nil _ _))) ?_
        rintro _ w64 ⟨e_, hm63⟩
        obtain rfl := e_.symm
        have hm65 := hm52.call hm63
        refine t_rd rfl (rd_move rfl) ?_
        refine t_rd rfl (rd_extract rfl rfl) ?_
        refine t_rd rfl (rd_extract rfl rfl) ?_
        refine t_rd rfl (rd_assign rfl) ?_
        refine t_rd rfl (rd_assign rfl) ?_
        refine rwt_nil ?_
        refine qn_then ?_
        refine cw_seq ?_
        refine cw_region ?_
        refine t_rd rfl (rd_move rfl) ?_
        refine t_rd rfl (rd_neq rfl rfl) ?_
        refine rwt_nil ?_
        refine qn_then ?_
        obtain ⟨hb66, q67⟩ | ⟨hb66, q67⟩ := oi q62 <;> clear q62
        · refine cw_t rfl hb66 ?_
          refine cw_seq ?_
          refine cw_region ?_
          refine t_rd rfl (rd_move rfl) ?_
          refine t_rd rfl (rd_assign rfl) ?_
          refine rwt_nil ?_
          refine qn_then ?_
          refine cw_ret ?_
          refine qr_block (qr_then (qr_then ?_))
          obtain rfl := hr46 _ (os q67)
          refine .inl (⟨_, rfl, ⟨rfl, ?_⟩⟩)
          exact ret1 rfl rfl ⟨rfl, (hm65.pick [] (by decide) rfl)⟩
        · refine cw_f rfl hb66 ?_
          refine cw_skip ?_
          refine qn_block (qn_then ?_)
          refine cw_region ?_
          obtain ⟨x68, h69, q70⟩ := ob q67; clear q67
          refine t_rd rfl (rd_add64 h69 rfl rfl) ?_
          refine t_rd rfl (rd_move rfl) ?_
          refine rwt_nil ?_
          refine qn_then ?_
          refine ⟨_, (os q70), (by repeat (first | exact Sub.nil _ | refine Sub.cons rfl ?_)), (hm65.pick [] (by decide) rfl)⟩
      · refine cw_f rfl hb53 ?_
        refine cw_exit ?_
        refine qx_then (qx_then ?_)
        obtain rfl := hr46 _ (os q54)
        exact .inr (⟨_, rfl, ⟨rfl, (by repeat (first | exact Sub.nil _ | refine Sub.cons rfl ?_)), (hm52.pick [] (by decide) rfl)⟩⟩)
    · skip
      intro e env71 w72 hX73
      rcases hX73 with hX73 | hX73
      · obtain ⟨p75, rfl, hX73⟩ := hX73
        obtain ⟨rfl, hq77⟩ := hX73
        exact qr_block (qr_then ((by have e := os q49; subst e; exact hq77)))
      · obtain ⟨p78, rfl, hX73⟩ := hX73
        obtain ⟨rfl, hs79, hm80⟩ := hX73
        refine qx_same (qn_then ?_)
        refine cw_sub hs79 ?_
        refine cw_seq ?_
        refine cw_seq ?_
        refine cw_region ?_
        refine t_rd rfl (rd_move rfl) ?_
        refine t_rd rfl (rd_lss rfl rfl) ?_
        refine t_rd rfl (rd_move rfl) ?_
        refine t_rdg rfl rfl rfl rfl (gv_f _) (fun hg81 => (rd_move rfl)) ?_
        refine t_rdg rfl rfl rfl rfl (gv_f _) (fun hg82 => (rd_gtr (gvx rfl hg82) rfl)) ?_
        refine t_rd rfl (rd_or rfl (fun hc83 => (gvx rfl (bnotIt hc83)))) ?_
        refine t_rd rfl (rd_move rfl) ?_
        refine t_rdg rfl rfl rfl rfl (gv_f _) (fun hg84 => (rd_move rfl)) ?_
        refine t_rdg rfl rfl rfl rfl (gv_f _) (fun hg85 => (rd_lenS tS22 (gvx rfl hg85) (hv1.of_old hm80))) ?_
        refine t_rdg rfl rfl rfl rfl (gv_f _) (fun hg86 => (rd_move rfl)) ?_
        refine t_rdg rfl rfl rfl rfl (gv_f _) (fun hg87 => (rd_lenS tS23 (gvx rfl hg87) ((hn0.of_old hm80).sl))) ?_
        refine t_rdg rfl rfl rfl rfl (gv_f _) (fun hg88 => (rd_neq (gvx rfl hg88) (gvx rfl hg88))) ?_
        refine t_rd rfl (rd_or rfl (fun hc89 => (gvx rfl (bnotIt hc89)))) ?_
        refine t_rd rfl (rd_move rfl) ?_
        refine t_rdg rfl rfl rfl rfl (gv_f _) (fun hg90 => (rd_move rfl)) ?_
        refine t_rdg rfl rfl rfl rfl (gv_f _) (fun hg91 => (rd_lenS tS24 (gvx rfl hg91) (hv3.of_old hm80))) ?_
        refine t_rdg rfl rfl rfl rfl (gv_f _) (fun hg92 => (rd_gtr (gvx rfl hg92) rfl)) ?_
        refine t_rd rfl (rd_or rfl (fun hc93 => (gvx rfl (bnotIt hc93)))) ?_
        refine rwt_nil ?_
        refine qn_then ?_
        obtain ⟨hb94, q95⟩ | ⟨hb94, q95⟩ := oi q49 <;> clear q49
        · refine cw_t rfl hb94 ?_
          refine cw_seq ?_
          refine cw_region ?_
          refine t_rd rfl (rd_assign rfl) ?_
          refine rwt_nil ?_
          refine qn_then ?_
          refine cw_ret ?_
          refine qr_then ?_
          obtain rfl := os q95
          exact ret1 rfl rfl ⟨rfl, (hm80.pick [] (by decide) rfl)⟩
        · refine cw_f rfl hb94 ?_
          refine cw_skip ?_
          refine qn_then ?_
          refine cw_seq ?_
          refine cw_seq ?_
          refine cw_region ?_
          refine t_rd rfl (rd_move rfl) ?_
          refine t_rd rfl (rd_lenS tS22 rfl (hv1.of_old hm80)) ?_
          refine t_rd rfl (rd_move rfl) ?_
          refine rwt_nil ?_
          refine qn_then ?_
          refine cw_block ?_
          obtain ⟨r168, hit169, q170⟩ := ob q95; clear q95
          refine cw_loop2 (I := fun q envq wq => Sub [(1, v1), (3, v3), (55, v1), (56, (Value.int .i64 (List.length a1 : Int))), (57, (Value.int .i64 q))] envq ∧ Mem w No [] wq) (X := fun eq envq wq => (∃ p171, r168 = (Sum.inl p171) ∧ eq = .ret ∧ retQ Try.prog 108 Try.f28 (fun u w' => u = (Value.int .i64 p171) ∧ Mem w No [] w') .ret envq wq) ∨ (∃ p172, r168 = (Sum.inr p172) ∧ eq = .exit 2 ∧ Sub [(3, v3)] envq ∧ Mem w No [] wq)) hit169 ⟨(by repeat (first | exact Sub.nil _ | refine Sub.cons rfl ?_)), (hm80.pick [] (by decide) rfl)⟩ ?_ ?_
          · rintro i161 x163 env164 w165 hf166 hr167 ⟨hs_, hm_⟩
            have hs_ : Sub [(1, v1), (3, v3), (55, v1), (56, (Value.int .i64 (List.length a1 : Int))), (57, (Value.int .i64 i161))] env164 := hs_
            have hm173 : Mem w No [] w165 := hm_
            refine cw_sub hs_ ?_
            clear hs_ hm_ q170
            have h : throwplan_check_l2 N a1 i161 = some x163 := hf166
            clear hf166
            refine cw_seq ?_
            refine cw_region ?_
            refine t_rd rfl (rd_lss rfl rfl) ?_
            refine rwt_nil ?_
            refine qn_then ?_
            refine cw_seq ?_
            obtain ⟨hb174, q175⟩ | ⟨hb174, q175⟩ := oi h <;> clear h
            · refine cw_t rfl hb174 ?_
              refine cw_skip ?_
              refine qn_then ?_
              refine cw_seq ?_
              refine cw_block ?_
              refine cw_seq ?_
              refine cw_region ?_
              refine t_rd rfl (rd_move rfl) ?_
              obtain ⟨x176, h177, q178⟩ := ob q175; clear q175
              refine t_rd rfl (rd_index tS22 rfl rfl (hv1.of_old hm173) h177) ?_
              refine t_rd rfl (rd_ld1 tO3 rfl ((hv1.of_old hm173).cells h177) (off := 0) rfl) ?_
              refine t_rd rfl (rd_assign rfl) ?_
              refine t_rd rfl (rd_assign rfl) ?_
              refine rwt_nil ?_
              refine qn_then ?_
              refine cw_seq ?_
              refine cw_region ?_
              refine t_rd rfl (rd_move rfl) ?_
              refine t_rd rfl (rd_lss rfl rfl) ?_
              refine t_rd rfl (rd_move rfl) ?_
              refine t_rdg rfl rfl rfl rfl (gv_f _) (fun hg179 => (rd_move rfl)) ?_
              refine t_rdg rfl rfl rfl rfl (gv_f _) (fun hg180 => (rd_gtr (gvx rfl hg180) rfl)) ?_
              refine t_rd rfl (rd_or rfl (fun hc181 => (gvx rfl (bnotIt hc181)))) ?_
              refine t_rd rfl (rd_move rfl) ?_
              refine t_rdg rfl rfl rfl rfl (gv_f _) (fun hg182 => (rd_move rfl)) ?_
              refine t_rdg rfl rfl rfl rfl (gv_f _) (fun hg183 => (rd_gtr (gvx rfl hg183) rfl)) ?_
              refine t_rdg rfl rfl rfl rfl (gv_f _) (fun hg184 => (rd_move (gvx rfl hg184))) ?_
              refine t_rdg rfl rfl rfl rfl (gv_nt _ _) (fun hg185 => (rd_move rfl)) ?_
              refine t_rdg rfl rfl rfl rfl (gv_nt _ _) (fun hg186 => (rd_move rfl)) ?_
              refine t_rdg rfl rfl rfl rfl (gv_nt _ _) (fun hg187 => (rd_move rfl)) ?_
              obtain ⟨x189, h190, q191⟩ := ob q178; clear q178
              refine t_rdg rfl rfl rfl rfl (gv_nt _ _) (fun hg188 => (rd_sub64 (gO_t h190 hg188) (gvx rfl hg188) rfl)) ?_
              obtain ⟨x193, h194, q195⟩ := ob q191; clear q191
              refine t_rdg rfl rfl rfl rfl (gv_nt _ _) (fun hg192 => (rd_index tS22 (gvx rfl hg192) (gvx rfl hg192) (hv1.of_old hm173) (gO_t h194 hg192))) ?_
              refine t_rdg rfl rfl rfl rfl (gv_nt _ _) (fun hg196 => (rd_ld1 tO3 (gvx rfl hg196) ((hv1.of_old hm173).cells (gO_t h194 hg196)) (off := 0) rfl)) ?_
              refine t_rdg rfl rfl rfl rfl (gv_nt _ _) (fun hg197 => (rd_lss (gvx rfl hg197) (gvx rfl hg197))) ?_
              refine t_rdg rfl rfl rfl rfl (gv_f _) (fun hg198 => (rd_and (gvx rfl hg198) (fun hc199 => (gvx rfl (band hg198 hc199))))) ?_
              refine t_rd rfl (rd_or rfl (fun hc200 => (gvx rfl (bnotIt hc200)))) ?_
              refine rwt_nil ?_
              refine qn_then ?_
              obtain ⟨hb201, q202⟩ | ⟨hb201, q202⟩ := oi q195 <;> clear q195
              · refine cw_t rfl hb201 ?_
                refine cw_seq ?_
                refine cw_region ?_
                refine t_rd rfl (rd_assign rfl) ?_
                refine rwt_nil ?_
                refine qn_then ?_
                refine cw_ret ?_
                refine qr_block (qr_then (qr_then ?_))
                obtain rfl := hr167 _ (os q202)
                refine .inl (⟨_, rfl, ⟨rfl, ?_⟩⟩)
                exact ret1 rfl rfl ⟨rfl, (hm173.pick [] (by decide) rfl)⟩
              · refine cw_f rfl hb201 ?_
                refine cw_skip ?_
                refine qn_block (qn_then ?_)
                refine cw_region ?_
                obtain ⟨x203, h204, q205⟩ := ob q202; clear q202
                refine t_rd rfl (rd_add64 h204 rfl rfl) ?_
                refine t_rd rfl (rd_move rfl) ?_
                refine rwt_nil ?_
                refine qn_then ?_
                refine ⟨_, (os q205), (by repeat (first | exact Sub.nil _ | refine Sub.cons rfl ?_)), (hm173.pick [] (by decide) rfl)⟩
            · refine cw_f rfl hb174 ?_
              refine cw_exit ?_
              refine qx_then (qx_then ?_)
              obtain rfl := hr167 _ (os q175)
              exact .inr (⟨_, rfl, ⟨rfl, (by repeat (first | exact Sub.nil _ | refine Sub.cons rfl ?_)), (hm173.pick [] (by decide) rfl)⟩⟩)
          · skip
            intro e env206 w207 hX208
            rcases hX208 with hX208 | hX208
            · obtain ⟨p210, rfl, hX208⟩ := hX208
              obtain ⟨rfl, hq212⟩ := hX208
              exact qr_block (qr_then ((by have e := os q170; subst e; exact hq212)))
            · obtain ⟨p213, rfl, hX208⟩ := hX208
              obtain ⟨rfl, hs214, hm215⟩ := hX208
              refine qx_same (qn_then ?_)
              refine cw_sub hs214 ?_
              refine cw_seq ?_
              refine cw_region ?_
              refine t_ef rfl (ef_makeMap hm215 Bool) ?_
              rintro _ w218 ⟨g216, rfl, hm217⟩
              refine t_rd rfl (rd_assign rfl) ?_
              refine rwt_nil ?_
              refine qn_then ?_
              refine cw_seq ?_
              refine cw_seq ?_
              refine cw_region ?_
              refine t_rd rfl (rd_move rfl) ?_
              refine t_rd rfl (rd_lenS tS24 rfl (hv3.of_old hm217)) ?_
              refine t_rd rfl (rd_move rfl) ?_
              refine rwt_nil ?_
              refine qn_then ?_
              refine cw_block ?_
              obtain ⟨r295, hit296, q297⟩ := ob q170; clear q170
              refine cw_loop2 (I := fun q envq wq => Sub [(15, (Value.map (some g216))), (83, v3), (84, (Value.int .i64 (List.length a3 : Int))), (85, (Value.int .i64 q.1))] envq ∧ Mem w No [mapC g216 (q.2 : List (Int × Bool))] wq) (X := fun eq envq wq => (∃ p298, r295 = (Sum.inl p298) ∧ eq = .ret ∧ retQ Try.prog 108 Try.f28 (fun u w' => u = (Value.int .i64 p298) ∧ Mem w No [] w') .ret envq wq) ∨ (∃ p299, r295 = (Sum.inr p299) ∧ eq = .exit 4 ∧ Sub [] envq ∧ Mem w No [] wq)) hit296 ⟨(by repeat (first | exact Sub.nil _ | refine Sub.cons rfl ?_)), (hm217.pick [0] (by decide) rfl)⟩ ?_ ?_
              · rintro ⟨i287, m288⟩ x290 env291 w292 hf293 hr294 ⟨hs_, hm_⟩
                have hs_ : Sub [(15, (Value.map (some g216))), (83, v3), (84, (Value.int .i64 (List.length a3 : Int))), (85, (Value.int .i64 i287))] env291 := hs_
                have hm300 : Mem w No [mapC g216 (m288 : List (Int × Bool))] w292 := hm_
                refine cw_sub hs_ ?_
                clear hs_ hm_ q297
                have h : throwplan_check_l3 N a3 i287 m288 = some x290 := hf293
                clear hf293
                refine cw_seq ?_
                refine cw_region ?_
                refine t_rd rfl (rd_lss rfl rfl) ?_
                refine rwt_nil ?_
                refine qn_then ?_
                refine cw_seq ?_
                obtain ⟨hb301, q302⟩ | ⟨hb301, q302⟩ := oi h <;> clear h
                · refine cw_t rfl hb301 ?_
                  refine cw_skip ?_
                  refine qn_then ?_
                  refine cw_seq ?_
                  refine cw_block ?_
                  refine cw_seq ?_
                  refine cw_region ?_
                  obtain ⟨x303, h304, q305⟩ := ob q302; clear q302
                  refine t_rd rfl (rd_index tS24 rfl rfl (hv3.of_old hm300) h304) ?_
                  refine t_rd rfl (rd_ld tA38 rfl ((hv3.of_old hm300).cells h304) rfl) ?_
                  refine t_ef rfl (ef_alloc hm300 tZ38 rfl) ?_
                  rintro _ w308 ⟨g306, rfl, hm307⟩
                  refine t_ef0 (ef_stw (k := 0) hm307 tA38 rfl rfl (oc_cons rfl (oc_cons rfl oc_nil)) rfl rfl rfl) ?_
                  intro _ w310 hm309
                  refine rwt_nil ?_
                  refine qn_then ?_
                  refine cw_seq ?_
                  refine cw_seq ?_
                  refine cw_region ?_
                  refine t_rd rfl (rd_fld tF38_0 rfl) ?_
                  refine t_rd rfl (rd_ld1 tO3 rfl (hm309.blk 0 rfl) (off := 0) rfl) ?_
                  refine t_rd rfl (rd_lss rfl rfl) ?_
                  refine t_rd rfl (rd_move rfl) ?_
                  refine t_rdg rfl rfl rfl rfl (gv_f _) (fun hg311 => (rd_move rfl)) ?_
                  refine t_rdg rfl rfl rfl rfl (gv_f _) (fun hg312 => (rd_fld tF38_0 rfl)) ?_
                  refine t_rdg rfl rfl rfl rfl (gv_f _) (fun hg313 => (rd_ld1 tO3 (gvx rfl hg313) (hm309.blk 0 rfl) (off := 0) rfl)) ?_
                  refine t_rdg rfl rfl rfl rfl (gv_f _) (fun hg314 => (mvB (o := (mget m288 x303.Element)) ▸ rd_lookup tM66 (hm309.get (k := 1) rfl) (gvx rfl hg314) (gvx rfl hg314))) ?_
                  refine t_rd rfl (rd_or rfl (fun hc315 => (gvx rfl (bnotIt hc315)))) ?_
                  refine t_rd rfl (rd_move rfl) ?_
                  refine t_rdg rfl rfl rfl rfl (gv_f _) (fun hg316 => (rd_fld tF38_1 rfl)) ?_
                  refine t_rdg rfl rfl rfl rfl (gv_f _) (fun hg317 => (rd_ld1 tO3 (gvx rfl hg317) (hm309.blk 0 rfl) (off := 1) rfl)) ?_
                  obtain ⟨r319, h320, q321⟩ := ob q305; clear q305
                  refine t_efg rfl rfl rfl rfl (R := (fun v w' => v = gV (!(decide (x303.Element < 0) || (Option.getD (mget m288 x303.Element) false))) (Value.bool r319) ∧ Mem w310 No [] w')) (gv_f _) (fun hg318 => (ef_call tf33 (evc (gvx rfl hg318) evn) (throwplan_lies_ok (gO_t h320 hg318))).mono (by rintro _ _ ⟨rfl, q⟩; exact ⟨(gV_t hg318).symm, q⟩)) (fun q => ⟨(gV_f q).symm, Mem.nil _⟩) ?_
                  rintro _ w323 ⟨rfl, hm322⟩
                  have hm324 := hm309.call hm322
                  refine t_rdg rfl rfl rfl rfl (gv_f _) (fun hg325 => (rd_not (gvx rfl hg325))) ?_
                  refine t_rd rfl (rd_or rfl (fun hc326 => (gvx rfl (bnotIt hc326)))) ?_
                  refine rwt_nil ?_
                  refine qn_then ?_
                  obtain ⟨hb327, q328⟩ | ⟨hb327, q328⟩ := oi q321 <;> clear q321
                  · refine cw_t rfl hb327 ?_
                    refine cw_seq ?_
                    refine cw_region ?_
                    refine t_rd rfl (rd_assign rfl) ?_
                    refine rwt_nil ?_
                    refine qn_then ?_
                    refine cw_ret ?_
                    refine qr_then (qr_block (qr_then (qr_then ?_)))
                    obtain rfl := hr294 _ (os q328)
                    refine .inl (⟨_, rfl, ⟨rfl, ?_⟩⟩)
                    exact ret1 rfl rfl ⟨rfl, (hm324.pick [] (by decide) rfl)⟩
                  · refine cw_f rfl hb327 ?_
                    refine cw_skip ?_
                    refine qn_then ?_
                    refine cw_region ?_
                    refine t_rd rfl (rd_move rfl) ?_
                    refine t_rd rfl (rd_fld tF38_0 rfl) ?_
                    refine t_rd rfl (rd_ld1 tO3 rfl (hm324.blk 0 rfl) (off := 0) rfl) ?_
                    refine t_ef0 (ef_mapUpdate (kq := 1) hm324 tM66 rfl (true : Bool) rfl rfl rfl) ?_
                    intro _ w330 hm329
                    refine rwt_nil ?_
                    refine qn_block (qn_then ?_)
                    refine cw_region ?_
                    obtain ⟨x331, h332, q333⟩ := ob q328; clear q328
                    refine t_rd rfl (rd_add64 h332 rfl rfl) ?_
                    refine t_rd rfl (rd_move rfl) ?_
                    refine rwt_nil ?_
                    refine qn_then ?_
                    refine ⟨_, (os q333), (by repeat (first | exact Sub.nil _ | refine Sub.cons rfl ?_)), (hm329.pick [1] (by decide) rfl)⟩
                · refine cw_f rfl hb301 ?_
                  refine cw_exit ?_
                  refine qx_then (qx_then ?_)
                  obtain rfl := hr294 _ (os q302)
                  exact .inr (⟨_, rfl, ⟨rfl, (by repeat (first | exact Sub.nil _ | refine Sub.cons rfl ?_)), (hm300.pick [] (by decide) rfl)⟩⟩)
              · skip
                intro e env334 w335 hX336
                rcases hX336 with hX336 | hX336
                · obtain ⟨p338, rfl, hX336⟩ := hX336
                  obtain ⟨rfl, hq340⟩ := hX336
                  exact qr_block (qr_then ((by have e := os q297; subst e; exact hq340)))
                · obtain ⟨p341, rfl, hX336⟩ := hX336
                  obtain ⟨rfl, hs342, hm343⟩ := hX336
                  refine qx_same (qn_then ?_)
                  refine cw_sub hs342 ?_
                  refine cw_seq ?_
                  refine cw_region ?_
                  refine t_rd rfl (rd_assign rfl) ?_
                  refine rwt_nil ?_
                  refine qn_then ?_
                  refine cw_ret ?_
                  obtain rfl := os q297
                  exact ret1 rfl rfl ⟨rfl, (hm343.pick [] (by decide) rfl)⟩

theorem throwplan_sides_ok {N : Nat} {a0 : List T_Throw} {res : (List (Int × Int))} (h : throwplan_sides N a0 = some res) {w : World} {v0 : Value} (hv0 : Sl (Old w No) w v0 a0) :
    CallsR Try.prog 29 [v0] w (fun u w' => ∃ (gy0 : Nat), u = (Value.map (some gy0)) ∧ Mem w No [mapC gy0 (res : List (Int × Int))] w') := by
  unfold throwplan_sides at h
  refine fn_ok Try.func29 rfl rfl rfl ?_
  have hm0 := Mem.nil w
  refine cw_seq ?_
  refine cw_region ?_
  refine t_rd rfl (rd_assign rfl) ?_
  refine rwt_nil ?_
  refine qn_then ?_
  refine cw_seq ?_
  refine cw_region ?_
  refine t_ef rfl (ef_makeMap hm0 Int) ?_
  rintro _ w3 ⟨g1, rfl, hm2⟩
  refine t_rd rfl (rd_assign rfl) ?_
  refine rwt_nil ?_
  refine qn_then ?_
  refine cw_seq ?_
  refine cw_seq ?_
  refine cw_region ?_
  refine t_rd rfl (rd_move rfl) ?_
  refine t_rd rfl (rd_lenS tS24 rfl (hv0.of_old hm2)) ?_
  refine t_rd rfl (rd_move rfl) ?_
  refine rwt_nil ?_
  refine qn_then ?_
  refine cw_block ?_
  obtain ⟨r45, hit46, q47⟩ := ob h; clear h
  refine cw_loop2 (I := fun q envq wq => Sub [(3, (Value.map (some g1))), (7, v0), (8, (Value.int .i64 (List.length a0 : Int))), (9, (Value.int .i64 q.1))] envq ∧ Mem w No [mapC g1 (q.2 : List (Int × Int))] wq) (X := fun eq envq wq => eq = .exit 0 ∧ Sub [(3, (Value.map (some g1)))] envq ∧ Mem w No [mapC g1 (r45 : List (Int × Int))] wq) hit46 ⟨(by repeat (first | exact Sub.nil _ | refine Sub.cons rfl ?_)), (hm2.pick [0] (by decide) rfl)⟩ ?_ ?_
  · rintro ⟨i37, m38⟩ x40 env41 w42 hf43 hr44 ⟨hs_, hm_⟩
    have hs_ : Sub [(3, (Value.map (some g1))), (7, v0), (8, (Value.int .i64 (List.length a0 : Int))), (9, (Value.int .i64 i37))] env41 := hs_
    have hm48 : Mem w No [mapC g1 (m38 : List (Int × Int))] w42 := hm_
    refine cw_sub hs_ ?_
    clear hs_ hm_ q47
    have h : throwplan_sides_l1 N a0 i37 m38 = some x40 := hf43
    clear hf43
    refine cw_seq ?_
    refine cw_region ?_
    refine t_rd rfl (rd_lss rfl rfl) ?_
    refine rwt_nil ?_
    refine qn_then ?_
    refine cw_seq ?_
    obtain ⟨hb49, q50⟩ | ⟨hb49, q50⟩ := oi h <;> clear h
    · refine cw_t rfl hb49 ?_
      refine cw_skip ?_
      refine qn_then ?_
      refine cw_seq ?_
      refine cw_block ?_
      refine cw_seq ?_
      refine cw_region ?_
      obtain ⟨x51, h52, q53⟩ := ob q50; clear q50
      refine t_rd rfl (rd_index tS24 rfl rfl (hv0.of_old hm48) h52) ?_
      refine t_rd rfl (rd_ld tA38 rfl ((hv0.of_old hm48).cells h52) rfl) ?_
      refine t_ef rfl (ef_alloc hm48 tZ38 rfl) ?_
      rintro _ w56 ⟨g54, rfl, hm55⟩
      refine t_ef0 (ef_stw (k := 0) hm55 tA38 rfl rfl (oc_cons rfl (oc_cons rfl oc_nil)) rfl rfl rfl) ?_
      intro _ w58 hm57
      refine rwt_nil ?_
      refine qn_then ?_
      refine cw_region ?_
      refine t_rd rfl (rd_move rfl) ?_
      refine t_rd rfl (rd_fld tF38_0 rfl) ?_
      refine t_rd rfl (rd_ld1 tO3 rfl (hm57.blk 0 rfl) (off := 0) rfl) ?_
      refine t_rd rfl (rd_fld tF38_1 rfl) ?_
      refine t_rd rfl (rd_ld1 tO3 rfl (hm57.blk 0 rfl) (off := 1) rfl) ?_
      refine t_ef0 (ef_mapUpdate (kq := 1) hm57 tM64 rfl (x51.Side : Int) rfl rfl rfl) ?_
      intro _ w60 hm59
      refine rwt_nil ?_
      refine qn_block (qn_then ?_)
      refine cw_region ?_
      obtain ⟨x61, h62, q63⟩ := ob q53; clear q53
      refine t_rd rfl (rd_add64 h62 rfl rfl) ?_
      refine t_rd rfl (rd_move rfl) ?_
      refine rwt_nil ?_
      refine qn_then ?_
      refine ⟨_, (os q63), (by repeat (first | exact Sub.nil _ | refine Sub.cons rfl ?_)), (hm59.pick [1] (by decide) rfl)⟩
    · refine cw_f rfl hb49 ?_
      refine cw_exit ?_
      refine qx_then (qx_then ?_)
      obtain rfl := hr44 _ (os q50)
      exact ⟨rfl, (by repeat (first | exact Sub.nil _ | refine Sub.cons rfl ?_)), (hm48.pick [0] (by decide) rfl)⟩
  · skip
    intro e env64 w65 hX66
    obtain ⟨rfl, hs67, hm68⟩ := hX66
    refine qx_same (qn_then ?_)
    refine cw_sub hs67 ?_
    refine cw_seq ?_
    refine cw_region ?_
    refine t_rd rfl (rd_move rfl) ?_
    refine t_rd rfl (rd_assign rfl) ?_
    refine rwt_nil ?_
    refine qn_then ?_
    refine cw_ret ?_
    obtain rfl := os q47
    exact ret1 rfl rfl ⟨g1, rfl, (hm68.pick [0] (by decide) rfl)⟩

theorem throwplan_side_ok {N : Nat} {a0 : List (Int × Int)} {a1 : Int} {res : Int} (h : throwplan_side N a0 a1 = some res) {w : World} {gm0 : Nat} (hv0 : MapAt (Old w No) w gm0 a0) :
    CallsR Try.prog 35 [(Value.map (some gm0)), (Value.int .i64 a1)] w (fun u w' => u = (Value.int .i64 res) ∧ Mem w No [] w') := by
  unfold throwplan_side at h
  refine fn_ok Try.func35 rfl rfl rfl ?_
  have hm0 := Mem.nil w
  refine cw_seq ?_
  refine cw_region ?_
  refine t_rd rfl (rd_assign rfl) ?_
  refine rwt_nil ?_
  refine qn_then ?_
  refine cw_seq ?_
  refine cw_seq ?_
  refine cw_region ?_
  refine t_rd rfl (rd_move rfl) ?_
  refine t_rd rfl (rd_move rfl) ?_
  refine t_rd rfl ((mvI : _ = _) ▸ rd_lookup2 tM64 (hv0.of_old hm0).2 rfl rfl) ?_
  refine t_rd rfl (rd_move rfl) ?_
  refine t_rd rfl (rd_extract rfl rfl) ?_
  refine t_rd rfl (rd_extract rfl rfl) ?_
  refine t_rd rfl (rd_assign rfl) ?_
  refine t_rd rfl (rd_assign rfl) ?_
  refine rwt_nil ?_
  refine qn_then ?_
  refine cw_seq ?_
  refine cw_region ?_
  refine t_rd rfl (rd_move rfl) ?_
  refine rwt_nil ?_
  refine qn_then ?_
  obtain ⟨hb1, q2⟩ | ⟨hb1, q2⟩ := oi h <;> clear h
  · refine cw_t rfl hb1 ?_
    refine cw_seq ?_
    refine cw_region ?_
    refine t_rd rfl (rd_move rfl) ?_
    refine t_rd rfl (rd_assign rfl) ?_
    refine rwt_nil ?_
    refine qn_then ?_
    refine cw_ret ?_
    refine qr_then ?_
    obtain rfl := os q2
    exact ret1 rfl rfl ⟨rfl, (hm0.pick [] (by decide) rfl)⟩
  · refine cw_f rfl hb1 ?_
    refine cw_skip ?_
    refine qn_then ?_
    refine cw_seq ?_
    refine cw_region ?_
    refine t_rd rfl (rd_assign rfl) ?_
    refine rwt_nil ?_
    refine qn_then ?_
    refine cw_ret ?_
    obtain rfl := os q2
    exact ret1 rfl rfl ⟨rfl, (hm0.pick [] (by decide) rfl)⟩

theorem planner_serve_ok {N : Nat} {a0_throw : Int} {a0_side : List (Int × Int)} {a0_until_ : List (Int × Int)} {a0_slow : List (Int × Bool)} {a0_out : List T_Command} {a1 : Int} {a2 : T_Span} {a3 : Int} {res : (List (Int × Int)) × (List (Int × Int)) × (List (Int × Bool)) × List T_Command × Int} (h : planner_serve N a0_throw a0_side a0_until_ a0_slow a0_out a1 a2 a3 = some res) {w : World} {g0 : Nat} {g0_side : Nat} {g0_until_ : Nat} {g0_slow : Nat} {v0_out : Value} (hkb : (bunC [blk g0 68 [(Value.int .i64 a0_throw), (Value.map (some g0_side)), (Value.map (some g0_until_)), (Value.map (some g0_slow)), v0_out], mapC g0_side (a0_side : List (Int × Int)), mapC g0_until_ (a0_until_ : List (Int × Int)), mapC g0_slow (a0_slow : List (Int × Bool)), ownL 41 v0_out (a0_out : List T_Command)]).φ w) :
    CallsR Try.prog 30 [(Value.pointer (some ⟨g0, 0, none⟩)), (Value.int .i64 a1), (Value.agg (Flat.enc a2).toArray), (Value.int .i64 a3)] w (fun u w' => ∃ (y0 : Value), u = (Value.int .i64 res.2.2.2.2) ∧ Mem w (bunC [blk g0 68 [(Value.int .i64 a0_throw), (Value.map (some g0_side)), (Value.map (some g0_until_)), (Value.map (some g0_slow)), v0_out], mapC g0_side (a0_side : List (Int × Int)), mapC g0_until_ (a0_until_ : List (Int × Int)), mapC g0_slow (a0_slow : List (Int × Bool)), ownL 41 v0_out (a0_out : List T_Command)]).D [bunC [blk g0 68 [(Value.int .i64 a0_throw), (Value.map (some g0_side)), (Value.map (some g0_until_)), (Value.map (some g0_slow)), y0], mapC g0_side (res.1 : List (Int × Int)), mapC g0_until_ (res.2.1 : List (Int × Int)), mapC g0_slow (res.2.2.1 : List (Int × Bool)), ownL 41 y0 (res.2.2.2.1 : List T_Command)]] w') := by
  unfold planner_serve at h
  refine fn_ok Try.func30 rfl rfl rfl ?_
  have hm0 := Mem.opened hkb
  refine cw_seq ?_
  refine cw_region ?_
  refine t_ef rfl (ef_box hm0 rfl rfl) ?_
  rintro _ w97 ⟨g95, rfl, hm96⟩
  refine t_rd rfl (rd_assign rfl) ?_
  refine rwt_nil ?_
  refine qn_then ?_
  refine cw_seq ?_
  refine cw_seq ?_
  obtain ⟨w99, he101⟩ : ∃ q, q = w97.drew := ⟨_, rfl⟩
  have hm100 := hm96.drew; rw [← he101] at hm100
  refine cw_region_s (fun q => (blk g95 52 [(Value.int .i64 a2.Element), (Value.int .i64 a2.Side), (Value.int .i64 a2.From), (Value.int .i64 a2.To)]).φ q ∧ (blk g0 68 [(Value.int .i64 a0_throw), (Value.map (some g0_side)), (Value.map (some g0_until_)), (Value.map (some g0_slow)), v0_out]).φ q) (cls [10] []) mixed ?_
  rintro _ rfl; rw [← he101]
  refine s_rp (i := 0) rfl (by kernel_rfl) rfl (fun _ => (rd_fld tF52_1 rfl)) ?_
  refine s_rd (i := 1) rfl (by kernel_rfl) rfl (fun w98 hS => (rd_ld1 tO3 rfl (cells_blk hS.1) (off := 1) rfl)) ⟨(hm100.get (k := 0) rfl), (hm100.get (k := 1) rfl)⟩ ?_
  refine s_rp (i := 2) rfl (by kernel_rfl) rfl (fun _ => (rd_eql rfl rfl)) ?_
  refine s_rp (i := 3) rfl (by kernel_rfl) rfl (fun _ => (rd_move rfl)) ?_
  refine s_rpg (i := 4) rfl (by kernel_rfl) rfl rfl rfl rfl (gv_f _) (fun hg119 _ => (rd_move rfl)) ?_
  refine s_rpg (i := 5) rfl (by kernel_rfl) rfl rfl rfl rfl (gv_f _) (fun hg120 _ => (rd_nilCheck (gvx rfl hg120))) ?_
  refine s_rpg (i := 6) rfl (by kernel_rfl) rfl rfl rfl rfl (gv_f _) (fun hg121 _ => (rd_fld tF68_1 (gvx rfl hg121))) ?_
  refine s_rdg (i := 7) rfl (by kernel_rfl) rfl rfl rfl rfl (gv_f _) (fun hg122 => (fun w98 hS => (rd_ld1 tO64 (gvx rfl hg122) (cells_blk hS.2) (off := 1) rfl))) ⟨(hm100.get (k := 0) rfl), (hm100.get (k := 1) rfl)⟩ ?_
  refine s_rpg (i := 8) rfl (by kernel_rfl) rfl rfl rfl rfl (gv_f _) (fun hg123 _ => (rd_fld tF52_0 rfl)) ?_
  refine s_rdg (i := 9) rfl (by kernel_rfl) rfl rfl rfl rfl (gv_f _) (fun hg124 => (fun w98 hS => (rd_ld1 tO3 (gvx rfl hg124) (cells_blk hS.1) (off := 0) rfl))) ⟨(hm100.get (k := 0) rfl), (hm100.get (k := 1) rfl)⟩ ?_
  refine s_rpg (i := 11) rfl (by kernel_rfl) rfl rfl rfl rfl (gv_f _) (fun hg125 _ => (rd_fld tF52_1 rfl)) ?_
  refine s_rdg (i := 12) rfl (by kernel_rfl) rfl rfl rfl rfl (gv_f _) (fun hg126 => (fun w98 hS => (rd_ld1 tO3 (gvx rfl hg126) (cells_blk hS.1) (off := 1) rfl))) ⟨(hm100.get (k := 0) rfl), (hm100.get (k := 1) rfl)⟩ ?_
  obtain ⟨r128, h129, q130⟩ := ob h; clear h
  refine s_efg (i := 10) rfl (by kernel_rfl) rfl rfl rfl rfl (R := (fun v w' => v = gV (!decide (a2.Side = 0)) (Value.int .i64 r128) ∧ Mem w99 No [] w')) (gv_f _) (fun hg127 => (ef_call tf35 (evc (gvx rfl hg127) (evc (gvx rfl hg127) evn)) (throwplan_side_ok (gO_t h129 hg127) (hm100.map_call 2 rfl))).mono (by rintro _ _ ⟨rfl, q⟩; exact ⟨(gV_t hg127).symm, q⟩)) (fun q => ⟨(gV_f q).symm, Mem.nil _⟩) (by decide) ?_ ?_
  · rintro _ w132 ⟨rfl, hm131⟩
    have hm133 := hm100.call hm131
    intro _
    exact ⟨(hm133.get (k := 0) rfl), (hm133.get (k := 1) rfl)⟩
  rintro _ w132 ⟨rfl, hm131⟩
  have hm133 := hm100.call hm131
  refine s_rpg (i := 13) rfl (by kernel_rfl) rfl rfl rfl rfl (gv_f _) (fun hg134 _ => (rd_eql (gvx rfl hg134) (gvx rfl hg134))) ?_
  refine s_rp (i := 14) rfl (by kernel_rfl) rfl (fun _ => (rd_or rfl (fun hc135 => (gvx rfl (bnotIt hc135))))) ?_
  refine s_nil (by kernel_rfl) ?_
  refine qn_then ?_
  obtain ⟨hb136, q137⟩ | ⟨hb136, q137⟩ := oi q130 <;> clear q130
  · refine cw_t rfl hb136 ?_
    refine cw_seq ?_
    refine cw_region ?_
    refine t_rd rfl (rd_assign rfl) ?_
    refine rwt_nil ?_
    refine qn_then ?_
    refine cw_ret ?_
    refine qr_then ?_
    obtain rfl := os q137
    exact ret1 rfl rfl ⟨v0_out, rfl, (Mem.bundle [blk g0 68 [(Value.int .i64 a0_throw), (Value.map (some g0_side)), (Value.map (some g0_until_)), (Value.map (some g0_slow)), v0_out], mapC g0_side (a0_side : List (Int × Int)), mapC g0_until_ (a0_until_ : List (Int × Int)), mapC g0_slow (a0_slow : List (Int × Bool)), ownL 41 v0_out (a0_out : List T_Command)] [] (hm133.pick (L' := [blk g0 68 [(Value.int .i64 a0_throw), (Value.map (some g0_side)), (Value.map (some g0_until_)), (Value.map (some g0_slow)), v0_out], mapC g0_side (a0_side : List (Int × Int)), mapC g0_until_ (a0_until_ : List (Int × Int)), mapC g0_slow (a0_slow : List (Int × Bool)), ownL 41 v0_out (a0_out : List T_Command)]) [1, 2, 3, 4, 5] (by decide) rfl))⟩
  · refine cw_f rfl hb136 ?_
    refine cw_skip ?_
    refine qn_then ?_
    refine cw_seq ?_
    obtain ⟨w139, he141⟩ : ∃ q, q = w132.drew := ⟨_, rfl⟩
    have hm140 := hm133.drew; rw [← he141] at hm140
    refine cw_region_s (fun q => q = w139) (cls [] []) mixed ?_
    rintro _ rfl; rw [← he141]
    refine s_rp (i := 0) rfl (by kernel_rfl) rfl (fun _ => (rd_move rfl)) ?_
    refine s_rp (i := 1) rfl (by kernel_rfl) rfl (fun _ => (rd_nilCheck rfl)) ?_
    refine s_rp (i := 2) rfl (by kernel_rfl) rfl (fun _ => (rd_fld tF68_2 rfl)) ?_
    refine s_rd (i := 3) rfl (by kernel_rfl) rfl (fun _ hS => by rw [hS]; exact (rd_ld1 tO64 rfl (hm140.blk 1 rfl) (off := 2) rfl)) rfl ?_
    refine s_rp (i := 4) rfl (by kernel_rfl) rfl (fun _ => (rd_fld tF52_0 rfl)) ?_
    refine s_rd (i := 5) rfl (by kernel_rfl) rfl (fun _ hS => by rw [hS]; exact (rd_ld1 tO3 rfl (hm140.blk 0 rfl) (off := 0) rfl)) rfl ?_
    refine s_rd (i := 6) rfl (by kernel_rfl) rfl (fun _ hS => by rw [hS]; exact (mvI (o := (mget a0_until_ a2.Element)) ▸ rd_lookup tM64 (hm140.get (k := 3) rfl) rfl rfl)) rfl ?_
    refine s_rp (i := 7) rfl (by kernel_rfl) rfl (fun _ => (rd_assign rfl)) ?_
    refine s_nil (by kernel_rfl) ?_
    refine qn_then ?_
    refine cw_seq ?_
    refine cw_block ?_
    refine cw_seq ?_
    obtain ⟨w143, he145⟩ : ∃ q, q = w139.drew := ⟨_, rfl⟩
    have hm144 := hm140.drew; rw [← he145] at hm144
    refine cw_region_s (fun q => q = w143) (cls [] []) mixed ?_
    rintro _ rfl; rw [← he145]
    refine s_rp (i := 0) rfl (by kernel_rfl) rfl (fun _ => (rd_move rfl)) ?_
    refine s_rp (i := 1) rfl (by kernel_rfl) rfl (fun _ => (rd_nilCheck rfl)) ?_
    refine s_rp (i := 2) rfl (by kernel_rfl) rfl (fun _ => (rd_fld tF68_3 rfl)) ?_
    refine s_rd (i := 3) rfl (by kernel_rfl) rfl (fun _ hS => by rw [hS]; exact (rd_ld1 tO66 rfl (hm144.blk 1 rfl) (off := 3) rfl)) rfl ?_
    refine s_rp (i := 4) rfl (by kernel_rfl) rfl (fun _ => (rd_fld tF52_0 rfl)) ?_
    refine s_rd (i := 5) rfl (by kernel_rfl) rfl (fun _ hS => by rw [hS]; exact (rd_ld1 tO3 rfl (hm144.blk 0 rfl) (off := 0) rfl)) rfl ?_
    refine s_rd (i := 6) rfl (by kernel_rfl) rfl (fun _ hS => by rw [hS]; exact (mvB (o := (mget a0_slow a2.Element)) ▸ rd_lookup tM66 (hm144.get (k := 4) rfl) rfl rfl)) rfl ?_
    refine s_rp (i := 7) rfl (by kernel_rfl) rfl (fun _ => (rd_assign rfl)) ?_
    refine s_nil (by kernel_rfl) ?_
    refine qn_then ?_
    obtain ⟨hb146, q147⟩ | ⟨hb146, q147⟩ := oi q137 <;> clear q137
    · refine cw_t rfl hb146 ?_
      refine cw_seq ?_
      refine cw_region ?_
      refine t_rd rfl (rd_assign rfl) ?_
      refine rwt_nil ?_
      refine qn_then ?_
      refine cw_ret ?_
      refine qr_block (qr_then ?_)
      obtain rfl := os q147
      exact ret1 rfl rfl ⟨v0_out, rfl, (Mem.bundle [blk g0 68 [(Value.int .i64 a0_throw), (Value.map (some g0_side)), (Value.map (some g0_until_)), (Value.map (some g0_slow)), v0_out], mapC g0_side (a0_side : List (Int × Int)), mapC g0_until_ (a0_until_ : List (Int × Int)), mapC g0_slow (a0_slow : List (Int × Bool)), ownL 41 v0_out (a0_out : List T_Command)] [] (hm144.pick (L' := [blk g0 68 [(Value.int .i64 a0_throw), (Value.map (some g0_side)), (Value.map (some g0_until_)), (Value.map (some g0_slow)), v0_out], mapC g0_side (a0_side : List (Int × Int)), mapC g0_until_ (a0_until_ : List (Int × Int)), mapC g0_slow (a0_slow : List (Int × Bool)), ownL 41 v0_out (a0_out : List T_Command)]) [1, 2, 3, 4, 5] (by decide) rfl))⟩
    · refine cw_f rfl hb146 ?_
      refine cw_seq ?_
      refine cw_region ?_
      refine t_rd rfl (rd_move rfl) ?_
      refine t_rd rfl (rd_gtr rfl rfl) ?_
      refine t_rd rfl (rd_assign rfl) ?_
      refine rwt_nil ?_
      refine qn_then ?_
      obtain ⟨hb148, q149⟩ | ⟨hb148, q149⟩ := oi q147 <;> clear q147
      · refine cw_t rfl hb148 ?_
        refine cw_seq ?_
        refine cw_region ?_
        refine t_rd rfl (rd_assign rfl) ?_
        refine rwt_nil ?_
        refine qn_then ?_
        refine cw_ret ?_
        refine qr_block (qr_then ?_)
        obtain rfl := os q149
        exact ret1 rfl rfl ⟨v0_out, rfl, (Mem.bundle [blk g0 68 [(Value.int .i64 a0_throw), (Value.map (some g0_side)), (Value.map (some g0_until_)), (Value.map (some g0_slow)), v0_out], mapC g0_side (a0_side : List (Int × Int)), mapC g0_until_ (a0_until_ : List (Int × Int)), mapC g0_slow (a0_slow : List (Int × Bool)), ownL 41 v0_out (a0_out : List T_Command)] [] (hm144.pick (L' := [blk g0 68 [(Value.int .i64 a0_throw), (Value.map (some g0_side)), (Value.map (some g0_until_)), (Value.map (some g0_slow)), v0_out], mapC g0_side (a0_side : List (Int × Int)), mapC g0_until_ (a0_until_ : List (Int × Int)), mapC g0_slow (a0_slow : List (Int × Bool)), ownL 41 v0_out (a0_out : List T_Command)]) [1, 2, 3, 4, 5] (by decide) rfl))⟩
      · refine cw_f rfl hb148 ?_
        refine cw_seq ?_
        refine cw_region ?_
        refine t_rd rfl (rd_move rfl) ?_
        refine t_rd rfl (rd_move rfl) ?_
        refine t_rd rfl (rd_nilCheck rfl) ?_
        refine t_rd rfl (rd_fld tF68_0 rfl) ?_
        refine t_rd rfl (rd_ld1 tO3 rfl (hm144.blk 1 rfl) (off := 0) rfl) ?_
        obtain ⟨x150, h151, q152⟩ := ob q149; clear q149
        refine t_rd rfl (rd_add64 h151 rfl rfl) ?_
        refine t_rd rfl (rd_move rfl) ?_
        refine t_rd rfl (rd_gtr rfl rfl) ?_
        refine t_rd rfl (rd_assign rfl) ?_
        refine rwt_nil ?_
        refine qn_then ?_
        obtain ⟨hb153, q154⟩ | ⟨hb153, q154⟩ := oi q152 <;> clear q152
        · refine cw_t rfl hb153 ?_
          refine cw_seq ?_
          refine cw_region ?_
          refine t_rd rfl (rd_assign rfl) ?_
          refine rwt_nil ?_
          refine qn_then ?_
          refine cw_ret ?_
          refine qr_block (qr_then ?_)
          obtain rfl := os q154
          exact ret1 rfl rfl ⟨v0_out, rfl, (Mem.bundle [blk g0 68 [(Value.int .i64 a0_throw), (Value.map (some g0_side)), (Value.map (some g0_until_)), (Value.map (some g0_slow)), v0_out], mapC g0_side (a0_side : List (Int × Int)), mapC g0_until_ (a0_until_ : List (Int × Int)), mapC g0_slow (a0_slow : List (Int × Bool)), ownL 41 v0_out (a0_out : List T_Command)] [] (hm144.pick (L' := [blk g0 68 [(Value.int .i64 a0_throw), (Value.map (some g0_side)), (Value.map (some g0_until_)), (Value.map (some g0_slow)), v0_out], mapC g0_side (a0_side : List (Int × Int)), mapC g0_until_ (a0_until_ : List (Int × Int)), mapC g0_slow (a0_slow : List (Int × Bool)), ownL 41 v0_out (a0_out : List T_Command)]) [1, 2, 3, 4, 5] (by decide) rfl))⟩
        · refine cw_f rfl hb153 ?_
          refine cw_seq ?_
          refine cw_region ?_
          refine t_rd rfl (rd_move rfl) ?_
          refine t_rd rfl (rd_nilCheck rfl) ?_
          refine t_rd rfl (rd_fld tF68_4 rfl) ?_
          refine t_rd rfl (rd_ld1 tO25 rfl (hm144.blk 1 rfl) (off := 4) rfl) ?_
          refine t_rd rfl (rd_lenS tS25 rfl (hm144.sl 5 rfl)) ?_
          refine t_rd rfl (rd_eql rfl rfl) ?_
          refine t_rd rfl (rd_assign rfl) ?_
          refine rwt_nil ?_
          refine qn_then ?_
          obtain ⟨hb155, q156⟩ | ⟨hb155, q156⟩ := oi q154 <;> clear q154
          · refine cw_t rfl hb155 ?_
            refine cw_seq ?_
            refine cw_region ?_
            refine t_rd rfl (rd_assign rfl) ?_
            refine rwt_nil ?_
            refine qn_then ?_
            refine cw_ret ?_
            refine qr_block (qr_then ?_)
            obtain rfl := os q156
            exact ret1 rfl rfl ⟨v0_out, rfl, (Mem.bundle [blk g0 68 [(Value.int .i64 a0_throw), (Value.map (some g0_side)), (Value.map (some g0_until_)), (Value.map (some g0_slow)), v0_out], mapC g0_side (a0_side : List (Int × Int)), mapC g0_until_ (a0_until_ : List (Int × Int)), mapC g0_slow (a0_slow : List (Int × Bool)), ownL 41 v0_out (a0_out : List T_Command)] [] (hm144.pick (L' := [blk g0 68 [(Value.int .i64 a0_throw), (Value.map (some g0_side)), (Value.map (some g0_until_)), (Value.map (some g0_slow)), v0_out], mapC g0_side (a0_side : List (Int × Int)), mapC g0_until_ (a0_until_ : List (Int × Int)), mapC g0_slow (a0_slow : List (Int × Bool)), ownL 41 v0_out (a0_out : List T_Command)]) [1, 2, 3, 4, 5] (by decide) rfl))⟩
          · refine cw_f rfl hb155 ?_
            refine cw_skip ?_
            refine qn_block (qn_then ?_)
            refine cw_seq ?_
            obtain ⟨w158, he160⟩ : ∃ q, q = w143.drew := ⟨_, rfl⟩
            have hm159 := hm144.drew; rw [← he160] at hm159
            refine cw_region_s (fun q => q = w158) (cls [] [8]) mixed ?_
            rintro _ rfl; rw [← he160]
            refine s_rp (i := 0) rfl (by kernel_rfl) rfl (fun _ => (rd_move rfl)) ?_
            refine s_rp (i := 1) rfl (by kernel_rfl) rfl (fun _ => (rd_nilCheck rfl)) ?_
            refine s_rp (i := 2) rfl (by kernel_rfl) rfl (fun _ => (rd_fld tF68_1 rfl)) ?_
            refine s_rd (i := 3) rfl (by kernel_rfl) rfl (fun _ hS => by rw [hS]; exact (rd_ld1 tO64 rfl (hm159.blk 1 rfl) (off := 1) rfl)) rfl ?_
            refine s_rp (i := 4) rfl (by kernel_rfl) rfl (fun _ => (rd_fld tF52_0 rfl)) ?_
            refine s_rd (i := 5) rfl (by kernel_rfl) rfl (fun _ hS => by rw [hS]; exact (rd_ld1 tO3 rfl (hm159.blk 0 rfl) (off := 0) rfl)) rfl ?_
            refine s_rp (i := 6) rfl (by kernel_rfl) rfl (fun _ => (rd_fld tF52_1 rfl)) ?_
            refine s_rd (i := 7) rfl (by kernel_rfl) rfl (fun _ hS => by rw [hS]; exact (rd_ld1 tO3 rfl (hm159.blk 0 rfl) (off := 1) rfl)) rfl ?_
            refine s_ef0 (i := 8) rfl (by kernel_rfl) (ef_mapUpdate (kq := 2) hm159 tM64 rfl (a2.Side : Int) rfl rfl rfl) (by decide) (fun _ _ _ q => absurd q (by decide)) ?_
            intro _ w162 hm161
            refine s_nil (by kernel_rfl) ?_
            refine qn_then ?_
            refine cw_seq ?_
            obtain ⟨w164, he166⟩ : ∃ q, q = w162.drew := ⟨_, rfl⟩
            have hm165 := hm161.drew; rw [← he166] at hm165
            refine cw_region_s (fun q => (blk g0 68 [(Value.int .i64 a0_throw), (Value.map (some g0_side)), (Value.map (some g0_until_)), (Value.map (some g0_slow)), v0_out]).φ q ∧ (blk g95 52 [(Value.int .i64 a2.Element), (Value.int .i64 a2.Side), (Value.int .i64 a2.From), (Value.int .i64 a2.To)]).φ q) (cls [12] [13, 16]) mixed ?_
            rintro _ rfl; rw [← he166]
            refine s_rp (i := 0) rfl (by kernel_rfl) rfl (fun _ => (rd_move rfl)) ?_
            refine s_rp (i := 1) rfl (by kernel_rfl) rfl (fun _ => (rd_move rfl)) ?_
            refine s_rp (i := 2) rfl (by kernel_rfl) rfl (fun _ => (rd_nilCheck rfl)) ?_
            refine s_rp (i := 3) rfl (by kernel_rfl) rfl (fun _ => (rd_fld tF68_4 rfl)) ?_
            refine s_rd (i := 4) rfl (by kernel_rfl) rfl (fun w163 hS => (rd_ld1 tO25 rfl (cells_blk hS.1) (off := 4) rfl)) ⟨(hm165.get (k := 1) rfl), (hm165.get (k := 0) rfl)⟩ ?_
            refine s_rp (i := 5) rfl (by kernel_rfl) rfl (fun _ => (rd_move rfl)) ?_
            refine s_rp (i := 6) rfl (by kernel_rfl) rfl (fun _ => (rd_fld tF52_0 rfl)) ?_
            refine s_rd (i := 7) rfl (by kernel_rfl) rfl (fun w163 hS => (rd_ld1 tO3 rfl (cells_blk hS.2) (off := 0) rfl)) ⟨(hm165.get (k := 1) rfl), (hm165.get (k := 0) rfl)⟩ ?_
            refine s_rp (i := 8) rfl (by kernel_rfl) rfl (fun _ => (rd_fld tF52_1 rfl)) ?_
            refine s_rd (i := 9) rfl (by kernel_rfl) rfl (fun w163 hS => (rd_ld1 tO3 rfl (cells_blk hS.2) (off := 1) rfl)) ⟨(hm165.get (k := 1) rfl), (hm165.get (k := 0) rfl)⟩ ?_
            refine s_rp (i := 10) rfl (by kernel_rfl) rfl (fun _ => (rd_move rfl)) ?_
            refine s_rp (i := 11) rfl (by kernel_rfl) rfl (fun _ => (rd_build (cs := #[(Value.int .i64 (Option.getD (mget a0_until_ a2.Element) 0)), (Value.int .i64 a2.Element), (Value.int .i64 a2.Side), (Value.int .i64 a1)]) rfl (by kernel_rfl))) ?_
            refine s_ef (i := 12) rfl (by kernel_rfl) rfl (ef_bslice (l := ([(T_Command.mk (Option.getD (mget a0_until_ a2.Element) 0) a2.Element a2.Side a1)] : List T_Command)) hm165 tS25 rfl (cs := #[(Value.int .i64 (Option.getD (mget a0_until_ a2.Element) 0)), (Value.int .i64 a2.Element), (Value.int .i64 a2.Side), (Value.int .i64 a1)]) (by unfold bsl; kernel_rfl) rfl rfl) (by decide) ?_ ?_
            · intro v178 w180 hm179
              intro _
              exact ⟨(hm179.get (k := 2) rfl), (hm179.get (k := 1) rfl)⟩
            intro v178 w180 hm179
            obtain ⟨l181, h182, q183⟩ := ob q156; clear q156
            refine s_ef (i := 13) rfl (by kernel_rfl) rfl (ef_append (k := 6) hm179 tS25 tE41 rfl rfl rfl rfl (hm179.sl 0 rfl) h182) (by decide) (fun _ _ _ q => absurd q (by decide)) ?_
            intro v184 w186 hm185
            refine s_rp (i := 14) rfl (by kernel_rfl) rfl (fun _ => (rd_nilCheck rfl)) ?_
            refine s_rp (i := 15) rfl (by kernel_rfl) rfl (fun _ => (rd_fld tF68_4 rfl)) ?_
            refine s_ef0 (i := 16) rfl (by kernel_rfl) (ef_st1 (k := 2) (off := 4) hm185 tO25 rfl rfl rfl (sl_one (hm185.sl 6 rfl)) rfl rfl) (by decide) (fun _ _ _ q => absurd q (by decide)) ?_
            intro _ w188 hm187
            refine s_nil (by kernel_rfl) ?_
            refine qn_then ?_
            refine cw_seq ?_
            refine cw_region ?_
            refine t_rd rfl (rd_assign rfl) ?_
            refine rwt_nil ?_
            refine qn_then ?_
            refine cw_ret ?_
            obtain rfl := os q183
            exact ret1 rfl rfl ⟨v184, rfl, (Mem.bundle [blk g0 68 [(Value.int .i64 a0_throw), (Value.map (some g0_side)), (Value.map (some g0_until_)), (Value.map (some g0_slow)), v184], mapC g0_side ((mset a0_side a2.Element a2.Side) : List (Int × Int)), mapC g0_until_ (a0_until_ : List (Int × Int)), mapC g0_slow (a0_slow : List (Int × Bool)), ownL 41 v184 (l181 : List T_Command)] [] (hm187.pick (L' := [blk g0 68 [(Value.int .i64 a0_throw), (Value.map (some g0_side)), (Value.map (some g0_until_)), (Value.map (some g0_slow)), v184], mapC g0_side ((mset a0_side a2.Element a2.Side) : List (Int × Int)), mapC g0_until_ (a0_until_ : List (Int × Int)), mapC g0_slow (a0_slow : List (Int × Bool)), ownL 41 v184 (l181 : List T_Command)]) [2, 3, 4, 5, 6] (by decide) rfl))⟩

theorem throwplan_Commands_1_ok {N : Nat} {a0 : T_Command} {a1 : T_Command} {res : Int} (h : throwplan_Commands_1 N a0 a1 = some res) {w : World}   :
    CallsR Try.prog 32 [(Value.agg (Flat.enc a0).toArray), (Value.agg (Flat.enc a1).toArray)] w (fun u w' => u = (Value.int .i64 res) ∧ Mem w No [] w') := by
  unfold throwplan_Commands_1 at h
  refine fn_ok Try.func32 rfl rfl rfl ?_
  have hm0 := Mem.nil w
  refine cw_seq ?_
  refine cw_region ?_
  refine t_ef rfl (ef_box hm0 rfl rfl) ?_
  rintro _ w3 ⟨g1, rfl, hm2⟩
  refine t_ef rfl (ef_box hm2 rfl rfl) ?_
  rintro _ w6 ⟨g4, rfl, hm5⟩
  refine t_rd rfl (rd_assign rfl) ?_
  refine rwt_nil ?_
  refine qn_then ?_
  refine cw_seq ?_
  refine cw_region ?_
  refine t_rd rfl (rd_fld tF41_0 rfl) ?_
  refine t_rd rfl (rd_ld1 tO3 rfl (hm5.blk 1 rfl) (off := 0) rfl) ?_
  refine t_rd rfl (rd_fld tF41_0 rfl) ?_
  refine t_rd rfl (rd_ld1 tO3 rfl (hm5.blk 0 rfl) (off := 0) rfl) ?_
  obtain ⟨x7, h8, q9⟩ := ob h; clear h
  refine t_rd rfl (rd_sub64 h8 rfl rfl) ?_
  refine t_rd rfl (rd_assign rfl) ?_
  refine rwt_nil ?_
  refine qn_then ?_
  refine cw_ret ?_
  obtain rfl := os q9
  exact ret1 rfl rfl ⟨rfl, (hm5.pick [] (by decide) rfl)⟩

theorem g_slices_insertionSortCmpFunc_api_Command_ok {N : Nat} {a0 : List T_Command} {a1 : Int} {a2 : Int} {res : List T_Command} (h : g_slices_insertionSortCmpFunc_api_Command N a0 a1 a2 = some res) {w : World} {v0 : Value} (hk0 : (ownL 41 v0 (a0 : List T_Command)).φ w) :
    CallsR Try.prog 47 [v0, (Value.int .i64 a1), (Value.int .i64 a2), (Value.func (.func 32) #[] #[])] w (fun u w' => u = (Value.tuple #[]) ∧ Mem w (ownL 41 v0 (a0 : List T_Command)).D [ownL 41 v0 (res : List T_Command)] w') := by
  unfold g_slices_insertionSortCmpFunc_api_Command at h
  refine fn_ok Try.func47 rfl rfl rfl ?_
  have hm0 := Mem.one hk0
  refine cw_seq ?_
  refine cw_region ?_
  refine t_rd rfl (rd_move rfl) ?_
  obtain ⟨x1, h2, q3⟩ := ob h; clear h
  refine t_rd rfl (rd_add64 h2 rfl rfl) ?_
  refine t_rd rfl (rd_assign rfl) ?_
  refine rwt_nil ?_
  refine qn_then ?_
  refine cw_block ?_
  obtain ⟨r443, hit444, q445⟩ := ob q3; clear q3
  refine cw_loop2 (I := fun q envq wq => Sub [(0, v0), (1, (Value.int .i64 a1)), (2, (Value.int .i64 a2)), (3, (Value.func (.func 32) #[] #[])), (8, (Value.int .i64 q.1))] envq ∧ Mem w (ownL 41 v0 (a0 : List T_Command)).D [ownL 41 v0 (q.2 : List T_Command)] wq) (X := fun eq envq wq => eq = .exit 0 ∧ Sub [] envq ∧ Mem w (ownL 41 v0 (a0 : List T_Command)).D [ownL 41 v0 (r443 : List T_Command)] wq) hit444 ⟨(by repeat (first | exact Sub.nil _ | refine Sub.cons rfl ?_)), (hm0.pick [0] (by decide) rfl)⟩ ?_ ?_
  · rintro ⟨i435, l436⟩ x438 env439 w440 hf441 hr442 ⟨hs_, hm_⟩
    have hs_ : Sub [(0, v0), (1, (Value.int .i64 a1)), (2, (Value.int .i64 a2)), (3, (Value.func (.func 32) #[] #[])), (8, (Value.int .i64 i435))] env439 := hs_
    have hm446 : Mem w (ownL 41 v0 (a0 : List T_Command)).D [ownL 41 v0 (l436 : List T_Command)] w440 := hm_
    refine cw_sub hs_ ?_
    clear hs_ hm_ q445
    have h : g_slices_insertionSortCmpFunc_api_Command_l3 N a1 a2 i435 l436 = some x438 := hf441
    clear hf441
    refine cw_seq ?_
    refine cw_seq ?_
    refine cw_region ?_
    refine t_rd rfl (rd_move rfl) ?_
    refine t_rd rfl (rd_move rfl) ?_
    refine t_rd rfl (rd_lss rfl rfl) ?_
    refine rwt_nil ?_
    refine qn_then ?_
    obtain ⟨hb447, q448⟩ | ⟨hb447, q448⟩ := oi h <;> clear h
    · refine cw_t rfl hb447 ?_
      refine cw_skip ?_
      refine qn_then ?_
      refine cw_seq ?_
      refine cw_block ?_
      refine cw_seq ?_
      refine cw_region ?_
      refine t_rd rfl (rd_move rfl) ?_
      refine t_rd rfl (rd_assign rfl) ?_
      refine rwt_nil ?_
      refine qn_then ?_
      refine cw_block ?_
      obtain ⟨r586, hit587, q588⟩ := ob q448; clear q448
      refine cw_loop2 (I := fun q envq wq => Sub [(0, v0), (1, (Value.int .i64 a1)), (2, (Value.int .i64 a2)), (3, (Value.func (.func 32) #[] #[])), (8, (Value.int .i64 i435)), (9, (Value.int .i64 q.1))] envq ∧ Mem w (ownL 41 v0 (a0 : List T_Command)).D [ownL 41 v0 (q.2 : List T_Command)] wq) (X := fun eq envq wq => eq = .exit 2 ∧ Sub [(0, v0), (1, (Value.int .i64 a1)), (2, (Value.int .i64 a2)), (3, (Value.func (.func 32) #[] #[])), (8, (Value.int .i64 i435))] envq ∧ Mem w (ownL 41 v0 (a0 : List T_Command)).D [ownL 41 v0 (r586 : List T_Command)] wq) hit587 ⟨(by repeat (first | exact Sub.nil _ | refine Sub.cons rfl ?_)), (hm446.pick [0] (by decide) rfl)⟩ ?_ ?_
      · rintro ⟨i578, l579⟩ x581 env582 w583 hf584 hr585 ⟨hs_, hm_⟩
        have hs_ : Sub [(0, v0), (1, (Value.int .i64 a1)), (2, (Value.int .i64 a2)), (3, (Value.func (.func 32) #[] #[])), (8, (Value.int .i64 i435)), (9, (Value.int .i64 i578))] env582 := hs_
        have hm589 : Mem w (ownL 41 v0 (a0 : List T_Command)).D [ownL 41 v0 (l579 : List T_Command)] w583 := hm_
        refine cw_sub hs_ ?_
        clear hs_ hm_ q588
        have h : g_slices_insertionSortCmpFunc_api_Command_l4 N a1 i578 l579 = some x581 := hf584
        clear hf584
        refine cw_seq ?_
        refine cw_seq ?_
        obtain ⟨w591, he593⟩ : ∃ q, q = w583.drew := ⟨_, rfl⟩
        have hm592 := hm589.drew; rw [← he593] at hm592
        refine cw_region_s (fun q => q = w591) (cls [] [14]) mixed ?_
        rintro _ rfl; rw [← he593]
        refine s_rp (i := 0) rfl (by kernel_rfl) rfl (fun _ => (rd_move rfl)) ?_
        refine s_rp (i := 1) rfl (by kernel_rfl) rfl (fun _ => (rd_move rfl)) ?_
        refine s_rp (i := 2) rfl (by kernel_rfl) rfl (fun _ => (rd_gtr rfl rfl)) ?_
        refine s_rp (i := 3) rfl (by kernel_rfl) rfl (fun _ => (rd_move rfl)) ?_
        refine s_rpg (i := 4) rfl (by kernel_rfl) rfl rfl rfl rfl (gv_t _) (fun hg594 _ => (rd_move rfl)) ?_
        refine s_rpg (i := 5) rfl (by kernel_rfl) rfl rfl rfl rfl (gv_t _) (fun hg595 _ => (rd_move rfl)) ?_
        refine s_rpg (i := 6) rfl (by kernel_rfl) rfl rfl rfl rfl (gv_t _) (fun hg596 _ => (rd_move rfl)) ?_
        obtain ⟨x598, h599, q600⟩ := ob h; clear h
        refine s_rpg (i := 7) rfl (by kernel_rfl) rfl rfl rfl rfl (gv_t _) (fun hg597 _ => (rd_index tS25 (gvx rfl hg597) (gvx rfl hg597) (hm592.sl 0 rfl) (gO_t h599 hg597))) ?_
        refine s_rdg (i := 8) rfl (by kernel_rfl) rfl rfl rfl rfl (gv_t _) (fun hg601 => (fun _ hS => by rw [hS]; exact (rd_ld tA41 (gvx rfl hg601) ((hm592.sl 0 rfl).cells (gO_t h599 hg601)) rfl))) rfl ?_
        refine s_rpg (i := 9) rfl (by kernel_rfl) rfl rfl rfl rfl (gv_t _) (fun hg602 _ => (rd_move rfl)) ?_
        refine s_rpg (i := 10) rfl (by kernel_rfl) rfl rfl rfl rfl (gv_t _) (fun hg603 _ => (rd_move rfl)) ?_
        obtain ⟨x605, h606, q607⟩ := ob q600; clear q600
        refine s_rpg (i := 11) rfl (by kernel_rfl) rfl rfl rfl rfl (gv_t _) (fun hg604 _ => (rd_sub64 (gO_t h606 hg604) (gvx rfl hg604) rfl)) ?_
        obtain ⟨x609, h610, q611⟩ := ob q607; clear q607
        refine s_rpg (i := 12) rfl (by kernel_rfl) rfl rfl rfl rfl (gv_t _) (fun hg608 _ => (rd_index tS25 (gvx rfl hg608) (gvx rfl hg608) (hm592.sl 0 rfl) (gO_t h610 hg608))) ?_
        refine s_rdg (i := 13) rfl (by kernel_rfl) rfl rfl rfl rfl (gv_t _) (fun hg612 => (fun _ hS => by rw [hS]; exact (rd_ld tA41 (gvx rfl hg612) ((hm592.sl 0 rfl).cells (gO_t h610 hg612)) rfl))) rfl ?_
        obtain ⟨r614, h615, q616⟩ := ob q611; clear q611
        refine s_efg (i := 14) rfl (by kernel_rfl) rfl rfl rfl rfl (R := (fun v w' => v = gV (decide (a1 < i578)) (Value.int .i64 r614) ∧ Mem w591 No [] w')) (gv_t _) (fun hg613 => (ef_callv tf32 (gvx rfl hg613) (evc (gvx rfl hg613) (evc (gvx rfl hg613) evn)) (throwplan_Commands_1_ok (gO_t h615 hg613))).mono (by rintro _ _ ⟨rfl, q⟩; exact ⟨(gV_t hg613).symm, q⟩)) (fun q => ⟨(gV_f q).symm, Mem.nil _⟩) (by decide) (fun _ _ _ q => absurd q (by decide)) ?_
        rintro _ w618 ⟨rfl, hm617⟩
        have hm619 := hm592.call hm617
        refine s_rpg (i := 15) rfl (by kernel_rfl) rfl rfl rfl rfl (gv_t _) (fun hg620 _ => (rd_lss (gvx rfl hg620) rfl)) ?_
        refine s_rp (i := 16) rfl (by kernel_rfl) rfl (fun _ => (rd_and rfl (fun hc621 => (gvx rfl hc621)))) ?_
        refine s_nil (by kernel_rfl) ?_
        refine qn_then ?_
        obtain ⟨hb622, q623⟩ | ⟨hb622, q623⟩ := oi q616 <;> clear q616
        · refine cw_t rfl hb622 ?_
          refine cw_skip ?_
          refine qn_then ?_
          refine cw_seq ?_
          refine cw_block ?_
          obtain ⟨w625, he627⟩ : ∃ q, q = w618.drew := ⟨_, rfl⟩
          have hm626 := hm619.drew; rw [← he627] at hm626
          refine cw_region_s (fun q => q = w625) (cls [] [15, 17]) mixed ?_
          rintro _ rfl; rw [← he627]
          refine s_rp (i := 0) rfl (by kernel_rfl) rfl (fun _ => (rd_move rfl)) ?_
          refine s_rp (i := 1) rfl (by kernel_rfl) rfl (fun _ => (rd_move rfl)) ?_
          refine s_rp (i := 2) rfl (by kernel_rfl) rfl (fun _ => (rd_move rfl)) ?_
          refine s_rp (i := 3) rfl (by kernel_rfl) rfl (fun _ => (rd_move rfl)) ?_
          obtain ⟨x628, h629, q630⟩ := ob q623; clear q623
          refine s_rp (i := 4) rfl (by kernel_rfl) rfl (fun _ => (rd_sub64 h629 rfl rfl)) ?_
          refine s_rp (i := 5) rfl (by kernel_rfl) rfl (fun _ => (rd_move rfl)) ?_
          refine s_rp (i := 6) rfl (by kernel_rfl) rfl (fun _ => (rd_move rfl)) ?_
          obtain ⟨x631, h632, q633⟩ := ob q630; clear q630
          refine s_rp (i := 7) rfl (by kernel_rfl) rfl (fun _ => (rd_sub64 h632 rfl rfl)) ?_
          obtain ⟨x634, h635, q636⟩ := ob q633; clear q633
          refine s_rp (i := 8) rfl (by kernel_rfl) rfl (fun _ => (rd_index tS25 rfl rfl (hm626.sl 0 rfl) h635)) ?_
          refine s_rd (i := 9) rfl (by kernel_rfl) rfl (fun _ hS => by rw [hS]; exact (rd_ld tA41 rfl ((hm626.sl 0 rfl).cells h635) rfl)) rfl ?_
          refine s_rp (i := 10) rfl (by kernel_rfl) rfl (fun _ => (rd_move rfl)) ?_
          refine s_rp (i := 11) rfl (by kernel_rfl) rfl (fun _ => (rd_move rfl)) ?_
          obtain ⟨x637, h638, q639⟩ := ob q636; clear q636
          refine s_rp (i := 12) rfl (by kernel_rfl) rfl (fun _ => (rd_index tS25 rfl rfl (hm626.sl 0 rfl) h638)) ?_
          refine s_rd (i := 13) rfl (by kernel_rfl) rfl (fun _ hS => by rw [hS]; exact (rd_ld tA41 rfl ((hm626.sl 0 rfl).cells h638) rfl)) rfl ?_
          obtain ⟨x640, h641, q642⟩ := ob q639; clear q639
          refine s_rp (i := 14) rfl (by kernel_rfl) rfl (fun _ => (rd_index tS25 rfl rfl (hm626.sl 0 rfl) h641)) ?_
          refine s_ef0 (i := 15) rfl (by kernel_rfl) (ef_stlw (k := 0) (x' := x634) hm626 tA41 rfl rfl rfl h641 rfl rfl) (by decide) (fun _ _ _ q => absurd q (by decide)) ?_
          intro _ w644 hm643
          obtain ⟨x645, h646, q647⟩ := ob q642; clear q642
          refine s_rp (i := 16) rfl (by kernel_rfl) rfl (fun _ => (rd_index tS25 rfl rfl (hm643.sl 0 rfl) h646)) ?_
          refine s_ef0 (i := 17) rfl (by kernel_rfl) (ef_stlw (k := 0) (x' := x637) hm643 tA41 rfl rfl rfl h646 rfl rfl) (by decide) (fun _ _ _ q => absurd q (by decide)) ?_
          intro _ w649 hm648
          refine s_nil (by kernel_rfl) ?_
          refine qn_block (qn_then ?_)
          refine cw_region ?_
          refine t_rd rfl (rd_move rfl) ?_
          obtain ⟨x650, h651, q652⟩ := ob q647; clear q647
          refine t_rd rfl (rd_sub64 h651 rfl rfl) ?_
          refine t_rd rfl (rd_assign rfl) ?_
          refine rwt_nil ?_
          refine qn_then ?_
          refine ⟨_, (os q652), (by repeat (first | exact Sub.nil _ | refine Sub.cons rfl ?_)), (hm648.pick [0] (by decide) rfl)⟩
        · refine cw_f rfl hb622 ?_
          refine cw_exit ?_
          refine qx_then (qx_then ?_)
          obtain rfl := hr585 _ (os q623)
          exact ⟨rfl, (by repeat (first | exact Sub.nil _ | refine Sub.cons rfl ?_)), (hm619.pick [0] (by decide) rfl)⟩
      · skip
        intro e env653 w654 hX655
        obtain ⟨rfl, hs656, hm657⟩ := hX655
        refine qx_same (qn_block (qn_then ?_))
        refine cw_sub hs656 ?_
        refine cw_region ?_
        refine t_rd rfl (rd_move rfl) ?_
        obtain ⟨x658, h659, q660⟩ := ob q588; clear q588
        refine t_rd rfl (rd_add64 h659 rfl rfl) ?_
        refine t_rd rfl (rd_assign rfl) ?_
        refine rwt_nil ?_
        refine qn_then ?_
        refine ⟨_, (os q660), (by repeat (first | exact Sub.nil _ | refine Sub.cons rfl ?_)), (hm657.pick [0] (by decide) rfl)⟩
    · refine cw_f rfl hb447 ?_
      refine cw_exit ?_
      refine qx_then (qx_then ?_)
      obtain rfl := hr442 _ (os q448)
      exact ⟨rfl, (by repeat (first | exact Sub.nil _ | refine Sub.cons rfl ?_)), (hm446.pick [0] (by decide) rfl)⟩
  · skip
    intro e env661 w662 hX663
    obtain ⟨rfl, hs664, hm665⟩ := hX663
    refine qx_same ?_
    obtain rfl := os q445
    refine retn ?_
    refine ret_sub hs664 ?_
    exact ret0 rfl ⟨rfl, (hm665.pick [0] (by decide) rfl)⟩

theorem g_slices_swapRangeCmpFunc_api_Command_ok {N : Nat} {a0 : List T_Command} {a1 : Int} {a2 : Int} {a3 : Int} {res : List T_Command} (h : g_slices_swapRangeCmpFunc_api_Command N a0 a1 a2 a3 = some res) {w : World} {v0 : Value} (hk0 : (ownL 41 v0 (a0 : List T_Command)).φ w) :
    CallsR Try.prog 51 [v0, (Value.int .i64 a1), (Value.int .i64 a2), (Value.int .i64 a3), (Value.func (.func 32) #[] #[])] w (fun u w' => u = (Value.tuple #[]) ∧ Mem w (ownL 41 v0 (a0 : List T_Command)).D [ownL 41 v0 (res : List T_Command)] w') := by
  unfold g_slices_swapRangeCmpFunc_api_Command at h
  refine fn_ok Try.func51 rfl rfl rfl ?_
  have hm0 := Mem.one hk0
  refine cw_seq ?_
  refine cw_region ?_
  refine t_rd rfl (rd_assign rfl) ?_
  refine rwt_nil ?_
  refine qn_then ?_
  refine cw_block ?_
  obtain ⟨r86, hit87, q88⟩ := ob h; clear h
  refine cw_loop2 (I := fun q envq wq => Sub [(0, v0), (1, (Value.int .i64 a1)), (2, (Value.int .i64 a2)), (3, (Value.int .i64 a3)), (10, (Value.int .i64 q.1))] envq ∧ Mem w (ownL 41 v0 (a0 : List T_Command)).D [ownL 41 v0 (q.2 : List T_Command)] wq) (X := fun eq envq wq => eq = .exit 0 ∧ Sub [] envq ∧ Mem w (ownL 41 v0 (a0 : List T_Command)).D [ownL 41 v0 (r86 : List T_Command)] wq) hit87 ⟨(by repeat (first | exact Sub.nil _ | refine Sub.cons rfl ?_)), (hm0.pick [0] (by decide) rfl)⟩ ?_ ?_
  · rintro ⟨i78, l79⟩ x81 env82 w83 hf84 hr85 ⟨hs_, hm_⟩
    have hs_ : Sub [(0, v0), (1, (Value.int .i64 a1)), (2, (Value.int .i64 a2)), (3, (Value.int .i64 a3)), (10, (Value.int .i64 i78))] env82 := hs_
    have hm89 : Mem w (ownL 41 v0 (a0 : List T_Command)).D [ownL 41 v0 (l79 : List T_Command)] w83 := hm_
    refine cw_sub hs_ ?_
    clear hs_ hm_ q88
    have h : g_slices_swapRangeCmpFunc_api_Command_l1 N a1 a2 a3 i78 l79 = some x81 := hf84
    clear hf84
    refine cw_seq ?_
    refine cw_seq ?_
    refine cw_region ?_
    refine t_rd rfl (rd_move rfl) ?_
    refine t_rd rfl (rd_move rfl) ?_
    refine t_rd rfl (rd_lss rfl rfl) ?_
    refine rwt_nil ?_
    refine qn_then ?_
    obtain ⟨hb90, q91⟩ | ⟨hb90, q91⟩ := oi h <;> clear h
    · refine cw_t rfl hb90 ?_
      refine cw_skip ?_
      refine qn_then ?_
      refine cw_seq ?_
      refine cw_block ?_
      obtain ⟨w93, he95⟩ : ∃ q, q = w83.drew := ⟨_, rfl⟩
      have hm94 := hm89.drew; rw [← he95] at hm94
      refine cw_region_s (fun q => q = w93) (cls [] [21, 23]) mixed ?_
      rintro _ rfl; rw [← he95]
      refine s_rp (i := 0) rfl (by kernel_rfl) rfl (fun _ => (rd_move rfl)) ?_
      refine s_rp (i := 1) rfl (by kernel_rfl) rfl (fun _ => (rd_move rfl)) ?_
      refine s_rp (i := 2) rfl (by kernel_rfl) rfl (fun _ => (rd_move rfl)) ?_
      obtain ⟨x96, h97, q98⟩ := ob q91; clear q91
      refine s_rp (i := 3) rfl (by kernel_rfl) rfl (fun _ => (rd_add64 h97 rfl rfl)) ?_
      refine s_rp (i := 4) rfl (by kernel_rfl) rfl (fun _ => (rd_move rfl)) ?_
      refine s_rp (i := 5) rfl (by kernel_rfl) rfl (fun _ => (rd_move rfl)) ?_
      refine s_rp (i := 6) rfl (by kernel_rfl) rfl (fun _ => (rd_move rfl)) ?_
      obtain ⟨x99, h100, q101⟩ := ob q98; clear q98
      refine s_rp (i := 7) rfl (by kernel_rfl) rfl (fun _ => (rd_add64 h100 rfl rfl)) ?_
      refine s_rp (i := 8) rfl (by kernel_rfl) rfl (fun _ => (rd_move rfl)) ?_
      refine s_rp (i := 9) rfl (by kernel_rfl) rfl (fun _ => (rd_move rfl)) ?_
      refine s_rp (i := 10) rfl (by kernel_rfl) rfl (fun _ => (rd_move rfl)) ?_
      obtain ⟨x102, h103, q104⟩ := ob q101; clear q101
      refine s_rp (i := 11) rfl (by kernel_rfl) rfl (fun _ => (rd_add64 h103 rfl rfl)) ?_
      obtain ⟨x105, h106, q107⟩ := ob q104; clear q104
      refine s_rp (i := 12) rfl (by kernel_rfl) rfl (fun _ => (rd_index tS25 rfl rfl (hm94.sl 0 rfl) h106)) ?_
      refine s_rd (i := 13) rfl (by kernel_rfl) rfl (fun _ hS => by rw [hS]; exact (rd_ld tA41 rfl ((hm94.sl 0 rfl).cells h106) rfl)) rfl ?_
      refine s_rp (i := 14) rfl (by kernel_rfl) rfl (fun _ => (rd_move rfl)) ?_
      refine s_rp (i := 15) rfl (by kernel_rfl) rfl (fun _ => (rd_move rfl)) ?_
      refine s_rp (i := 16) rfl (by kernel_rfl) rfl (fun _ => (rd_move rfl)) ?_
      obtain ⟨x108, h109, q110⟩ := ob q107; clear q107
      refine s_rp (i := 17) rfl (by kernel_rfl) rfl (fun _ => (rd_add64 h109 rfl rfl)) ?_
      obtain ⟨x111, h112, q113⟩ := ob q110; clear q110
      refine s_rp (i := 18) rfl (by kernel_rfl) rfl (fun _ => (rd_index tS25 rfl rfl (hm94.sl 0 rfl) h112)) ?_
      refine s_rd (i := 19) rfl (by kernel_rfl) rfl (fun _ hS => by rw [hS]; exact (rd_ld tA41 rfl ((hm94.sl 0 rfl).cells h112) rfl)) rfl ?_
      obtain ⟨x114, h115, q116⟩ := ob q113; clear q113
      refine s_rp (i := 20) rfl (by kernel_rfl) rfl (fun _ => (rd_index tS25 rfl rfl (hm94.sl 0 rfl) h115)) ?_
      refine s_ef0 (i := 21) rfl (by kernel_rfl) (ef_stlw (k := 0) (x' := x105) hm94 tA41 rfl rfl rfl h115 rfl rfl) (by decide) (fun _ _ _ q => absurd q (by decide)) ?_
      intro _ w118 hm117
      obtain ⟨x119, h120, q121⟩ := ob q116; clear q116
      refine s_rp (i := 22) rfl (by kernel_rfl) rfl (fun _ => (rd_index tS25 rfl rfl (hm117.sl 0 rfl) h120)) ?_
      refine s_ef0 (i := 23) rfl (by kernel_rfl) (ef_stlw (k := 0) (x' := x111) hm117 tA41 rfl rfl rfl h120 rfl rfl) (by decide) (fun _ _ _ q => absurd q (by decide)) ?_
      intro _ w123 hm122
      refine s_nil (by kernel_rfl) ?_
      refine qn_block (qn_then ?_)
      refine cw_region ?_
      refine t_rd rfl (rd_move rfl) ?_
      obtain ⟨x124, h125, q126⟩ := ob q121; clear q121
      refine t_rd rfl (rd_add64 h125 rfl rfl) ?_
      refine t_rd rfl (rd_assign rfl) ?_
      refine rwt_nil ?_
      refine qn_then ?_
      refine ⟨_, (os q126), (by repeat (first | exact Sub.nil _ | refine Sub.cons rfl ?_)), (hm122.pick [0] (by decide) rfl)⟩
    · refine cw_f rfl hb90 ?_
      refine cw_exit ?_
      refine qx_then (qx_then ?_)
      obtain rfl := hr85 _ (os q91)
      exact ⟨rfl, (by repeat (first | exact Sub.nil _ | refine Sub.cons rfl ?_)), (hm89.pick [0] (by decide) rfl)⟩
  · skip
    intro e env127 w128 hX129
    obtain ⟨rfl, hs130, hm131⟩ := hX129
    refine qx_same ?_
    obtain rfl := os q88
    refine retn ?_
    refine ret_sub hs130 ?_
    exact ret0 rfl ⟨rfl, (hm131.pick [0] (by decide) rfl)⟩

theorem g_slices_rotateCmpFunc_api_Command_ok {N : Nat} {a0 : List T_Command} {a1 : Int} {a2 : Int} {a3 : Int} {res : List T_Command} (h : g_slices_rotateCmpFunc_api_Command N a0 a1 a2 a3 = some res) {w : World} {v0 : Value} (hk0 : (ownL 41 v0 (a0 : List T_Command)).φ w) :
    CallsR Try.prog 50 [v0, (Value.int .i64 a1), (Value.int .i64 a2), (Value.int .i64 a3), (Value.func (.func 32) #[] #[])] w (fun u w' => u = (Value.tuple #[]) ∧ Mem w (ownL 41 v0 (a0 : List T_Command)).D [ownL 41 v0 (res : List T_Command)] w') := by
  unfold g_slices_rotateCmpFunc_api_Command at h
  refine fn_ok Try.func50 rfl rfl rfl ?_
  have hm0 := Mem.one hk0
  refine cw_seq ?_
  refine cw_region ?_
  refine t_rd rfl (rd_move rfl) ?_
  refine t_rd rfl (rd_move rfl) ?_
  obtain ⟨x1, h2, q3⟩ := ob h; clear h
  refine t_rd rfl (rd_sub64 h2 rfl rfl) ?_
  refine t_rd rfl (rd_assign rfl) ?_
  refine rwt_nil ?_
  refine qn_then ?_
  refine cw_seq ?_
  refine cw_region ?_
  refine t_rd rfl (rd_move rfl) ?_
  refine t_rd rfl (rd_move rfl) ?_
  obtain ⟨x4, h5, q6⟩ := ob q3; clear q3
  refine t_rd rfl (rd_sub64 h5 rfl rfl) ?_
  refine t_rd rfl (rd_assign rfl) ?_
  refine rwt_nil ?_
  refine qn_then ?_
  refine cw_seq ?_
  refine cw_block ?_
  obtain ⟨r89, hit90, q91⟩ := ob q6; clear q6
  refine cw_loop2 (I := fun q envq wq => Sub [(0, v0), (2, (Value.int .i64 a2)), (4, (Value.func (.func 32) #[] #[])), (10, (Value.int .i64 q.1)), (11, (Value.int .i64 q.2.1))] envq ∧ Mem w (ownL 41 v0 (a0 : List T_Command)).D [ownL 41 v0 (q.2.2 : List T_Command)] wq) (X := fun eq envq wq => eq = .exit 0 ∧ Sub [(0, v0), (2, (Value.int .i64 a2)), (4, (Value.func (.func 32) #[] #[])), (10, (Value.int .i64 r89.1))] envq ∧ Mem w (ownL 41 v0 (a0 : List T_Command)).D [ownL 41 v0 (r89.2 : List T_Command)] wq) hit90 ⟨(by repeat (first | exact Sub.nil _ | refine Sub.cons rfl ?_)), (hm0.pick [0] (by decide) rfl)⟩ ?_ ?_
  · rintro ⟨i80, i81, l82⟩ x84 env85 w86 hf87 hr88 ⟨hs_, hm_⟩
    have hs_ : Sub [(0, v0), (2, (Value.int .i64 a2)), (4, (Value.func (.func 32) #[] #[])), (10, (Value.int .i64 i80)), (11, (Value.int .i64 i81))] env85 := hs_
    have hm92 : Mem w (ownL 41 v0 (a0 : List T_Command)).D [ownL 41 v0 (l82 : List T_Command)] w86 := hm_
    refine cw_sub hs_ ?_
    clear hs_ hm_ q91
    have h : g_slices_rotateCmpFunc_api_Command_l1 N a2 i80 i81 l82 = some x84 := hf87
    clear hf87
    refine cw_seq ?_
    refine cw_seq ?_
    refine cw_region ?_
    refine t_rd rfl (rd_move rfl) ?_
    refine t_rd rfl (rd_move rfl) ?_
    refine t_rd rfl (rd_neq rfl rfl) ?_
    refine rwt_nil ?_
    refine qn_then ?_
    obtain ⟨hb93, q94⟩ | ⟨hb93, q94⟩ := oi h <;> clear h
    · refine cw_t rfl hb93 ?_
      refine cw_skip ?_
      refine qn_then ?_
      refine cw_block ?_
      refine cw_seq ?_
      refine cw_region ?_
      refine t_rd rfl (rd_move rfl) ?_
      refine t_rd rfl (rd_move rfl) ?_
      refine t_rd rfl (rd_gtr rfl rfl) ?_
      refine rwt_nil ?_
      refine qn_then ?_
      obtain ⟨hb95, q96⟩ | ⟨hb95, q96⟩ := oi q94 <;> clear q94
      · refine cw_t rfl hb95 ?_
        refine cw_seq ?_
        refine cw_region ?_
        refine t_rd rfl (rd_move rfl) ?_
        refine t_rd rfl (rd_move rfl) ?_
        refine t_rd rfl (rd_move rfl) ?_
        obtain ⟨x97, h98, q99⟩ := ob q96; clear q96
        refine t_rd rfl (rd_sub64 h98 rfl rfl) ?_
        refine t_rd rfl (rd_move rfl) ?_
        refine t_rd rfl (rd_move rfl) ?_
        refine t_rd rfl (rd_move rfl) ?_
        obtain ⟨r100, h101, q102⟩ := ob q99; clear q99
        refine t_ef rfl (ef_call tf51 rfl (g_slices_swapRangeCmpFunc_api_Command_ok h101 (hm92.get (k := 0) rfl))) ?_
        rintro _ w104 ⟨e_, hm103⟩
        obtain rfl := e_.symm
        have hm105 := hm92.callT (k := 0) rfl (fun _ h => h) hm103 (fun _ => Iff.rfl)
        refine rwt_nil ?_
        refine qn_then ?_
        refine cw_region ?_
        refine t_rd rfl (rd_move rfl) ?_
        refine t_rd rfl (rd_move rfl) ?_
        obtain ⟨x106, h107, q108⟩ := ob q102; clear q102
        refine t_rd rfl (rd_sub64 h107 rfl rfl) ?_
        refine t_rd rfl (rd_assign rfl) ?_
        refine rwt_nil ?_
        refine qn_block (qn_then ?_)
        refine ⟨_, (os q108), (by repeat (first | exact Sub.nil _ | refine Sub.cons rfl ?_)), (hm105.pick [0] (by decide) rfl)⟩
      · refine cw_f rfl hb95 ?_
        refine cw_seq ?_
        refine cw_region ?_
        refine t_rd rfl (rd_move rfl) ?_
        refine t_rd rfl (rd_move rfl) ?_
        refine t_rd rfl (rd_move rfl) ?_
        obtain ⟨x109, h110, q111⟩ := ob q96; clear q96
        refine t_rd rfl (rd_sub64 h110 rfl rfl) ?_
        refine t_rd rfl (rd_move rfl) ?_
        refine t_rd rfl (rd_move rfl) ?_
        obtain ⟨x112, h113, q114⟩ := ob q111; clear q111
        refine t_rd rfl (rd_add64 h113 rfl rfl) ?_
        refine t_rd rfl (rd_move rfl) ?_
        obtain ⟨x115, h116, q117⟩ := ob q114; clear q114
        refine t_rd rfl (rd_sub64 h116 rfl rfl) ?_
        refine t_rd rfl (rd_move rfl) ?_
        refine t_rd rfl (rd_move rfl) ?_
        obtain ⟨r118, h119, q120⟩ := ob q117; clear q117
        refine t_ef rfl (ef_call tf51 rfl (g_slices_swapRangeCmpFunc_api_Command_ok h119 (hm92.get (k := 0) rfl))) ?_
        rintro _ w122 ⟨e_, hm121⟩
        obtain rfl := e_.symm
        have hm123 := hm92.callT (k := 0) rfl (fun _ h => h) hm121 (fun _ => Iff.rfl)
        refine rwt_nil ?_
        refine qn_then ?_
        refine cw_region ?_
        refine t_rd rfl (rd_move rfl) ?_
        refine t_rd rfl (rd_move rfl) ?_
        obtain ⟨x124, h125, q126⟩ := ob q120; clear q120
        refine t_rd rfl (rd_sub64 h125 rfl rfl) ?_
        refine t_rd rfl (rd_assign rfl) ?_
        refine rwt_nil ?_
        refine qn_block (qn_then ?_)
        refine ⟨_, (os q126), (by repeat (first | exact Sub.nil _ | refine Sub.cons rfl ?_)), (hm123.pick [0] (by decide) rfl)⟩
    · refine cw_f rfl hb93 ?_
      refine cw_exit ?_
      refine qx_then (qx_then ?_)
      obtain rfl := hr88 _ (os q94)
      exact ⟨rfl, (by repeat (first | exact Sub.nil _ | refine Sub.cons rfl ?_)), (hm92.pick [0] (by decide) rfl)⟩
  · skip
    intro e env127 w128 hX129
    obtain ⟨rfl, hs130, hm131⟩ := hX129
    refine qx_same (qn_then ?_)
    refine cw_sub hs130 ?_
    refine cw_region ?_
    refine t_rd rfl (rd_move rfl) ?_
    refine t_rd rfl (rd_move rfl) ?_
    refine t_rd rfl (rd_move rfl) ?_
    obtain ⟨x132, h133, q134⟩ := ob q91; clear q91
    refine t_rd rfl (rd_sub64 h133 rfl rfl) ?_
    refine t_rd rfl (rd_move rfl) ?_
    refine t_rd rfl (rd_move rfl) ?_
    refine t_rd rfl (rd_move rfl) ?_
    obtain ⟨r135, h136, q137⟩ := ob q134; clear q134
    refine t_ef rfl (ef_call tf51 rfl (g_slices_swapRangeCmpFunc_api_Command_ok h136 (hm131.get (k := 0) rfl))) ?_
    rintro _ w139 ⟨e_, hm138⟩
    obtain rfl := e_.symm
    have hm140 := hm131.callT (k := 0) rfl (fun _ h => h) hm138 (fun _ => Iff.rfl)
    refine rwt_nil ?_
    obtain rfl := os q137
    refine retn ?_
    exact ret0 rfl ⟨rfl, (hm140.pick [0] (by decide) rfl)⟩

theorem g_slices_symMergeCmpFunc_api_Command_r_ok {N : Nat} (M : Nat) : ∀ {a0 : List T_Command} {a1 : Int} {a2 : Int} {a3 : Int} {res : List T_Command} (h : g_slices_symMergeCmpFunc_api_Command_r N M a0 a1 a2 a3 = some res) {w : World} {v0 : Value} (hk0 : (ownL 41 v0 (a0 : List T_Command)).φ w),
    CallsR Try.prog 48 [v0, (Value.int .i64 a1), (Value.int .i64 a2), (Value.int .i64 a3), (Value.func (.func 32) #[] #[])] w (fun u w' => u = (Value.tuple #[]) ∧ Mem w (ownL 41 v0 (a0 : List T_Command)).D [ownL 41 v0 (res : List T_Command)] w') := by
  induction M with
  | zero =>
    intro a0 a1 a2 a3 res h
    rw [g_slices_symMergeCmpFunc_api_Command_r] at h
    cases h
  | succ M ih =>
  intro a0 a1 a2 a3 res h w v0 hk0
  rw [g_slices_symMergeCmpFunc_api_Command_r] at h
  refine fn_ok Try.func48 rfl rfl rfl ?_
  have hm0 := Mem.one hk0
  refine cw_seq ?_
  refine cw_seq ?_
  refine cw_region ?_
  refine t_rd rfl (rd_move rfl) ?_
  refine t_rd rfl (rd_move rfl) ?_
  obtain ⟨x1, h2, q3⟩ := ob h; clear h
  refine t_rd rfl (rd_sub64 h2 rfl rfl) ?_
  refine t_rd rfl (rd_eql rfl rfl) ?_
  refine rwt_nil ?_
  refine qn_then ?_
  obtain ⟨hb4, q5⟩ | ⟨hb4, q5⟩ := oi q3 <;> clear q3
  · refine cw_t rfl hb4 ?_
    refine cw_seq ?_
    refine cw_region ?_
    refine t_rd rfl (rd_move rfl) ?_
    refine t_rd rfl (rd_assign rfl) ?_
    refine rwt_nil ?_
    refine qn_then ?_
    refine cw_seq ?_
    refine cw_region ?_
    refine t_rd rfl (rd_move rfl) ?_
    refine t_rd rfl (rd_assign rfl) ?_
    refine rwt_nil ?_
    refine qn_then ?_
    refine cw_seq ?_
    refine cw_block ?_
    obtain ⟨r81, hit82, q83⟩ := ob q5; clear q5
    refine cw_loop2 (I := fun q envq wq => Sub [(0, v0), (1, (Value.int .i64 a1)), (4, (Value.func (.func 32) #[] #[])), (10, (Value.int .i64 q.1)), (11, (Value.int .i64 q.2))] envq ∧ Mem w (ownL 41 v0 (a0 : List T_Command)).D [ownL 41 v0 (a0 : List T_Command)] wq) (X := fun eq envq wq => eq = .exit 0 ∧ Sub [(0, v0), (1, (Value.int .i64 a1)), (10, (Value.int .i64 r81))] envq ∧ Mem w (ownL 41 v0 (a0 : List T_Command)).D [ownL 41 v0 (a0 : List T_Command)] wq) hit82 ⟨(by repeat (first | exact Sub.nil _ | refine Sub.cons rfl ?_)), (hm0.pick [0] (by decide) rfl)⟩ ?_ ?_
    · rintro ⟨i73, i74⟩ x76 env77 w78 hf79 hr80 ⟨hs_, hm_⟩
      have hs_ : Sub [(0, v0), (1, (Value.int .i64 a1)), (4, (Value.func (.func 32) #[] #[])), (10, (Value.int .i64 i73)), (11, (Value.int .i64 i74))] env77 := hs_
      have hm84 : Mem w (ownL 41 v0 (a0 : List T_Command)).D [ownL 41 v0 (a0 : List T_Command)] w78 := hm_
      refine cw_sub hs_ ?_
      clear hs_ hm_ q83
      have h : g_slices_symMergeCmpFunc_api_Command_l1 N a0 a1 i73 i74 = some x76 := hf79
      clear hf79
      refine cw_seq ?_
      refine cw_seq ?_
      refine cw_region ?_
      refine t_rd rfl (rd_move rfl) ?_
      refine t_rd rfl (rd_move rfl) ?_
      refine t_rd rfl (rd_lss rfl rfl) ?_
      refine rwt_nil ?_
      refine qn_then ?_
      obtain ⟨hb85, q86⟩ | ⟨hb85, q86⟩ := oi h <;> clear h
      · refine cw_t rfl hb85 ?_
        refine cw_skip ?_
        refine qn_then ?_
        refine cw_block ?_
        refine cw_seq ?_
        refine cw_region ?_
        refine t_rd rfl (rd_move rfl) ?_
        refine t_rd rfl (rd_move rfl) ?_
        obtain ⟨x87, h88, q89⟩ := ob q86; clear q86
        refine t_rd rfl (rd_add64 h88 rfl rfl) ?_
        refine t_rd rfl (rd_cvu64 tH3 tI89 rfl) ?_
        obtain ⟨x90, h91, q92⟩ := ob q89; clear q89
        refine t_rd rfl (rd_shr_u64 h91 rfl rfl) ?_
        obtain ⟨x93, h94, q95⟩ := ob q92; clear q92
        refine t_rd rfl (rd_cv64 tH89 tI3 h94 rfl) ?_
        refine t_rd rfl (rd_assign rfl) ?_
        refine rwt_nil ?_
        refine qn_then ?_
        refine cw_seq ?_
        obtain ⟨w97, he99⟩ : ∃ q, q = w78.drew := ⟨_, rfl⟩
        have hm98 := hm84.drew; rw [← he99] at hm98
        refine cw_region_s (fun q => q = w97) (cls [] [9]) mixed ?_
        rintro _ rfl; rw [← he99]
        refine s_rp (i := 0) rfl (by kernel_rfl) rfl (fun _ => (rd_move rfl)) ?_
        refine s_rp (i := 1) rfl (by kernel_rfl) rfl (fun _ => (rd_move rfl)) ?_
        refine s_rp (i := 2) rfl (by kernel_rfl) rfl (fun _ => (rd_move rfl)) ?_
        obtain ⟨x100, h101, q102⟩ := ob q95; clear q95
        refine s_rp (i := 3) rfl (by kernel_rfl) rfl (fun _ => (rd_index tS25 rfl rfl (hm98.sl 0 rfl) h101)) ?_
        refine s_rd (i := 4) rfl (by kernel_rfl) rfl (fun _ hS => by rw [hS]; exact (rd_ld tA41 rfl ((hm98.sl 0 rfl).cells h101) rfl)) rfl ?_
        refine s_rp (i := 5) rfl (by kernel_rfl) rfl (fun _ => (rd_move rfl)) ?_
        refine s_rp (i := 6) rfl (by kernel_rfl) rfl (fun _ => (rd_move rfl)) ?_
        obtain ⟨x103, h104, q105⟩ := ob q102; clear q102
        refine s_rp (i := 7) rfl (by kernel_rfl) rfl (fun _ => (rd_index tS25 rfl rfl (hm98.sl 0 rfl) h104)) ?_
        refine s_rd (i := 8) rfl (by kernel_rfl) rfl (fun _ hS => by rw [hS]; exact (rd_ld tA41 rfl ((hm98.sl 0 rfl).cells h104) rfl)) rfl ?_
        obtain ⟨r106, h107, q108⟩ := ob q105; clear q105
        refine s_ef (i := 9) rfl (by kernel_rfl) rfl (ef_callv tf32 rfl rfl (throwplan_Commands_1_ok h107)) (by decide) (fun _ _ _ q => absurd q (by decide)) ?_
        rintro _ w110 ⟨e_, hm109⟩
        obtain rfl := e_.symm
        have hm111 := hm98.call hm109
        refine s_rp (i := 10) rfl (by kernel_rfl) rfl (fun _ => (rd_lss rfl rfl)) ?_
        refine s_nil (by kernel_rfl) ?_
        refine qn_then ?_
        obtain ⟨hb112, q113⟩ | ⟨hb112, q113⟩ := oi q108 <;> clear q108
        · refine cw_t rfl hb112 ?_
          refine cw_region ?_
          refine t_rd rfl (rd_move rfl) ?_
          obtain ⟨x114, h115, q116⟩ := ob q113; clear q113
          refine t_rd rfl (rd_add64 h115 rfl rfl) ?_
          refine t_rd rfl (rd_assign rfl) ?_
          refine rwt_nil ?_
          refine qn_block (qn_then ?_)
          refine ⟨_, (os q116), (by repeat (first | exact Sub.nil _ | refine Sub.cons rfl ?_)), (hm111.pick [0] (by decide) rfl)⟩
        · refine cw_f rfl hb112 ?_
          refine cw_region ?_
          refine t_rd rfl (rd_move rfl) ?_
          refine t_rd rfl (rd_assign rfl) ?_
          refine rwt_nil ?_
          refine qn_block (qn_then ?_)
          refine ⟨_, (os q113), (by repeat (first | exact Sub.nil _ | refine Sub.cons rfl ?_)), (hm111.pick [0] (by decide) rfl)⟩
      · refine cw_f rfl hb85 ?_
        refine cw_exit ?_
        refine qx_then (qx_then ?_)
        obtain rfl := hr80 _ (os q86)
        exact ⟨rfl, (by repeat (first | exact Sub.nil _ | refine Sub.cons rfl ?_)), (hm84.pick [0] (by decide) rfl)⟩
    · skip
      intro e env117 w118 hX119
      obtain ⟨rfl, hs120, hm121⟩ := hX119
      refine qx_same (qn_then ?_)
      refine cw_sub hs120 ?_
      refine cw_seq ?_
      refine cw_seq ?_
      refine cw_region ?_
      refine t_rd rfl (rd_move rfl) ?_
      refine t_rd rfl (rd_assign rfl) ?_
      refine rwt_nil ?_
      refine qn_then ?_
      refine cw_block ?_
      obtain ⟨r201, hit202, q203⟩ := ob q83; clear q83
      refine cw_loop2 (I := fun q envq wq => Sub [(0, v0), (10, (Value.int .i64 r81)), (13, (Value.int .i64 q.1))] envq ∧ Mem w (ownL 41 v0 (a0 : List T_Command)).D [ownL 41 v0 (q.2 : List T_Command)] wq) (X := fun eq envq wq => eq = .exit 2 ∧ Sub [] envq ∧ Mem w (ownL 41 v0 (a0 : List T_Command)).D [ownL 41 v0 (r201 : List T_Command)] wq) hit202 ⟨(by repeat (first | exact Sub.nil _ | refine Sub.cons rfl ?_)), (hm121.pick [0] (by decide) rfl)⟩ ?_ ?_
      · rintro ⟨i193, l194⟩ x196 env197 w198 hf199 hr200 ⟨hs_, hm_⟩
        have hs_ : Sub [(0, v0), (10, (Value.int .i64 r81)), (13, (Value.int .i64 i193))] env197 := hs_
        have hm204 : Mem w (ownL 41 v0 (a0 : List T_Command)).D [ownL 41 v0 (l194 : List T_Command)] w198 := hm_
        refine cw_sub hs_ ?_
        clear hs_ hm_ q203
        have h : g_slices_symMergeCmpFunc_api_Command_l2 N r81 i193 l194 = some x196 := hf199
        clear hf199
        refine cw_seq ?_
        refine cw_seq ?_
        refine cw_region ?_
        refine t_rd rfl (rd_move rfl) ?_
        refine t_rd rfl (rd_move rfl) ?_
        obtain ⟨x205, h206, q207⟩ := ob h; clear h
        refine t_rd rfl (rd_sub64 h206 rfl rfl) ?_
        refine t_rd rfl (rd_lss rfl rfl) ?_
        refine rwt_nil ?_
        refine qn_then ?_
        obtain ⟨hb208, q209⟩ | ⟨hb208, q209⟩ := oi q207 <;> clear q207
        · refine cw_t rfl hb208 ?_
          refine cw_skip ?_
          refine qn_then ?_
          refine cw_seq ?_
          refine cw_block ?_
          obtain ⟨w211, he213⟩ : ∃ q, q = w198.drew := ⟨_, rfl⟩
          have hm212 := hm204.drew; rw [← he213] at hm212
          refine cw_region_s (fun q => q = w211) (cls [] [15, 17]) mixed ?_
          rintro _ rfl; rw [← he213]
          refine s_rp (i := 0) rfl (by kernel_rfl) rfl (fun _ => (rd_move rfl)) ?_
          refine s_rp (i := 1) rfl (by kernel_rfl) rfl (fun _ => (rd_move rfl)) ?_
          refine s_rp (i := 2) rfl (by kernel_rfl) rfl (fun _ => (rd_move rfl)) ?_
          refine s_rp (i := 3) rfl (by kernel_rfl) rfl (fun _ => (rd_move rfl)) ?_
          obtain ⟨x214, h215, q216⟩ := ob q209; clear q209
          refine s_rp (i := 4) rfl (by kernel_rfl) rfl (fun _ => (rd_add64 h215 rfl rfl)) ?_
          refine s_rp (i := 5) rfl (by kernel_rfl) rfl (fun _ => (rd_move rfl)) ?_
          refine s_rp (i := 6) rfl (by kernel_rfl) rfl (fun _ => (rd_move rfl)) ?_
          obtain ⟨x217, h218, q219⟩ := ob q216; clear q216
          refine s_rp (i := 7) rfl (by kernel_rfl) rfl (fun _ => (rd_add64 h218 rfl rfl)) ?_
          obtain ⟨x220, h221, q222⟩ := ob q219; clear q219
          refine s_rp (i := 8) rfl (by kernel_rfl) rfl (fun _ => (rd_index tS25 rfl rfl (hm212.sl 0 rfl) h221)) ?_
          refine s_rd (i := 9) rfl (by kernel_rfl) rfl (fun _ hS => by rw [hS]; exact (rd_ld tA41 rfl ((hm212.sl 0 rfl).cells h221) rfl)) rfl ?_
          refine s_rp (i := 10) rfl (by kernel_rfl) rfl (fun _ => (rd_move rfl)) ?_
          refine s_rp (i := 11) rfl (by kernel_rfl) rfl (fun _ => (rd_move rfl)) ?_
          obtain ⟨x223, h224, q225⟩ := ob q222; clear q222
          refine s_rp (i := 12) rfl (by kernel_rfl) rfl (fun _ => (rd_index tS25 rfl rfl (hm212.sl 0 rfl) h224)) ?_
          refine s_rd (i := 13) rfl (by kernel_rfl) rfl (fun _ hS => by rw [hS]; exact (rd_ld tA41 rfl ((hm212.sl 0 rfl).cells h224) rfl)) rfl ?_
          obtain ⟨x226, h227, q228⟩ := ob q225; clear q225
          refine s_rp (i := 14) rfl (by kernel_rfl) rfl (fun _ => (rd_index tS25 rfl rfl (hm212.sl 0 rfl) h227)) ?_
          refine s_ef0 (i := 15) rfl (by kernel_rfl) (ef_stlw (k := 0) (x' := x220) hm212 tA41 rfl rfl rfl h227 rfl rfl) (by decide) (fun _ _ _ q => absurd q (by decide)) ?_
          intro _ w230 hm229
          obtain ⟨x231, h232, q233⟩ := ob q228; clear q228
          refine s_rp (i := 16) rfl (by kernel_rfl) rfl (fun _ => (rd_index tS25 rfl rfl (hm229.sl 0 rfl) h232)) ?_
          refine s_ef0 (i := 17) rfl (by kernel_rfl) (ef_stlw (k := 0) (x' := x223) hm229 tA41 rfl rfl rfl h232 rfl rfl) (by decide) (fun _ _ _ q => absurd q (by decide)) ?_
          intro _ w235 hm234
          refine s_nil (by kernel_rfl) ?_
          refine qn_block (qn_then ?_)
          refine cw_region ?_
          refine t_rd rfl (rd_move rfl) ?_
          obtain ⟨x236, h237, q238⟩ := ob q233; clear q233
          refine t_rd rfl (rd_add64 h237 rfl rfl) ?_
          refine t_rd rfl (rd_assign rfl) ?_
          refine rwt_nil ?_
          refine qn_then ?_
          refine ⟨_, (os q238), (by repeat (first | exact Sub.nil _ | refine Sub.cons rfl ?_)), (hm234.pick [0] (by decide) rfl)⟩
        · refine cw_f rfl hb208 ?_
          refine cw_exit ?_
          refine qx_then (qx_then ?_)
          obtain rfl := hr200 _ (os q209)
          exact ⟨rfl, (by repeat (first | exact Sub.nil _ | refine Sub.cons rfl ?_)), (hm204.pick [0] (by decide) rfl)⟩
      · skip
        intro e env239 w240 hX241
        obtain ⟨rfl, hs242, hm243⟩ := hX241
        refine qx_same (qn_then ?_)
        refine cw_sub hs242 ?_
        refine cw_ret ?_
        refine qr_then ?_
        obtain rfl := os q203
        exact ret0 rfl ⟨rfl, (hm243.pick [0] (by decide) rfl)⟩
  · refine cw_f rfl hb4 ?_
    refine cw_skip ?_
    refine qn_then ?_
    refine cw_seq ?_
    refine cw_seq ?_
    refine cw_region ?_
    refine t_rd rfl (rd_move rfl) ?_
    refine t_rd rfl (rd_move rfl) ?_
    obtain ⟨x244, h245, q246⟩ := ob q5; clear q5
    refine t_rd rfl (rd_sub64 h245 rfl rfl) ?_
    refine t_rd rfl (rd_eql rfl rfl) ?_
    refine rwt_nil ?_
    refine qn_then ?_
    obtain ⟨hb247, q248⟩ | ⟨hb247, q248⟩ := oi q246 <;> clear q246
    · refine cw_t rfl hb247 ?_
      refine cw_seq ?_
      refine cw_region ?_
      refine t_rd rfl (rd_move rfl) ?_
      refine t_rd rfl (rd_assign rfl) ?_
      refine rwt_nil ?_
      refine qn_then ?_
      refine cw_seq ?_
      refine cw_region ?_
      refine t_rd rfl (rd_move rfl) ?_
      refine t_rd rfl (rd_assign rfl) ?_
      refine rwt_nil ?_
      refine qn_then ?_
      refine cw_seq ?_
      refine cw_block ?_
      obtain ⟨r324, hit325, q326⟩ := ob q248; clear q248
      refine cw_loop2 (I := fun q envq wq => Sub [(0, v0), (2, (Value.int .i64 a2)), (4, (Value.func (.func 32) #[] #[])), (14, (Value.int .i64 q.1)), (15, (Value.int .i64 q.2))] envq ∧ Mem w (ownL 41 v0 (a0 : List T_Command)).D [ownL 41 v0 (a0 : List T_Command)] wq) (X := fun eq envq wq => eq = .exit 4 ∧ Sub [(0, v0), (2, (Value.int .i64 a2)), (14, (Value.int .i64 r324))] envq ∧ Mem w (ownL 41 v0 (a0 : List T_Command)).D [ownL 41 v0 (a0 : List T_Command)] wq) hit325 ⟨(by repeat (first | exact Sub.nil _ | refine Sub.cons rfl ?_)), (hm0.pick [0] (by decide) rfl)⟩ ?_ ?_
      · rintro ⟨i316, i317⟩ x319 env320 w321 hf322 hr323 ⟨hs_, hm_⟩
        have hs_ : Sub [(0, v0), (2, (Value.int .i64 a2)), (4, (Value.func (.func 32) #[] #[])), (14, (Value.int .i64 i316)), (15, (Value.int .i64 i317))] env320 := hs_
        have hm327 : Mem w (ownL 41 v0 (a0 : List T_Command)).D [ownL 41 v0 (a0 : List T_Command)] w321 := hm_
        refine cw_sub hs_ ?_
        clear hs_ hm_ q326
        have h : g_slices_symMergeCmpFunc_api_Command_l3 N a0 a2 i316 i317 = some x319 := hf322
        clear hf322
        refine cw_seq ?_
        refine cw_seq ?_
        refine cw_region ?_
        refine t_rd rfl (rd_move rfl) ?_
        refine t_rd rfl (rd_move rfl) ?_
        refine t_rd rfl (rd_lss rfl rfl) ?_
        refine rwt_nil ?_
        refine qn_then ?_
        obtain ⟨hb328, q329⟩ | ⟨hb328, q329⟩ := oi h <;> clear h
        · refine cw_t rfl hb328 ?_
          refine cw_skip ?_
          refine qn_then ?_
          refine cw_block ?_
          refine cw_seq ?_
          refine cw_region ?_
          refine t_rd rfl (rd_move rfl) ?_
          refine t_rd rfl (rd_move rfl) ?_
          obtain ⟨x330, h331, q332⟩ := ob q329; clear q329
          refine t_rd rfl (rd_add64 h331 rfl rfl) ?_
          refine t_rd rfl (rd_cvu64 tH3 tI89 rfl) ?_
          obtain ⟨x333, h334, q335⟩ := ob q332; clear q332
          refine t_rd rfl (rd_shr_u64 h334 rfl rfl) ?_
          obtain ⟨x336, h337, q338⟩ := ob q335; clear q335
          refine t_rd rfl (rd_cv64 tH89 tI3 h337 rfl) ?_
          refine t_rd rfl (rd_assign rfl) ?_
          refine rwt_nil ?_
          refine qn_then ?_
          refine cw_seq ?_
          obtain ⟨w340, he342⟩ : ∃ q, q = w321.drew := ⟨_, rfl⟩
          have hm341 := hm327.drew; rw [← he342] at hm341
          refine cw_region_s (fun q => q = w340) (cls [] [9]) mixed ?_
          rintro _ rfl; rw [← he342]
          refine s_rp (i := 0) rfl (by kernel_rfl) rfl (fun _ => (rd_move rfl)) ?_
          refine s_rp (i := 1) rfl (by kernel_rfl) rfl (fun _ => (rd_move rfl)) ?_
          refine s_rp (i := 2) rfl (by kernel_rfl) rfl (fun _ => (rd_move rfl)) ?_
          obtain ⟨x343, h344, q345⟩ := ob q338; clear q338
          refine s_rp (i := 3) rfl (by kernel_rfl) rfl (fun _ => (rd_index tS25 rfl rfl (hm341.sl 0 rfl) h344)) ?_
          refine s_rd (i := 4) rfl (by kernel_rfl) rfl (fun _ hS => by rw [hS]; exact (rd_ld tA41 rfl ((hm341.sl 0 rfl).cells h344) rfl)) rfl ?_
          refine s_rp (i := 5) rfl (by kernel_rfl) rfl (fun _ => (rd_move rfl)) ?_
          refine s_rp (i := 6) rfl (by kernel_rfl) rfl (fun _ => (rd_move rfl)) ?_
          obtain ⟨x346, h347, q348⟩ := ob q345; clear q345
          refine s_rp (i := 7) rfl (by kernel_rfl) rfl (fun _ => (rd_index tS25 rfl rfl (hm341.sl 0 rfl) h347)) ?_
          refine s_rd (i := 8) rfl (by kernel_rfl) rfl (fun _ hS => by rw [hS]; exact (rd_ld tA41 rfl ((hm341.sl 0 rfl).cells h347) rfl)) rfl ?_
          obtain ⟨r349, h350, q351⟩ := ob q348; clear q348
          refine s_ef (i := 9) rfl (by kernel_rfl) rfl (ef_callv tf32 rfl rfl (throwplan_Commands_1_ok h350)) (by decide) (fun _ _ _ q => absurd q (by decide)) ?_
          rintro _ w353 ⟨e_, hm352⟩
          obtain rfl := e_.symm
          have hm354 := hm341.call hm352
          refine s_rp (i := 10) rfl (by kernel_rfl) rfl (fun _ => (rd_lss rfl rfl)) ?_
          refine s_rp (i := 11) rfl (by kernel_rfl) rfl (fun _ => (rd_not rfl)) ?_
          refine s_nil (by kernel_rfl) ?_
          refine qn_then ?_
          obtain ⟨hb355, q356⟩ | ⟨hb355, q356⟩ := oi q351 <;> clear q351
          · refine cw_t rfl hb355 ?_
            refine cw_region ?_
            refine t_rd rfl (rd_move rfl) ?_
            obtain ⟨x357, h358, q359⟩ := ob q356; clear q356
            refine t_rd rfl (rd_add64 h358 rfl rfl) ?_
            refine t_rd rfl (rd_assign rfl) ?_
            refine rwt_nil ?_
            refine qn_block (qn_then ?_)
            refine ⟨_, (os q359), (by repeat (first | exact Sub.nil _ | refine Sub.cons rfl ?_)), (hm354.pick [0] (by decide) rfl)⟩
          · refine cw_f rfl hb355 ?_
            refine cw_region ?_
            refine t_rd rfl (rd_move rfl) ?_
            refine t_rd rfl (rd_assign rfl) ?_
            refine rwt_nil ?_
            refine qn_block (qn_then ?_)
            refine ⟨_, (os q356), (by repeat (first | exact Sub.nil _ | refine Sub.cons rfl ?_)), (hm354.pick [0] (by decide) rfl)⟩
        · refine cw_f rfl hb328 ?_
          refine cw_exit ?_
          refine qx_then (qx_then ?_)
          obtain rfl := hr323 _ (os q329)
          exact ⟨rfl, (by repeat (first | exact Sub.nil _ | refine Sub.cons rfl ?_)), (hm327.pick [0] (by decide) rfl)⟩
      · skip
        intro e env360 w361 hX362
        obtain ⟨rfl, hs363, hm364⟩ := hX362
        refine qx_same (qn_then ?_)
        refine cw_sub hs363 ?_
        refine cw_seq ?_
        refine cw_seq ?_
        refine cw_region ?_
        refine t_rd rfl (rd_move rfl) ?_
        refine t_rd rfl (rd_assign rfl) ?_
        refine rwt_nil ?_
        refine qn_then ?_
        refine cw_block ?_
        obtain ⟨r438, hit439, q440⟩ := ob q326; clear q326
        refine cw_loop2 (I := fun q envq wq => Sub [(0, v0), (14, (Value.int .i64 r324)), (17, (Value.int .i64 q.1))] envq ∧ Mem w (ownL 41 v0 (a0 : List T_Command)).D [ownL 41 v0 (q.2 : List T_Command)] wq) (X := fun eq envq wq => eq = .exit 6 ∧ Sub [] envq ∧ Mem w (ownL 41 v0 (a0 : List T_Command)).D [ownL 41 v0 (r438 : List T_Command)] wq) hit439 ⟨(by repeat (first | exact Sub.nil _ | refine Sub.cons rfl ?_)), (hm364.pick [0] (by decide) rfl)⟩ ?_ ?_
        · rintro ⟨i430, l431⟩ x433 env434 w435 hf436 hr437 ⟨hs_, hm_⟩
          have hs_ : Sub [(0, v0), (14, (Value.int .i64 r324)), (17, (Value.int .i64 i430))] env434 := hs_
          have hm441 : Mem w (ownL 41 v0 (a0 : List T_Command)).D [ownL 41 v0 (l431 : List T_Command)] w435 := hm_
          refine cw_sub hs_ ?_
          clear hs_ hm_ q440
          have h : g_slices_symMergeCmpFunc_api_Command_l4 N r324 i430 l431 = some x433 := hf436
          clear hf436
          refine cw_seq ?_
          refine cw_seq ?_
          refine cw_region ?_
          refine t_rd rfl (rd_move rfl) ?_
          refine t_rd rfl (rd_move rfl) ?_
          refine t_rd rfl (rd_gtr rfl rfl) ?_
          refine rwt_nil ?_
          refine qn_then ?_
          obtain ⟨hb442, q443⟩ | ⟨hb442, q443⟩ := oi h <;> clear h
          · refine cw_t rfl hb442 ?_
            refine cw_skip ?_
            refine qn_then ?_
            refine cw_seq ?_
            refine cw_block ?_
            obtain ⟨w445, he447⟩ : ∃ q, q = w435.drew := ⟨_, rfl⟩
            have hm446 := hm441.drew; rw [← he447] at hm446
            refine cw_region_s (fun q => q = w445) (cls [] [15, 17]) mixed ?_
            rintro _ rfl; rw [← he447]
            refine s_rp (i := 0) rfl (by kernel_rfl) rfl (fun _ => (rd_move rfl)) ?_
            refine s_rp (i := 1) rfl (by kernel_rfl) rfl (fun _ => (rd_move rfl)) ?_
            refine s_rp (i := 2) rfl (by kernel_rfl) rfl (fun _ => (rd_move rfl)) ?_
            refine s_rp (i := 3) rfl (by kernel_rfl) rfl (fun _ => (rd_move rfl)) ?_
            obtain ⟨x448, h449, q450⟩ := ob q443; clear q443
            refine s_rp (i := 4) rfl (by kernel_rfl) rfl (fun _ => (rd_sub64 h449 rfl rfl)) ?_
            refine s_rp (i := 5) rfl (by kernel_rfl) rfl (fun _ => (rd_move rfl)) ?_
            refine s_rp (i := 6) rfl (by kernel_rfl) rfl (fun _ => (rd_move rfl)) ?_
            obtain ⟨x451, h452, q453⟩ := ob q450; clear q450
            refine s_rp (i := 7) rfl (by kernel_rfl) rfl (fun _ => (rd_sub64 h452 rfl rfl)) ?_
            obtain ⟨x454, h455, q456⟩ := ob q453; clear q453
            refine s_rp (i := 8) rfl (by kernel_rfl) rfl (fun _ => (rd_index tS25 rfl rfl (hm446.sl 0 rfl) h455)) ?_
            refine s_rd (i := 9) rfl (by kernel_rfl) rfl (fun _ hS => by rw [hS]; exact (rd_ld tA41 rfl ((hm446.sl 0 rfl).cells h455) rfl)) rfl ?_
            refine s_rp (i := 10) rfl (by kernel_rfl) rfl (fun _ => (rd_move rfl)) ?_
            refine s_rp (i := 11) rfl (by kernel_rfl) rfl (fun _ => (rd_move rfl)) ?_
            obtain ⟨x457, h458, q459⟩ := ob q456; clear q456
            refine s_rp (i := 12) rfl (by kernel_rfl) rfl (fun _ => (rd_index tS25 rfl rfl (hm446.sl 0 rfl) h458)) ?_
            refine s_rd (i := 13) rfl (by kernel_rfl) rfl (fun _ hS => by rw [hS]; exact (rd_ld tA41 rfl ((hm446.sl 0 rfl).cells h458) rfl)) rfl ?_
            obtain ⟨x460, h461, q462⟩ := ob q459; clear q459
            refine s_rp (i := 14) rfl (by kernel_rfl) rfl (fun _ => (rd_index tS25 rfl rfl (hm446.sl 0 rfl) h461)) ?_
            refine s_ef0 (i := 15) rfl (by kernel_rfl) (ef_stlw (k := 0) (x' := x454) hm446 tA41 rfl rfl rfl h461 rfl rfl) (by decide) (fun _ _ _ q => absurd q (by decide)) ?_
            intro _ w464 hm463
            obtain ⟨x465, h466, q467⟩ := ob q462; clear q462
            refine s_rp (i := 16) rfl (by kernel_rfl) rfl (fun _ => (rd_index tS25 rfl rfl (hm463.sl 0 rfl) h466)) ?_
            refine s_ef0 (i := 17) rfl (by kernel_rfl) (ef_stlw (k := 0) (x' := x457) hm463 tA41 rfl rfl rfl h466 rfl rfl) (by decide) (fun _ _ _ q => absurd q (by decide)) ?_
            intro _ w469 hm468
            refine s_nil (by kernel_rfl) ?_
            refine qn_block (qn_then ?_)
            refine cw_region ?_
            refine t_rd rfl (rd_move rfl) ?_
            obtain ⟨x470, h471, q472⟩ := ob q467; clear q467
            refine t_rd rfl (rd_sub64 h471 rfl rfl) ?_
            refine t_rd rfl (rd_assign rfl) ?_
            refine rwt_nil ?_
            refine qn_then ?_
            refine ⟨_, (os q472), (by repeat (first | exact Sub.nil _ | refine Sub.cons rfl ?_)), (hm468.pick [0] (by decide) rfl)⟩
          · refine cw_f rfl hb442 ?_
            refine cw_exit ?_
            refine qx_then (qx_then ?_)
            obtain rfl := hr437 _ (os q443)
            exact ⟨rfl, (by repeat (first | exact Sub.nil _ | refine Sub.cons rfl ?_)), (hm441.pick [0] (by decide) rfl)⟩
        · skip
          intro e env473 w474 hX475
          obtain ⟨rfl, hs476, hm477⟩ := hX475
          refine qx_same (qn_then ?_)
          refine cw_sub hs476 ?_
          refine cw_ret ?_
          refine qr_then ?_
          obtain rfl := os q440
          exact ret0 rfl ⟨rfl, (hm477.pick [0] (by decide) rfl)⟩
    · refine cw_f rfl hb247 ?_
      refine cw_skip ?_
      refine qn_then ?_
      refine cw_seq ?_
      refine cw_region ?_
      refine t_rd rfl (rd_move rfl) ?_
      refine t_rd rfl (rd_move rfl) ?_
      obtain ⟨x478, h479, q480⟩ := ob q248; clear q248
      refine t_rd rfl (rd_add64 h479 rfl rfl) ?_
      refine t_rd rfl (rd_cvu64 tH3 tI89 rfl) ?_
      obtain ⟨x481, h482, q483⟩ := ob q480; clear q480
      refine t_rd rfl (rd_shr_u64 h482 rfl rfl) ?_
      obtain ⟨x484, h485, q486⟩ := ob q483; clear q483
      refine t_rd rfl (rd_cv64 tH89 tI3 h485 rfl) ?_
      refine t_rd rfl (rd_assign rfl) ?_
      refine rwt_nil ?_
      refine qn_then ?_
      refine cw_seq ?_
      refine cw_region ?_
      refine t_rd rfl (rd_move rfl) ?_
      refine t_rd rfl (rd_move rfl) ?_
      obtain ⟨x487, h488, q489⟩ := ob q486; clear q486
      refine t_rd rfl (rd_add64 h488 rfl rfl) ?_
      refine t_rd rfl (rd_assign rfl) ?_
      refine rwt_nil ?_
      refine qn_then ?_
      refine cw_seq ?_
      refine cw_region ?_
      refine t_rd rfl (rd_assign rfl) ?_
      refine t_rd rfl (rd_assign rfl) ?_
      refine rwt_nil ?_
      refine qn_then ?_
      refine cw_seq ?_
      refine cw_seq ?_
      refine cw_region ?_
      refine t_rd rfl (rd_move rfl) ?_
      refine t_rd rfl (rd_move rfl) ?_
      refine t_rd rfl (rd_gtr rfl rfl) ?_
      refine rwt_nil ?_
      refine qn_then ?_
      obtain ⟨j497, hit498, q499⟩ := ob q489; clear q489
      refine cw_join (X := fun eq envq wq => eq = .normal ∧ Sub [(0, v0), (1, (Value.int .i64 a1)), (2, (Value.int .i64 a2)), (3, (Value.int .i64 a3)), (4, (Value.func (.func 32) #[] #[])), (18, (Value.int .i64 x484)), (19, (Value.int .i64 x487)), (20, (Value.int .i64 j497.1)), (21, (Value.int .i64 j497.2))] envq ∧ Mem w (ownL 41 v0 (a0 : List T_Command)).D [ownL 41 v0 (a0 : List T_Command)] wq) ?_ ?_
      · clear q499
        obtain ⟨hb500, q501⟩ | ⟨hb500, q501⟩ := oi hit498 <;> clear hit498
        · refine cw_t rfl hb500 ?_
          refine cw_seq ?_
          refine cw_region ?_
          refine t_rd rfl (rd_move rfl) ?_
          refine t_rd rfl (rd_move rfl) ?_
          obtain ⟨x502, h503, q504⟩ := ob q501; clear q501
          refine t_rd rfl (rd_sub64 h503 rfl rfl) ?_
          refine t_rd rfl (rd_assign rfl) ?_
          refine rwt_nil ?_
          refine qn_then ?_
          refine cw_region ?_
          refine t_rd rfl (rd_move rfl) ?_
          refine t_rd rfl (rd_assign rfl) ?_
          refine rwt_nil ?_
          obtain rfl := os q504
          exact ⟨rfl, (by repeat (first | exact Sub.nil _ | refine Sub.cons rfl ?_)), (hm0.pick [0] (by decide) rfl)⟩
        · refine cw_f rfl hb500 ?_
          refine cw_seq ?_
          refine cw_region ?_
          refine t_rd rfl (rd_move rfl) ?_
          refine t_rd rfl (rd_assign rfl) ?_
          refine rwt_nil ?_
          refine qn_then ?_
          refine cw_region ?_
          refine t_rd rfl (rd_move rfl) ?_
          refine t_rd rfl (rd_assign rfl) ?_
          refine rwt_nil ?_
          obtain rfl := os q501
          exact ⟨rfl, (by repeat (first | exact Sub.nil _ | refine Sub.cons rfl ?_)), (hm0.pick [0] (by decide) rfl)⟩
      · clear hit498
        intro e env505 w506 hX507
        obtain ⟨rfl, hs508, hm509⟩ := hX507
        refine qn_then ?_
        refine cw_sub hs508 ?_
        refine cw_seq ?_
        refine cw_region ?_
        refine t_rd rfl (rd_move rfl) ?_
        obtain ⟨x510, h511, q512⟩ := ob q499; clear q499
        refine t_rd rfl (rd_sub64 h511 rfl rfl) ?_
        refine t_rd rfl (rd_assign rfl) ?_
        refine rwt_nil ?_
        refine qn_then ?_
        refine cw_seq ?_
        refine cw_block ?_
        obtain ⟨r594, hit595, q596⟩ := ob q512; clear q512
        refine cw_loop2 (I := fun q envq wq => Sub [(0, v0), (1, (Value.int .i64 a1)), (2, (Value.int .i64 a2)), (3, (Value.int .i64 a3)), (4, (Value.func (.func 32) #[] #[])), (18, (Value.int .i64 x484)), (19, (Value.int .i64 x487)), (20, (Value.int .i64 q.1)), (21, (Value.int .i64 q.2)), (22, (Value.int .i64 x510))] envq ∧ Mem w (ownL 41 v0 (a0 : List T_Command)).D [ownL 41 v0 (a0 : List T_Command)] wq) (X := fun eq envq wq => eq = .exit 8 ∧ Sub [(0, v0), (1, (Value.int .i64 a1)), (2, (Value.int .i64 a2)), (3, (Value.int .i64 a3)), (4, (Value.func (.func 32) #[] #[])), (18, (Value.int .i64 x484)), (19, (Value.int .i64 x487)), (20, (Value.int .i64 r594))] envq ∧ Mem w (ownL 41 v0 (a0 : List T_Command)).D [ownL 41 v0 (a0 : List T_Command)] wq) hit595 ⟨(by repeat (first | exact Sub.nil _ | refine Sub.cons rfl ?_)), (hm509.pick [0] (by decide) rfl)⟩ ?_ ?_
        · rintro ⟨i586, i587⟩ x589 env590 w591 hf592 hr593 ⟨hs_, hm_⟩
          have hs_ : Sub [(0, v0), (1, (Value.int .i64 a1)), (2, (Value.int .i64 a2)), (3, (Value.int .i64 a3)), (4, (Value.func (.func 32) #[] #[])), (18, (Value.int .i64 x484)), (19, (Value.int .i64 x487)), (20, (Value.int .i64 i586)), (21, (Value.int .i64 i587)), (22, (Value.int .i64 x510))] env590 := hs_
          have hm597 : Mem w (ownL 41 v0 (a0 : List T_Command)).D [ownL 41 v0 (a0 : List T_Command)] w591 := hm_
          refine cw_sub hs_ ?_
          clear hs_ hm_ q596
          have h : g_slices_symMergeCmpFunc_api_Command_l5 N a0 x510 i586 i587 = some x589 := hf592
          clear hf592
          refine cw_seq ?_
          refine cw_seq ?_
          refine cw_region ?_
          refine t_rd rfl (rd_move rfl) ?_
          refine t_rd rfl (rd_move rfl) ?_
          refine t_rd rfl (rd_lss rfl rfl) ?_
          refine rwt_nil ?_
          refine qn_then ?_
          obtain ⟨hb598, q599⟩ | ⟨hb598, q599⟩ := oi h <;> clear h
          · refine cw_t rfl hb598 ?_
            refine cw_skip ?_
            refine qn_then ?_
            refine cw_block ?_
            refine cw_seq ?_
            refine cw_region ?_
            refine t_rd rfl (rd_move rfl) ?_
            refine t_rd rfl (rd_move rfl) ?_
            obtain ⟨x600, h601, q602⟩ := ob q599; clear q599
            refine t_rd rfl (rd_add64 h601 rfl rfl) ?_
            refine t_rd rfl (rd_cvu64 tH3 tI89 rfl) ?_
            obtain ⟨x603, h604, q605⟩ := ob q602; clear q602
            refine t_rd rfl (rd_shr_u64 h604 rfl rfl) ?_
            obtain ⟨x606, h607, q608⟩ := ob q605; clear q605
            refine t_rd rfl (rd_cv64 tH89 tI3 h607 rfl) ?_
            refine t_rd rfl (rd_assign rfl) ?_
            refine rwt_nil ?_
            refine qn_then ?_
            refine cw_seq ?_
            obtain ⟨w610, he612⟩ : ∃ q, q = w591.drew := ⟨_, rfl⟩
            have hm611 := hm597.drew; rw [← he612] at hm611
            refine cw_region_s (fun q => q = w610) (cls [] [11]) mixed ?_
            rintro _ rfl; rw [← he612]
            refine s_rp (i := 0) rfl (by kernel_rfl) rfl (fun _ => (rd_move rfl)) ?_
            refine s_rp (i := 1) rfl (by kernel_rfl) rfl (fun _ => (rd_move rfl)) ?_
            refine s_rp (i := 2) rfl (by kernel_rfl) rfl (fun _ => (rd_move rfl)) ?_
            refine s_rp (i := 3) rfl (by kernel_rfl) rfl (fun _ => (rd_move rfl)) ?_
            obtain ⟨x613, h614, q615⟩ := ob q608; clear q608
            refine s_rp (i := 4) rfl (by kernel_rfl) rfl (fun _ => (rd_sub64 h614 rfl rfl)) ?_
            obtain ⟨x616, h617, q618⟩ := ob q615; clear q615
            refine s_rp (i := 5) rfl (by kernel_rfl) rfl (fun _ => (rd_index tS25 rfl rfl (hm611.sl 0 rfl) h617)) ?_
            refine s_rd (i := 6) rfl (by kernel_rfl) rfl (fun _ hS => by rw [hS]; exact (rd_ld tA41 rfl ((hm611.sl 0 rfl).cells h617) rfl)) rfl ?_
            refine s_rp (i := 7) rfl (by kernel_rfl) rfl (fun _ => (rd_move rfl)) ?_
            refine s_rp (i := 8) rfl (by kernel_rfl) rfl (fun _ => (rd_move rfl)) ?_
            obtain ⟨x619, h620, q621⟩ := ob q618; clear q618
            refine s_rp (i := 9) rfl (by kernel_rfl) rfl (fun _ => (rd_index tS25 rfl rfl (hm611.sl 0 rfl) h620)) ?_
            refine s_rd (i := 10) rfl (by kernel_rfl) rfl (fun _ hS => by rw [hS]; exact (rd_ld tA41 rfl ((hm611.sl 0 rfl).cells h620) rfl)) rfl ?_
            obtain ⟨r622, h623, q624⟩ := ob q621; clear q621
            refine s_ef (i := 11) rfl (by kernel_rfl) rfl (ef_callv tf32 rfl rfl (throwplan_Commands_1_ok h623)) (by decide) (fun _ _ _ q => absurd q (by decide)) ?_
            rintro _ w626 ⟨e_, hm625⟩
            obtain rfl := e_.symm
            have hm627 := hm611.call hm625
            refine s_rp (i := 12) rfl (by kernel_rfl) rfl (fun _ => (rd_lss rfl rfl)) ?_
            refine s_rp (i := 13) rfl (by kernel_rfl) rfl (fun _ => (rd_not rfl)) ?_
            refine s_nil (by kernel_rfl) ?_
            refine qn_then ?_
            obtain ⟨hb628, q629⟩ | ⟨hb628, q629⟩ := oi q624 <;> clear q624
            · refine cw_t rfl hb628 ?_
              refine cw_region ?_
              refine t_rd rfl (rd_move rfl) ?_
              obtain ⟨x630, h631, q632⟩ := ob q629; clear q629
              refine t_rd rfl (rd_add64 h631 rfl rfl) ?_
              refine t_rd rfl (rd_assign rfl) ?_
              refine rwt_nil ?_
              refine qn_block (qn_then ?_)
              refine ⟨_, (os q632), (by repeat (first | exact Sub.nil _ | refine Sub.cons rfl ?_)), (hm627.pick [0] (by decide) rfl)⟩
            · refine cw_f rfl hb628 ?_
              refine cw_region ?_
              refine t_rd rfl (rd_move rfl) ?_
              refine t_rd rfl (rd_assign rfl) ?_
              refine rwt_nil ?_
              refine qn_block (qn_then ?_)
              refine ⟨_, (os q629), (by repeat (first | exact Sub.nil _ | refine Sub.cons rfl ?_)), (hm627.pick [0] (by decide) rfl)⟩
          · refine cw_f rfl hb598 ?_
            refine cw_exit ?_
            refine qx_then (qx_then ?_)
            obtain rfl := hr593 _ (os q599)
            exact ⟨rfl, (by repeat (first | exact Sub.nil _ | refine Sub.cons rfl ?_)), (hm597.pick [0] (by decide) rfl)⟩
        · skip
          intro e env633 w634 hX635
          obtain ⟨rfl, hs636, hm637⟩ := hX635
          refine qx_same (qn_then ?_)
          refine cw_sub hs636 ?_
          refine cw_seq ?_
          refine cw_region ?_
          refine t_rd rfl (rd_move rfl) ?_
          refine t_rd rfl (rd_move rfl) ?_
          obtain ⟨x638, h639, q640⟩ := ob q596; clear q596
          refine t_rd rfl (rd_sub64 h639 rfl rfl) ?_
          refine t_rd rfl (rd_assign rfl) ?_
          refine rwt_nil ?_
          refine qn_then ?_
          refine cw_seq ?_
          refine cw_seq ?_
          refine cw_region ?_
          refine t_rd rfl (rd_move rfl) ?_
          refine t_rd rfl (rd_move rfl) ?_
          refine t_rd rfl (rd_lss rfl rfl) ?_
          refine t_rd rfl (rd_move rfl) ?_
          refine t_rdg rfl rfl rfl rfl (gv_t _) (fun hg641 => (rd_move rfl)) ?_
          refine t_rdg rfl rfl rfl rfl (gv_t _) (fun hg642 => (rd_move rfl)) ?_
          refine t_rdg rfl rfl rfl rfl (gv_t _) (fun hg643 => (rd_lss (gvx rfl hg643) (gvx rfl hg643))) ?_
          refine t_rd rfl (rd_and rfl (fun hc644 => (gvx rfl hc644))) ?_
          refine rwt_nil ?_
          refine qn_then ?_
          obtain ⟨j654, hit655, q656⟩ := ob q640; clear q640
          refine cw_join (X := fun eq envq wq => eq = .normal ∧ Sub [(0, v0), (1, (Value.int .i64 a1)), (3, (Value.int .i64 a3)), (4, (Value.func (.func 32) #[] #[])), (18, (Value.int .i64 x484)), (20, (Value.int .i64 r594)), (24, (Value.int .i64 x638))] envq ∧ Mem w (ownL 41 v0 (a0 : List T_Command)).D [ownL 41 v0 (j654 : List T_Command)] wq) ?_ ?_
          · clear q656
            obtain ⟨hb657, q658⟩ | ⟨hb657, q658⟩ := oi hit655 <;> clear hit655
            · refine cw_t rfl hb657 ?_
              refine cw_region ?_
              refine t_rd rfl (rd_move rfl) ?_
              refine t_rd rfl (rd_move rfl) ?_
              refine t_rd rfl (rd_move rfl) ?_
              refine t_rd rfl (rd_move rfl) ?_
              refine t_rd rfl (rd_move rfl) ?_
              obtain ⟨r659, h660, q661⟩ := ob q658; clear q658
              refine t_ef rfl (ef_call tf50 rfl (g_slices_rotateCmpFunc_api_Command_ok h660 (hm637.get (k := 0) rfl))) ?_
              rintro _ w663 ⟨e_, hm662⟩
              obtain rfl := e_.symm
              have hm664 := hm637.callT (k := 0) rfl (fun _ h => h) hm662 (fun _ => Iff.rfl)
              refine rwt_nil ?_
              obtain rfl := os q661
              exact ⟨rfl, (by repeat (first | exact Sub.nil _ | refine Sub.cons rfl ?_)), (hm664.pick [0] (by decide) rfl)⟩
            · refine cw_f rfl hb657 ?_
              refine cw_skip ?_
              obtain rfl := os q658
              exact ⟨rfl, (by repeat (first | exact Sub.nil _ | refine Sub.cons rfl ?_)), (hm637.pick [0] (by decide) rfl)⟩
          · clear hit655
            intro e env665 w666 hX667
            obtain ⟨rfl, hs668, hm669⟩ := hX667
            refine qn_then ?_
            refine cw_sub hs668 ?_
            refine cw_seq ?_
            refine cw_seq ?_
            refine cw_region ?_
            refine t_rd rfl (rd_move rfl) ?_
            refine t_rd rfl (rd_move rfl) ?_
            refine t_rd rfl (rd_lss rfl rfl) ?_
            refine t_rd rfl (rd_move rfl) ?_
            refine t_rdg rfl rfl rfl rfl (gv_t _) (fun hg670 => (rd_move rfl)) ?_
            refine t_rdg rfl rfl rfl rfl (gv_t _) (fun hg671 => (rd_move rfl)) ?_
            refine t_rdg rfl rfl rfl rfl (gv_t _) (fun hg672 => (rd_lss (gvx rfl hg672) (gvx rfl hg672))) ?_
            refine t_rd rfl (rd_and rfl (fun hc673 => (gvx rfl hc673))) ?_
            refine rwt_nil ?_
            refine qn_then ?_
            obtain ⟨j683, hit684, q685⟩ := ob q656; clear q656
            refine cw_join (X := fun eq envq wq => eq = .normal ∧ Sub [(0, v0), (3, (Value.int .i64 a3)), (4, (Value.func (.func 32) #[] #[])), (18, (Value.int .i64 x484)), (24, (Value.int .i64 x638))] envq ∧ Mem w (ownL 41 v0 (a0 : List T_Command)).D [ownL 41 v0 (j683 : List T_Command)] wq) ?_ ?_
            · clear q685
              obtain ⟨hb686, q687⟩ | ⟨hb686, q687⟩ := oi hit684 <;> clear hit684
              · refine cw_t rfl hb686 ?_
                refine cw_region ?_
                refine t_rd rfl (rd_move rfl) ?_
                refine t_rd rfl (rd_move rfl) ?_
                refine t_rd rfl (rd_move rfl) ?_
                refine t_rd rfl (rd_move rfl) ?_
                refine t_rd rfl (rd_move rfl) ?_
                obtain ⟨r688, h689, q690⟩ := ob q687; clear q687
                refine t_ef rfl (ef_call tf48 rfl (ih h689 (hm669.get (k := 0) rfl))) ?_
                rintro _ w692 ⟨e_, hm691⟩
                obtain rfl := e_.symm
                have hm693 := hm669.callT (k := 0) rfl (fun _ h => h) hm691 (fun _ => Iff.rfl)
                refine rwt_nil ?_
                obtain rfl := os q690
                exact ⟨rfl, (by repeat (first | exact Sub.nil _ | refine Sub.cons rfl ?_)), (hm693.pick [0] (by decide) rfl)⟩
              · refine cw_f rfl hb686 ?_
                refine cw_skip ?_
                obtain rfl := os q687
                exact ⟨rfl, (by repeat (first | exact Sub.nil _ | refine Sub.cons rfl ?_)), (hm669.pick [0] (by decide) rfl)⟩
            · clear hit684
              intro e env694 w695 hX696
              obtain ⟨rfl, hs697, hm698⟩ := hX696
              refine qn_then ?_
              refine cw_sub hs697 ?_
              refine cw_seq ?_
              refine cw_region ?_
              refine t_rd rfl (rd_move rfl) ?_
              refine t_rd rfl (rd_move rfl) ?_
              refine t_rd rfl (rd_lss rfl rfl) ?_
              refine t_rd rfl (rd_move rfl) ?_
              refine t_rdg rfl rfl rfl rfl (gv_t _) (fun hg699 => (rd_move rfl)) ?_
              refine t_rdg rfl rfl rfl rfl (gv_t _) (fun hg700 => (rd_move rfl)) ?_
              refine t_rdg rfl rfl rfl rfl (gv_t _) (fun hg701 => (rd_lss (gvx rfl hg701) (gvx rfl hg701))) ?_
              refine t_rd rfl (rd_and rfl (fun hc702 => (gvx rfl hc702))) ?_
              refine rwt_nil ?_
              refine qn_then ?_
              obtain ⟨hb703, q704⟩ | ⟨hb703, q704⟩ := oi q685 <;> clear q685
              · refine cw_t rfl hb703 ?_
                refine cw_region ?_
                refine t_rd rfl (rd_move rfl) ?_
                refine t_rd rfl (rd_move rfl) ?_
                refine t_rd rfl (rd_move rfl) ?_
                refine t_rd rfl (rd_move rfl) ?_
                refine t_rd rfl (rd_move rfl) ?_
                obtain ⟨r705, h706, q707⟩ := ob q704; clear q704
                refine t_ef rfl (ef_call tf48 rfl (ih h706 (hm698.get (k := 0) rfl))) ?_
                rintro _ w709 ⟨e_, hm708⟩
                obtain rfl := e_.symm
                have hm710 := hm698.callT (k := 0) rfl (fun _ h => h) hm708 (fun _ => Iff.rfl)
                refine rwt_nil ?_
                obtain rfl := os q707
                refine retn ?_
                exact ret0 rfl ⟨rfl, (hm710.pick [0] (by decide) rfl)⟩
              · refine cw_f rfl hb703 ?_
                refine cw_skip ?_
                obtain rfl := os q704
                refine retn ?_
                exact ret0 rfl ⟨rfl, (hm698.pick [0] (by decide) rfl)⟩

theorem g_slices_symMergeCmpFunc_api_Command_ok {N : Nat} {a0 : List T_Command} {a1 : Int} {a2 : Int} {a3 : Int} {res : List T_Command} (h : g_slices_symMergeCmpFunc_api_Command N a0 a1 a2 a3 = some res) {w : World} {v0 : Value} (hk0 : (ownL 41 v0 (a0 : List T_Command)).φ w) :
    CallsR Try.prog 48 [v0, (Value.int .i64 a1), (Value.int .i64 a2), (Value.int .i64 a3), (Value.func (.func 32) #[] #[])] w (fun u w' => u = (Value.tuple #[]) ∧ Mem w (ownL 41 v0 (a0 : List T_Command)).D [ownL 41 v0 (res : List T_Command)] w') := g_slices_symMergeCmpFunc_api_Command_r_ok N h hk0

theorem g_slices_stableCmpFunc_api_Command_ok {N : Nat} {a0 : List T_Command} {a1 : Int} {res : List T_Command} (h : g_slices_stableCmpFunc_api_Command N a0 a1 = some res) {w : World} {v0 : Value} (hk0 : (ownL 41 v0 (a0 : List T_Command)).φ w) :
    CallsR Try.prog 42 [v0, (Value.int .i64 a1), (Value.func (.func 32) #[] #[])] w (fun u w' => u = (Value.tuple #[]) ∧ Mem w (ownL 41 v0 (a0 : List T_Command)).D [ownL 41 v0 (res : List T_Command)] w') := by
  unfold g_slices_stableCmpFunc_api_Command at h
  refine fn_ok Try.func42 rfl rfl rfl ?_
  have hm0 := Mem.one hk0
  refine cw_seq ?_
  refine cw_region ?_
  refine t_rd rfl (rd_assign rfl) ?_
  refine rwt_nil ?_
  refine qn_then ?_
  refine cw_seq ?_
  refine cw_region ?_
  refine t_rd rfl (rd_move rfl) ?_
  refine t_rd rfl (rd_assign rfl) ?_
  refine t_rd rfl (rd_assign rfl) ?_
  refine rwt_nil ?_
  refine qn_then ?_
  refine cw_seq ?_
  refine cw_block ?_
  obtain ⟨r37, hit38, q39⟩ := ob h; clear h
  refine cw_loop2 (I := fun q envq wq => Sub [(0, v0), (1, (Value.int .i64 a1)), (2, (Value.func (.func 32) #[] #[])), (6, (Value.int .i64 20)), (7, (Value.int .i64 q.1)), (8, (Value.int .i64 q.2.1))] envq ∧ Mem w (ownL 41 v0 (a0 : List T_Command)).D [ownL 41 v0 (q.2.2 : List T_Command)] wq) (X := fun eq envq wq => eq = .exit 0 ∧ Sub [(0, v0), (1, (Value.int .i64 a1)), (2, (Value.func (.func 32) #[] #[])), (6, (Value.int .i64 20)), (7, (Value.int .i64 r37.1))] envq ∧ Mem w (ownL 41 v0 (a0 : List T_Command)).D [ownL 41 v0 (r37.2 : List T_Command)] wq) hit38 ⟨(by repeat (first | exact Sub.nil _ | refine Sub.cons rfl ?_)), (hm0.pick [0] (by decide) rfl)⟩ ?_ ?_
  · rintro ⟨i28, i29, l30⟩ x32 env33 w34 hf35 hr36 ⟨hs_, hm_⟩
    have hs_ : Sub [(0, v0), (1, (Value.int .i64 a1)), (2, (Value.func (.func 32) #[] #[])), (6, (Value.int .i64 20)), (7, (Value.int .i64 i28)), (8, (Value.int .i64 i29))] env33 := hs_
    have hm40 : Mem w (ownL 41 v0 (a0 : List T_Command)).D [ownL 41 v0 (l30 : List T_Command)] w34 := hm_
    refine cw_sub hs_ ?_
    clear hs_ hm_ q39
    have h : g_slices_stableCmpFunc_api_Command_l1 N a1 i28 i29 l30 = some x32 := hf35
    clear hf35
    refine cw_seq ?_
    refine cw_seq ?_
    refine cw_region ?_
    refine t_rd rfl (rd_move rfl) ?_
    refine t_rd rfl (rd_move rfl) ?_
    refine t_rd rfl (rd_leq rfl rfl) ?_
    refine rwt_nil ?_
    refine qn_then ?_
    obtain ⟨hb41, q42⟩ | ⟨hb41, q42⟩ := oi h <;> clear h
    · refine cw_t rfl hb41 ?_
      refine cw_skip ?_
      refine qn_then ?_
      refine cw_block ?_
      refine cw_seq ?_
      refine cw_region ?_
      refine t_rd rfl (rd_move rfl) ?_
      refine t_rd rfl (rd_move rfl) ?_
      refine t_rd rfl (rd_move rfl) ?_
      refine t_rd rfl (rd_move rfl) ?_
      obtain ⟨r43, h44, q45⟩ := ob q42; clear q42
      refine t_ef rfl (ef_call tf47 rfl (g_slices_insertionSortCmpFunc_api_Command_ok h44 (hm40.get (k := 0) rfl))) ?_
      rintro _ w47 ⟨e_, hm46⟩
      obtain rfl := e_.symm
      have hm48 := hm40.callT (k := 0) rfl (fun _ h => h) hm46 (fun _ => Iff.rfl)
      refine rwt_nil ?_
      refine qn_then ?_
      refine cw_seq ?_
      refine cw_region ?_
      refine t_rd rfl (rd_move rfl) ?_
      refine t_rd rfl (rd_assign rfl) ?_
      refine rwt_nil ?_
      refine qn_then ?_
      refine cw_region ?_
      refine t_rd rfl (rd_move rfl) ?_
      refine t_rd rfl (rd_move rfl) ?_
      obtain ⟨x49, h50, q51⟩ := ob q45; clear q45
      refine t_rd rfl (rd_add64 h50 rfl rfl) ?_
      refine t_rd rfl (rd_assign rfl) ?_
      refine rwt_nil ?_
      refine qn_block (qn_then ?_)
      refine ⟨_, (os q51), (by repeat (first | exact Sub.nil _ | refine Sub.cons rfl ?_)), (hm48.pick [0] (by decide) rfl)⟩
    · refine cw_f rfl hb41 ?_
      refine cw_exit ?_
      refine qx_then (qx_then ?_)
      obtain rfl := hr36 _ (os q42)
      exact ⟨rfl, (by repeat (first | exact Sub.nil _ | refine Sub.cons rfl ?_)), (hm40.pick [0] (by decide) rfl)⟩
  · skip
    intro e env52 w53 hX54
    obtain ⟨rfl, hs55, hm56⟩ := hX54
    refine qx_same (qn_then ?_)
    refine cw_sub hs55 ?_
    refine cw_seq ?_
    refine cw_region ?_
    refine t_rd rfl (rd_move rfl) ?_
    refine t_rd rfl (rd_move rfl) ?_
    refine t_rd rfl (rd_move rfl) ?_
    refine t_rd rfl (rd_move rfl) ?_
    obtain ⟨r57, h58, q59⟩ := ob q39; clear q39
    refine t_ef rfl (ef_call tf47 rfl (g_slices_insertionSortCmpFunc_api_Command_ok h58 (hm56.get (k := 0) rfl))) ?_
    rintro _ w61 ⟨e_, hm60⟩
    obtain rfl := e_.symm
    have hm62 := hm56.callT (k := 0) rfl (fun _ h => h) hm60 (fun _ => Iff.rfl)
    refine rwt_nil ?_
    refine qn_then ?_
    refine cw_block ?_
    obtain ⟨r266, hit267, q268⟩ := ob q59; clear q59
    refine cw_loop2 (I := fun q envq wq => Sub [(0, v0), (1, (Value.int .i64 a1)), (2, (Value.func (.func 32) #[] #[])), (6, (Value.int .i64 q.1))] envq ∧ Mem w (ownL 41 v0 (a0 : List T_Command)).D [ownL 41 v0 (q.2 : List T_Command)] wq) (X := fun eq envq wq => eq = .exit 2 ∧ Sub [] envq ∧ Mem w (ownL 41 v0 (a0 : List T_Command)).D [ownL 41 v0 (r266 : List T_Command)] wq) hit267 ⟨(by repeat (first | exact Sub.nil _ | refine Sub.cons rfl ?_)), (hm62.pick [0] (by decide) rfl)⟩ ?_ ?_
    · rintro ⟨i258, l259⟩ x261 env262 w263 hf264 hr265 ⟨hs_, hm_⟩
      have hs_ : Sub [(0, v0), (1, (Value.int .i64 a1)), (2, (Value.func (.func 32) #[] #[])), (6, (Value.int .i64 i258))] env262 := hs_
      have hm269 : Mem w (ownL 41 v0 (a0 : List T_Command)).D [ownL 41 v0 (l259 : List T_Command)] w263 := hm_
      refine cw_sub hs_ ?_
      clear hs_ hm_ q268
      have h : g_slices_stableCmpFunc_api_Command_l4 N a1 i258 l259 = some x261 := hf264
      clear hf264
      refine cw_seq ?_
      refine cw_seq ?_
      refine cw_region ?_
      refine t_rd rfl (rd_move rfl) ?_
      refine t_rd rfl (rd_move rfl) ?_
      refine t_rd rfl (rd_lss rfl rfl) ?_
      refine rwt_nil ?_
      refine qn_then ?_
      obtain ⟨hb270, q271⟩ | ⟨hb270, q271⟩ := oi h <;> clear h
      · refine cw_t rfl hb270 ?_
        refine cw_skip ?_
        refine qn_then ?_
        refine cw_block ?_
        refine cw_seq ?_
        refine cw_region ?_
        refine t_rd rfl (rd_move rfl) ?_
        obtain ⟨x272, h273, q274⟩ := ob q271; clear q271
        refine t_rd rfl (rd_mul64 h273 rfl rfl) ?_
        refine t_rd rfl (rd_assign rfl) ?_
        refine t_rd rfl (rd_assign rfl) ?_
        refine rwt_nil ?_
        refine qn_then ?_
        refine cw_seq ?_
        refine cw_block ?_
        obtain ⟨r323, hit324, q325⟩ := ob q274; clear q274
        refine cw_loop2 (I := fun q envq wq => Sub [(0, v0), (1, (Value.int .i64 a1)), (2, (Value.func (.func 32) #[] #[])), (6, (Value.int .i64 i258)), (7, (Value.int .i64 q.1)), (8, (Value.int .i64 q.2.1))] envq ∧ Mem w (ownL 41 v0 (a0 : List T_Command)).D [ownL 41 v0 (q.2.2 : List T_Command)] wq) (X := fun eq envq wq => eq = .exit 4 ∧ Sub [(0, v0), (1, (Value.int .i64 a1)), (2, (Value.func (.func 32) #[] #[])), (6, (Value.int .i64 i258)), (7, (Value.int .i64 r323.1))] envq ∧ Mem w (ownL 41 v0 (a0 : List T_Command)).D [ownL 41 v0 (r323.2 : List T_Command)] wq) hit324 ⟨(by repeat (first | exact Sub.nil _ | refine Sub.cons rfl ?_)), (hm269.pick [0] (by decide) rfl)⟩ ?_ ?_
        · rintro ⟨i314, i315, l316⟩ x318 env319 w320 hf321 hr322 ⟨hs_, hm_⟩
          have hs_ : Sub [(0, v0), (1, (Value.int .i64 a1)), (2, (Value.func (.func 32) #[] #[])), (6, (Value.int .i64 i258)), (7, (Value.int .i64 i314)), (8, (Value.int .i64 i315))] env319 := hs_
          have hm326 : Mem w (ownL 41 v0 (a0 : List T_Command)).D [ownL 41 v0 (l316 : List T_Command)] w320 := hm_
          refine cw_sub hs_ ?_
          clear hs_ hm_ q325
          have h : g_slices_stableCmpFunc_api_Command_l5 N a1 i258 i314 i315 l316 = some x318 := hf321
          clear hf321
          refine cw_seq ?_
          refine cw_seq ?_
          refine cw_region ?_
          refine t_rd rfl (rd_move rfl) ?_
          refine t_rd rfl (rd_move rfl) ?_
          refine t_rd rfl (rd_leq rfl rfl) ?_
          refine rwt_nil ?_
          refine qn_then ?_
          obtain ⟨hb327, q328⟩ | ⟨hb327, q328⟩ := oi h <;> clear h
          · refine cw_t rfl hb327 ?_
            refine cw_skip ?_
            refine qn_then ?_
            refine cw_block ?_
            refine cw_seq ?_
            refine cw_region ?_
            refine t_rd rfl (rd_move rfl) ?_
            refine t_rd rfl (rd_move rfl) ?_
            refine t_rd rfl (rd_move rfl) ?_
            refine t_rd rfl (rd_move rfl) ?_
            obtain ⟨x329, h330, q331⟩ := ob q328; clear q328
            refine t_rd rfl (rd_add64 h330 rfl rfl) ?_
            refine t_rd rfl (rd_move rfl) ?_
            refine t_rd rfl (rd_move rfl) ?_
            obtain ⟨r332, h333, q334⟩ := ob q331; clear q331
            refine t_ef rfl (ef_call tf48 rfl (g_slices_symMergeCmpFunc_api_Command_ok h333 (hm326.get (k := 0) rfl))) ?_
            rintro _ w336 ⟨e_, hm335⟩
            obtain rfl := e_.symm
            have hm337 := hm326.callT (k := 0) rfl (fun _ h => h) hm335 (fun _ => Iff.rfl)
            refine rwt_nil ?_
            refine qn_then ?_
            refine cw_seq ?_
            refine cw_region ?_
            refine t_rd rfl (rd_move rfl) ?_
            refine t_rd rfl (rd_assign rfl) ?_
            refine rwt_nil ?_
            refine qn_then ?_
            refine cw_region ?_
            refine t_rd rfl (rd_move rfl) ?_
            refine t_rd rfl (rd_move rfl) ?_
            obtain ⟨x338, h339, q340⟩ := ob q334; clear q334
            refine t_rd rfl (rd_mul64 h339 rfl rfl) ?_
            obtain ⟨x341, h342, q343⟩ := ob q340; clear q340
            refine t_rd rfl (rd_add64 h342 rfl rfl) ?_
            refine t_rd rfl (rd_assign rfl) ?_
            refine rwt_nil ?_
            refine qn_block (qn_then ?_)
            refine ⟨_, (os q343), (by repeat (first | exact Sub.nil _ | refine Sub.cons rfl ?_)), (hm337.pick [0] (by decide) rfl)⟩
          · refine cw_f rfl hb327 ?_
            refine cw_exit ?_
            refine qx_then (qx_then ?_)
            obtain rfl := hr322 _ (os q328)
            exact ⟨rfl, (by repeat (first | exact Sub.nil _ | refine Sub.cons rfl ?_)), (hm326.pick [0] (by decide) rfl)⟩
        · skip
          intro e env344 w345 hX346
          obtain ⟨rfl, hs347, hm348⟩ := hX346
          refine qx_same (qn_then ?_)
          refine cw_sub hs347 ?_
          refine cw_seq ?_
          refine cw_seq ?_
          refine cw_region ?_
          refine t_rd rfl (rd_move rfl) ?_
          refine t_rd rfl (rd_move rfl) ?_
          obtain ⟨x349, h350, q351⟩ := ob q325; clear q325
          refine t_rd rfl (rd_add64 h350 rfl rfl) ?_
          refine t_rd rfl (rd_assign rfl) ?_
          refine rwt_nil ?_
          refine qn_then ?_
          refine cw_seq ?_
          refine cw_region ?_
          refine t_rd rfl (rd_move rfl) ?_
          refine t_rd rfl (rd_move rfl) ?_
          refine t_rd rfl (rd_lss rfl rfl) ?_
          refine rwt_nil ?_
          refine qn_then ?_
          obtain ⟨hb352, q353⟩ | ⟨hb352, q353⟩ := oi q351 <;> clear q351
          · refine cw_t rfl hb352 ?_
            refine cw_region ?_
            refine t_rd rfl (rd_move rfl) ?_
            refine t_rd rfl (rd_move rfl) ?_
            refine t_rd rfl (rd_move rfl) ?_
            refine t_rd rfl (rd_move rfl) ?_
            refine t_rd rfl (rd_move rfl) ?_
            obtain ⟨r354, h355, q356⟩ := ob q353; clear q353
            refine t_ef rfl (ef_call tf48 rfl (g_slices_symMergeCmpFunc_api_Command_ok h355 (hm348.get (k := 0) rfl))) ?_
            rintro _ w358 ⟨e_, hm357⟩
            obtain rfl := e_.symm
            have hm359 := hm348.callT (k := 0) rfl (fun _ h => h) hm357 (fun _ => Iff.rfl)
            refine rwt_nil ?_
            refine qn_then ?_
            refine cw_region ?_
            refine t_rd rfl (rd_move rfl) ?_
            obtain ⟨x360, h361, q362⟩ := ob q356; clear q356
            refine t_rd rfl (rd_mul64 h361 rfl rfl) ?_
            refine t_rd rfl (rd_assign rfl) ?_
            refine rwt_nil ?_
            refine qn_block (qn_then ?_)
            refine ⟨_, (os q362), (by repeat (first | exact Sub.nil _ | refine Sub.cons rfl ?_)), (hm359.pick [0] (by decide) rfl)⟩
          · refine cw_f rfl hb352 ?_
            refine cw_skip ?_
            refine qn_then ?_
            refine cw_region ?_
            refine t_rd rfl (rd_move rfl) ?_
            obtain ⟨x363, h364, q365⟩ := ob q353; clear q353
            refine t_rd rfl (rd_mul64 h364 rfl rfl) ?_
            refine t_rd rfl (rd_assign rfl) ?_
            refine rwt_nil ?_
            refine qn_block (qn_then ?_)
            refine ⟨_, (os q365), (by repeat (first | exact Sub.nil _ | refine Sub.cons rfl ?_)), (hm348.pick [0] (by decide) rfl)⟩
      · refine cw_f rfl hb270 ?_
        refine cw_exit ?_
        refine qx_then (qx_then ?_)
        obtain rfl := hr265 _ (os q271)
        exact ⟨rfl, (by repeat (first | exact Sub.nil _ | refine Sub.cons rfl ?_)), (hm269.pick [0] (by decide) rfl)⟩
    · skip
      intro e env366 w367 hX368
      obtain ⟨rfl, hs369, hm370⟩ := hX368
      refine qx_same ?_
      obtain rfl := os q268
      refine retn ?_
      refine ret_sub hs369 ?_
      exact ret0 rfl ⟨rfl, (hm370.pick [0] (by decide) rfl)⟩

theorem g_slices_SortStableFunc_api_Command_api_Command_ok {N : Nat} {a0 : List T_Command} {res : List T_Command} (h : g_slices_SortStableFunc_api_Command_api_Command N a0 = some res) {w : World} {v0 : Value} (hk0 : (ownL 41 v0 (a0 : List T_Command)).φ w) :
    CallsR Try.prog 31 [v0, (Value.func (.func 32) #[] #[])] w (fun u w' => u = (Value.tuple #[]) ∧ Mem w (ownL 41 v0 (a0 : List T_Command)).D [ownL 41 v0 (res : List T_Command)] w') := by
  unfold g_slices_SortStableFunc_api_Command_api_Command at h
  refine fn_ok Try.func31 rfl rfl rfl ?_
  have hm0 := Mem.one hk0
  refine cw_region ?_
  refine t_rd rfl (rd_move rfl) ?_
  refine t_rd rfl (rd_move rfl) ?_
  refine t_rd rfl (rd_lenS tS25 rfl (hm0.sl 0 rfl)) ?_
  refine t_rd rfl (rd_move rfl) ?_
  obtain ⟨r1, h2, q3⟩ := ob h; clear h
  refine t_ef rfl (ef_call tf42 rfl (g_slices_stableCmpFunc_api_Command_ok h2 (hm0.get (k := 0) rfl))) ?_
  rintro _ w5 ⟨e_, hm4⟩
  obtain rfl := e_.symm
  have hm6 := hm0.callT (k := 0) rfl (fun _ h => h) hm4 (fun _ => Iff.rfl)
  refine rwt_nil ?_
  obtain rfl := os q3
  refine retn ?_
  exact ret0 rfl ⟨rfl, (hm6.pick [0] (by decide) rfl)⟩

theorem throwplan_Commands_ok {N : Nat} {a0 : List (List T_Span)} {a1 : List Int} {a2 : Int} {a3 : List T_Throw} {res : List T_Command × Int} (h : throwplan_Commands N a0 a1 a2 a3 = some res) {w : World} {v0 : Value} {v1 : Value} {v3 : Value} (hv0 : Sl (Old w No) w v0 a0) (hv1 : Sl (Old w No) w v1 a1) (hv3 : Sl (Old w No) w v3 a3) :
    CallsR Try.prog 16 [v0, v1, (Value.int .i64 a2), v3] w (fun u w' => ∃ (y0 : Value), u = (Value.tuple #[y0, (Value.int .i64 res.2)]) ∧ Mem w No [ownL 41 y0 (res.1 : List T_Command)] w') := by
  unfold throwplan_Commands at h
  refine fn_ok Try.func16 rfl rfl rfl ?_
  obtain ⟨zs_a0, hn0⟩ := hv0.nest
  have hm0 := Mem.nil w
  refine cw_seq ?_
  refine cw_region ?_
  refine t_rd rfl (rd_assign rfl) ?_
  refine t_rd rfl (rd_assign rfl) ?_
  refine rwt_nil ?_
  refine qn_then ?_
  refine cw_seq ?_
  refine cw_seq ?_
  refine cw_region ?_
  refine t_rd rfl (rd_move rfl) ?_
  refine t_rd rfl (rd_move rfl) ?_
  refine t_rd rfl (rd_move rfl) ?_
  refine t_rd rfl (rd_move rfl) ?_
  obtain ⟨r1, h2, q3⟩ := ob h; clear h
  refine t_ef rfl (ef_call tf28 rfl (throwplan_check_ok h2 ((hn0.to_call hm0).sl) (hv1.to_call hm0) (hv3.to_call hm0))) ?_
  rintro _ w5 ⟨e_, hm4⟩
  obtain rfl := e_.symm
  have hm6 := hm0.call hm4
  refine t_rd rfl (rd_assign rfl) ?_
  refine rwt_nil ?_
  refine qn_then ?_
  refine cw_seq ?_
  refine cw_region ?_
  refine t_rd rfl (rd_move rfl) ?_
  refine t_rd rfl (rd_neq rfl rfl) ?_
  refine rwt_nil ?_
  refine qn_then ?_
  obtain ⟨hb7, q8⟩ | ⟨hb7, q8⟩ := oi q3 <;> clear q3
  · refine cw_t rfl hb7 ?_
    refine cw_seq ?_
    refine cw_region ?_
    refine t_rd rfl (rd_move rfl) ?_
    refine t_rd rfl (rd_assign rfl) ?_
    refine t_rd rfl (rd_assign rfl) ?_
    refine rwt_nil ?_
    refine qn_then ?_
    refine cw_ret ?_
    refine qr_then ?_
    obtain rfl := os q8
    have hm9 := hm6.addNil (α := T_Command) 41
    exact ret2 rfl rfl rfl ⟨(Value.slice none 0 0), rfl, (hm9.pick [0] (by decide) rfl)⟩
  · refine cw_f rfl hb7 ?_
    refine cw_skip ?_
    refine qn_then ?_
    refine cw_seq ?_
    refine cw_region ?_
    refine t_rd rfl (rd_move rfl) ?_
    refine t_rd rfl (rd_move rfl) ?_
    obtain ⟨r10, h11, q12⟩ := ob q8; clear q8
    refine t_ef rfl (ef_call tf29 rfl (throwplan_sides_ok h11 (hv3.to_call hm6))) ?_
    rintro _ w15 ⟨g13, e_, hm14⟩
    obtain rfl := e_.symm
    have hm16 := hm6.call hm14
    refine t_ef rfl (ef_makeMap hm16 Int) ?_
    rintro _ w19 ⟨g17, rfl, hm18⟩
    refine t_ef rfl (ef_makeMap hm18 Bool) ?_
    rintro _ w22 ⟨g20, rfl, hm21⟩
    refine t_rd rfl (rd_build (cs := #[(Value.int .i64 a2), (Value.map (some g13)), (Value.map (some g17)), (Value.map (some g20)), (Value.slice none 0 0)]) rfl (by kernel_rfl)) ?_
    refine t_ef rfl (ef_box hm21 rfl rfl) ?_
    rintro _ w25 ⟨g23, rfl, hm24⟩
    refine t_rd rfl (rd_assign rfl) ?_
    refine rwt_nil ?_
    refine qn_then ?_
    refine cw_seq ?_
    refine cw_seq ?_
    refine cw_region ?_
    refine t_rd rfl (rd_move rfl) ?_
    refine t_rd rfl (rd_lenS tS23 rfl ((hn0.of_old hm24).sl)) ?_
    refine t_rd rfl (rd_move rfl) ?_
    refine rwt_nil ?_
    refine qn_then ?_
    refine cw_block ?_
    have hm350 := hm24.addNil (α := T_Command) 41
    obtain ⟨r944, hit945, q946⟩ := ob q12; clear q12
    refine cw_loop2 (I := fun q envq wq => ∃ (v937 : Value), Sub [(1, v1), (11, (Value.pointer (some ⟨g23, 0, none⟩))), (34, v0), (35, (Value.int .i64 (List.length a0 : Int))), (36, (Value.int .i64 q.1))] envq ∧ Mem w No [ownL 41 v937 (q.2.2.2.2 : List T_Command), blk g23 68 [(Value.int .i64 a2), (Value.map (some g13)), (Value.map (some g17)), (Value.map (some g20)), v937], mapC g20 (q.2.2.2.1 : List (Int × Bool)), mapC g17 (q.2.2.1 : List (Int × Int)), mapC g13 (q.2.1 : List (Int × Int))] wq) (X := fun eq envq wq => (∃ p947, r944 = (Sum.inl p947) ∧ eq = .ret ∧ retQ Try.prog 118 Try.f16 (fun u w' => ∃ (y0 : Value), u = (Value.tuple #[y0, (Value.int .i64 p947.2)]) ∧ Mem w No [ownL 41 y0 (p947.1 : List T_Command)] w') .ret envq wq) ∨ (∃ p948, r944 = (Sum.inr p948) ∧ eq = .exit 0 ∧ ∃ (v931 : Value), Sub [(11, (Value.pointer (some ⟨g23, 0, none⟩)))] envq ∧ Mem w No [ownL 41 v931 (p948.2.2.2 : List T_Command), blk g23 68 [(Value.int .i64 a2), (Value.map (some g13)), (Value.map (some g17)), (Value.map (some g20)), v931], mapC g20 (p948.2.2.1 : List (Int × Bool)), mapC g17 (p948.2.1 : List (Int × Int)), mapC g13 (p948.1 : List (Int × Int))] wq)) hit945 ⟨(Value.slice none 0 0), (by repeat (first | exact Sub.nil _ | refine Sub.cons rfl ?_)), (hm350.pick [0, 1, 2, 3, 4] (by decide) rfl)⟩ ?_ ?_
    · rintro ⟨i932, m933, m934, m935, l936⟩ x939 env940 w941 hf942 hr943 ⟨v937, hs_, hm_⟩
      have hs_ : Sub [(1, v1), (11, (Value.pointer (some ⟨g23, 0, none⟩))), (34, v0), (35, (Value.int .i64 (List.length a0 : Int))), (36, (Value.int .i64 i932))] env940 := hs_
      have hm949 : Mem w No [ownL 41 v937 (l936 : List T_Command), blk g23 68 [(Value.int .i64 a2), (Value.map (some g13)), (Value.map (some g17)), (Value.map (some g20)), v937], mapC g20 (m935 : List (Int × Bool)), mapC g17 (m934 : List (Int × Int)), mapC g13 (m933 : List (Int × Int))] w941 := hm_
      refine cw_sub hs_ ?_
      clear hs_ hm_ q946
      have h : throwplan_Commands_l7 N a0 a1 a2 i932 m933 m934 m935 l936 = some x939 := hf942
      clear hf942
      refine cw_seq ?_
      refine cw_region ?_
      refine t_rd rfl (rd_lss rfl rfl) ?_
      refine rwt_nil ?_
      refine qn_then ?_
      refine cw_seq ?_
      obtain ⟨hb950, q951⟩ | ⟨hb950, q951⟩ := oi h <;> clear h
      · refine cw_t rfl hb950 ?_
        refine cw_skip ?_
        refine qn_then ?_
        refine cw_seq ?_
        refine cw_block ?_
        refine cw_seq ?_
        refine cw_region ?_
        refine t_rd rfl (rd_move rfl) ?_
        obtain ⟨x952, h953, q954⟩ := ob q951; clear q951
        refine t_rd rfl (rd_index tS23 rfl rfl ((hn0.of_old hm949).sl) h953) ?_
        obtain ⟨zd955, hz956⟩ := (hn0.of_old hm949).row h953
        refine t_rd rfl (rd_ld1 tO34 rfl ((hn0.of_old hm949).cells hz956) (off := 0) rfl) ?_
        refine t_rd rfl (rd_assign rfl) ?_
        refine t_rd rfl (rd_assign rfl) ?_
        refine rwt_nil ?_
        refine qn_then ?_
        refine cw_seq ?_
        refine cw_seq ?_
        refine cw_region ?_
        refine t_rd rfl (rd_move rfl) ?_
        refine t_rd rfl (rd_lenS tS34 rfl ((hn0.of_old hm949).get hz956 h953)) ?_
        refine t_rd rfl (rd_move rfl) ?_
        refine rwt_nil ?_
        refine qn_then ?_
        refine cw_block ?_
        obtain ⟨r1050, hit1051, q1052⟩ := ob q954; clear q954
        refine cw_loop2 (I := fun q envq wq => ∃ (v1043 : Value), Sub [(1, v1), (11, (Value.pointer (some ⟨g23, 0, none⟩))), (12, (Value.int .i64 i932)), (13, zd955.1), (34, v0), (35, (Value.int .i64 (List.length a0 : Int))), (36, (Value.int .i64 i932)), (41, zd955.1), (42, (Value.int .i64 (List.length x952 : Int))), (43, (Value.int .i64 q.1))] envq ∧ Mem w No [ownL 41 v1043 (q.2.2.2.2 : List T_Command), blk g23 68 [(Value.int .i64 a2), (Value.map (some g13)), (Value.map (some g17)), (Value.map (some g20)), v1043], mapC g20 (q.2.2.2.1 : List (Int × Bool)), mapC g17 (q.2.2.1 : List (Int × Int)), mapC g13 (q.2.1 : List (Int × Int))] wq) (X := fun eq envq wq => (∃ p1053, r1050 = (Sum.inl p1053) ∧ eq = .ret ∧ retQ Try.prog 118 Try.f16 (fun u w' => ∃ (y0 : Value), u = (Value.tuple #[y0, (Value.int .i64 p1053.2)]) ∧ Mem w No [ownL 41 y0 (p1053.1 : List T_Command)] w') .ret envq wq) ∨ (∃ p1054, r1050 = (Sum.inr p1054) ∧ eq = .exit 2 ∧ ∃ (v1037 : Value), Sub [(1, v1), (11, (Value.pointer (some ⟨g23, 0, none⟩))), (12, (Value.int .i64 i932)), (13, zd955.1), (34, v0), (35, (Value.int .i64 (List.length a0 : Int))), (36, (Value.int .i64 i932))] envq ∧ Mem w No [ownL 41 v1037 (p1054.2.2.2 : List T_Command), blk g23 68 [(Value.int .i64 a2), (Value.map (some g13)), (Value.map (some g17)), (Value.map (some g20)), v1037], mapC g20 (p1054.2.2.1 : List (Int × Bool)), mapC g17 (p1054.2.1 : List (Int × Int)), mapC g13 (p1054.1 : List (Int × Int))] wq)) hit1051 ⟨v937, (by repeat (first | exact Sub.nil _ | refine Sub.cons rfl ?_)), (hm949.pick [0, 1, 2, 3, 4] (by decide) rfl)⟩ ?_ ?_
        · rintro ⟨i1038, m1039, m1040, m1041, l1042⟩ x1045 env1046 w1047 hf1048 hr1049 ⟨v1043, hs_, hm_⟩
          have hs_ : Sub [(1, v1), (11, (Value.pointer (some ⟨g23, 0, none⟩))), (12, (Value.int .i64 i932)), (13, zd955.1), (34, v0), (35, (Value.int .i64 (List.length a0 : Int))), (36, (Value.int .i64 i932)), (41, zd955.1), (42, (Value.int .i64 (List.length x952 : Int))), (43, (Value.int .i64 i1038))] env1046 := hs_
          have hm1055 : Mem w No [ownL 41 v1043 (l1042 : List T_Command), blk g23 68 [(Value.int .i64 a2), (Value.map (some g13)), (Value.map (some g17)), (Value.map (some g20)), v1043], mapC g20 (m1041 : List (Int × Bool)), mapC g17 (m1040 : List (Int × Int)), mapC g13 (m1039 : List (Int × Int))] w1047 := hm_
          refine cw_sub hs_ ?_
          clear hs_ hm_ q1052
          have h : throwplan_Commands_l8 N a1 a2 i932 x952 i1038 m1039 m1040 m1041 l1042 = some x1045 := hf1048
          clear hf1048
          refine cw_seq ?_
          refine cw_region ?_
          refine t_rd rfl (rd_lss rfl rfl) ?_
          refine rwt_nil ?_
          refine qn_then ?_
          refine cw_seq ?_
          obtain ⟨hb1056, q1057⟩ | ⟨hb1056, q1057⟩ := oi h <;> clear h
          · refine cw_t rfl hb1056 ?_
            refine cw_skip ?_
            refine qn_then ?_
            refine cw_seq ?_
            refine cw_block ?_
            refine cw_seq ?_
            refine cw_region ?_
            obtain ⟨x1058, h1059, q1060⟩ := ob q1057; clear q1057
            refine t_rd rfl (rd_index tS34 rfl rfl ((hn0.of_old hm1055).get hz956 h953) h1059) ?_
            refine t_rd rfl (rd_ld tA52 rfl (((hn0.of_old hm1055).get hz956 h953).cells h1059) rfl) ?_
            refine t_ef rfl (ef_alloc hm1055 tZ52 rfl) ?_
            rintro _ w1063 ⟨g1061, rfl, hm1062⟩
            refine t_ef0 (ef_stw (k := 0) hm1062 tA52 rfl rfl (oc_cons rfl (oc_cons rfl (oc_cons rfl (oc_cons rfl oc_nil)))) rfl rfl rfl) ?_
            intro _ w1065 hm1064
            refine rwt_nil ?_
            refine qn_then ?_
            refine cw_seq ?_
            obtain ⟨w1067, he1069⟩ : ∃ q, q = w1065.drew := ⟨_, rfl⟩
            have hm1068 := hm1064.drew; rw [← he1069] at hm1068
            refine cw_region_s (fun q => q = w1067) (cls [] [10]) mixed ?_
            rintro _ rfl; rw [← he1069]
            refine s_rp (i := 0) rfl (by kernel_rfl) rfl (fun _ => (rd_move rfl)) ?_
            refine s_rp (i := 1) rfl (by kernel_rfl) rfl (fun _ => (rd_move rfl)) ?_
            refine s_rd (i := 2) rfl (by kernel_rfl) rfl (fun _ hS => by rw [hS]; exact (rd_ld tA52 rfl (hm1068.blk 0 rfl) rfl)) rfl ?_
            refine s_rp (i := 3) rfl (by kernel_rfl) rfl (fun _ => (rd_move rfl)) ?_
            refine s_rp (i := 4) rfl (by kernel_rfl) rfl (fun _ => (rd_move rfl)) ?_
            obtain ⟨x1070, h1071, q1072⟩ := ob q1060; clear q1060
            refine s_rp (i := 5) rfl (by kernel_rfl) rfl (fun _ => (rd_index tS22 rfl rfl (hv1.of_old hm1068) h1071)) ?_
            refine s_rd (i := 6) rfl (by kernel_rfl) rfl (fun _ hS => by rw [hS]; exact (rd_ld1 tO3 rfl ((hv1.of_old hm1068).cells h1071) (off := 0) rfl)) rfl ?_
            refine s_rp (i := 7) rfl (by kernel_rfl) rfl (fun _ => (rd_fld tF52_2 rfl)) ?_
            refine s_rd (i := 8) rfl (by kernel_rfl) rfl (fun _ hS => by rw [hS]; exact (rd_ld1 tO3 rfl (hm1068.blk 0 rfl) (off := 2) rfl)) rfl ?_
            obtain ⟨x1073, h1074, q1075⟩ := ob q1072; clear q1072
            refine s_rp (i := 9) rfl (by kernel_rfl) rfl (fun _ => (rd_add64 h1074 rfl rfl)) ?_
            have hm1076 := hm1068.pick [2, 5, 4, 3, 1, 0] (L' := [blk g23 68 [(Value.int .i64 a2), (Value.map (some g13)), (Value.map (some g17)), (Value.map (some g20)), v1043], mapC g13 (m1039 : List (Int × Int)), mapC g17 (m1040 : List (Int × Int)), mapC g20 (m1041 : List (Int × Bool)), ownL 41 v1043 (l1042 : List T_Command), blk g1061 52 [(Value.int .i64 x1058.Element), (Value.int .i64 x1058.Side), (Value.int .i64 x1058.From), (Value.int .i64 x1058.To)]]) (by decide) rfl
            have hm1077 := hm1076.bundle [blk g23 68 [(Value.int .i64 a2), (Value.map (some g13)), (Value.map (some g17)), (Value.map (some g20)), v1043], mapC g13 (m1039 : List (Int × Int)), mapC g17 (m1040 : List (Int × Int)), mapC g20 (m1041 : List (Int × Bool)), ownL 41 v1043 (l1042 : List T_Command)] [blk g1061 52 [(Value.int .i64 x1058.Element), (Value.int .i64 x1058.Side), (Value.int .i64 x1058.From), (Value.int .i64 x1058.To)]]
            obtain ⟨r1078, h1079, q1080⟩ := ob q1075; clear q1075
            refine s_ef (i := 10) rfl (by kernel_rfl) rfl (ef_call tf30 rfl (planner_serve_ok h1079 (hm1077.get (k := 0) rfl))) (by decide) (fun _ _ _ q => absurd q (by decide)) ?_
            rintro _ w1083 ⟨v1081, e_, hm1082⟩
            obtain rfl := e_.symm
            have hm1084 := hm1077.callM (k := 0) rfl (fun _ h => h) hm1082
            have hm1085 := hm1084.unbundle [blk g23 68 [(Value.int .i64 a2), (Value.map (some g13)), (Value.map (some g17)), (Value.map (some g20)), v1081], mapC g13 (r1078.1 : List (Int × Int)), mapC g17 (r1078.2.1 : List (Int × Int)), mapC g20 (r1078.2.2.1 : List (Int × Bool)), ownL 41 v1081 (r1078.2.2.2.1 : List T_Command)] [blk g1061 52 [(Value.int .i64 x1058.Element), (Value.int .i64 x1058.Side), (Value.int .i64 x1058.From), (Value.int .i64 x1058.To)]]
            refine s_rp (i := 11) rfl (by kernel_rfl) rfl (fun _ => (rd_assign rfl)) ?_
            refine s_nil (by kernel_rfl) ?_
            refine qn_then ?_
            refine cw_seq ?_
            refine cw_region ?_
            refine t_rd rfl (rd_move rfl) ?_
            refine t_rd rfl (rd_neq rfl rfl) ?_
            refine rwt_nil ?_
            refine qn_then ?_
            obtain ⟨hb1086, q1087⟩ | ⟨hb1086, q1087⟩ := oi q1080 <;> clear q1080
            · refine cw_t rfl hb1086 ?_
              refine cw_seq ?_
              refine cw_region ?_
              refine t_rd rfl (rd_move rfl) ?_
              refine t_rd rfl (rd_assign rfl) ?_
              refine t_rd rfl (rd_assign rfl) ?_
              refine rwt_nil ?_
              refine qn_then ?_
              refine cw_ret ?_
              refine qr_block (qr_then (qr_then ?_))
              obtain rfl := hr1049 _ (os q1087)
              refine .inl (⟨_, rfl, ⟨rfl, ?_⟩⟩)
              have hm1088 := hm1085.addNil (α := T_Command) 41
              exact ret2 rfl rfl rfl ⟨(Value.slice none 0 0), rfl, (hm1088.pick [0] (by decide) rfl)⟩
            · refine cw_f rfl hb1086 ?_
              refine cw_skip ?_
              refine qn_block (qn_then ?_)
              refine cw_region ?_
              obtain ⟨x1089, h1090, q1091⟩ := ob q1087; clear q1087
              refine t_rd rfl (rd_add64 h1090 rfl rfl) ?_
              refine t_rd rfl (rd_move rfl) ?_
              refine rwt_nil ?_
              refine qn_then ?_
              refine ⟨_, (os q1091), v1081, (by repeat (first | exact Sub.nil _ | refine Sub.cons rfl ?_)), (hm1085.pick [4, 0, 3, 2, 1] (by decide) rfl)⟩
          · refine cw_f rfl hb1056 ?_
            refine cw_exit ?_
            refine qx_then (qx_then ?_)
            obtain rfl := hr1049 _ (os q1057)
            exact .inr (⟨_, rfl, ⟨rfl, v1043, (by repeat (first | exact Sub.nil _ | refine Sub.cons rfl ?_)), (hm1055.pick [0, 1, 2, 3, 4] (by decide) rfl)⟩⟩)
        · skip
          intro e env1092 w1093 hX1094
          rcases hX1094 with hX1094 | hX1094
          · obtain ⟨p1096, rfl, hX1094⟩ := hX1094
            obtain ⟨rfl, hq1098⟩ := hX1094
            obtain rfl := hr943 _ (os q1052)
            exact qr_block (qr_then (qr_block (qr_then (qr_then (.inl (⟨_, rfl, ⟨rfl, hq1098⟩⟩))))))
          · obtain ⟨p1099, rfl, hX1094⟩ := hX1094
            obtain ⟨rfl, v1037, hs1100, hm1101⟩ := hX1094
            refine qx_same (qn_then ?_)
            refine cw_sub hs1100 ?_
            refine cw_seq ?_
            refine cw_region ?_
            refine t_rd rfl (rd_move rfl) ?_
            refine t_rd rfl (rd_lenS tS34 rfl ((hn0.of_old hm1101).get hz956 h953)) ?_
            refine t_rd rfl (rd_move rfl) ?_
            refine rwt_nil ?_
            refine qn_then ?_
            refine cw_block ?_
            obtain ⟨r1186, hit1187, q1188⟩ := ob q1052; clear q1052
            refine cw_loop2 (I := fun q envq wq => Sub [(1, v1), (11, (Value.pointer (some ⟨g23, 0, none⟩))), (12, (Value.int .i64 i932)), (34, v0), (35, (Value.int .i64 (List.length a0 : Int))), (36, (Value.int .i64 i932)), (62, zd955.1), (63, (Value.int .i64 (List.length x952 : Int))), (64, (Value.int .i64 q.1))] envq ∧ Mem w No [ownL 41 v1037 (p1099.2.2.2 : List T_Command), blk g23 68 [(Value.int .i64 a2), (Value.map (some g13)), (Value.map (some g17)), (Value.map (some g20)), v1037], mapC g20 (q.2.2 : List (Int × Bool)), mapC g17 (q.2.1 : List (Int × Int)), mapC g13 (p1099.1 : List (Int × Int))] wq) (X := fun eq envq wq => eq = .exit 4 ∧ Sub [(1, v1), (11, (Value.pointer (some ⟨g23, 0, none⟩))), (34, v0), (35, (Value.int .i64 (List.length a0 : Int))), (36, (Value.int .i64 i932))] envq ∧ Mem w No [ownL 41 v1037 (p1099.2.2.2 : List T_Command), blk g23 68 [(Value.int .i64 a2), (Value.map (some g13)), (Value.map (some g17)), (Value.map (some g20)), v1037], mapC g20 (r1186.2 : List (Int × Bool)), mapC g17 (r1186.1 : List (Int × Int)), mapC g13 (p1099.1 : List (Int × Int))] wq) hit1187 ⟨(by repeat (first | exact Sub.nil _ | refine Sub.cons rfl ?_)), (hm1101.pick [0, 1, 2, 3, 4] (by decide) rfl)⟩ ?_ ?_
            · rintro ⟨i1177, m1178, m1179⟩ x1181 env1182 w1183 hf1184 hr1185 ⟨hs_, hm_⟩
              have hs_ : Sub [(1, v1), (11, (Value.pointer (some ⟨g23, 0, none⟩))), (12, (Value.int .i64 i932)), (34, v0), (35, (Value.int .i64 (List.length a0 : Int))), (36, (Value.int .i64 i932)), (62, zd955.1), (63, (Value.int .i64 (List.length x952 : Int))), (64, (Value.int .i64 i1177))] env1182 := hs_
              have hm1189 : Mem w No [ownL 41 v1037 (p1099.2.2.2 : List T_Command), blk g23 68 [(Value.int .i64 a2), (Value.map (some g13)), (Value.map (some g17)), (Value.map (some g20)), v1037], mapC g20 (m1179 : List (Int × Bool)), mapC g17 (m1178 : List (Int × Int)), mapC g13 (p1099.1 : List (Int × Int))] w1183 := hm_
              refine cw_sub hs_ ?_
              clear hs_ hm_ q1188
              have h : throwplan_Commands_l9 N a1 i932 x952 i1177 m1178 m1179 = some x1181 := hf1184
              clear hf1184
              refine cw_seq ?_
              refine cw_region ?_
              refine t_rd rfl (rd_lss rfl rfl) ?_
              refine rwt_nil ?_
              refine qn_then ?_
              refine cw_seq ?_
              obtain ⟨hb1190, q1191⟩ | ⟨hb1190, q1191⟩ := oi h <;> clear h
              · refine cw_t rfl hb1190 ?_
                refine cw_skip ?_
                refine qn_then ?_
                refine cw_seq ?_
                refine cw_block ?_
                refine cw_seq ?_
                refine cw_region ?_
                obtain ⟨x1192, h1193, q1194⟩ := ob q1191; clear q1191
                refine t_rd rfl (rd_index tS34 rfl rfl ((hn0.of_old hm1189).get hz956 h953) h1193) ?_
                refine t_rd rfl (rd_ld tA52 rfl (((hn0.of_old hm1189).get hz956 h953).cells h1193) rfl) ?_
                refine t_ef rfl (ef_alloc hm1189 tZ52 rfl) ?_
                rintro _ w1197 ⟨g1195, rfl, hm1196⟩
                refine t_ef0 (ef_stw (k := 0) hm1196 tA52 rfl rfl (oc_cons rfl (oc_cons rfl (oc_cons rfl (oc_cons rfl oc_nil)))) rfl rfl rfl) ?_
                intro _ w1199 hm1198
                refine rwt_nil ?_
                refine qn_then ?_
                refine cw_seq ?_
                obtain ⟨w1201, he1203⟩ : ∃ q, q = w1199.drew := ⟨_, rfl⟩
                have hm1202 := hm1198.drew; rw [← he1203] at hm1202
                refine cw_region_s (fun q => q = w1201) (cls [] [21]) mixed ?_
                rintro _ rfl; rw [← he1203]
                refine s_rp (i := 0) rfl (by kernel_rfl) rfl (fun _ => (rd_move rfl)) ?_
                refine s_rp (i := 1) rfl (by kernel_rfl) rfl (fun _ => (rd_nilCheck rfl)) ?_
                refine s_rp (i := 2) rfl (by kernel_rfl) rfl (fun _ => (rd_fld tF68_2 rfl)) ?_
                refine s_rd (i := 3) rfl (by kernel_rfl) rfl (fun _ hS => by rw [hS]; exact (rd_ld1 tO64 rfl (hm1202.blk 2 rfl) (off := 2) rfl)) rfl ?_
                refine s_rp (i := 4) rfl (by kernel_rfl) rfl (fun _ => (rd_fld tF52_0 rfl)) ?_
                refine s_rd (i := 5) rfl (by kernel_rfl) rfl (fun _ hS => by rw [hS]; exact (rd_ld1 tO3 rfl (hm1202.blk 0 rfl) (off := 0) rfl)) rfl ?_
                refine s_rp (i := 6) rfl (by kernel_rfl) rfl (fun _ => (rd_move rfl)) ?_
                refine s_rp (i := 7) rfl (by kernel_rfl) rfl (fun _ => (rd_nilCheck rfl)) ?_
                refine s_rp (i := 8) rfl (by kernel_rfl) rfl (fun _ => (rd_fld tF68_2 rfl)) ?_
                refine s_rd (i := 9) rfl (by kernel_rfl) rfl (fun _ hS => by rw [hS]; exact (rd_ld1 tO64 rfl (hm1202.blk 2 rfl) (off := 2) rfl)) rfl ?_
                refine s_rp (i := 10) rfl (by kernel_rfl) rfl (fun _ => (rd_fld tF52_0 rfl)) ?_
                refine s_rd (i := 11) rfl (by kernel_rfl) rfl (fun _ hS => by rw [hS]; exact (rd_ld1 tO3 rfl (hm1202.blk 0 rfl) (off := 0) rfl)) rfl ?_
                refine s_rd (i := 12) rfl (by kernel_rfl) rfl (fun _ hS => by rw [hS]; exact (mvI (o := (mget m1178 x1192.Element)) ▸ rd_lookup tM64 (hm1202.get (k := 4) rfl) rfl rfl)) rfl ?_
                refine s_rp (i := 13) rfl (by kernel_rfl) rfl (fun _ => (rd_move rfl)) ?_
                refine s_rp (i := 14) rfl (by kernel_rfl) rfl (fun _ => (rd_move rfl)) ?_
                obtain ⟨x1204, h1205, q1206⟩ := ob q1194; clear q1194
                refine s_rp (i := 15) rfl (by kernel_rfl) rfl (fun _ => (rd_index tS22 rfl rfl (hv1.of_old hm1202) h1205)) ?_
                refine s_rd (i := 16) rfl (by kernel_rfl) rfl (fun _ hS => by rw [hS]; exact (rd_ld1 tO3 rfl ((hv1.of_old hm1202).cells h1205) (off := 0) rfl)) rfl ?_
                refine s_rp (i := 17) rfl (by kernel_rfl) rfl (fun _ => (rd_fld tF52_3 rfl)) ?_
                refine s_rd (i := 18) rfl (by kernel_rfl) rfl (fun _ hS => by rw [hS]; exact (rd_ld1 tO3 rfl (hm1202.blk 0 rfl) (off := 3) rfl)) rfl ?_
                obtain ⟨x1207, h1208, q1209⟩ := ob q1206; clear q1206
                refine s_rp (i := 19) rfl (by kernel_rfl) rfl (fun _ => (rd_add64 h1208 rfl rfl)) ?_
                refine s_rp (i := 20) rfl (by kernel_rfl) rfl (fun _ => (rd_max rfl rfl)) ?_
                refine s_ef0 (i := 21) rfl (by kernel_rfl) (ef_mapUpdate (kq := 4) hm1202 tM64 rfl ((max (Option.getD (mget m1178 x1192.Element) 0) x1207) : Int) rfl rfl rfl) (by decide) (fun _ _ _ q => absurd q (by decide)) ?_
                intro _ w1211 hm1210
                refine s_nil (by kernel_rfl) ?_
                refine qn_then ?_
                obtain ⟨w1213, he1215⟩ : ∃ q, q = w1211.drew := ⟨_, rfl⟩
                have hm1214 := hm1210.drew; rw [← he1215] at hm1214
                refine cw_region_s (fun q => q = w1213) (cls [] [18]) mixed ?_
                rintro _ rfl; rw [← he1215]
                refine s_rp (i := 0) rfl (by kernel_rfl) rfl (fun _ => (rd_move rfl)) ?_
                refine s_rp (i := 1) rfl (by kernel_rfl) rfl (fun _ => (rd_nilCheck rfl)) ?_
                refine s_rp (i := 2) rfl (by kernel_rfl) rfl (fun _ => (rd_fld tF68_3 rfl)) ?_
                refine s_rd (i := 3) rfl (by kernel_rfl) rfl (fun _ hS => by rw [hS]; exact (rd_ld1 tO66 rfl (hm1214.blk 2 rfl) (off := 3) rfl)) rfl ?_
                refine s_rp (i := 4) rfl (by kernel_rfl) rfl (fun _ => (rd_fld tF52_0 rfl)) ?_
                refine s_rd (i := 5) rfl (by kernel_rfl) rfl (fun _ hS => by rw [hS]; exact (rd_ld1 tO3 rfl (hm1214.blk 0 rfl) (off := 0) rfl)) rfl ?_
                refine s_rp (i := 6) rfl (by kernel_rfl) rfl (fun _ => (rd_move rfl)) ?_
                refine s_rp (i := 7) rfl (by kernel_rfl) rfl (fun _ => (rd_nilCheck rfl)) ?_
                refine s_rp (i := 8) rfl (by kernel_rfl) rfl (fun _ => (rd_fld tF68_3 rfl)) ?_
                refine s_rd (i := 9) rfl (by kernel_rfl) rfl (fun _ hS => by rw [hS]; exact (rd_ld1 tO66 rfl (hm1214.blk 2 rfl) (off := 3) rfl)) rfl ?_
                refine s_rp (i := 10) rfl (by kernel_rfl) rfl (fun _ => (rd_fld tF52_0 rfl)) ?_
                refine s_rd (i := 11) rfl (by kernel_rfl) rfl (fun _ hS => by rw [hS]; exact (rd_ld1 tO3 rfl (hm1214.blk 0 rfl) (off := 0) rfl)) rfl ?_
                refine s_rd (i := 12) rfl (by kernel_rfl) rfl (fun _ hS => by rw [hS]; exact (mvB (o := (mget m1179 x1192.Element)) ▸ rd_lookup tM66 (hm1214.get (k := 3) rfl) rfl rfl)) rfl ?_
                refine s_rp (i := 13) rfl (by kernel_rfl) rfl (fun _ => (rd_move rfl)) ?_
                refine s_rpg (i := 14) rfl (by kernel_rfl) rfl rfl rfl rfl (gv_f _) (fun hg1216 _ => (rd_fld tF52_3 rfl)) ?_
                refine s_rdg (i := 15) rfl (by kernel_rfl) rfl rfl rfl rfl (gv_f _) (fun hg1217 => (fun _ hS => by rw [hS]; exact (rd_ld1 tO3 (gvx rfl hg1217) (hm1214.blk 0 rfl) (off := 3) rfl))) rfl ?_
                refine s_rpg (i := 16) rfl (by kernel_rfl) rfl rfl rfl rfl (gv_f _) (fun hg1218 _ => (rd_eql (gvx rfl hg1218) rfl)) ?_
                refine s_rp (i := 17) rfl (by kernel_rfl) rfl (fun _ => (rd_or rfl (fun hc1219 => (gvx rfl (bnotIt hc1219))))) ?_
                refine s_ef0 (i := 18) rfl (by kernel_rfl) (ef_mapUpdate (kq := 3) hm1214 tM66 rfl (((Option.getD (mget m1179 x1192.Element) false) || decide (x1192.To = 1000000000)) : Bool) rfl rfl rfl) (by decide) (fun _ _ _ q => absurd q (by decide)) ?_
                intro _ w1221 hm1220
                refine s_nil (by kernel_rfl) ?_
                refine qn_block (qn_then ?_)
                refine cw_region ?_
                obtain ⟨x1222, h1223, q1224⟩ := ob q1209; clear q1209
                refine t_rd rfl (rd_add64 h1223 rfl rfl) ?_
                refine t_rd rfl (rd_move rfl) ?_
                refine rwt_nil ?_
                refine qn_then ?_
                refine ⟨_, (os q1224), (by repeat (first | exact Sub.nil _ | refine Sub.cons rfl ?_)), (hm1220.pick [1, 2, 3, 4, 5] (by decide) rfl)⟩
              · refine cw_f rfl hb1190 ?_
                refine cw_exit ?_
                refine qx_then (qx_then ?_)
                obtain rfl := hr1185 _ (os q1191)
                exact ⟨rfl, (by repeat (first | exact Sub.nil _ | refine Sub.cons rfl ?_)), (hm1189.pick [0, 1, 2, 3, 4] (by decide) rfl)⟩
            · skip
              intro e env1225 w1226 hX1227
              obtain ⟨rfl, hs1228, hm1229⟩ := hX1227
              refine qx_same (qn_block (qn_then ?_))
              refine cw_sub hs1228 ?_
              refine cw_region ?_
              obtain ⟨x1230, h1231, q1232⟩ := ob q1188; clear q1188
              refine t_rd rfl (rd_add64 h1231 rfl rfl) ?_
              refine t_rd rfl (rd_move rfl) ?_
              refine rwt_nil ?_
              refine qn_then ?_
              refine ⟨_, (os q1232), v1037, (by repeat (first | exact Sub.nil _ | refine Sub.cons rfl ?_)), (hm1229.pick [0, 1, 2, 3, 4] (by decide) rfl)⟩
      · refine cw_f rfl hb950 ?_
        refine cw_exit ?_
        refine qx_then (qx_then ?_)
        obtain rfl := hr943 _ (os q951)
        exact .inr (⟨_, rfl, ⟨rfl, v937, (by repeat (first | exact Sub.nil _ | refine Sub.cons rfl ?_)), (hm949.pick [0, 1, 2, 3, 4] (by decide) rfl)⟩⟩)
    · skip
      intro e env1233 w1234 hX1235
      rcases hX1235 with hX1235 | hX1235
      · obtain ⟨p1237, rfl, hX1235⟩ := hX1235
        obtain ⟨rfl, hq1239⟩ := hX1235
        exact qr_block (qr_then ((by have e := os q946; subst e; exact hq1239)))
      · obtain ⟨p1240, rfl, hX1235⟩ := hX1235
        obtain ⟨rfl, v931, hs1241, hm1242⟩ := hX1235
        refine qx_same (qn_then ?_)
        refine cw_sub hs1241 ?_
        refine cw_seq ?_
        refine cw_region ?_
        refine t_rd rfl (rd_move rfl) ?_
        refine t_rd rfl (rd_nilCheck rfl) ?_
        refine t_rd rfl (rd_fld tF68_4 rfl) ?_
        refine t_rd rfl (rd_ld1 tO25 rfl (hm1242.blk 1 rfl) (off := 4) rfl) ?_
        obtain ⟨r1243, h1244, q1245⟩ := ob q946; clear q946
        refine t_ef rfl (ef_call tf31 rfl (g_slices_SortStableFunc_api_Command_api_Command_ok h1244 (hm1242.get (k := 0) rfl))) ?_
        rintro _ w1247 ⟨e_, hm1246⟩
        obtain rfl := e_.symm
        have hm1248 := hm1242.callT (k := 0) rfl (fun _ h => h) hm1246 (fun _ => Iff.rfl)
        refine rwt_nil ?_
        refine qn_then ?_
        refine cw_seq ?_
        refine cw_region ?_
        refine t_rd rfl (rd_move rfl) ?_
        refine t_rd rfl (rd_nilCheck rfl) ?_
        refine t_rd rfl (rd_fld tF68_4 rfl) ?_
        refine t_rd rfl (rd_ld1 tO25 rfl (hm1248.blk 1 rfl) (off := 4) rfl) ?_
        refine t_rd rfl (rd_assign rfl) ?_
        refine t_rd rfl (rd_assign rfl) ?_
        refine rwt_nil ?_
        refine qn_then ?_
        refine cw_ret ?_
        obtain rfl := os q1245
        exact ret2 rfl rfl rfl ⟨v931, rfl, (hm1248.pick [0] (by decide) rfl)⟩

end Go.Proofs.Ytpelfidmcpcmjaa
