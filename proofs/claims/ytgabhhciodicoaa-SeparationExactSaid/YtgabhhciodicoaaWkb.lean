/- Each call computes what its mirror does; written by a program of mine (gowalk.py). -/
import Derived.Test.YtgabhhciodicoaaWka
namespace Go.Proofs.Ytgabhhciodicoaa
open Go.Gv Go.RowKit
set_option linter.unusedVariables false
set_option maxRecDepth 100000

theorem law23_SeparationProves_ok {N : Nat} {a0 : List Int} {a1 : Int} {res : Bool} (h : law23_SeparationProves N a0 a1 = some res) {w : World} {v0 : Value} (hv0 : Sl (Old w No) w v0 a0) :
    CallsR Try.prog 4 [v0, (Value.int .i64 a1)] w (fun u w' => u = (Value.bool res) ∧ Mem w No [] w') := by
  unfold law23_SeparationProves at h
  refine fn_ok Try.func4 rfl rfl rfl ?_
  have hm0 := Mem.nil w
  refine cw_seq ?_
  refine cw_region ?_
  refine t_rd rfl (rd_assign rfl) ?_
  refine rwt_nil ?_
  refine qn_then ?_
  refine cw_seq ?_
  refine cw_region ?_
  refine t_rd rfl (rd_move rfl) ?_
  obtain ⟨r1, h2, q3⟩ := ob h; clear h
  refine t_ef rfl (ef_call tf9 rfl (humpgen_New_ok h2 (hv0.to_call hm0))) ?_
  rintro _ w6 ⟨g4, e_, hm5⟩
  obtain rfl := e_.symm
  have hm7 := hm0.call hm5
  refine t_rd rfl (rd_assign rfl) ?_
  refine rwt_nil ?_
  refine qn_then ?_
  refine cw_seq ?_
  refine cw_region ?_
  refine t_rd rfl (rd_move rfl) ?_
  obtain ⟨r8, h9, q10⟩ := ob q3; clear q3
  refine t_ef rfl (ef_call tf14 rfl (yardgen_SpanLists_ok h9 (hv0.to_callT (k := 0) hm7 rfl) (hm7.get (k := 0) rfl))) ?_
  rintro _ w14 ⟨zs12, v11, e_, hm13⟩
  obtain rfl := e_.symm
  have hm15 := hm7.callT (k := 0) rfl (fun _ h => h) hm13 (fun _ => Iff.rfl)
  refine t_rd rfl (rd_assign rfl) ?_
  refine rwt_nil ?_
  refine qn_then ?_
  refine cw_seq ?_
  refine cw_region ?_
  refine t_rd rfl (rd_move rfl) ?_
  refine t_ef rfl (ef_bslice (l := ([0, 800, 2500] : List Int)) hm15 tS22 rfl (cs := #[(Value.int .i64 0), (Value.int .i64 800), (Value.int .i64 2500)]) (by unfold bsl; kernel_rfl) rfl rfl) ?_
  intro v16 w18 hm17
  obtain ⟨r19, h20, q21⟩ := ob q10; clear q10
  refine t_ef rfl (ef_call tf15 rfl (Maker_Pick_ok h20 (hv0.to_callT (k := 3) hm17 rfl) (hm17.get (k := 3) rfl) (hm17.sl_callT 0 3 rfl rfl (by decide)))) ?_
  rintro _ w23 ⟨e_, hm22⟩
  obtain rfl := e_.symm
  have hm24 := hm17.callT (k := 3) rfl (fun _ h => h) hm22 (fun _ => Iff.rfl)
  refine t_rd rfl (rd_assign rfl) ?_
  refine rwt_nil ?_
  refine qn_then ?_
  refine cw_seq ?_
  refine cw_seq ?_
  refine cw_region ?_
  refine t_rd rfl (rd_move rfl) ?_
  refine t_rd rfl (rd_lenS tS35 rfl ((Nl.mk (hm24.sl_call 1 rfl) (hm24.rows_call 2 rfl)).sl)) ?_
  refine t_rd rfl (rd_eql rfl rfl) ?_
  refine rwt_nil ?_
  refine qn_then ?_
  obtain ⟨hb25, q26⟩ | ⟨hb25, q26⟩ := oi q21 <;> clear q21
  · refine cw_t rfl hb25 ?_
    refine cw_seq ?_
    refine cw_region ?_
    refine t_rd rfl (rd_move rfl) ?_
    refine t_rd rfl (rd_move rfl) ?_
    obtain ⟨r27, h28, q29⟩ := ob q26; clear q26
    refine t_ef rfl (ef_call tf16 rfl (separation_Critical_ok h28 ((Nl.mk (hm24.sl_call 1 rfl) (hm24.rows_call 2 rfl)).sl))) ?_
    rintro _ w32 ⟨v30, e_, hm31⟩
    obtain rfl := e_.symm
    have hm33 := hm24.call hm31
    refine t_rd rfl (rd_move rfl) ?_
    refine t_rd rfl (rd_extract rfl rfl) ?_
    refine t_rd rfl (rd_extract rfl rfl) ?_
    refine t_rd rfl (rd_assign rfl) ?_
    refine t_rd rfl (rd_assign rfl) ?_
    refine rwt_nil ?_
    refine qn_then ?_
    refine cw_seq ?_
    refine cw_region ?_
    refine t_rd rfl (rd_move rfl) ?_
    refine t_rd rfl (rd_eql rfl rfl) ?_
    refine t_rd rfl (rd_move rfl) ?_
    obtain ⟨r35, h36, q37⟩ := ob q29; clear q29
    refine t_efg rfl rfl rfl rfl (R := (fun v w' => v = gV (decide (r27.2 = 2)) (Value.bool r35) ∧ Mem w32 No [] w')) (gv_t _) (fun hg34 => (ef_call tf13 rfl (law23_sane_ok (gO_t h36 hg34))).mono (by rintro _ _ ⟨rfl, q⟩; exact ⟨(gV_t hg34).symm, q⟩)) (fun q => ⟨(gV_f q).symm, Mem.nil _⟩) ?_
    rintro _ w39 ⟨rfl, hm38⟩
    have hm40 := hm33.call hm38
    refine t_rd rfl (rd_and rfl (fun hc41 => (gvx rfl hc41))) ?_
    refine t_rd rfl (rd_assign rfl) ?_
    refine rwt_nil ?_
    refine qn_then ?_
    refine cw_ret ?_
    refine qr_then ?_
    obtain rfl := os q37
    exact ret1 rfl rfl ⟨rfl, (hm40.pick [] (by decide) rfl)⟩
  · refine cw_f rfl hb25 ?_
    refine cw_skip ?_
    refine qn_then ?_
    refine cw_seq ?_
    refine cw_region ?_
    refine t_rd rfl (rd_move rfl) ?_
    refine t_rd rfl (rd_move rfl) ?_
    refine t_rd rfl (rd_lenS tS35 rfl ((Nl.mk (hm24.sl_call 1 rfl) (hm24.rows_call 2 rfl)).sl)) ?_
    obtain ⟨r42, h43, q44⟩ := ob q26; clear q26
    refine t_ef rfl (ef_call tf10 rfl (yardgen_Place_ok h43)) ?_
    rintro _ w46 ⟨e_, hm45⟩
    obtain rfl := e_.symm
    have hm47 := hm24.call hm45
    refine t_rd rfl (rd_assign rfl) ?_
    refine rwt_nil ?_
    refine qn_then ?_
    refine cw_seq ?_
    refine cw_region ?_
    refine t_rd rfl (rd_move rfl) ?_
    refine t_rd rfl (rd_move rfl) ?_
    obtain ⟨r48, h49, q50⟩ := ob q44; clear q44
    refine t_ef rfl (ef_call tf17 rfl (separation_Releases_ok h49 ((Nl.mk (hm47.sl_call 1 rfl) (hm47.rows_call 2 rfl)).sl))) ?_
    rintro _ w53 ⟨v51, e_, hm52⟩
    obtain rfl := e_.symm
    have hm54 := hm47.call hm52
    refine t_rd rfl (rd_move rfl) ?_
    refine t_rd rfl (rd_extract rfl rfl) ?_
    refine t_rd rfl (rd_extract rfl rfl) ?_
    refine t_rd rfl (rd_assign rfl) ?_
    refine t_rd rfl (rd_assign rfl) ?_
    refine rwt_nil ?_
    refine qn_then ?_
    refine cw_seq ?_
    refine cw_region ?_
    refine t_rd rfl (rd_move rfl) ?_
    refine t_rd rfl (rd_move rfl) ?_
    refine t_rd rfl (rd_move rfl) ?_
    obtain ⟨r55, h56, q57⟩ := ob q50; clear q50
    refine t_ef rfl (ef_call tf16 rfl (separation_Critical_ok h56 ((Nl.mk (hm54.sl_call 2 rfl) (hm54.rows_call 3 rfl)).sl))) ?_
    rintro _ w60 ⟨v58, e_, hm59⟩
    obtain rfl := e_.symm
    have hm61 := hm54.call hm59
    refine t_rd rfl (rd_move rfl) ?_
    refine t_rd rfl (rd_extract rfl rfl) ?_
    refine t_rd rfl (rd_extract rfl rfl) ?_
    refine t_rd rfl (rd_assign rfl) ?_
    refine t_rd rfl (rd_assign rfl) ?_
    refine rwt_nil ?_
    refine qn_then ?_
    refine cw_seq ?_
    refine cw_seq ?_
    refine cw_region ?_
    refine t_rd rfl (rd_move rfl) ?_
    refine t_rd rfl (rd_neq rfl rfl) ?_
    refine t_rd rfl (rd_move rfl) ?_
    refine t_rdg rfl rfl rfl rfl (gv_f _) (fun hg62 => (rd_move rfl)) ?_
    refine t_rdg rfl rfl rfl rfl (gv_f _) (fun hg63 => (rd_lenS tS22 (gvx rfl hg63) (hm61.sl 0 rfl))) ?_
    refine t_rdg rfl rfl rfl rfl (gv_f _) (fun hg64 => (rd_eql (gvx rfl hg64) rfl)) ?_
    refine t_rd rfl (rd_or rfl (fun hc65 => (gvx rfl (bnotIt hc65)))) ?_
    refine t_rd rfl (rd_move rfl) ?_
    refine t_rdg rfl rfl rfl rfl (gv_f _) (fun hg66 => (rd_move rfl)) ?_
    refine t_rdg rfl rfl rfl rfl (gv_f _) (fun hg67 => (rd_lenS tS22 (gvx rfl hg67) (hm61.sl 1 rfl))) ?_
    refine t_rdg rfl rfl rfl rfl (gv_f _) (fun hg68 => (rd_move rfl)) ?_
    refine t_rdg rfl rfl rfl rfl (gv_f _) (fun hg69 => (rd_lenS tS35 (gvx rfl hg69) ((Nl.mk (hm61.sl_call 3 rfl) (hm61.rows_call 4 rfl)).sl))) ?_
    refine t_rdg rfl rfl rfl rfl (gv_f _) (fun hg70 => (rd_neq (gvx rfl hg70) (gvx rfl hg70))) ?_
    refine t_rd rfl (rd_or rfl (fun hc71 => (gvx rfl (bnotIt hc71)))) ?_
    refine t_rd rfl (rd_move rfl) ?_
    refine t_rdg rfl rfl rfl rfl (gv_f _) (fun hg72 => (rd_move rfl)) ?_
    refine t_rdg rfl rfl rfl rfl (gv_f _) (fun hg73 => (rd_move rfl)) ?_
    refine t_rdg rfl rfl rfl rfl (gv_f _) (fun hg74 => (rd_lenS tS22 (gvx rfl hg74) (hm61.sl 0 rfl))) ?_
    obtain ⟨x76, h77, q78⟩ := ob q57; clear q57
    refine t_rdg rfl rfl rfl rfl (gv_f _) (fun hg75 => (rd_sub64 (gO_t h77 hg75) (gvx rfl hg75) rfl)) ?_
    obtain ⟨x80, h81, q82⟩ := ob q78; clear q78
    refine t_rdg rfl rfl rfl rfl (gv_f _) (fun hg79 => (rd_index tS22 (gvx rfl hg79) (gvx rfl hg79) (hm61.sl 0 rfl) (gO_t h81 hg79))) ?_
    refine t_rdg rfl rfl rfl rfl (gv_f _) (fun hg83 => (rd_ld1 tO3 (gvx rfl hg83) ((hm61.sl 0 rfl).cells (gO_t h81 hg83)) (off := 0) rfl)) ?_
    refine t_rdg rfl rfl rfl rfl (gv_f _) (fun hg84 => (rd_move rfl)) ?_
    refine t_rdg rfl rfl rfl rfl (gv_f _) (fun hg85 => (rd_neq (gvx rfl hg85) (gvx rfl hg85))) ?_
    refine t_rd rfl (rd_or rfl (fun hc86 => (gvx rfl (bnotIt hc86)))) ?_
    refine rwt_nil ?_
    refine qn_then ?_
    obtain ⟨hb87, q88⟩ | ⟨hb87, q88⟩ := oi q82 <;> clear q82
    · refine cw_t rfl hb87 ?_
      refine cw_seq ?_
      refine cw_region ?_
      refine t_rd rfl (rd_assign rfl) ?_
      refine rwt_nil ?_
      refine qn_then ?_
      refine cw_ret ?_
      refine qr_then ?_
      obtain rfl := os q88
      exact ret1 rfl rfl ⟨rfl, (hm61.pick [] (by decide) rfl)⟩
    · refine cw_f rfl hb87 ?_
      refine cw_skip ?_
      refine qn_then ?_
      refine cw_seq ?_
      refine cw_region ?_
      refine t_rd rfl (rd_assign rfl) ?_
      refine rwt_nil ?_
      refine qn_then ?_
      refine cw_seq ?_
      refine cw_seq ?_
      refine cw_region ?_
      refine t_rd rfl (rd_assign rfl) ?_
      refine rwt_nil ?_
      refine qn_then ?_
      refine cw_block ?_
      obtain ⟨r258, hit259, q260⟩ := ob q88; clear q88
      refine cw_loop2 (I := fun q envq wq => Sub [(1, (Value.int .i64 r42)), (6, v11), (7, (Value.int .i64 r19.2)), (10, v51), (12, v58), (14, (Value.int .i64 q.1)), (15, (Value.int .i64 q.2))] envq ∧ Mem w No [ownL 3 v58 (r55.1 : List Int), ownL 3 v51 (r48.1 : List Int), ownL 26 v11 (zs12 : List Hdr), rowsC 32 zs12 (r8.2 : List (List T_Span)) none] wq) (X := fun eq envq wq => (∃ p261, r258 = (Sum.inl p261) ∧ eq = .ret ∧ retQ Try.prog 144 Try.f4 (fun u w' => u = (Value.bool p261) ∧ Mem w No [] w') .ret envq wq) ∨ (∃ p262, r258 = (Sum.inr p262) ∧ eq = .exit 0 ∧ Sub [(1, (Value.int .i64 r42)), (10, v51), (14, (Value.int .i64 p262))] envq ∧ Mem w No [ownL 3 v51 (r48.1 : List Int)] wq)) hit259 ⟨(by repeat (first | exact Sub.nil _ | refine Sub.cons rfl ?_)), (hm61.pick [0, 1, 3, 4] (by decide) rfl)⟩ ?_ ?_
      · rintro ⟨i250, i251⟩ x253 env254 w255 hf256 hr257 ⟨hs_, hm_⟩
        have hs_ : Sub [(1, (Value.int .i64 r42)), (6, v11), (7, (Value.int .i64 r19.2)), (10, v51), (12, v58), (14, (Value.int .i64 i250)), (15, (Value.int .i64 i251))] env254 := hs_
        have hm263 : Mem w No [ownL 3 v58 (r55.1 : List Int), ownL 3 v51 (r48.1 : List Int), ownL 26 v11 (zs12 : List Hdr), rowsC 32 zs12 (r8.2 : List (List T_Span)) none] w255 := hm_
        refine cw_sub hs_ ?_
        clear hs_ hm_ q260
        have h : law23_SeparationProves_l1 N r8 r19 r42 r55 i250 i251 = some x253 := hf256
        clear hf256
        refine cw_seq ?_
        refine cw_seq ?_
        refine cw_region ?_
        refine t_rd rfl (rd_move rfl) ?_
        refine t_rd rfl (rd_move rfl) ?_
        refine t_rd rfl (rd_lenS tS22 rfl (hm263.sl 0 rfl)) ?_
        refine t_rd rfl (rd_lss rfl rfl) ?_
        refine rwt_nil ?_
        refine qn_then ?_
        obtain ⟨hb264, q265⟩ | ⟨hb264, q265⟩ := oi h <;> clear h
        · refine cw_t rfl hb264 ?_
          refine cw_skip ?_
          refine qn_then ?_
          refine cw_seq ?_
          refine cw_block ?_
          refine cw_seq ?_
          refine cw_seq ?_
          obtain ⟨w267, he269⟩ : ∃ q, q = w255.drew := ⟨_, rfl⟩
          have hm268 := hm263.drew; rw [← he269] at hm268
          refine cw_region_s (fun q => q = w267) (cls [] []) mixed ?_
          rintro _ rfl; rw [← he269]
          refine s_rp (i := 0) rfl (by kernel_rfl) rfl (fun _ => (rd_move rfl)) ?_
          refine s_rp (i := 1) rfl (by kernel_rfl) rfl (fun _ => (rd_move rfl)) ?_
          obtain ⟨x270, h271, q272⟩ := ob q265; clear q265
          refine s_rp (i := 2) rfl (by kernel_rfl) rfl (fun _ => (rd_sub64 h271 rfl rfl)) ?_
          obtain ⟨x273, h274, q275⟩ := ob q272; clear q272
          refine s_rp (i := 3) rfl (by kernel_rfl) rfl (fun _ => (rd_index tS22 rfl rfl (hm268.sl 0 rfl) h274)) ?_
          refine s_rd (i := 4) rfl (by kernel_rfl) rfl (fun _ hS => by rw [hS]; exact (rd_ld1 tO3 rfl ((hm268.sl 0 rfl).cells h274) (off := 0) rfl)) rfl ?_
          refine s_rp (i := 5) rfl (by kernel_rfl) rfl (fun _ => (rd_lss rfl rfl)) ?_
          refine s_rp (i := 6) rfl (by kernel_rfl) rfl (fun _ => (rd_move rfl)) ?_
          refine s_rpg (i := 7) rfl (by kernel_rfl) rfl rfl rfl rfl (gv_f _) (fun hg276 _ => (rd_move rfl)) ?_
          refine s_rpg (i := 8) rfl (by kernel_rfl) rfl rfl rfl rfl (gv_f _) (fun hg277 _ => (rd_move rfl)) ?_
          obtain ⟨x279, h280, q281⟩ := ob q275; clear q275
          refine s_rpg (i := 9) rfl (by kernel_rfl) rfl rfl rfl rfl (gv_f _) (fun hg278 _ => (rd_sub64 (gO_t h280 hg278) (gvx rfl hg278) rfl)) ?_
          obtain ⟨x283, h284, q285⟩ := ob q281; clear q281
          refine s_rpg (i := 10) rfl (by kernel_rfl) rfl rfl rfl rfl (gv_f _) (fun hg282 _ => (rd_index tS22 (gvx rfl hg282) (gvx rfl hg282) (hm268.sl 0 rfl) (gO_t h284 hg282))) ?_
          refine s_rdg (i := 11) rfl (by kernel_rfl) rfl rfl rfl rfl (gv_f _) (fun hg286 => (fun _ hS => by rw [hS]; exact (rd_ld1 tO3 (gvx rfl hg286) ((hm268.sl 0 rfl).cells (gO_t h284 hg286)) (off := 0) rfl))) rfl ?_
          refine s_rpg (i := 12) rfl (by kernel_rfl) rfl rfl rfl rfl (gv_f _) (fun hg287 _ => (rd_move rfl)) ?_
          refine s_rpg (i := 13) rfl (by kernel_rfl) rfl rfl rfl rfl (gv_f _) (fun hg288 _ => (rd_move rfl)) ?_
          obtain ⟨x290, h291, q292⟩ := ob q285; clear q285
          refine s_rpg (i := 14) rfl (by kernel_rfl) rfl rfl rfl rfl (gv_f _) (fun hg289 _ => (rd_index tS22 (gvx rfl hg289) (gvx rfl hg289) (hm268.sl 0 rfl) (gO_t h291 hg289))) ?_
          refine s_rdg (i := 15) rfl (by kernel_rfl) rfl rfl rfl rfl (gv_f _) (fun hg293 => (fun _ hS => by rw [hS]; exact (rd_ld1 tO3 (gvx rfl hg293) ((hm268.sl 0 rfl).cells (gO_t h291 hg293)) (off := 0) rfl))) rfl ?_
          refine s_rpg (i := 16) rfl (by kernel_rfl) rfl rfl rfl rfl (gv_f _) (fun hg294 _ => (rd_geq (gvx rfl hg294) (gvx rfl hg294))) ?_
          refine s_rp (i := 17) rfl (by kernel_rfl) rfl (fun _ => (rd_or rfl (fun hc295 => (gvx rfl (bnotIt hc295))))) ?_
          refine s_rp (i := 18) rfl (by kernel_rfl) rfl (fun _ => (rd_move rfl)) ?_
          refine s_rpg (i := 19) rfl (by kernel_rfl) rfl rfl rfl rfl (gv_f _) (fun hg296 _ => (rd_move rfl)) ?_
          refine s_rpg (i := 20) rfl (by kernel_rfl) rfl rfl rfl rfl (gv_f _) (fun hg297 _ => (rd_move rfl)) ?_
          obtain ⟨x299, h300, q301⟩ := ob q292; clear q292
          refine s_rpg (i := 21) rfl (by kernel_rfl) rfl rfl rfl rfl (gv_f _) (fun hg298 _ => (rd_index tS22 (gvx rfl hg298) (gvx rfl hg298) (hm268.sl 0 rfl) (gO_t h300 hg298))) ?_
          refine s_rdg (i := 22) rfl (by kernel_rfl) rfl rfl rfl rfl (gv_f _) (fun hg302 => (fun _ hS => by rw [hS]; exact (rd_ld1 tO3 (gvx rfl hg302) ((hm268.sl 0 rfl).cells (gO_t h300 hg302)) (off := 0) rfl))) rfl ?_
          refine s_rpg (i := 23) rfl (by kernel_rfl) rfl rfl rfl rfl (gv_f _) (fun hg303 _ => (rd_move rfl)) ?_
          refine s_rpg (i := 24) rfl (by kernel_rfl) rfl rfl rfl rfl (gv_f _) (fun hg304 _ => (rd_gtr (gvx rfl hg304) (gvx rfl hg304))) ?_
          refine s_rp (i := 25) rfl (by kernel_rfl) rfl (fun _ => (rd_or rfl (fun hc305 => (gvx rfl (bnotIt hc305))))) ?_
          refine s_nil (by kernel_rfl) ?_
          refine qn_then ?_
          obtain ⟨hb306, q307⟩ | ⟨hb306, q307⟩ := oi q301 <;> clear q301
          · refine cw_t rfl hb306 ?_
            refine cw_seq ?_
            refine cw_region ?_
            refine t_rd rfl (rd_assign rfl) ?_
            refine rwt_nil ?_
            refine qn_then ?_
            refine cw_ret ?_
            refine qr_then (qr_block (qr_then (qr_then ?_)))
            obtain rfl := hr257 _ (os q307)
            refine .inl (⟨_, rfl, ⟨rfl, ?_⟩⟩)
            exact ret1 rfl rfl ⟨rfl, (hm268.pick [] (by decide) rfl)⟩
          · refine cw_f rfl hb306 ?_
            refine cw_skip ?_
            refine qn_then ?_
            refine cw_seq ?_
            obtain ⟨w309, he311⟩ : ∃ q, q = w267.drew := ⟨_, rfl⟩
            have hm310 := hm268.drew; rw [← he311] at hm310
            refine cw_region_s (fun q => q = w309) (cls [] [16]) mixed ?_
            rintro _ rfl; rw [← he311]
            refine s_rp (i := 0) rfl (by kernel_rfl) rfl (fun _ => (rd_move rfl)) ?_
            refine s_rp (i := 1) rfl (by kernel_rfl) rfl (fun _ => (rd_move rfl)) ?_
            refine s_rp (i := 2) rfl (by kernel_rfl) rfl (fun _ => (rd_move rfl)) ?_
            obtain ⟨x312, h313, q314⟩ := ob q307; clear q307
            refine s_rp (i := 3) rfl (by kernel_rfl) rfl (fun _ => (rd_sub64 h313 rfl rfl)) ?_
            obtain ⟨x315, h316, q317⟩ := ob q314; clear q314
            refine s_rp (i := 4) rfl (by kernel_rfl) rfl (fun _ => (rd_index tS22 rfl rfl (hm310.sl 0 rfl) h316)) ?_
            refine s_rd (i := 5) rfl (by kernel_rfl) rfl (fun _ hS => by rw [hS]; exact (rd_ld1 tO3 rfl ((hm310.sl 0 rfl).cells h316) (off := 0) rfl)) rfl ?_
            obtain ⟨x318, h319, q320⟩ := ob q317; clear q317
            refine s_rp (i := 6) rfl (by kernel_rfl) rfl (fun _ => (rd_index tS35 rfl rfl ((Nl.mk (hm310.sl_call 2 rfl) (hm310.rows_call 3 rfl)).sl) h319)) ?_
            obtain ⟨zd321, hz322⟩ := (Nl.mk (hm310.sl_call 2 rfl) (hm310.rows_call 3 rfl)).row h319
            refine s_rd (i := 7) rfl (by kernel_rfl) rfl (fun _ hS => by rw [hS]; exact (rd_ld1 tO26 rfl ((Nl.mk (hm310.sl_call 2 rfl) (hm310.rows_call 3 rfl)).cells hz322) (off := 0) rfl)) rfl ?_
            refine s_rp (i := 8) rfl (by kernel_rfl) rfl (fun _ => (rd_move rfl)) ?_
            refine s_rp (i := 9) rfl (by kernel_rfl) rfl (fun _ => (rd_move rfl)) ?_
            refine s_rp (i := 10) rfl (by kernel_rfl) rfl (fun _ => (rd_move rfl)) ?_
            obtain ⟨x323, h324, q325⟩ := ob q320; clear q320
            refine s_rp (i := 11) rfl (by kernel_rfl) rfl (fun _ => (rd_index tS22 rfl rfl (hm310.sl 0 rfl) h324)) ?_
            refine s_rd (i := 12) rfl (by kernel_rfl) rfl (fun _ hS => by rw [hS]; exact (rd_ld1 tO3 rfl ((hm310.sl 0 rfl).cells h324) (off := 0) rfl)) rfl ?_
            obtain ⟨x326, h327, q328⟩ := ob q325; clear q325
            refine s_rp (i := 13) rfl (by kernel_rfl) rfl (fun _ => (rd_index tS35 rfl rfl ((Nl.mk (hm310.sl_call 2 rfl) (hm310.rows_call 3 rfl)).sl) h327)) ?_
            obtain ⟨zd329, hz330⟩ := (Nl.mk (hm310.sl_call 2 rfl) (hm310.rows_call 3 rfl)).row h327
            refine s_rd (i := 14) rfl (by kernel_rfl) rfl (fun _ hS => by rw [hS]; exact (rd_ld1 tO26 rfl ((Nl.mk (hm310.sl_call 2 rfl) (hm310.rows_call 3 rfl)).cells hz330) (off := 0) rfl)) rfl ?_
            refine s_rp (i := 15) rfl (by kernel_rfl) rfl (fun _ => (rd_move rfl)) ?_
            obtain ⟨r331, h332, q333⟩ := ob q328; clear q328
            refine s_ef (i := 16) rfl (by kernel_rfl) rfl (ef_call tf18 rfl (r23_Gap_ok h332 ((Nl.mk (hm310.sl_call 2 rfl) (hm310.rows_call 3 rfl)).get hz322 h319) ((Nl.mk (hm310.sl_call 2 rfl) (hm310.rows_call 3 rfl)).get hz330 h327))) (by decide) (fun _ _ _ q => absurd q (by decide)) ?_
            rintro _ w335 ⟨e_, hm334⟩
            obtain rfl := e_.symm
            have hm336 := hm310.call hm334
            refine s_rp (i := 17) rfl (by kernel_rfl) rfl (fun _ => (rd_move rfl)) ?_
            refine s_rp (i := 18) rfl (by kernel_rfl) rfl (fun _ => (rd_extract rfl rfl)) ?_
            refine s_rp (i := 19) rfl (by kernel_rfl) rfl (fun _ => (rd_extract rfl rfl)) ?_
            refine s_rp (i := 20) rfl (by kernel_rfl) rfl (fun _ => (rd_assign rfl)) ?_
            refine s_rp (i := 21) rfl (by kernel_rfl) rfl (fun _ => (rd_assign rfl)) ?_
            refine s_nil (by kernel_rfl) ?_
            refine qn_then ?_
            refine cw_region ?_
            refine t_rd rfl (rd_move rfl) ?_
            refine t_rd rfl (rd_move rfl) ?_
            obtain ⟨x337, h338, q339⟩ := ob q333; clear q333
            refine t_rd rfl (rd_add64 h338 rfl rfl) ?_
            refine t_rd rfl (rd_assign rfl) ?_
            refine rwt_nil ?_
            refine qn_block (qn_then ?_)
            refine cw_region ?_
            refine t_rd rfl (rd_move rfl) ?_
            obtain ⟨x340, h341, q342⟩ := ob q339; clear q339
            refine t_rd rfl (rd_add64 h341 rfl rfl) ?_
            refine t_rd rfl (rd_assign rfl) ?_
            refine rwt_nil ?_
            refine qn_then ?_
            refine ⟨_, (os q342), (by repeat (first | exact Sub.nil _ | refine Sub.cons rfl ?_)), (hm336.pick [0, 1, 2, 3] (by decide) rfl)⟩
        · refine cw_f rfl hb264 ?_
          refine cw_exit ?_
          refine qx_then (qx_then ?_)
          obtain rfl := hr257 _ (os q265)
          exact .inr (⟨_, rfl, ⟨rfl, (by repeat (first | exact Sub.nil _ | refine Sub.cons rfl ?_)), (hm263.pick [1] (by decide) rfl)⟩⟩)
      · skip
        intro e env343 w344 hX345
        rcases hX345 with hX345 | hX345
        · obtain ⟨p347, rfl, hX345⟩ := hX345
          obtain ⟨rfl, hq349⟩ := hX345
          exact qr_block (qr_then ((by have e := os q260; subst e; exact hq349)))
        · obtain ⟨p350, rfl, hX345⟩ := hX345
          obtain ⟨rfl, hs351, hm352⟩ := hX345
          refine qx_same (qn_then ?_)
          refine cw_sub hs351 ?_
          refine cw_seq ?_
          refine cw_region ?_
          refine t_rd rfl (rd_move rfl) ?_
          refine t_rd rfl (rd_move rfl) ?_
          refine t_rd rfl (rd_move rfl) ?_
          obtain ⟨x353, h354, q355⟩ := ob q260; clear q260
          refine t_rd rfl (rd_index tS22 rfl rfl (hm352.sl 0 rfl) h354) ?_
          refine t_rd rfl (rd_ld1 tO3 rfl ((hm352.sl 0 rfl).cells h354) (off := 0) rfl) ?_
          refine t_rd rfl (rd_eql rfl rfl) ?_
          refine t_rd rfl (rd_move rfl) ?_
          obtain ⟨r357, h358, q359⟩ := ob q355; clear q355
          refine t_efg rfl rfl rfl rfl (R := (fun v w' => v = gV (decide (p350 = x353)) (Value.bool r357) ∧ Mem w344 No [] w')) (gv_t _) (fun hg356 => (ef_call tf13 rfl (law23_sane_ok (gO_t h358 hg356))).mono (by rintro _ _ ⟨rfl, q⟩; exact ⟨(gV_t hg356).symm, q⟩)) (fun q => ⟨(gV_f q).symm, Mem.nil _⟩) ?_
          rintro _ w361 ⟨rfl, hm360⟩
          have hm362 := hm352.call hm360
          refine t_rd rfl (rd_and rfl (fun hc363 => (gvx rfl hc363))) ?_
          refine t_rd rfl (rd_assign rfl) ?_
          refine rwt_nil ?_
          refine qn_then ?_
          refine cw_ret ?_
          obtain rfl := os q359
          exact ret1 rfl rfl ⟨rfl, (hm362.pick [] (by decide) rfl)⟩

theorem yardgen_Within_ok {N : Nat} {a0_l : List Int} {a0_n : Int} {a1 : List T_Span} {res : Int × List T_Span} (h : yardgen_Within N a0_l a0_n a1 = some res) {w : World} {v0_l : Value} {g0 : Nat} {v1 : Value} (hv0_l : Sl (Old w (fun k => k = g0)) w v0_l a0_l) (hk0 : (blk g0 52 [v0_l, (Value.int .i64 a0_n)]).φ w) (hv1 : Sl (Old w (fun k => k = g0)) w v1 a1) :
    CallsR Try.prog 19 [(Value.pointer (some ⟨g0, 0, none⟩)), v1] w (fun u w' => ∃ (y0 : Value), u = y0 ∧ Mem w (fun k => k = g0) [blk g0 52 [v0_l, (Value.int .i64 res.1)], ownL 32 y0 (res.2 : List T_Span)] w') := by
  unfold yardgen_Within at h
  refine fn_ok Try.func19 rfl rfl rfl ?_
  have hm0 := Mem.one hk0
  refine cw_seq ?_
  refine cw_region ?_
  refine t_rd rfl (rd_assign rfl) ?_
  refine rwt_nil ?_
  refine qn_then ?_
  refine cw_seq ?_
  refine cw_region ?_
  refine t_rd rfl (rd_assign rfl) ?_
  refine rwt_nil ?_
  refine qn_then ?_
  refine cw_seq ?_
  refine cw_seq ?_
  refine cw_region ?_
  refine t_rd rfl (rd_assign rfl) ?_
  refine rwt_nil ?_
  refine qn_then ?_
  refine cw_block ?_
  have hm492 := hm0.addNil (α := T_Span) 32
  obtain ⟨r696, hit697, q698⟩ := ob h; clear h
  refine cw_loop2 (I := fun q envq wq => ∃ (v689 : Value), Sub [(0, (Value.pointer (some ⟨g0, 0, none⟩))), (1, v1), (5, v689), (6, (Value.int .i64 q.1))] envq ∧ Mem w (fun k => k = g0) [ownL 32 v689 (q.2.2 : List T_Span), blk g0 52 [v0_l, (Value.int .i64 q.2.1)]] wq) (X := fun eq envq wq => eq = .exit 0 ∧ ∃ (v685 : Value), Sub [(5, v685)] envq ∧ Mem w (fun k => k = g0) [ownL 32 v685 (r696.2 : List T_Span), blk g0 52 [v0_l, (Value.int .i64 r696.1)]] wq) hit697 ⟨(Value.slice none 0 0), (by repeat (first | exact Sub.nil _ | refine Sub.cons rfl ?_)), (hm492.pick [0, 1] (by decide) rfl)⟩ ?_ ?_
  · rintro ⟨i686, i687, l688⟩ x691 env692 w693 hf694 hr695 ⟨v689, hs_, hm_⟩
    have hs_ : Sub [(0, (Value.pointer (some ⟨g0, 0, none⟩))), (1, v1), (5, v689), (6, (Value.int .i64 i686))] env692 := hs_
    have hm699 : Mem w (fun k => k = g0) [ownL 32 v689 (l688 : List T_Span), blk g0 52 [v0_l, (Value.int .i64 i687)]] w693 := hm_
    refine cw_sub hs_ ?_
    clear hs_ hm_ q698
    have h : yardgen_Within_l1 N a0_l a1 i686 i687 l688 = some x691 := hf694
    clear hf694
    refine cw_seq ?_
    refine cw_seq ?_
    refine cw_region ?_
    refine t_rd rfl (rd_move rfl) ?_
    refine t_rd rfl (rd_move rfl) ?_
    refine t_rd rfl (rd_lenS tS26 rfl (hv1.of_old hm699)) ?_
    refine t_rd rfl (rd_lss rfl rfl) ?_
    refine rwt_nil ?_
    refine qn_then ?_
    obtain ⟨hb700, q701⟩ | ⟨hb700, q701⟩ := oi h <;> clear h
    · refine cw_t rfl hb700 ?_
      refine cw_skip ?_
      refine qn_then ?_
      refine cw_seq ?_
      refine cw_block ?_
      refine cw_seq ?_
      refine cw_region ?_
      refine t_rd rfl (rd_move rfl) ?_
      refine t_rd rfl (rd_move rfl) ?_
      obtain ⟨x702, h703, q704⟩ := ob q701; clear q701
      refine t_rd rfl (rd_index tS26 rfl rfl (hv1.of_old hm699) h703) ?_
      refine t_rd rfl (rd_ld tA32 rfl ((hv1.of_old hm699).cells h703) rfl) ?_
      refine t_ef rfl (ef_alloc hm699 tZ32 rfl) ?_
      rintro _ w707 ⟨g705, rfl, hm706⟩
      refine t_ef0 (ef_stw (k := 0) hm706 tA32 rfl rfl (oc_cons rfl (oc_cons rfl (oc_cons rfl (oc_cons rfl oc_nil)))) rfl rfl rfl) ?_
      intro _ w709 hm708
      refine rwt_nil ?_
      refine qn_then ?_
      refine cw_seq ?_
      obtain ⟨w711, he713⟩ : ∃ q, q = w709.drew := ⟨_, rfl⟩
      have hm712 := hm708.drew; rw [← he713] at hm712
      refine cw_region_s (fun q => (blk g705 32 [(Value.int .i64 x702.Element), (Value.int .i64 x702.Side), (Value.int .i64 x702.From), (Value.int .i64 x702.To)]).φ q) (cls [8] [11]) mixed ?_
      rintro _ rfl; rw [← he713]
      refine s_rp (i := 0) rfl (by kernel_rfl) rfl (fun _ => (rd_fld tF32_2 rfl)) ?_
      refine s_rd (i := 1) rfl (by kernel_rfl) rfl (fun w710 hS => (rd_ld1 tO3 rfl (cells_blk hS) (off := 2) rfl)) (hm712.get (k := 0) rfl) ?_
      refine s_rp (i := 2) rfl (by kernel_rfl) rfl (fun _ => (rd_move rfl)) ?_
      refine s_rp (i := 3) rfl (by kernel_rfl) rfl (fun _ => (rd_fld tF32_3 rfl)) ?_
      refine s_rd (i := 4) rfl (by kernel_rfl) rfl (fun w710 hS => (rd_ld1 tO3 rfl (cells_blk hS) (off := 3) rfl)) (hm712.get (k := 0) rfl) ?_
      refine s_rp (i := 5) rfl (by kernel_rfl) rfl (fun _ => (rd_fld tF32_2 rfl)) ?_
      refine s_rd (i := 6) rfl (by kernel_rfl) rfl (fun w710 hS => (rd_ld1 tO3 rfl (cells_blk hS) (off := 2) rfl)) (hm712.get (k := 0) rfl) ?_
      obtain ⟨x728, h729, q730⟩ := ob q704; clear q704
      refine s_rp (i := 7) rfl (by kernel_rfl) rfl (fun _ => (rd_sub64 h729 rfl rfl)) ?_
      obtain ⟨r731, h732, q733⟩ := ob q730; clear q730
      refine s_ef (i := 8) rfl (by kernel_rfl) rfl (ef_call tf23 rfl (Maker_Next_ok h732 (hv0_l.to_callT (k := 2) hm712 rfl) (hm712.get (k := 2) rfl))) (by decide) ?_ ?_
      · rintro _ w735 ⟨e_, hm734⟩
        obtain rfl := e_.symm
        have hm736 := hm712.callT (k := 2) rfl (fun _ h => h) hm734 (fun _ => Iff.rfl)
        intro _
        exact (hm736.get (k := 0) rfl)
      rintro _ w735 ⟨e_, hm734⟩
      obtain rfl := e_.symm
      have hm736 := hm712.callT (k := 2) rfl (fun _ h => h) hm734 (fun _ => Iff.rfl)
      obtain ⟨x737, h738, q739⟩ := ob q733; clear q733
      refine s_rp (i := 9) rfl (by kernel_rfl) rfl (fun _ => (rd_add64 h738 rfl rfl)) ?_
      refine s_rp (i := 10) rfl (by kernel_rfl) rfl (fun _ => (rd_fld tF32_2 rfl)) ?_
      refine s_ef0 (i := 11) rfl (by kernel_rfl) (ef_st1 (k := 0) (off := 2) hm736 tO3 rfl rfl rfl rfl rfl rfl) (by decide) (fun _ _ _ q => absurd q (by decide)) ?_
      intro _ w741 hm740
      refine s_nil (by kernel_rfl) ?_
      refine qn_then ?_
      refine cw_seq ?_
      obtain ⟨w743, he745⟩ : ∃ q, q = w741.drew := ⟨_, rfl⟩
      have hm744 := hm740.drew; rw [← he745] at hm744
      refine cw_region_s (fun q => (blk g705 32 [(Value.int .i64 x702.Element), (Value.int .i64 x702.Side), (Value.int .i64 x737), (Value.int .i64 x702.To)]).φ q) (cls [9] [12]) mixed ?_
      rintro _ rfl; rw [← he745]
      refine s_rp (i := 0) rfl (by kernel_rfl) rfl (fun _ => (rd_fld tF32_2 rfl)) ?_
      refine s_rd (i := 1) rfl (by kernel_rfl) rfl (fun w742 hS => (rd_ld1 tO3 rfl (cells_blk hS) (off := 2) rfl)) (hm744.get (k := 0) rfl) ?_
      obtain ⟨x763, h764, q765⟩ := ob q739; clear q739
      refine s_rp (i := 2) rfl (by kernel_rfl) rfl (fun _ => (rd_add64 h764 rfl rfl)) ?_
      refine s_rp (i := 3) rfl (by kernel_rfl) rfl (fun _ => (rd_move rfl)) ?_
      refine s_rp (i := 4) rfl (by kernel_rfl) rfl (fun _ => (rd_fld tF32_3 rfl)) ?_
      refine s_rd (i := 5) rfl (by kernel_rfl) rfl (fun w742 hS => (rd_ld1 tO3 rfl (cells_blk hS) (off := 3) rfl)) (hm744.get (k := 0) rfl) ?_
      refine s_rp (i := 6) rfl (by kernel_rfl) rfl (fun _ => (rd_fld tF32_2 rfl)) ?_
      refine s_rd (i := 7) rfl (by kernel_rfl) rfl (fun w742 hS => (rd_ld1 tO3 rfl (cells_blk hS) (off := 2) rfl)) (hm744.get (k := 0) rfl) ?_
      obtain ⟨x766, h767, q768⟩ := ob q765; clear q765
      refine s_rp (i := 8) rfl (by kernel_rfl) rfl (fun _ => (rd_sub64 h767 rfl rfl)) ?_
      obtain ⟨r769, h770, q771⟩ := ob q768; clear q768
      refine s_ef (i := 9) rfl (by kernel_rfl) rfl (ef_call tf23 rfl (Maker_Next_ok h770 (hv0_l.to_callT (k := 2) hm744 rfl) (hm744.get (k := 2) rfl))) (by decide) ?_ ?_
      · rintro _ w773 ⟨e_, hm772⟩
        obtain rfl := e_.symm
        have hm774 := hm744.callT (k := 2) rfl (fun _ h => h) hm772 (fun _ => Iff.rfl)
        intro _
        exact (hm774.get (k := 0) rfl)
      rintro _ w773 ⟨e_, hm772⟩
      obtain rfl := e_.symm
      have hm774 := hm744.callT (k := 2) rfl (fun _ h => h) hm772 (fun _ => Iff.rfl)
      obtain ⟨x775, h776, q777⟩ := ob q771; clear q771
      refine s_rp (i := 10) rfl (by kernel_rfl) rfl (fun _ => (rd_add64 h776 rfl rfl)) ?_
      refine s_rp (i := 11) rfl (by kernel_rfl) rfl (fun _ => (rd_fld tF32_3 rfl)) ?_
      refine s_ef0 (i := 12) rfl (by kernel_rfl) (ef_st1 (k := 0) (off := 3) hm774 tO3 rfl rfl rfl rfl rfl rfl) (by decide) (fun _ _ _ q => absurd q (by decide)) ?_
      intro _ w779 hm778
      refine s_nil (by kernel_rfl) ?_
      refine qn_then ?_
      refine cw_region ?_
      refine t_rd rfl (rd_move rfl) ?_
      refine t_rd rfl (rd_ld tA32 rfl (hm778.blk 0 rfl) rfl) ?_
      refine t_ef rfl (ef_bslice (l := ([(T_Span.mk x702.Element x702.Side x737 x775)] : List T_Span)) hm778 tS26 rfl (cs := #[(Value.int .i64 x702.Element), (Value.int .i64 x702.Side), (Value.int .i64 x737), (Value.int .i64 x775)]) (by unfold bsl; kernel_rfl) rfl rfl) ?_
      intro v780 w782 hm781
      obtain ⟨l783, h784, q785⟩ := ob q777; clear q777
      refine t_ef rfl (ef_append (k := 2) hm781 tS26 tE32 rfl rfl rfl rfl (hm781.sl 0 rfl) h784) ?_
      intro v786 w788 hm787
      refine t_rd rfl (rd_assign rfl) ?_
      refine rwt_nil ?_
      refine qn_block (qn_then ?_)
      refine cw_region ?_
      refine t_rd rfl (rd_move rfl) ?_
      obtain ⟨x789, h790, q791⟩ := ob q785; clear q785
      refine t_rd rfl (rd_add64 h790 rfl rfl) ?_
      refine t_rd rfl (rd_assign rfl) ?_
      refine rwt_nil ?_
      refine qn_then ?_
      refine ⟨_, (os q791), v786, (by repeat (first | exact Sub.nil _ | refine Sub.cons rfl ?_)), (hm787.pick [2, 3] (by decide) rfl)⟩
    · refine cw_f rfl hb700 ?_
      refine cw_exit ?_
      refine qx_then (qx_then ?_)
      obtain rfl := hr695 _ (os q701)
      exact ⟨rfl, v689, (by repeat (first | exact Sub.nil _ | refine Sub.cons rfl ?_)), (hm699.pick [0, 1] (by decide) rfl)⟩
  · skip
    intro e env792 w793 hX794
    obtain ⟨rfl, v685, hs795, hm796⟩ := hX794
    refine qx_same (qn_then ?_)
    refine cw_sub hs795 ?_
    refine cw_seq ?_
    refine cw_region ?_
    refine t_rd rfl (rd_move rfl) ?_
    refine t_rd rfl (rd_assign rfl) ?_
    refine rwt_nil ?_
    refine qn_then ?_
    refine cw_ret ?_
    obtain rfl := os q698
    exact ret1 rfl rfl ⟨v685, rfl, (hm796.pick [1, 0] (by decide) rfl)⟩

theorem law23_SeparationKeeps_ok {N : Nat} {a0 : List Int} {res : Bool} (h : law23_SeparationKeeps N a0 = some res) {w : World} {v0 : Value} (hv0 : Sl (Old w No) w v0 a0) :
    CallsR Try.prog 5 [v0] w (fun u w' => u = (Value.bool res) ∧ Mem w No [] w') := by
  unfold law23_SeparationKeeps at h
  refine fn_ok Try.func5 rfl rfl rfl ?_
  have hm0 := Mem.nil w
  refine cw_seq ?_
  refine cw_region ?_
  refine t_rd rfl (rd_assign rfl) ?_
  refine rwt_nil ?_
  refine qn_then ?_
  refine cw_seq ?_
  refine cw_region ?_
  refine t_rd rfl (rd_move rfl) ?_
  obtain ⟨r1, h2, q3⟩ := ob h; clear h
  refine t_ef rfl (ef_call tf9 rfl (humpgen_New_ok h2 (hv0.to_call hm0))) ?_
  rintro _ w6 ⟨g4, e_, hm5⟩
  obtain rfl := e_.symm
  have hm7 := hm0.call hm5
  refine t_rd rfl (rd_assign rfl) ?_
  refine rwt_nil ?_
  refine qn_then ?_
  refine cw_seq ?_
  refine cw_region ?_
  refine t_rd rfl (rd_move rfl) ?_
  obtain ⟨r8, h9, q10⟩ := ob q3; clear q3
  refine t_ef rfl (ef_call tf14 rfl (yardgen_SpanLists_ok h9 (hv0.to_callT (k := 0) hm7 rfl) (hm7.get (k := 0) rfl))) ?_
  rintro _ w14 ⟨zs12, v11, e_, hm13⟩
  obtain rfl := e_.symm
  have hm15 := hm7.callT (k := 0) rfl (fun _ h => h) hm13 (fun _ => Iff.rfl)
  refine t_rd rfl (rd_assign rfl) ?_
  refine rwt_nil ?_
  refine qn_then ?_
  refine cw_seq ?_
  refine cw_region ?_
  refine t_rd rfl (rd_move rfl) ?_
  refine t_ef rfl (ef_bslice (l := ([0, 800, 2500] : List Int)) hm15 tS22 rfl (cs := #[(Value.int .i64 0), (Value.int .i64 800), (Value.int .i64 2500)]) (by unfold bsl; kernel_rfl) rfl rfl) ?_
  intro v16 w18 hm17
  obtain ⟨r19, h20, q21⟩ := ob q10; clear q10
  refine t_ef rfl (ef_call tf15 rfl (Maker_Pick_ok h20 (hv0.to_callT (k := 3) hm17 rfl) (hm17.get (k := 3) rfl) (hm17.sl_callT 0 3 rfl rfl (by decide)))) ?_
  rintro _ w23 ⟨e_, hm22⟩
  obtain rfl := e_.symm
  have hm24 := hm17.callT (k := 3) rfl (fun _ h => h) hm22 (fun _ => Iff.rfl)
  refine t_rd rfl (rd_assign rfl) ?_
  refine rwt_nil ?_
  refine qn_then ?_
  refine cw_seq ?_
  refine cw_region ?_
  refine t_rd rfl (rd_move rfl) ?_
  refine t_rd rfl (rd_move rfl) ?_
  obtain ⟨r25, h26, q27⟩ := ob q21; clear q21
  refine t_ef rfl (ef_call tf17 rfl (separation_Releases_ok h26 ((Nl.mk (hm24.sl_call 1 rfl) (hm24.rows_call 2 rfl)).sl))) ?_
  rintro _ w30 ⟨v28, e_, hm29⟩
  obtain rfl := e_.symm
  have hm31 := hm24.call hm29
  refine t_rd rfl (rd_move rfl) ?_
  refine t_rd rfl (rd_extract rfl rfl) ?_
  refine t_rd rfl (rd_extract rfl rfl) ?_
  refine t_rd rfl (rd_assign rfl) ?_
  refine t_rd rfl (rd_assign rfl) ?_
  refine rwt_nil ?_
  refine qn_then ?_
  refine cw_seq ?_
  refine cw_seq ?_
  refine cw_region ?_
  refine t_rd rfl (rd_move rfl) ?_
  refine t_rd rfl (rd_neq rfl rfl) ?_
  refine t_rd rfl (rd_move rfl) ?_
  refine t_rdg rfl rfl rfl rfl (gv_f _) (fun hg32 => (rd_move rfl)) ?_
  refine t_rdg rfl rfl rfl rfl (gv_f _) (fun hg33 => (rd_lenS tS22 (gvx rfl hg33) (hm31.sl 0 rfl))) ?_
  refine t_rdg rfl rfl rfl rfl (gv_f _) (fun hg34 => (rd_move rfl)) ?_
  refine t_rdg rfl rfl rfl rfl (gv_f _) (fun hg35 => (rd_lenS tS35 (gvx rfl hg35) ((Nl.mk (hm31.sl_call 2 rfl) (hm31.rows_call 3 rfl)).sl))) ?_
  refine t_rdg rfl rfl rfl rfl (gv_f _) (fun hg36 => (rd_neq (gvx rfl hg36) (gvx rfl hg36))) ?_
  refine t_rd rfl (rd_or rfl (fun hc37 => (gvx rfl (bnotIt hc37)))) ?_
  refine rwt_nil ?_
  refine qn_then ?_
  obtain ⟨hb38, q39⟩ | ⟨hb38, q39⟩ := oi q27 <;> clear q27
  · refine cw_t rfl hb38 ?_
    refine cw_seq ?_
    refine cw_region ?_
    refine t_rd rfl (rd_assign rfl) ?_
    refine rwt_nil ?_
    refine qn_then ?_
    refine cw_ret ?_
    refine qr_then ?_
    obtain rfl := os q39
    exact ret1 rfl rfl ⟨rfl, (hm31.pick [] (by decide) rfl)⟩
  · refine cw_f rfl hb38 ?_
    refine cw_skip ?_
    refine qn_then ?_
    refine cw_seq ?_
    refine cw_region ?_
    refine t_rd rfl (rd_assign rfl) ?_
    refine rwt_nil ?_
    refine qn_then ?_
    refine cw_seq ?_
    refine cw_seq ?_
    refine cw_region ?_
    refine t_rd rfl (rd_assign rfl) ?_
    refine rwt_nil ?_
    refine qn_then ?_
    refine cw_block ?_
    have hm74 := hm31.addNil (α := Hdr) 26
    have hm75 := hm74.rowsNil (α := T_Span) 32
    obtain ⟨r161, hit162, q163⟩ := ob q39; clear q39
    refine cw_loop2 (I := fun q envq wq => ∃ (v153 : Value) (zs154 : List Hdr), Sub [(3, (Value.pointer (some ⟨g4, 0, none⟩))), (4, v11), (5, (Value.int .i64 r19.2)), (6, v28), (8, v153), (9, (Value.int .i64 q.1))] envq ∧ Mem w No [rowsC 32 zs154 (q.2.2 : List (List T_Span)) none, ownL 26 v153 (zs154 : List Hdr), ownL 3 v28 (r25.1 : List Int), ownL 26 v11 (zs12 : List Hdr), rowsC 32 zs12 (r8.2 : List (List T_Span)) none, blk g4 52 [v0, (Value.int .i64 q.2.1)]] wq) (X := fun eq envq wq => eq = .exit 0 ∧ ∃ (v148 : Value) (zs149 : List Hdr), Sub [(4, v11), (5, (Value.int .i64 r19.2)), (6, v28), (8, v148)] envq ∧ Mem w No [rowsC 32 zs149 (r161 : List (List T_Span)) none, ownL 26 v148 (zs149 : List Hdr), ownL 3 v28 (r25.1 : List Int), ownL 26 v11 (zs12 : List Hdr), rowsC 32 zs12 (r8.2 : List (List T_Span)) none] wq) hit162 ⟨(Value.slice none 0 0), [], (by repeat (first | exact Sub.nil _ | refine Sub.cons rfl ?_)), (hm75.pick [0, 1, 2, 4, 5, 6] (by decide) rfl)⟩ ?_ ?_
    · rintro ⟨i150, i151, l152⟩ x156 env157 w158 hf159 hr160 ⟨v153, zs154, hs_, hm_⟩
      have hs_ : Sub [(3, (Value.pointer (some ⟨g4, 0, none⟩))), (4, v11), (5, (Value.int .i64 r19.2)), (6, v28), (8, v153), (9, (Value.int .i64 i150))] env157 := hs_
      have hm164 : Mem w No [rowsC 32 zs154 (l152 : List (List T_Span)) none, ownL 26 v153 (zs154 : List Hdr), ownL 3 v28 (r25.1 : List Int), ownL 26 v11 (zs12 : List Hdr), rowsC 32 zs12 (r8.2 : List (List T_Span)) none, blk g4 52 [v0, (Value.int .i64 i151)]] w158 := hm_
      refine cw_sub hs_ ?_
      clear hs_ hm_ q163
      have h : law23_SeparationKeeps_l1 N a0 r8 i150 i151 l152 = some x156 := hf159
      clear hf159
      refine cw_seq ?_
      refine cw_seq ?_
      refine cw_region ?_
      refine t_rd rfl (rd_move rfl) ?_
      refine t_rd rfl (rd_move rfl) ?_
      refine t_rd rfl (rd_lenS tS35 rfl ((Nl.mk (hm164.sl_call 3 rfl) (hm164.rows_call 4 rfl)).sl)) ?_
      refine t_rd rfl (rd_lss rfl rfl) ?_
      refine rwt_nil ?_
      refine qn_then ?_
      obtain ⟨hb165, q166⟩ | ⟨hb165, q166⟩ := oi h <;> clear h
      · refine cw_t rfl hb165 ?_
        refine cw_skip ?_
        refine qn_then ?_
        refine cw_seq ?_
        refine cw_block ?_
        refine cw_region ?_
        refine t_rd rfl (rd_move rfl) ?_
        refine t_rd rfl (rd_move rfl) ?_
        refine t_rd rfl (rd_move rfl) ?_
        refine t_rd rfl (rd_move rfl) ?_
        obtain ⟨x167, h168, q169⟩ := ob q166; clear q166
        refine t_rd rfl (rd_index tS35 rfl rfl ((Nl.mk (hm164.sl_call 3 rfl) (hm164.rows_call 4 rfl)).sl) h168) ?_
        obtain ⟨zd170, hz171⟩ := (Nl.mk (hm164.sl_call 3 rfl) (hm164.rows_call 4 rfl)).row h168
        refine t_rd rfl (rd_ld1 tO26 rfl ((Nl.mk (hm164.sl_call 3 rfl) (hm164.rows_call 4 rfl)).cells hz171) (off := 0) rfl) ?_
        obtain ⟨r172, h173, q174⟩ := ob q169; clear q169
        refine t_ef rfl (ef_call tf19 rfl (yardgen_Within_ok h173 (hv0.to_callT (k := 5) hm164 rfl) (hm164.get (k := 5) rfl) ((Nl.mk (hm164.sl_callT 3 5 rfl rfl (by decide)) (hm164.rows_callT 4 5 rfl rfl (by decide))).get hz171 h168))) ?_
        rintro _ w177 ⟨v175, e_, hm176⟩
        obtain rfl := e_.symm
        have hm178 := hm164.callT (k := 5) rfl (fun _ h => h) hm176 (fun _ => Iff.rfl)
        obtain ⟨zd179, ez180⟩ : ∃ z : Hdr, z.1 = v175 := ⟨⟨v175, sl_one (hm178.sl 0 rfl)⟩, rfl⟩
        refine t_ef rfl (ef_bslice (l := ([zd179] : List Hdr)) hm178 tS35 rfl (cs := #[v175]) (by obtain ⟨_, _, e⟩ : ∃ A c, v175 = Value.slice A (List.length r172.2) c := ((hm178.sl 0 rfl)).val; rw [e]; clear e; unfold bsl; kernel_rfl) (by show [zd179.1] = [v175]; rw [ez180]) rfl) ?_
        intro v181 w183 hm182
        obtain ⟨l184, h185, q186⟩ := ob q174; clear q174
        obtain ⟨ha187, he188⟩ := app_h h185 (hm182.get (k := 2) rfl).1 ((Nl.mk (hm182.sl_call 0 rfl) (Rows.cons (hm182.sl_call 1 rfl) ez180 Rows.nil))).rows.1
        refine t_ef rfl (ef_append (k := 3) hm182 tS35 tE26 rfl rfl rfl rfl ((Nl.mk (hm182.sl_call 0 rfl) (Rows.cons (hm182.sl_call 1 rfl) ez180 Rows.nil))).sp ha187) ?_
        intro v189 w191 hm190
        have hm192 := hm190.pick [2, 1, 0, 3, 4, 5, 6, 7] (L' := [rowsC 32 zs154 (l152 : List (List T_Span)) none, ownL 32 v175 (r172.2 : List T_Span), ownL 26 v181 ([zd179] : List Hdr), ownL 26 v189 ((zs154 ++ [zd179]) : List Hdr), ownL 3 v28 (r25.1 : List Int), ownL 26 v11 (zs12 : List Hdr), rowsC 32 zs12 (r8.2 : List (List T_Span)) none, blk g4 52 [v0, (Value.int .i64 r172.1)]]) (by decide) rfl
        have hm193 := hm192.absorb ez180 he188
        refine t_rd rfl (rd_assign rfl) ?_
        refine rwt_nil ?_
        refine qn_block (qn_then ?_)
        refine cw_region ?_
        refine t_rd rfl (rd_move rfl) ?_
        obtain ⟨x194, h195, q196⟩ := ob q186; clear q186
        refine t_rd rfl (rd_add64 h195 rfl rfl) ?_
        refine t_rd rfl (rd_assign rfl) ?_
        refine rwt_nil ?_
        refine qn_then ?_
        refine ⟨_, (os q196), v189, (zs154 ++ [zd179]), (by repeat (first | exact Sub.nil _ | refine Sub.cons rfl ?_)), (hm193.pick [0, 2, 3, 4, 5, 6] (by decide) rfl)⟩
      · refine cw_f rfl hb165 ?_
        refine cw_exit ?_
        refine qx_then (qx_then ?_)
        obtain rfl := hr160 _ (os q166)
        exact ⟨rfl, v153, zs154, (by repeat (first | exact Sub.nil _ | refine Sub.cons rfl ?_)), (hm164.pick [0, 1, 2, 3, 4] (by decide) rfl)⟩
    · skip
      intro e env197 w198 hX199
      obtain ⟨rfl, v148, zs149, hs200, hm201⟩ := hX199
      refine qx_same (qn_then ?_)
      refine cw_sub hs200 ?_
      refine cw_seq ?_
      refine cw_seq ?_
      refine cw_region ?_
      refine t_rd rfl (rd_assign rfl) ?_
      refine rwt_nil ?_
      refine qn_then ?_
      refine cw_block ?_
      obtain ⟨r3034, hit3035, q3036⟩ := ob q163; clear q163
      refine cw_loop2 (I := fun q envq wq => Sub [(4, v11), (5, (Value.int .i64 r19.2)), (6, v28), (8, v148), (10, (Value.int .i64 q))] envq ∧ Mem w No [rowsC 32 zs149 (r161 : List (List T_Span)) none, ownL 26 v148 (zs149 : List Hdr), ownL 3 v28 (r25.1 : List Int), ownL 26 v11 (zs12 : List Hdr), rowsC 32 zs12 (r8.2 : List (List T_Span)) none] wq) (X := fun eq envq wq => (∃ p3037, r3034 = (Sum.inl p3037) ∧ eq = .ret ∧ retQ Try.prog 114 Try.f5 (fun u w' => u = (Value.bool p3037) ∧ Mem w No [] w') .ret envq wq) ∨ (∃ p3038, r3034 = (Sum.inr p3038) ∧ eq = .exit 2 ∧ Sub [] envq ∧ Mem w No [] wq)) hit3035 ⟨(by repeat (first | exact Sub.nil _ | refine Sub.cons rfl ?_)), (hm201.pick [0, 1, 2, 3, 4] (by decide) rfl)⟩ ?_ ?_
      · rintro i3027 x3029 env3030 w3031 hf3032 hr3033 ⟨hs_, hm_⟩
        have hs_ : Sub [(4, v11), (5, (Value.int .i64 r19.2)), (6, v28), (8, v148), (10, (Value.int .i64 i3027))] env3030 := hs_
        have hm3039 : Mem w No [rowsC 32 zs149 (r161 : List (List T_Span)) none, ownL 26 v148 (zs149 : List Hdr), ownL 3 v28 (r25.1 : List Int), ownL 26 v11 (zs12 : List Hdr), rowsC 32 zs12 (r8.2 : List (List T_Span)) none] w3031 := hm_
        refine cw_sub hs_ ?_
        clear hs_ hm_ q3036
        have h : law23_SeparationKeeps_l10 N r8 r19 r25 r161 i3027 = some x3029 := hf3032
        clear hf3032
        refine cw_seq ?_
        refine cw_seq ?_
        refine cw_region ?_
        refine t_rd rfl (rd_move rfl) ?_
        refine t_rd rfl (rd_move rfl) ?_
        refine t_rd rfl (rd_lenS tS35 rfl ((Nl.mk (hm3039.sl_call 3 rfl) (hm3039.rows_call 4 rfl)).sl)) ?_
        refine t_rd rfl (rd_lss rfl rfl) ?_
        refine rwt_nil ?_
        refine qn_then ?_
        obtain ⟨hb3040, q3041⟩ | ⟨hb3040, q3041⟩ := oi h <;> clear h
        · refine cw_t rfl hb3040 ?_
          refine cw_skip ?_
          refine qn_then ?_
          refine cw_seq ?_
          refine cw_block ?_
          refine cw_seq ?_
          refine cw_region ?_
          refine t_rd rfl (rd_assign rfl) ?_
          refine rwt_nil ?_
          refine qn_then ?_
          refine cw_block ?_
          obtain ⟨r3972, hit3973, q3974⟩ := ob q3041; clear q3041
          refine cw_loop2 (I := fun q envq wq => Sub [(4, v11), (5, (Value.int .i64 r19.2)), (6, v28), (8, v148), (10, (Value.int .i64 i3027)), (11, (Value.int .i64 q))] envq ∧ Mem w No [rowsC 32 zs149 (r161 : List (List T_Span)) none, ownL 26 v148 (zs149 : List Hdr), ownL 3 v28 (r25.1 : List Int), ownL 26 v11 (zs12 : List Hdr), rowsC 32 zs12 (r8.2 : List (List T_Span)) none] wq) (X := fun eq envq wq => (∃ p3975, r3972 = (Sum.inl p3975) ∧ eq = .ret ∧ retQ Try.prog 114 Try.f5 (fun u w' => u = (Value.bool p3975) ∧ Mem w No [] w') .ret envq wq) ∨ (∃ p3976, r3972 = (Sum.inr p3976) ∧ eq = .exit 4 ∧ Sub [(4, v11), (5, (Value.int .i64 r19.2)), (6, v28), (8, v148), (10, (Value.int .i64 i3027))] envq ∧ Mem w No [rowsC 32 zs149 (r161 : List (List T_Span)) none, ownL 26 v148 (zs149 : List Hdr), ownL 3 v28 (r25.1 : List Int), ownL 26 v11 (zs12 : List Hdr), rowsC 32 zs12 (r8.2 : List (List T_Span)) none] wq)) hit3973 ⟨(by repeat (first | exact Sub.nil _ | refine Sub.cons rfl ?_)), (hm3039.pick [0, 1, 2, 3, 4] (by decide) rfl)⟩ ?_ ?_
          · rintro i3965 x3967 env3968 w3969 hf3970 hr3971 ⟨hs_, hm_⟩
            have hs_ : Sub [(4, v11), (5, (Value.int .i64 r19.2)), (6, v28), (8, v148), (10, (Value.int .i64 i3027)), (11, (Value.int .i64 i3965))] env3968 := hs_
            have hm3977 : Mem w No [rowsC 32 zs149 (r161 : List (List T_Span)) none, ownL 26 v148 (zs149 : List Hdr), ownL 3 v28 (r25.1 : List Int), ownL 26 v11 (zs12 : List Hdr), rowsC 32 zs12 (r8.2 : List (List T_Span)) none] w3969 := hm_
            refine cw_sub hs_ ?_
            clear hs_ hm_ q3974
            have h : law23_SeparationKeeps_l13 N r19 r25 r161 i3027 i3965 = some x3967 := hf3970
            clear hf3970
            refine cw_seq ?_
            refine cw_seq ?_
            refine cw_region ?_
            refine t_rd rfl (rd_move rfl) ?_
            refine t_rd rfl (rd_move rfl) ?_
            refine t_rd rfl (rd_lss rfl rfl) ?_
            refine rwt_nil ?_
            refine qn_then ?_
            obtain ⟨hb3978, q3979⟩ | ⟨hb3978, q3979⟩ := oi h <;> clear h
            · refine cw_t rfl hb3978 ?_
              refine cw_skip ?_
              refine qn_then ?_
              refine cw_seq ?_
              refine cw_block ?_
              refine cw_seq ?_
              refine cw_region ?_
              refine t_rd rfl (rd_assign rfl) ?_
              refine rwt_nil ?_
              refine qn_then ?_
              refine cw_block ?_
              obtain ⟨r4276, hit4277, q4278⟩ := ob q3979; clear q3979
              refine cw_loop2 (I := fun q envq wq => Sub [(4, v11), (5, (Value.int .i64 r19.2)), (6, v28), (8, v148), (10, (Value.int .i64 i3027)), (11, (Value.int .i64 i3965)), (12, (Value.int .i64 q))] envq ∧ Mem w No [rowsC 32 zs149 (r161 : List (List T_Span)) none, ownL 26 v148 (zs149 : List Hdr), ownL 3 v28 (r25.1 : List Int), ownL 26 v11 (zs12 : List Hdr), rowsC 32 zs12 (r8.2 : List (List T_Span)) none] wq) (X := fun eq envq wq => (∃ p4279, r4276 = (Sum.inl p4279) ∧ eq = .ret ∧ retQ Try.prog 114 Try.f5 (fun u w' => u = (Value.bool p4279) ∧ Mem w No [] w') .ret envq wq) ∨ (∃ p4280, r4276 = (Sum.inr p4280) ∧ eq = .exit 6 ∧ Sub [(4, v11), (5, (Value.int .i64 r19.2)), (6, v28), (8, v148), (10, (Value.int .i64 i3027)), (11, (Value.int .i64 i3965))] envq ∧ Mem w No [rowsC 32 zs149 (r161 : List (List T_Span)) none, ownL 26 v148 (zs149 : List Hdr), ownL 3 v28 (r25.1 : List Int), ownL 26 v11 (zs12 : List Hdr), rowsC 32 zs12 (r8.2 : List (List T_Span)) none] wq)) hit4277 ⟨(by repeat (first | exact Sub.nil _ | refine Sub.cons rfl ?_)), (hm3977.pick [0, 1, 2, 3, 4] (by decide) rfl)⟩ ?_ ?_
              · rintro i4269 x4271 env4272 w4273 hf4274 hr4275 ⟨hs_, hm_⟩
                have hs_ : Sub [(4, v11), (5, (Value.int .i64 r19.2)), (6, v28), (8, v148), (10, (Value.int .i64 i3027)), (11, (Value.int .i64 i3965)), (12, (Value.int .i64 i4269))] env4272 := hs_
                have hm4281 : Mem w No [rowsC 32 zs149 (r161 : List (List T_Span)) none, ownL 26 v148 (zs149 : List Hdr), ownL 3 v28 (r25.1 : List Int), ownL 26 v11 (zs12 : List Hdr), rowsC 32 zs12 (r8.2 : List (List T_Span)) none] w4273 := hm_
                refine cw_sub hs_ ?_
                clear hs_ hm_ q4278
                have h : law23_SeparationKeeps_l14 N r19 r25 r161 i3027 i3965 i4269 = some x4271 := hf4274
                clear hf4274
                refine cw_seq ?_
                refine cw_seq ?_
                refine cw_region ?_
                refine t_rd rfl (rd_move rfl) ?_
                refine t_rd rfl (rd_move rfl) ?_
                refine t_rd rfl (rd_move rfl) ?_
                obtain ⟨x4282, h4283, q4284⟩ := ob h; clear h
                refine t_rd rfl (rd_index tS35 rfl rfl ((Nl.mk (hm4281.sl_call 1 rfl) (hm4281.rows_call 0 rfl)).sl) h4283) ?_
                obtain ⟨zd4285, hz4286⟩ := (Nl.mk (hm4281.sl_call 1 rfl) (hm4281.rows_call 0 rfl)).row h4283
                refine t_rd rfl (rd_ld1 tO26 rfl ((Nl.mk (hm4281.sl_call 1 rfl) (hm4281.rows_call 0 rfl)).cells hz4286) (off := 0) rfl) ?_
                refine t_rd rfl (rd_lenS tS26 rfl ((Nl.mk (hm4281.sl_call 1 rfl) (hm4281.rows_call 0 rfl)).get hz4286 h4283)) ?_
                refine t_rd rfl (rd_lss rfl rfl) ?_
                refine rwt_nil ?_
                refine qn_then ?_
                obtain ⟨hb4287, q4288⟩ | ⟨hb4287, q4288⟩ := oi q4284 <;> clear q4284
                · refine cw_t rfl hb4287 ?_
                  refine cw_skip ?_
                  refine qn_then ?_
                  refine cw_seq ?_
                  refine cw_block ?_
                  refine cw_seq ?_
                  refine cw_region ?_
                  refine t_rd rfl (rd_move rfl) ?_
                  refine t_rd rfl (rd_move rfl) ?_
                  obtain ⟨x4289, h4290, q4291⟩ := ob q4288; clear q4288
                  refine t_rd rfl (rd_index tS35 rfl rfl ((Nl.mk (hm4281.sl_call 1 rfl) (hm4281.rows_call 0 rfl)).sl) h4290) ?_
                  obtain ⟨zd4292, hz4293⟩ := (Nl.mk (hm4281.sl_call 1 rfl) (hm4281.rows_call 0 rfl)).row h4290
                  refine t_rd rfl (rd_ld1 tO26 rfl ((Nl.mk (hm4281.sl_call 1 rfl) (hm4281.rows_call 0 rfl)).cells hz4293) (off := 0) rfl) ?_
                  refine t_rd rfl (rd_move rfl) ?_
                  obtain ⟨x4294, h4295, q4296⟩ := ob q4291; clear q4291
                  refine t_rd rfl (rd_index tS26 rfl rfl ((Nl.mk (hm4281.sl_call 1 rfl) (hm4281.rows_call 0 rfl)).get hz4293 h4290) h4295) ?_
                  refine t_rd rfl (rd_ld tA32 rfl (((Nl.mk (hm4281.sl_call 1 rfl) (hm4281.rows_call 0 rfl)).get hz4293 h4290).cells h4295) rfl) ?_
                  refine t_ef rfl (ef_alloc hm4281 tZ32 rfl) ?_
                  rintro _ w4299 ⟨g4297, rfl, hm4298⟩
                  refine t_ef0 (ef_stw (k := 0) hm4298 tA32 rfl rfl (oc_cons rfl (oc_cons rfl (oc_cons rfl (oc_cons rfl oc_nil)))) rfl rfl rfl) ?_
                  intro _ w4301 hm4300
                  refine rwt_nil ?_
                  refine qn_then ?_
                  refine cw_seq ?_
                  obtain ⟨w4303, he4305⟩ : ∃ q, q = w4301.drew := ⟨_, rfl⟩
                  have hm4304 := hm4300.drew; rw [← he4305] at hm4304
                  refine cw_region_s (fun q => q = w4303) (cls [] [6]) mixed ?_
                  rintro _ rfl; rw [← he4305]
                  refine s_rp (i := 0) rfl (by kernel_rfl) rfl (fun _ => (rd_move rfl)) ?_
                  refine s_rp (i := 1) rfl (by kernel_rfl) rfl (fun _ => (rd_move rfl)) ?_
                  obtain ⟨x4306, h4307, q4308⟩ := ob q4296; clear q4296
                  refine s_rp (i := 2) rfl (by kernel_rfl) rfl (fun _ => (rd_index tS35 rfl rfl ((Nl.mk (hm4304.sl_call 2 rfl) (hm4304.rows_call 1 rfl)).sl) h4307)) ?_
                  obtain ⟨zd4309, hz4310⟩ := (Nl.mk (hm4304.sl_call 2 rfl) (hm4304.rows_call 1 rfl)).row h4307
                  refine s_rd (i := 3) rfl (by kernel_rfl) rfl (fun _ hS => by rw [hS]; exact (rd_ld1 tO26 rfl ((Nl.mk (hm4304.sl_call 2 rfl) (hm4304.rows_call 1 rfl)).cells hz4310) (off := 0) rfl)) rfl ?_
                  refine s_rp (i := 4) rfl (by kernel_rfl) rfl (fun _ => (rd_fld tF32_0 rfl)) ?_
                  refine s_rd (i := 5) rfl (by kernel_rfl) rfl (fun _ hS => by rw [hS]; exact (rd_ld1 tO3 rfl (hm4304.blk 0 rfl) (off := 0) rfl)) rfl ?_
                  obtain ⟨r4311, h4312, q4313⟩ := ob q4308; clear q4308
                  refine s_ef (i := 6) rfl (by kernel_rfl) rfl (ef_call tf20 rfl (r23_Find_ok h4312 ((Nl.mk (hm4304.sl_call 2 rfl) (hm4304.rows_call 1 rfl)).get hz4310 h4307))) (by decide) (fun _ _ _ q => absurd q (by decide)) ?_
                  rintro _ w4315 ⟨e_, hm4314⟩
                  obtain rfl := e_.symm
                  have hm4316 := hm4304.call hm4314
                  refine s_rp (i := 7) rfl (by kernel_rfl) rfl (fun _ => (rd_assign rfl)) ?_
                  refine s_nil (by kernel_rfl) ?_
                  refine qn_then ?_
                  refine cw_seq ?_
                  obtain ⟨w4318, he4320⟩ : ∃ q, q = w4315.drew := ⟨_, rfl⟩
                  have hm4319 := hm4316.drew; rw [← he4320] at hm4319
                  refine cw_region_s (fun q => (ownL 3 v28 (r25.1 : List Int)).φ q ∧ (ownL 26 v148 (zs149 : List Hdr)).φ q ∧ (rowsC 32 zs149 (r161 : List (List T_Span)) none).φ q ∧ (blk g4297 32 [(Value.int .i64 x4294.Element), (Value.int .i64 x4294.Side), (Value.int .i64 x4294.From), (Value.int .i64 x4294.To)]).φ q) (cls [16] []) mixed ?_
                  rintro _ rfl; rw [← he4320]
                  refine s_rp (i := 0) rfl (by kernel_rfl) rfl (fun _ => (rd_move rfl)) ?_
                  refine s_rp (i := 1) rfl (by kernel_rfl) rfl (fun _ => (rd_geq rfl rfl)) ?_
                  refine s_rp (i := 2) rfl (by kernel_rfl) rfl (fun _ => (rd_move rfl)) ?_
                  refine s_rpg (i := 3) rfl (by kernel_rfl) rfl rfl rfl rfl (gv_t _) (fun hg4371 _ => (rd_move rfl)) ?_
                  refine s_rpg (i := 4) rfl (by kernel_rfl) rfl rfl rfl rfl (gv_t _) (fun hg4372 _ => (rd_move rfl)) ?_
                  obtain ⟨x4374, h4375, q4376⟩ := ob q4313; clear q4313
                  refine s_rpg (i := 5) rfl (by kernel_rfl) rfl rfl rfl rfl (gv_t _) (fun hg4373 _ => (rd_index tS22 (gvx rfl hg4373) (gvx rfl hg4373) (hm4319.sl 3 rfl) (gO_t h4375 hg4373))) ?_
                  refine s_rdg (i := 6) rfl (by kernel_rfl) rfl rfl rfl rfl (gv_t _) (fun hg4377 => (fun w4317 hS => (rd_ld1 tO3 (gvx rfl hg4377) ((sl_of_own hS.1).cells (gO_t h4375 hg4377)) (off := 0) rfl))) ⟨(hm4319.get (k := 3) rfl), (hm4319.get (k := 2) rfl), (hm4319.get (k := 1) rfl), (hm4319.get (k := 0) rfl)⟩ ?_
                  refine s_rpg (i := 7) rfl (by kernel_rfl) rfl rfl rfl rfl (gv_t _) (fun hg4378 _ => (rd_move rfl)) ?_
                  refine s_rpg (i := 8) rfl (by kernel_rfl) rfl rfl rfl rfl (gv_t _) (fun hg4379 _ => (rd_move rfl)) ?_
                  obtain ⟨x4381, h4382, q4383⟩ := ob q4376; clear q4376
                  refine s_rpg (i := 9) rfl (by kernel_rfl) rfl rfl rfl rfl (gv_t _) (fun hg4380 _ => (rd_index tS35 (gvx rfl hg4380) (gvx rfl hg4380) ((Nl.mk (hm4319.sl_call 2 rfl) (hm4319.rows_call 1 rfl)).sl) (gO_t h4382 hg4380))) ?_
                  obtain ⟨zd4385, hz4386⟩ := (Nl.mk (hm4319.sl_call 2 rfl) (hm4319.rows_call 1 rfl)).rowg (g := decide (0 ≤ r4311)) (fun q => gO_t h4382 q)
                  refine s_rdg (i := 10) rfl (by kernel_rfl) rfl rfl rfl rfl (gv_t _) (fun hg4384 => (fun w4317 hS => (rd_ld1 tO26 (gvx rfl hg4384) ((nl_φ hS.2.1 hS.2.2.1).cells (hz4386 hg4384)) (off := 0) rfl))) ⟨(hm4319.get (k := 3) rfl), (hm4319.get (k := 2) rfl), (hm4319.get (k := 1) rfl), (hm4319.get (k := 0) rfl)⟩ ?_
                  refine s_rpg (i := 11) rfl (by kernel_rfl) rfl rfl rfl rfl (gv_t _) (fun hg4387 _ => (rd_move rfl)) ?_
                  obtain ⟨x4389, h4390, q4391⟩ := ob q4383; clear q4383
                  refine s_rpg (i := 12) rfl (by kernel_rfl) rfl rfl rfl rfl (gv_t _) (fun hg4388 _ => (rd_index tS26 (gvx rfl hg4388) (gvx rfl hg4388) ((Nl.mk (hm4319.sl_call 2 rfl) (hm4319.rows_call 1 rfl)).get (hz4386 hg4388) (gO_t h4382 hg4388)) (gO_t h4390 hg4388))) ?_
                  refine s_rdg (i := 13) rfl (by kernel_rfl) rfl rfl rfl rfl (gv_t _) (fun hg4392 => (fun w4317 hS => (rd_ld tA32 (gvx rfl hg4392) (((nl_φ hS.2.1 hS.2.2.1).get (hz4386 hg4392) (gO_t h4382 hg4392)).cells (gO_t h4390 hg4392)) rfl))) ⟨(hm4319.get (k := 3) rfl), (hm4319.get (k := 2) rfl), (hm4319.get (k := 1) rfl), (hm4319.get (k := 0) rfl)⟩ ?_
                  refine s_rdg (i := 14) rfl (by kernel_rfl) rfl rfl rfl rfl (gv_t _) (fun hg4393 => (fun w4317 hS => (rd_ld tA32 rfl (cells_blk hS.2.2.2) rfl))) ⟨(hm4319.get (k := 3) rfl), (hm4319.get (k := 2) rfl), (hm4319.get (k := 1) rfl), (hm4319.get (k := 0) rfl)⟩ ?_
                  refine s_rpg (i := 15) rfl (by kernel_rfl) rfl rfl rfl rfl (gv_t _) (fun hg4394 _ => (rd_move rfl)) ?_
                  refine s_rpg (i := 18) rfl (by kernel_rfl) rfl rfl rfl rfl (gv_t _) (fun hg4395 _ => (rd_move rfl)) ?_
                  refine s_rpg (i := 19) rfl (by kernel_rfl) rfl rfl rfl rfl (gv_t _) (fun hg4396 _ => (rd_move rfl)) ?_
                  obtain ⟨x4398, h4399, q4400⟩ := ob q4391; clear q4391
                  refine s_rpg (i := 20) rfl (by kernel_rfl) rfl rfl rfl rfl (gv_t _) (fun hg4397 _ => (rd_index tS22 (gvx rfl hg4397) (gvx rfl hg4397) (hm4319.sl 3 rfl) (gO_t h4399 hg4397))) ?_
                  refine s_rdg (i := 21) rfl (by kernel_rfl) rfl rfl rfl rfl (gv_t _) (fun hg4401 => (fun w4317 hS => (rd_ld1 tO3 (gvx rfl hg4401) ((sl_of_own hS.1).cells (gO_t h4399 hg4401)) (off := 0) rfl))) ⟨(hm4319.get (k := 3) rfl), (hm4319.get (k := 2) rfl), (hm4319.get (k := 1) rfl), (hm4319.get (k := 0) rfl)⟩ ?_
                  refine s_rpg (i := 22) rfl (by kernel_rfl) rfl rfl rfl rfl (gv_t _) (fun hg4402 _ => (rd_fld tF32_2 rfl)) ?_
                  refine s_rdg (i := 23) rfl (by kernel_rfl) rfl rfl rfl rfl (gv_t _) (fun hg4403 => (fun w4317 hS => (rd_ld1 tO3 (gvx rfl hg4403) (cells_blk hS.2.2.2) (off := 2) rfl))) ⟨(hm4319.get (k := 3) rfl), (hm4319.get (k := 2) rfl), (hm4319.get (k := 1) rfl), (hm4319.get (k := 0) rfl)⟩ ?_
                  obtain ⟨x4405, h4406, q4407⟩ := ob q4400; clear q4400
                  refine s_rpg (i := 24) rfl (by kernel_rfl) rfl rfl rfl rfl (gv_t _) (fun hg4404 _ => (rd_add64 (gO_t h4406 hg4404) (gvx rfl hg4404) (gvx rfl hg4404))) ?_
                  obtain ⟨r4409, h4410, q4411⟩ := ob q4407; clear q4407
                  refine s_efg (i := 16) rfl (by kernel_rfl) rfl rfl rfl rfl (R := (fun v w' => v = gV (decide (0 ≤ r4311)) (Value.int .i64 r4409) ∧ Mem w4318 No [] w')) (gv_t _) (fun hg4408 => (ef_call tf21 (evc (gvx rfl hg4408) (evc (gvx rfl hg4408) (evc (gvx rfl hg4408) evn))) (r23_After_ok (gO_t h4410 hg4408))).mono (by rintro _ _ ⟨rfl, q⟩; exact ⟨(gV_t hg4408).symm, q⟩)) (fun q => ⟨(gV_f q).symm, Mem.nil _⟩) (by decide) ?_ ?_
                  · rintro _ w4413 ⟨rfl, hm4412⟩
                    have hm4414 := hm4319.call hm4412
                    intro _
                    exact ⟨(hm4414.get (k := 3) rfl), (hm4414.get (k := 2) rfl), (hm4414.get (k := 1) rfl), (hm4414.get (k := 0) rfl)⟩
                  rintro _ w4413 ⟨rfl, hm4412⟩
                  have hm4414 := hm4319.call hm4412
                  obtain ⟨x4416, h4417, q4418⟩ := ob q4411; clear q4411
                  refine s_rpg (i := 17) rfl (by kernel_rfl) rfl rfl rfl rfl (gv_t _) (fun hg4415 _ => (rd_add64 (gO_t h4417 hg4415) (gvx rfl hg4415) (gvx rfl hg4415))) ?_
                  refine s_rpg (i := 25) rfl (by kernel_rfl) rfl rfl rfl rfl (gv_t _) (fun hg4419 _ => (rd_gtr (gvx rfl hg4419) (gvx rfl hg4419))) ?_
                  refine s_rp (i := 26) rfl (by kernel_rfl) rfl (fun _ => (rd_and rfl (fun hc4420 => (gvx rfl hc4420)))) ?_
                  refine s_nil (by kernel_rfl) ?_
                  refine qn_then ?_
                  obtain ⟨hb4421, q4422⟩ | ⟨hb4421, q4422⟩ := oi q4418 <;> clear q4418
                  · refine cw_t rfl hb4421 ?_
                    refine cw_seq ?_
                    refine cw_region ?_
                    refine t_rd rfl (rd_assign rfl) ?_
                    refine rwt_nil ?_
                    refine qn_then ?_
                    refine cw_ret ?_
                    refine qr_block (qr_then (qr_then ?_))
                    obtain rfl := hr4275 _ (os q4422)
                    refine .inl (⟨_, rfl, ⟨rfl, ?_⟩⟩)
                    exact ret1 rfl rfl ⟨rfl, (hm4414.pick [] (by decide) rfl)⟩
                  · refine cw_f rfl hb4421 ?_
                    refine cw_skip ?_
                    refine qn_block (qn_then ?_)
                    refine cw_region ?_
                    refine t_rd rfl (rd_move rfl) ?_
                    obtain ⟨x4423, h4424, q4425⟩ := ob q4422; clear q4422
                    refine t_rd rfl (rd_add64 h4424 rfl rfl) ?_
                    refine t_rd rfl (rd_assign rfl) ?_
                    refine rwt_nil ?_
                    refine qn_then ?_
                    refine ⟨_, (os q4425), (by repeat (first | exact Sub.nil _ | refine Sub.cons rfl ?_)), (hm4414.pick [1, 2, 3, 4, 5] (by decide) rfl)⟩
                · refine cw_f rfl hb4287 ?_
                  refine cw_exit ?_
                  refine qx_then (qx_then ?_)
                  obtain rfl := hr4275 _ (os q4288)
                  exact .inr (⟨_, rfl, ⟨rfl, (by repeat (first | exact Sub.nil _ | refine Sub.cons rfl ?_)), (hm4281.pick [0, 1, 2, 3, 4] (by decide) rfl)⟩⟩)
              · skip
                intro e env4426 w4427 hX4428
                rcases hX4428 with hX4428 | hX4428
                · obtain ⟨p4430, rfl, hX4428⟩ := hX4428
                  obtain ⟨rfl, hq4432⟩ := hX4428
                  obtain rfl := hr3971 _ (os q4278)
                  exact qr_block (qr_block (qr_then (qr_then (.inl (⟨_, rfl, ⟨rfl, hq4432⟩⟩)))))
                · obtain ⟨p4433, rfl, hX4428⟩ := hX4428
                  obtain ⟨rfl, hs4434, hm4435⟩ := hX4428
                  refine qx_same (qn_block (qn_then ?_))
                  refine cw_sub hs4434 ?_
                  refine cw_region ?_
                  refine t_rd rfl (rd_move rfl) ?_
                  obtain ⟨x4436, h4437, q4438⟩ := ob q4278; clear q4278
                  refine t_rd rfl (rd_add64 h4437 rfl rfl) ?_
                  refine t_rd rfl (rd_assign rfl) ?_
                  refine rwt_nil ?_
                  refine qn_then ?_
                  refine ⟨_, (os q4438), (by repeat (first | exact Sub.nil _ | refine Sub.cons rfl ?_)), (hm4435.pick [0, 1, 2, 3, 4] (by decide) rfl)⟩
            · refine cw_f rfl hb3978 ?_
              refine cw_exit ?_
              refine qx_then (qx_then ?_)
              obtain rfl := hr3971 _ (os q3979)
              exact .inr (⟨_, rfl, ⟨rfl, (by repeat (first | exact Sub.nil _ | refine Sub.cons rfl ?_)), (hm3977.pick [0, 1, 2, 3, 4] (by decide) rfl)⟩⟩)
          · skip
            intro e env4439 w4440 hX4441
            rcases hX4441 with hX4441 | hX4441
            · obtain ⟨p4443, rfl, hX4441⟩ := hX4441
              obtain ⟨rfl, hq4445⟩ := hX4441
              obtain rfl := hr3033 _ (os q3974)
              exact qr_block (qr_block (qr_then (qr_then (.inl (⟨_, rfl, ⟨rfl, hq4445⟩⟩)))))
            · obtain ⟨p4446, rfl, hX4441⟩ := hX4441
              obtain ⟨rfl, hs4447, hm4448⟩ := hX4441
              refine qx_same (qn_block (qn_then ?_))
              refine cw_sub hs4447 ?_
              refine cw_region ?_
              refine t_rd rfl (rd_move rfl) ?_
              obtain ⟨x4449, h4450, q4451⟩ := ob q3974; clear q3974
              refine t_rd rfl (rd_add64 h4450 rfl rfl) ?_
              refine t_rd rfl (rd_assign rfl) ?_
              refine rwt_nil ?_
              refine qn_then ?_
              refine ⟨_, (os q4451), (by repeat (first | exact Sub.nil _ | refine Sub.cons rfl ?_)), (hm4448.pick [0, 1, 2, 3, 4] (by decide) rfl)⟩
        · refine cw_f rfl hb3040 ?_
          refine cw_exit ?_
          refine qx_then (qx_then ?_)
          obtain rfl := hr3033 _ (os q3041)
          exact .inr (⟨_, rfl, ⟨rfl, (by repeat (first | exact Sub.nil _ | refine Sub.cons rfl ?_)), (hm3039.pick [] (by decide) rfl)⟩⟩)
      · skip
        intro e env4452 w4453 hX4454
        rcases hX4454 with hX4454 | hX4454
        · obtain ⟨p4456, rfl, hX4454⟩ := hX4454
          obtain ⟨rfl, hq4458⟩ := hX4454
          exact qr_block (qr_then ((by have e := os q3036; subst e; exact hq4458)))
        · obtain ⟨p4459, rfl, hX4454⟩ := hX4454
          obtain ⟨rfl, hs4460, hm4461⟩ := hX4454
          refine qx_same (qn_then ?_)
          refine cw_sub hs4460 ?_
          refine cw_seq ?_
          refine cw_region ?_
          obtain ⟨r4462, h4463, q4464⟩ := ob q3036; clear q3036
          refine t_ef rfl (ef_call tf13 rfl (law23_sane_ok h4463)) ?_
          rintro _ w4466 ⟨e_, hm4465⟩
          obtain rfl := e_.symm
          have hm4467 := hm4461.call hm4465
          refine t_rd rfl (rd_assign rfl) ?_
          refine rwt_nil ?_
          refine qn_then ?_
          refine cw_ret ?_
          obtain rfl := os q4464
          exact ret1 rfl rfl ⟨rfl, (hm4467.pick [] (by decide) rfl)⟩

theorem yardgen_SpoilSpans_ok {N : Nat} {a0_l : List Int} {a0_n : Int} {a1 : List T_Span} {res : Int × List T_Span} (h : yardgen_SpoilSpans N a0_l a0_n a1 = some res) {w : World} {v0_l : Value} {g0 : Nat} {v1 : Value} (hv0_l : Sl (Old w (fun k => k = g0)) w v0_l a0_l) (hk0 : (blk g0 52 [v0_l, (Value.int .i64 a0_n)]).φ w) (hv1 : Sl (Old w (fun k => k = g0)) w v1 a1) :
    CallsR Try.prog 22 [(Value.pointer (some ⟨g0, 0, none⟩)), v1] w (fun u w' => ∃ (y0 : Value), u = y0 ∧ Mem w (fun k => k = g0) [blk g0 52 [v0_l, (Value.int .i64 res.1)], ownL 32 y0 (res.2 : List T_Span)] w') := by
  unfold yardgen_SpoilSpans at h
  refine fn_ok Try.func22 rfl rfl rfl ?_
  have hm0 := Mem.one hk0
  refine cw_seq ?_
  refine cw_region ?_
  refine t_rd rfl (rd_assign rfl) ?_
  refine rwt_nil ?_
  refine qn_then ?_
  refine cw_seq ?_
  refine cw_region ?_
  refine t_ef rfl (ef_bslice0 (α := T_Span) hm0 tS26) ?_
  intro v101 w103 hm102
  refine t_rd rfl (rd_move rfl) ?_
  obtain ⟨l104, h105, q106⟩ := ob h; clear h
  refine t_ef rfl (ef_append (k := 0) hm102 tS26 tE32 rfl rfl rfl rfl (hv1.of_old hm102) h105) ?_
  intro v107 w109 hm108
  refine t_rd rfl (rd_assign rfl) ?_
  refine rwt_nil ?_
  refine qn_then ?_
  refine cw_seq ?_
  refine cw_seq ?_
  refine cw_region ?_
  refine t_rd rfl (rd_move rfl) ?_
  refine t_rd rfl (rd_lenS tS26 rfl (hm108.sl 0 rfl)) ?_
  refine t_rd rfl (rd_eql rfl rfl) ?_
  refine rwt_nil ?_
  refine qn_then ?_
  obtain ⟨hb110, q111⟩ | ⟨hb110, q111⟩ := oi q106 <;> clear q106
  · refine cw_t rfl hb110 ?_
    refine cw_seq ?_
    refine cw_region ?_
    refine t_rd rfl (rd_move rfl) ?_
    refine t_ef rfl (ef_bslice (l := ([5, 6] : List Int)) hm108 tS22 rfl (cs := #[(Value.int .i64 5), (Value.int .i64 6)]) (by unfold bsl; kernel_rfl) rfl rfl) ?_
    intro v112 w114 hm113
    obtain ⟨r115, h116, q117⟩ := ob q111; clear q111
    refine t_ef rfl (ef_call tf15 rfl (Maker_Pick_ok h116 (hv0_l.to_callT (k := 2) hm113 rfl) (hm113.get (k := 2) rfl) (hm113.sl_callT 0 2 rfl rfl (by decide)))) ?_
    rintro _ w119 ⟨e_, hm118⟩
    obtain rfl := e_.symm
    have hm120 := hm113.callT (k := 2) rfl (fun _ h => h) hm118 (fun _ => Iff.rfl)
    refine t_rd rfl (rd_build (cs := #[(Value.int .i64 1), (Value.int .i64 0), (Value.int .i64 5), (Value.int .i64 r115.2)]) rfl (by kernel_rfl)) ?_
    refine t_ef rfl (ef_bslice (l := ([(T_Span.mk 1 0 5 r115.2)] : List T_Span)) hm120 tS26 rfl (cs := #[(Value.int .i64 1), (Value.int .i64 0), (Value.int .i64 5), (Value.int .i64 r115.2)]) (by unfold bsl; kernel_rfl) rfl rfl) ?_
    intro v121 w123 hm122
    refine t_rd rfl (rd_assign rfl) ?_
    refine rwt_nil ?_
    refine qn_then ?_
    refine cw_ret ?_
    refine qr_then ?_
    obtain rfl := os q117
    exact ret1 rfl rfl ⟨v121, rfl, (hm122.pick [3, 0] (by decide) rfl)⟩
  · refine cw_f rfl hb110 ?_
    refine cw_skip ?_
    refine qn_then ?_
    refine cw_seq ?_
    refine cw_region ?_
    refine t_rd rfl (rd_move rfl) ?_
    refine t_rd rfl (rd_move rfl) ?_
    refine t_rd rfl (rd_move rfl) ?_
    refine t_rd rfl (rd_lenS tS26 rfl (hm108.sl 0 rfl)) ?_
    obtain ⟨r124, h125, q126⟩ := ob q111; clear q111
    refine t_ef rfl (ef_call tf23 rfl (Maker_Next_ok h125 (hv0_l.to_callT (k := 1) hm108 rfl) (hm108.get (k := 1) rfl))) ?_
    rintro _ w128 ⟨e_, hm127⟩
    obtain rfl := e_.symm
    have hm129 := hm108.callT (k := 1) rfl (fun _ h => h) hm127 (fun _ => Iff.rfl)
    obtain ⟨x130, h131, q132⟩ := ob q126; clear q126
    refine t_rd rfl (rd_index tS26 rfl rfl (hm129.sl 0 rfl) h131) ?_
    refine t_rd rfl (rd_assign rfl) ?_
    refine rwt_nil ?_
    refine qn_then ?_
    refine cw_seq ?_
    refine cw_seq ?_
    refine cw_region ?_
    refine t_rd rfl (rd_move rfl) ?_
    obtain ⟨r133, h134, q135⟩ := ob q132; clear q132
    refine t_ef rfl (ef_call tf23 rfl (Maker_Next_ok h134 (hv0_l.to_callT (k := 1) hm129 rfl) (hm129.get (k := 1) rfl))) ?_
    rintro _ w137 ⟨e_, hm136⟩
    obtain rfl := e_.symm
    have hm138 := hm129.callT (k := 1) rfl (fun _ h => h) hm136 (fun _ => Iff.rfl)
    refine rwt_nil ?_
    refine qn_then ?_
    refine cw_block ?_
    refine cw_seq ?_
    refine cw_region ?_
    refine t_rd rfl (rd_eql rfl rfl) ?_
    refine t_rd rfl (rd_assign rfl) ?_
    refine rwt_nil ?_
    refine qn_then ?_
    obtain ⟨hb139, q140⟩ | ⟨hb139, q140⟩ := oi q135 <;> clear q135
    · refine cw_t rfl hb139 ?_
      refine cw_region ?_
      refine t_rd rfl (rd_move rfl) ?_
      refine t_rd rfl (rd_move rfl) ?_
      refine t_rd rfl (rd_move rfl) ?_
      obtain ⟨x141, h142, q143⟩ := ob q140; clear q140
      refine t_rd rfl (rd_index tS26 rfl rfl (hm138.sl 0 rfl) h142) ?_
      refine t_rd rfl (rd_fld tF32_0 rfl) ?_
      refine t_rd rfl (rd_ld1 tO3 rfl ((hm138.sl 0 rfl).cells h142) (off := 0) rfl) ?_
      refine t_ef rfl (ef_bslice (l := ([(-1), x141.Element, 127, 128] : List Int)) hm138 tS22 rfl (cs := #[(Value.int .i64 (-1)), (Value.int .i64 x141.Element), (Value.int .i64 127), (Value.int .i64 128)]) (by unfold bsl; kernel_rfl) rfl rfl) ?_
      intro v144 w146 hm145
      obtain ⟨r147, h148, q149⟩ := ob q143; clear q143
      refine t_ef rfl (ef_call tf15 rfl (Maker_Pick_ok h148 (hv0_l.to_callT (k := 2) hm145 rfl) (hm145.get (k := 2) rfl) (hm145.sl_callT 0 2 rfl rfl (by decide)))) ?_
      rintro _ w151 ⟨e_, hm150⟩
      obtain rfl := e_.symm
      have hm152 := hm145.callT (k := 2) rfl (fun _ h => h) hm150 (fun _ => Iff.rfl)
      refine t_rd rfl (rd_nilCheck rfl) ?_
      refine t_rd rfl (rd_fld tF32_0 rfl) ?_
      refine t_ef0 (ef_stl (k := 1) (off := 0) (x' := (T_Span.mk r147.2 x130.Side x130.From x130.To)) hm152 tO3 rfl rfl rfl rfl h131 rfl rfl) ?_
      intro _ w154 hm153
      refine rwt_nil ?_
      refine qn_block (qn_then ?_)
      refine cw_seq ?_
      refine cw_region ?_
      refine t_rd rfl (rd_move rfl) ?_
      refine t_rd rfl (rd_assign rfl) ?_
      refine rwt_nil ?_
      refine qn_then ?_
      refine cw_ret ?_
      obtain rfl := os q149
      exact ret1 rfl rfl ⟨v107, rfl, (hm153.pick [2, 1] (by decide) rfl)⟩
    · refine cw_f rfl hb139 ?_
      refine cw_seq ?_
      refine cw_region ?_
      refine t_rd rfl (rd_eql rfl rfl) ?_
      refine t_rd rfl (rd_assign rfl) ?_
      refine rwt_nil ?_
      refine qn_then ?_
      obtain ⟨hb155, q156⟩ | ⟨hb155, q156⟩ := oi q140 <;> clear q140
      · refine cw_t rfl hb155 ?_
        refine cw_region ?_
        refine t_rd rfl (rd_move rfl) ?_
        refine t_rd rfl (rd_move rfl) ?_
        refine t_ef rfl (ef_bslice (l := ([(-1), 3, 0] : List Int)) hm138 tS22 rfl (cs := #[(Value.int .i64 (-1)), (Value.int .i64 3), (Value.int .i64 0)]) (by unfold bsl; kernel_rfl) rfl rfl) ?_
        intro v157 w159 hm158
        obtain ⟨r160, h161, q162⟩ := ob q156; clear q156
        refine t_ef rfl (ef_call tf15 rfl (Maker_Pick_ok h161 (hv0_l.to_callT (k := 2) hm158 rfl) (hm158.get (k := 2) rfl) (hm158.sl_callT 0 2 rfl rfl (by decide)))) ?_
        rintro _ w164 ⟨e_, hm163⟩
        obtain rfl := e_.symm
        have hm165 := hm158.callT (k := 2) rfl (fun _ h => h) hm163 (fun _ => Iff.rfl)
        refine t_rd rfl (rd_nilCheck rfl) ?_
        refine t_rd rfl (rd_fld tF32_1 rfl) ?_
        refine t_ef0 (ef_stl (k := 1) (off := 1) (x' := (T_Span.mk x130.Element r160.2 x130.From x130.To)) hm165 tO3 rfl rfl rfl rfl h131 rfl rfl) ?_
        intro _ w167 hm166
        refine rwt_nil ?_
        refine qn_block (qn_then ?_)
        refine cw_seq ?_
        refine cw_region ?_
        refine t_rd rfl (rd_move rfl) ?_
        refine t_rd rfl (rd_assign rfl) ?_
        refine rwt_nil ?_
        refine qn_then ?_
        refine cw_ret ?_
        obtain rfl := os q162
        exact ret1 rfl rfl ⟨v107, rfl, (hm166.pick [2, 1] (by decide) rfl)⟩
      · refine cw_f rfl hb155 ?_
        refine cw_seq ?_
        refine cw_region ?_
        refine t_rd rfl (rd_eql rfl rfl) ?_
        refine t_rd rfl (rd_assign rfl) ?_
        refine rwt_nil ?_
        refine qn_then ?_
        obtain ⟨hb168, q169⟩ | ⟨hb168, q169⟩ := oi q156 <;> clear q156
        · refine cw_t rfl hb168 ?_
          obtain ⟨w171, he173⟩ : ∃ q, q = w137.drew := ⟨_, rfl⟩
          have hm172 := hm138.drew; rw [← he173] at hm172
          refine cw_region_s (fun q => q = w171) (cls [] [11, 12, 15]) mixed ?_
          rintro _ rfl; rw [← he173]
          refine s_rp (i := 0) rfl (by kernel_rfl) rfl (fun _ => (rd_move rfl)) ?_
          refine s_rp (i := 1) rfl (by kernel_rfl) rfl (fun _ => (rd_move rfl)) ?_
          refine s_rp (i := 2) rfl (by kernel_rfl) rfl (fun _ => (rd_move rfl)) ?_
          refine s_rp (i := 3) rfl (by kernel_rfl) rfl (fun _ => (rd_nilCheck rfl)) ?_
          refine s_rp (i := 4) rfl (by kernel_rfl) rfl (fun _ => (rd_fld tF32_3 rfl)) ?_
          refine s_rd (i := 5) rfl (by kernel_rfl) rfl (fun _ hS => by rw [hS]; exact (rd_ld1 tO3 rfl ((hm172.sl 0 rfl).cells h131) (off := 3) rfl)) rfl ?_
          refine s_rp (i := 6) rfl (by kernel_rfl) rfl (fun _ => (rd_move rfl)) ?_
          refine s_rp (i := 7) rfl (by kernel_rfl) rfl (fun _ => (rd_nilCheck rfl)) ?_
          refine s_rp (i := 8) rfl (by kernel_rfl) rfl (fun _ => (rd_fld tF32_3 rfl)) ?_
          refine s_rd (i := 9) rfl (by kernel_rfl) rfl (fun _ hS => by rw [hS]; exact (rd_ld1 tO3 rfl ((hm172.sl 0 rfl).cells h131) (off := 3) rfl)) rfl ?_
          obtain ⟨x174, h175, q176⟩ := ob q169; clear q169
          refine s_rp (i := 10) rfl (by kernel_rfl) rfl (fun _ => (rd_add64 h175 rfl rfl)) ?_
          refine s_ef (i := 11) rfl (by kernel_rfl) rfl (ef_bslice (l := ([(-1), x130.To, x174] : List Int)) hm172 tS22 rfl (cs := #[(Value.int .i64 (-1)), (Value.int .i64 x130.To), (Value.int .i64 x174)]) (by unfold bsl; kernel_rfl) rfl rfl) (by decide) (fun _ _ _ q => absurd q (by decide)) ?_
          intro v177 w179 hm178
          obtain ⟨r180, h181, q182⟩ := ob q176; clear q176
          refine s_ef (i := 12) rfl (by kernel_rfl) rfl (ef_call tf15 rfl (Maker_Pick_ok h181 (hv0_l.to_callT (k := 2) hm178 rfl) (hm178.get (k := 2) rfl) (hm178.sl_callT 0 2 rfl rfl (by decide)))) (by decide) (fun _ _ _ q => absurd q (by decide)) ?_
          rintro _ w184 ⟨e_, hm183⟩
          obtain rfl := e_.symm
          have hm185 := hm178.callT (k := 2) rfl (fun _ h => h) hm183 (fun _ => Iff.rfl)
          refine s_rp (i := 13) rfl (by kernel_rfl) rfl (fun _ => (rd_nilCheck rfl)) ?_
          refine s_rp (i := 14) rfl (by kernel_rfl) rfl (fun _ => (rd_fld tF32_2 rfl)) ?_
          refine s_ef0 (i := 15) rfl (by kernel_rfl) (ef_stl (k := 1) (off := 2) (x' := (T_Span.mk x130.Element x130.Side r180.2 x130.To)) hm185 tO3 rfl rfl rfl rfl h131 rfl rfl) (by decide) (fun _ _ _ q => absurd q (by decide)) ?_
          intro _ w187 hm186
          refine s_nil (by kernel_rfl) ?_
          refine qn_block (qn_then ?_)
          refine cw_seq ?_
          refine cw_region ?_
          refine t_rd rfl (rd_move rfl) ?_
          refine t_rd rfl (rd_assign rfl) ?_
          refine rwt_nil ?_
          refine qn_then ?_
          refine cw_ret ?_
          obtain rfl := os q182
          exact ret1 rfl rfl ⟨v107, rfl, (hm186.pick [2, 1] (by decide) rfl)⟩
        · refine cw_f rfl hb168 ?_
          refine cw_seq ?_
          refine cw_region ?_
          refine t_rd rfl (rd_eql rfl rfl) ?_
          refine t_rd rfl (rd_assign rfl) ?_
          refine rwt_nil ?_
          refine qn_then ?_
          obtain ⟨hb188, q189⟩ | ⟨hb188, q189⟩ := oi q169 <;> clear q169
          · refine cw_t rfl hb188 ?_
            refine cw_region ?_
            refine t_rd rfl (rd_move rfl) ?_
            refine t_rd rfl (rd_move rfl) ?_
            refine t_rd rfl (rd_move rfl) ?_
            refine t_rd rfl (rd_nilCheck rfl) ?_
            refine t_rd rfl (rd_fld tF32_2 rfl) ?_
            refine t_rd rfl (rd_ld1 tO3 rfl ((hm138.sl 0 rfl).cells h131) (off := 2) rfl) ?_
            refine t_ef rfl (ef_bslice (l := ([1000000000, 1000000001, x130.From] : List Int)) hm138 tS22 rfl (cs := #[(Value.int .i64 1000000000), (Value.int .i64 1000000001), (Value.int .i64 x130.From)]) (by unfold bsl; kernel_rfl) rfl rfl) ?_
            intro v190 w192 hm191
            obtain ⟨r193, h194, q195⟩ := ob q189; clear q189
            refine t_ef rfl (ef_call tf15 rfl (Maker_Pick_ok h194 (hv0_l.to_callT (k := 2) hm191 rfl) (hm191.get (k := 2) rfl) (hm191.sl_callT 0 2 rfl rfl (by decide)))) ?_
            rintro _ w197 ⟨e_, hm196⟩
            obtain rfl := e_.symm
            have hm198 := hm191.callT (k := 2) rfl (fun _ h => h) hm196 (fun _ => Iff.rfl)
            refine t_rd rfl (rd_nilCheck rfl) ?_
            refine t_rd rfl (rd_fld tF32_3 rfl) ?_
            refine t_ef0 (ef_stl (k := 1) (off := 3) (x' := (T_Span.mk x130.Element x130.Side x130.From r193.2)) hm198 tO3 rfl rfl rfl rfl h131 rfl rfl) ?_
            intro _ w200 hm199
            refine rwt_nil ?_
            refine qn_block (qn_then ?_)
            refine cw_seq ?_
            refine cw_region ?_
            refine t_rd rfl (rd_move rfl) ?_
            refine t_rd rfl (rd_assign rfl) ?_
            refine rwt_nil ?_
            refine qn_then ?_
            refine cw_ret ?_
            obtain rfl := os q195
            exact ret1 rfl rfl ⟨v107, rfl, (hm199.pick [2, 1] (by decide) rfl)⟩
          · refine cw_f rfl hb188 ?_
            refine cw_skip ?_
            refine qn_block (qn_then ?_)
            refine cw_seq ?_
            refine cw_region ?_
            refine t_rd rfl (rd_move rfl) ?_
            refine t_rd rfl (rd_assign rfl) ?_
            refine rwt_nil ?_
            refine qn_then ?_
            refine cw_ret ?_
            obtain rfl := os q189
            exact ret1 rfl rfl ⟨v107, rfl, (hm138.pick [1, 0] (by decide) rfl)⟩

theorem r23_Lists_ok {N : Nat} {a0 : List (List T_Span)} {a1 : Int} {res : Int} (h : r23_Lists N a0 a1 = some res) {w : World} {v0 : Value} (hv0 : Sl (Old w No) w v0 a0) :
    CallsR Try.prog 34 [v0, (Value.int .i64 a1)] w (fun u w' => u = (Value.int .i64 res) ∧ Mem w No [] w') := by
  unfold r23_Lists at h
  refine fn_ok Try.func34 rfl rfl rfl ?_
  obtain ⟨zs_a0, hn0⟩ := hv0.nest
  have hm0 := Mem.nil w
  refine cw_seq ?_
  refine cw_region ?_
  refine t_rd rfl (rd_assign rfl) ?_
  refine rwt_nil ?_
  refine qn_then ?_
  refine cw_seq ?_
  refine cw_seq ?_
  refine cw_region ?_
  refine t_rd rfl (rd_move rfl) ?_
  refine t_rd rfl (rd_lenS tS35 rfl ((hn0.of_old hm0).sl)) ?_
  refine t_rd rfl (rd_gtr rfl rfl) ?_
  refine rwt_nil ?_
  refine qn_then ?_
  obtain ⟨hb1, q2⟩ | ⟨hb1, q2⟩ := oi h <;> clear h
  · refine cw_t rfl hb1 ?_
    refine cw_seq ?_
    refine cw_region ?_
    refine t_rd rfl (rd_assign rfl) ?_
    refine rwt_nil ?_
    refine qn_then ?_
    refine cw_ret ?_
    refine qr_then ?_
    obtain rfl := os q2
    exact ret1 rfl rfl ⟨rfl, (hm0.pick [] (by decide) rfl)⟩
  · refine cw_f rfl hb1 ?_
    refine cw_skip ?_
    refine qn_then ?_
    refine cw_seq ?_
    refine cw_region ?_
    refine t_rd rfl (rd_move rfl) ?_
    refine t_rd rfl (rd_geq rfl rfl) ?_
    refine t_rd rfl (rd_move rfl) ?_
    refine t_rdg rfl rfl rfl rfl (gv_t _) (fun hg3 => (rd_move rfl)) ?_
    refine t_rdg rfl rfl rfl rfl (gv_t _) (fun hg4 => (rd_leq (gvx rfl hg4) rfl)) ?_
    refine t_rd rfl (rd_and rfl (fun hc5 => (gvx rfl hc5))) ?_
    refine t_rd rfl (rd_assign rfl) ?_
    refine rwt_nil ?_
    refine qn_then ?_
    refine cw_seq ?_
    refine cw_seq ?_
    refine cw_region ?_
    refine t_rd rfl (rd_assign rfl) ?_
    refine rwt_nil ?_
    refine qn_then ?_
    refine cw_block ?_
    obtain ⟨r61, hit62, q63⟩ := ob q2; clear q2
    refine cw_loop2 (I := fun q envq wq => Sub [(0, v0), (5, (Value.bool q.1)), (6, (Value.int .i64 q.2))] envq ∧ Mem w No [] wq) (X := fun eq envq wq => eq = .exit 0 ∧ Sub [(5, (Value.bool r61))] envq ∧ Mem w No [] wq) hit62 ⟨(by repeat (first | exact Sub.nil _ | refine Sub.cons rfl ?_)), (hm0.pick [] (by decide) rfl)⟩ ?_ ?_
    · rintro ⟨b53, i54⟩ x56 env57 w58 hf59 hr60 ⟨hs_, hm_⟩
      have hs_ : Sub [(0, v0), (5, (Value.bool b53)), (6, (Value.int .i64 i54))] env57 := hs_
      have hm64 : Mem w No [] w58 := hm_
      refine cw_sub hs_ ?_
      clear hs_ hm_ q63
      have h : r23_Lists_l1 N a0 b53 i54 = some x56 := hf59
      clear hf59
      refine cw_seq ?_
      refine cw_seq ?_
      refine cw_region ?_
      refine t_rd rfl (rd_move rfl) ?_
      refine t_rd rfl (rd_move rfl) ?_
      refine t_rd rfl (rd_lenS tS35 rfl ((hn0.of_old hm64).sl)) ?_
      refine t_rd rfl (rd_lss rfl rfl) ?_
      refine rwt_nil ?_
      refine qn_then ?_
      obtain ⟨hb65, q66⟩ | ⟨hb65, q66⟩ := oi h <;> clear h
      · refine cw_t rfl hb65 ?_
        refine cw_skip ?_
        refine qn_then ?_
        refine cw_seq ?_
        refine cw_block ?_
        refine cw_region ?_
        refine t_rd rfl (rd_move rfl) ?_
        refine t_rd rfl (rd_move rfl) ?_
        refine t_rdg rfl rfl rfl rfl (gv_t _) (fun hg67 => (rd_move rfl)) ?_
        refine t_rdg rfl rfl rfl rfl (gv_t _) (fun hg68 => (rd_move rfl)) ?_
        obtain ⟨x70, h71, q72⟩ := ob q66; clear q66
        refine t_rdg rfl rfl rfl rfl (gv_t _) (fun hg69 => (rd_index tS35 (gvx rfl hg69) (gvx rfl hg69) ((hn0.of_old hm64).sl) (gO_t h71 hg69))) ?_
        obtain ⟨zd74, hz75⟩ := (hn0.of_old hm64).rowg (g := b53) (fun q => gO_t h71 q)
        refine t_rdg rfl rfl rfl rfl (gv_t _) (fun hg73 => (rd_ld1 tO26 (gvx rfl hg73) ((hn0.of_old hm64).cells (hz75 hg73)) (off := 0) rfl)) ?_
        obtain ⟨r77, h78, q79⟩ := ob q72; clear q72
        refine t_efg rfl rfl rfl rfl (R := (fun v w' => v = gV b53 (Value.bool r77) ∧ Mem w58 No [] w')) (gv_t _) (fun hg76 => (ef_call tf32 (evc (gvx rfl hg76) evn) (r23_Valid_ok (gO_t h78 hg76) ((hn0.to_call hm64).get (hz75 hg76) (gO_t h71 hg76)))).mono (by rintro _ _ ⟨rfl, q⟩; exact ⟨(gV_t hg76).symm, q⟩)) (fun q => ⟨(gV_f q).symm, Mem.nil _⟩) ?_
        rintro _ w81 ⟨rfl, hm80⟩
        have hm82 := hm64.call hm80
        refine t_rd rfl (rd_and rfl (fun hc83 => (gvx rfl hc83))) ?_
        refine t_rd rfl (rd_assign rfl) ?_
        refine rwt_nil ?_
        refine qn_block (qn_then ?_)
        refine cw_region ?_
        refine t_rd rfl (rd_move rfl) ?_
        obtain ⟨x84, h85, q86⟩ := ob q79; clear q79
        refine t_rd rfl (rd_add64 h85 rfl rfl) ?_
        refine t_rd rfl (rd_assign rfl) ?_
        refine rwt_nil ?_
        refine qn_then ?_
        refine ⟨_, (os q86), (by repeat (first | exact Sub.nil _ | refine Sub.cons rfl ?_)), (hm82.pick [] (by decide) rfl)⟩
      · refine cw_f rfl hb65 ?_
        refine cw_exit ?_
        refine qx_then (qx_then ?_)
        obtain rfl := hr60 _ (os q66)
        exact ⟨rfl, (by repeat (first | exact Sub.nil _ | refine Sub.cons rfl ?_)), (hm64.pick [] (by decide) rfl)⟩
    · skip
      intro e env87 w88 hX89
      obtain ⟨rfl, hs90, hm91⟩ := hX89
      refine qx_same (qn_then ?_)
      refine cw_sub hs90 ?_
      refine cw_seq ?_
      refine cw_seq ?_
      refine cw_region ?_
      refine t_rd rfl (rd_move rfl) ?_
      refine t_rd rfl (rd_not rfl) ?_
      refine rwt_nil ?_
      refine qn_then ?_
      obtain ⟨hb92, q93⟩ | ⟨hb92, q93⟩ := oi q63 <;> clear q63
      · refine cw_t rfl hb92 ?_
        refine cw_seq ?_
        refine cw_region ?_
        refine t_rd rfl (rd_assign rfl) ?_
        refine rwt_nil ?_
        refine qn_then ?_
        refine cw_ret ?_
        refine qr_then ?_
        obtain rfl := os q93
        exact ret1 rfl rfl ⟨rfl, (hm91.pick [] (by decide) rfl)⟩
      · refine cw_f rfl hb92 ?_
        refine cw_skip ?_
        refine qn_then ?_
        refine cw_seq ?_
        refine cw_region ?_
        refine t_rd rfl (rd_assign rfl) ?_
        refine rwt_nil ?_
        refine qn_then ?_
        refine cw_ret ?_
        obtain rfl := os q93
        exact ret1 rfl rfl ⟨rfl, (hm91.pick [] (by decide) rfl)⟩

theorem r23_Releases_ok {N : Nat} {a0 : List (List T_Span)} {a1 : Int} {res : List Int × Int} (h : r23_Releases N a0 a1 = some res) {w : World} {v0 : Value} (hv0 : Sl (Old w No) w v0 a0) :
    CallsR Try.prog 24 [v0, (Value.int .i64 a1)] w (fun u w' => ∃ (y0 : Value), u = (Value.tuple #[y0, (Value.int .i64 res.2)]) ∧ Mem w No [ownL 3 y0 (res.1 : List Int)] w') := by
  unfold r23_Releases at h
  refine fn_ok Try.func24 rfl rfl rfl ?_
  obtain ⟨zs_a0, hn0⟩ := hv0.nest
  have hm0 := Mem.nil w
  refine cw_seq ?_
  refine cw_region ?_
  refine t_rd rfl (rd_assign rfl) ?_
  refine t_rd rfl (rd_assign rfl) ?_
  refine rwt_nil ?_
  refine qn_then ?_
  refine cw_seq ?_
  refine cw_seq ?_
  refine cw_region ?_
  refine t_rd rfl (rd_move rfl) ?_
  refine t_rd rfl (rd_move rfl) ?_
  obtain ⟨r1, h2, q3⟩ := ob h; clear h
  refine t_ef rfl (ef_call tf34 rfl (r23_Lists_ok h2 ((hn0.to_call hm0).sl))) ?_
  rintro _ w5 ⟨e_, hm4⟩
  obtain rfl := e_.symm
  have hm6 := hm0.call hm4
  refine t_rd rfl (rd_assign rfl) ?_
  refine rwt_nil ?_
  refine qn_then ?_
  refine cw_seq ?_
  refine cw_region ?_
  refine t_rd rfl (rd_move rfl) ?_
  refine t_rd rfl (rd_neq rfl rfl) ?_
  refine rwt_nil ?_
  refine qn_then ?_
  obtain ⟨hb7, q8⟩ | ⟨hb7, q8⟩ := oi q3 <;> clear q3
  · refine cw_t rfl hb7 ?_
    refine cw_seq ?_
    refine cw_region ?_
    refine t_rd rfl (rd_move rfl) ?_
    refine t_rd rfl (rd_assign rfl) ?_
    refine t_rd rfl (rd_assign rfl) ?_
    refine rwt_nil ?_
    refine qn_then ?_
    refine cw_ret ?_
    refine qr_then ?_
    obtain rfl := os q8
    have hm9 := hm6.addNil (α := Int) 3
    exact ret2 rfl rfl rfl ⟨(Value.slice none 0 0), rfl, (hm9.pick [0] (by decide) rfl)⟩
  · refine cw_f rfl hb7 ?_
    refine cw_skip ?_
    refine qn_then ?_
    refine cw_seq ?_
    refine cw_region ?_
    refine t_rd rfl (rd_assign rfl) ?_
    refine rwt_nil ?_
    refine qn_then ?_
    refine cw_seq ?_
    refine cw_seq ?_
    refine cw_region ?_
    refine t_rd rfl (rd_assign rfl) ?_
    refine rwt_nil ?_
    refine qn_then ?_
    refine cw_block ?_
    have hm154 := hm6.addNil (α := Int) 3
    obtain ⟨r456, hit457, q458⟩ := ob q8; clear q8
    refine cw_loop2 (I := fun q envq wq => ∃ (v449 : Value), Sub [(0, v0), (1, (Value.int .i64 a1)), (7, v449), (8, (Value.int .i64 q.1))] envq ∧ Mem w No [ownL 3 v449 (q.2 : List Int)] wq) (X := fun eq envq wq => (∃ p459, r456 = (Sum.inl p459) ∧ eq = .ret ∧ retQ Try.prog 61 Try.f24 (fun u w' => ∃ (y0 : Value), u = (Value.tuple #[y0, (Value.int .i64 p459.2)]) ∧ Mem w No [ownL 3 y0 (p459.1 : List Int)] w') .ret envq wq) ∨ (∃ p460, r456 = (Sum.inr p460) ∧ eq = .exit 0 ∧ ∃ (v446 : Value), Sub [(7, v446)] envq ∧ Mem w No [ownL 3 v446 (p460 : List Int)] wq)) hit457 ⟨(Value.slice none 0 0), (by repeat (first | exact Sub.nil _ | refine Sub.cons rfl ?_)), (hm154.pick [0] (by decide) rfl)⟩ ?_ ?_
    · rintro ⟨i447, l448⟩ x451 env452 w453 hf454 hr455 ⟨v449, hs_, hm_⟩
      have hs_ : Sub [(0, v0), (1, (Value.int .i64 a1)), (7, v449), (8, (Value.int .i64 i447))] env452 := hs_
      have hm461 : Mem w No [ownL 3 v449 (l448 : List Int)] w453 := hm_
      refine cw_sub hs_ ?_
      clear hs_ hm_ q458
      have h : r23_Releases_l4 N a0 a1 i447 l448 = some x451 := hf454
      clear hf454
      refine cw_seq ?_
      refine cw_seq ?_
      refine cw_region ?_
      refine t_rd rfl (rd_move rfl) ?_
      refine t_rd rfl (rd_move rfl) ?_
      refine t_rd rfl (rd_lenS tS35 rfl ((hn0.of_old hm461).sl)) ?_
      refine t_rd rfl (rd_lss rfl rfl) ?_
      refine rwt_nil ?_
      refine qn_then ?_
      obtain ⟨hb462, q463⟩ | ⟨hb462, q463⟩ := oi h <;> clear h
      · refine cw_t rfl hb462 ?_
        refine cw_skip ?_
        refine qn_then ?_
        refine cw_seq ?_
        refine cw_block ?_
        refine cw_seq ?_
        refine cw_region ?_
        refine t_rd rfl (rd_assign rfl) ?_
        refine rwt_nil ?_
        refine qn_then ?_
        refine cw_seq ?_
        refine cw_seq ?_
        refine cw_region ?_
        refine t_rd rfl (rd_assign rfl) ?_
        refine rwt_nil ?_
        refine qn_then ?_
        refine cw_block ?_
        obtain ⟨r541, hit542, q543⟩ := ob q463; clear q463
        refine cw_loop2 (I := fun q envq wq => Sub [(0, v0), (1, (Value.int .i64 a1)), (7, v449), (8, (Value.int .i64 i447)), (9, (Value.int .i64 q.1)), (10, (Value.int .i64 q.2))] envq ∧ Mem w No [ownL 3 v449 (l448 : List Int)] wq) (X := fun eq envq wq => (∃ p544, r541 = (Sum.inl p544) ∧ eq = .ret ∧ retQ Try.prog 61 Try.f24 (fun u w' => ∃ (y0 : Value), u = (Value.tuple #[y0, (Value.int .i64 p544.2)]) ∧ Mem w No [ownL 3 y0 (p544.1 : List Int)] w') .ret envq wq) ∨ (∃ p545, r541 = (Sum.inr p545) ∧ eq = .exit 2 ∧ Sub [(0, v0), (1, (Value.int .i64 a1)), (7, v449), (8, (Value.int .i64 i447)), (9, (Value.int .i64 p545))] envq ∧ Mem w No [ownL 3 v449 (l448 : List Int)] wq)) hit542 ⟨(by repeat (first | exact Sub.nil _ | refine Sub.cons rfl ?_)), (hm461.pick [0] (by decide) rfl)⟩ ?_ ?_
        · rintro ⟨i533, i534⟩ x536 env537 w538 hf539 hr540 ⟨hs_, hm_⟩
          have hs_ : Sub [(0, v0), (1, (Value.int .i64 a1)), (7, v449), (8, (Value.int .i64 i447)), (9, (Value.int .i64 i533)), (10, (Value.int .i64 i534))] env537 := hs_
          have hm546 : Mem w No [ownL 3 v449 (l448 : List Int)] w538 := hm_
          refine cw_sub hs_ ?_
          clear hs_ hm_ q543
          have h : r23_Releases_l5 N a0 a1 i447 l448 i533 i534 = some x536 := hf539
          clear hf539
          refine cw_seq ?_
          refine cw_seq ?_
          refine cw_region ?_
          refine t_rd rfl (rd_move rfl) ?_
          refine t_rd rfl (rd_move rfl) ?_
          refine t_rd rfl (rd_lss rfl rfl) ?_
          refine rwt_nil ?_
          refine qn_then ?_
          obtain ⟨hb547, q548⟩ | ⟨hb547, q548⟩ := oi h <;> clear h
          · refine cw_t rfl hb547 ?_
            refine cw_skip ?_
            refine qn_then ?_
            refine cw_seq ?_
            refine cw_block ?_
            refine cw_seq ?_
            obtain ⟨w550, he552⟩ : ∃ q, q = w538.drew := ⟨_, rfl⟩
            have hm551 := hm546.drew; rw [← he552] at hm551
            refine cw_region_s (fun q => q = w550) (cls [] [9]) mixed ?_
            rintro _ rfl; rw [← he552]
            refine s_rp (i := 0) rfl (by kernel_rfl) rfl (fun _ => (rd_move rfl)) ?_
            refine s_rp (i := 1) rfl (by kernel_rfl) rfl (fun _ => (rd_move rfl)) ?_
            obtain ⟨x553, h554, q555⟩ := ob q548; clear q548
            refine s_rp (i := 2) rfl (by kernel_rfl) rfl (fun _ => (rd_index tS35 rfl rfl ((hn0.of_old hm551).sl) h554)) ?_
            obtain ⟨zd556, hz557⟩ := (hn0.of_old hm551).row h554
            refine s_rd (i := 3) rfl (by kernel_rfl) rfl (fun _ hS => by rw [hS]; exact (rd_ld1 tO26 rfl ((hn0.of_old hm551).cells hz557) (off := 0) rfl)) rfl ?_
            refine s_rp (i := 4) rfl (by kernel_rfl) rfl (fun _ => (rd_move rfl)) ?_
            refine s_rp (i := 5) rfl (by kernel_rfl) rfl (fun _ => (rd_move rfl)) ?_
            obtain ⟨x558, h559, q560⟩ := ob q555; clear q555
            refine s_rp (i := 6) rfl (by kernel_rfl) rfl (fun _ => (rd_index tS35 rfl rfl ((hn0.of_old hm551).sl) h559)) ?_
            obtain ⟨zd561, hz562⟩ := (hn0.of_old hm551).row h559
            refine s_rd (i := 7) rfl (by kernel_rfl) rfl (fun _ hS => by rw [hS]; exact (rd_ld1 tO26 rfl ((hn0.of_old hm551).cells hz562) (off := 0) rfl)) rfl ?_
            refine s_rp (i := 8) rfl (by kernel_rfl) rfl (fun _ => (rd_move rfl)) ?_
            obtain ⟨r563, h564, q565⟩ := ob q560; clear q560
            refine s_ef (i := 9) rfl (by kernel_rfl) rfl (ef_call tf33 rfl (r23_gap_ok h564 ((hn0.to_call hm551).get hz557 h554) ((hn0.to_call hm551).get hz562 h559))) (by decide) (fun _ _ _ q => absurd q (by decide)) ?_
            rintro _ w567 ⟨e_, hm566⟩
            obtain rfl := e_.symm
            have hm568 := hm551.call hm566
            refine s_rp (i := 10) rfl (by kernel_rfl) rfl (fun _ => (rd_move rfl)) ?_
            refine s_rp (i := 11) rfl (by kernel_rfl) rfl (fun _ => (rd_extract rfl rfl)) ?_
            refine s_rp (i := 12) rfl (by kernel_rfl) rfl (fun _ => (rd_extract rfl rfl)) ?_
            refine s_rp (i := 13) rfl (by kernel_rfl) rfl (fun _ => (rd_assign rfl)) ?_
            refine s_rp (i := 14) rfl (by kernel_rfl) rfl (fun _ => (rd_assign rfl)) ?_
            refine s_nil (by kernel_rfl) ?_
            refine qn_then ?_
            refine cw_seq ?_
            refine cw_seq ?_
            refine cw_region ?_
            refine t_rd rfl (rd_move rfl) ?_
            refine t_rd rfl (rd_neq rfl rfl) ?_
            refine rwt_nil ?_
            refine qn_then ?_
            obtain ⟨hb569, q570⟩ | ⟨hb569, q570⟩ := oi q565 <;> clear q565
            · refine cw_t rfl hb569 ?_
              refine cw_seq ?_
              refine cw_region ?_
              refine t_rd rfl (rd_move rfl) ?_
              refine t_rd rfl (rd_assign rfl) ?_
              refine t_rd rfl (rd_assign rfl) ?_
              refine rwt_nil ?_
              refine qn_then ?_
              refine cw_ret ?_
              refine qr_then (qr_block (qr_then (qr_then ?_)))
              obtain rfl := hr540 _ (os q570)
              refine .inl (⟨_, rfl, ⟨rfl, ?_⟩⟩)
              have hm571 := hm568.addNil (α := Int) 3
              exact ret2 rfl rfl rfl ⟨(Value.slice none 0 0), rfl, (hm571.pick [0] (by decide) rfl)⟩
            · refine cw_f rfl hb569 ?_
              refine cw_skip ?_
              refine qn_then ?_
              refine cw_region ?_
              refine t_rd rfl (rd_move rfl) ?_
              refine t_rd rfl (rd_move rfl) ?_
              refine t_rd rfl (rd_move rfl) ?_
              obtain ⟨x572, h573, q574⟩ := ob q570; clear q570
              refine t_rd rfl (rd_index tS22 rfl rfl (hm568.sl 0 rfl) h573) ?_
              refine t_rd rfl (rd_ld1 tO3 rfl ((hm568.sl 0 rfl).cells h573) (off := 0) rfl) ?_
              refine t_rd rfl (rd_move rfl) ?_
              obtain ⟨x575, h576, q577⟩ := ob q574; clear q574
              refine t_rd rfl (rd_add64 h576 rfl rfl) ?_
              refine t_rd rfl (rd_max rfl rfl) ?_
              refine t_rd rfl (rd_assign rfl) ?_
              refine rwt_nil ?_
              refine qn_block (qn_then ?_)
              refine cw_region ?_
              refine t_rd rfl (rd_move rfl) ?_
              obtain ⟨x578, h579, q580⟩ := ob q577; clear q577
              refine t_rd rfl (rd_add64 h579 rfl rfl) ?_
              refine t_rd rfl (rd_assign rfl) ?_
              refine rwt_nil ?_
              refine qn_then ?_
              refine ⟨_, (os q580), (by repeat (first | exact Sub.nil _ | refine Sub.cons rfl ?_)), (hm568.pick [0] (by decide) rfl)⟩
          · refine cw_f rfl hb547 ?_
            refine cw_exit ?_
            refine qx_then (qx_then ?_)
            obtain rfl := hr540 _ (os q548)
            exact .inr (⟨_, rfl, ⟨rfl, (by repeat (first | exact Sub.nil _ | refine Sub.cons rfl ?_)), (hm546.pick [0] (by decide) rfl)⟩⟩)
        · skip
          intro e env581 w582 hX583
          rcases hX583 with hX583 | hX583
          · obtain ⟨p585, rfl, hX583⟩ := hX583
            obtain ⟨rfl, hq587⟩ := hX583
            obtain rfl := hr455 _ (os q543)
            exact qr_block (qr_then (qr_block (qr_then (qr_then (.inl (⟨_, rfl, ⟨rfl, hq587⟩⟩))))))
          · obtain ⟨p588, rfl, hX583⟩ := hX583
            obtain ⟨rfl, hs589, hm590⟩ := hX583
            refine qx_same (qn_then ?_)
            refine cw_sub hs589 ?_
            refine cw_seq ?_
            refine cw_seq ?_
            refine cw_region ?_
            refine t_rd rfl (rd_move rfl) ?_
            refine t_rd rfl (rd_gtr rfl rfl) ?_
            refine rwt_nil ?_
            refine qn_then ?_
            obtain ⟨hb591, q592⟩ | ⟨hb591, q592⟩ := oi q543 <;> clear q543
            · refine cw_t rfl hb591 ?_
              refine cw_seq ?_
              refine cw_region ?_
              refine t_rd rfl (rd_assign rfl) ?_
              refine t_rd rfl (rd_assign rfl) ?_
              refine rwt_nil ?_
              refine qn_then ?_
              refine cw_ret ?_
              refine qr_then (qr_block (qr_then (qr_then ?_)))
              obtain rfl := hr455 _ (os q592)
              refine .inl (⟨_, rfl, ⟨rfl, ?_⟩⟩)
              have hm593 := hm590.addNil (α := Int) 3
              exact ret2 rfl rfl rfl ⟨(Value.slice none 0 0), rfl, (hm593.pick [0] (by decide) rfl)⟩
            · refine cw_f rfl hb591 ?_
              refine cw_skip ?_
              refine qn_then ?_
              refine cw_region ?_
              refine t_rd rfl (rd_move rfl) ?_
              refine t_rd rfl (rd_move rfl) ?_
              refine t_ef rfl (ef_bslice (l := ([p588] : List Int)) hm590 tS22 rfl (cs := #[(Value.int .i64 p588)]) (by unfold bsl; kernel_rfl) rfl rfl) ?_
              intro v594 w596 hm595
              obtain ⟨l597, h598, q599⟩ := ob q592; clear q592
              refine t_ef rfl (ef_append (k := 1) hm595 tS22 tE3 rfl rfl rfl rfl (hm595.sl 0 rfl) h598) ?_
              intro v600 w602 hm601
              refine t_rd rfl (rd_assign rfl) ?_
              refine rwt_nil ?_
              refine qn_block (qn_then ?_)
              refine cw_region ?_
              refine t_rd rfl (rd_move rfl) ?_
              obtain ⟨x603, h604, q605⟩ := ob q599; clear q599
              refine t_rd rfl (rd_add64 h604 rfl rfl) ?_
              refine t_rd rfl (rd_assign rfl) ?_
              refine rwt_nil ?_
              refine qn_then ?_
              refine ⟨_, (os q605), v600, (by repeat (first | exact Sub.nil _ | refine Sub.cons rfl ?_)), (hm601.pick [1] (by decide) rfl)⟩
      · refine cw_f rfl hb462 ?_
        refine cw_exit ?_
        refine qx_then (qx_then ?_)
        obtain rfl := hr455 _ (os q463)
        exact .inr (⟨_, rfl, ⟨rfl, v449, (by repeat (first | exact Sub.nil _ | refine Sub.cons rfl ?_)), (hm461.pick [0] (by decide) rfl)⟩⟩)
    · skip
      intro e env606 w607 hX608
      rcases hX608 with hX608 | hX608
      · obtain ⟨p610, rfl, hX608⟩ := hX608
        obtain ⟨rfl, hq612⟩ := hX608
        exact qr_block (qr_then ((by have e := os q458; subst e; exact hq612)))
      · obtain ⟨p613, rfl, hX608⟩ := hX608
        obtain ⟨rfl, v446, hs614, hm615⟩ := hX608
        refine qx_same (qn_then ?_)
        refine cw_sub hs614 ?_
        refine cw_seq ?_
        refine cw_region ?_
        refine t_rd rfl (rd_move rfl) ?_
        refine t_rd rfl (rd_assign rfl) ?_
        refine t_rd rfl (rd_assign rfl) ?_
        refine rwt_nil ?_
        refine qn_then ?_
        refine cw_ret ?_
        obtain rfl := os q458
        exact ret2 rfl rfl rfl ⟨v446, rfl, (hm615.pick [0] (by decide) rfl)⟩

theorem r23_Critical_ok {N : Nat} {a0 : List (List T_Span)} {a1 : Int} {a2 : Int} {res : List Int × Int} (h : r23_Critical N a0 a1 a2 = some res) {w : World} {v0 : Value} (hv0 : Sl (Old w No) w v0 a0) :
    CallsR Try.prog 35 [v0, (Value.int .i64 a1), (Value.int .i64 a2)] w (fun u w' => ∃ (y0 : Value), u = (Value.tuple #[y0, (Value.int .i64 res.2)]) ∧ Mem w No [ownL 3 y0 (res.1 : List Int)] w') := by
  unfold r23_Critical at h
  refine fn_ok Try.func35 rfl rfl rfl ?_
  obtain ⟨zs_a0, hn0⟩ := hv0.nest
  have hm0 := Mem.nil w
  refine cw_seq ?_
  refine cw_region ?_
  refine t_rd rfl (rd_assign rfl) ?_
  refine t_rd rfl (rd_assign rfl) ?_
  refine rwt_nil ?_
  refine qn_then ?_
  refine cw_seq ?_
  refine cw_region ?_
  refine t_rd rfl (rd_move rfl) ?_
  refine t_rd rfl (rd_move rfl) ?_
  obtain ⟨r1, h2, q3⟩ := ob h; clear h
  refine t_ef rfl (ef_call tf24 rfl (r23_Releases_ok h2 ((hn0.to_call hm0).sl))) ?_
  rintro _ w6 ⟨v4, e_, hm5⟩
  obtain rfl := e_.symm
  have hm7 := hm0.call hm5
  refine t_rd rfl (rd_move rfl) ?_
  refine t_rd rfl (rd_extract rfl rfl) ?_
  refine t_rd rfl (rd_extract rfl rfl) ?_
  refine t_rd rfl (rd_assign rfl) ?_
  refine t_rd rfl (rd_assign rfl) ?_
  refine rwt_nil ?_
  refine qn_then ?_
  refine cw_seq ?_
  refine cw_seq ?_
  refine cw_region ?_
  refine t_rd rfl (rd_move rfl) ?_
  refine t_rd rfl (rd_neq rfl rfl) ?_
  refine rwt_nil ?_
  refine qn_then ?_
  obtain ⟨hb8, q9⟩ | ⟨hb8, q9⟩ := oi q3 <;> clear q3
  · refine cw_t rfl hb8 ?_
    refine cw_seq ?_
    refine cw_region ?_
    refine t_rd rfl (rd_move rfl) ?_
    refine t_rd rfl (rd_assign rfl) ?_
    refine t_rd rfl (rd_assign rfl) ?_
    refine rwt_nil ?_
    refine qn_then ?_
    refine cw_ret ?_
    refine qr_then ?_
    obtain rfl := os q9
    have hm10 := hm7.addNil (α := Int) 3
    exact ret2 rfl rfl rfl ⟨(Value.slice none 0 0), rfl, (hm10.pick [0] (by decide) rfl)⟩
  · refine cw_f rfl hb8 ?_
    refine cw_skip ?_
    refine qn_then ?_
    refine cw_seq ?_
    refine cw_seq ?_
    refine cw_region ?_
    refine t_rd rfl (rd_move rfl) ?_
    refine t_rd rfl (rd_lss rfl rfl) ?_
    refine t_rd rfl (rd_move rfl) ?_
    refine t_rdg rfl rfl rfl rfl (gv_f _) (fun hg11 => (rd_move rfl)) ?_
    refine t_rdg rfl rfl rfl rfl (gv_f _) (fun hg12 => (rd_move rfl)) ?_
    refine t_rdg rfl rfl rfl rfl (gv_f _) (fun hg13 => (rd_lenS tS35 (gvx rfl hg13) ((hn0.of_old hm7).sl))) ?_
    refine t_rdg rfl rfl rfl rfl (gv_f _) (fun hg14 => (rd_geq (gvx rfl hg14) (gvx rfl hg14))) ?_
    refine t_rd rfl (rd_or rfl (fun hc15 => (gvx rfl (bnotIt hc15)))) ?_
    refine rwt_nil ?_
    refine qn_then ?_
    obtain ⟨hb16, q17⟩ | ⟨hb16, q17⟩ := oi q9 <;> clear q9
    · refine cw_t rfl hb16 ?_
      refine cw_seq ?_
      refine cw_region ?_
      refine t_rd rfl (rd_assign rfl) ?_
      refine t_rd rfl (rd_assign rfl) ?_
      refine rwt_nil ?_
      refine qn_then ?_
      refine cw_ret ?_
      refine qr_then ?_
      obtain rfl := os q17
      have hm18 := hm7.addNil (α := Int) 3
      exact ret2 rfl rfl rfl ⟨(Value.slice none 0 0), rfl, (hm18.pick [0] (by decide) rfl)⟩
    · refine cw_f rfl hb16 ?_
      refine cw_skip ?_
      refine qn_then ?_
      refine cw_seq ?_
      refine cw_region ?_
      refine t_rd rfl (rd_move rfl) ?_
      refine t_ef rfl (ef_bslice (l := ([a2] : List Int)) hm7 tS22 rfl (cs := #[(Value.int .i64 a2)]) (by unfold bsl; kernel_rfl) rfl rfl) ?_
      intro v19 w21 hm20
      refine t_rd rfl (rd_assign rfl) ?_
      refine rwt_nil ?_
      refine qn_then ?_
      refine cw_seq ?_
      refine cw_block ?_
      obtain ⟨r436, hit437, q438⟩ := ob q17; clear q17
      refine cw_loop2 (I := fun q envq wq => ∃ (v429 : Value), Sub [(0, v0), (1, (Value.int .i64 a1)), (8, v4), (10, v429)] envq ∧ Mem w No [ownL 3 v429 (q : List Int), ownL 3 v4 (r1.1 : List Int)] wq) (X := fun eq envq wq => eq = .exit 0 ∧ ∃ (v427 : Value), Sub [(10, v427)] envq ∧ Mem w No [ownL 3 v427 (r436 : List Int)] wq) hit437 ⟨v19, (by repeat (first | exact Sub.nil _ | refine Sub.cons rfl ?_)), (hm20.pick [0, 1] (by decide) rfl)⟩ ?_ ?_
      · rintro l428 x431 env432 w433 hf434 hr435 ⟨v429, hs_, hm_⟩
        have hs_ : Sub [(0, v0), (1, (Value.int .i64 a1)), (8, v4), (10, v429)] env432 := hs_
        have hm439 : Mem w No [ownL 3 v429 (l428 : List Int), ownL 3 v4 (r1.1 : List Int)] w433 := hm_
        refine cw_sub hs_ ?_
        clear hs_ hm_ q438
        have h : r23_Critical_l3 N a0 a1 r1 l428 = some x431 := hf434
        clear hf434
        refine cw_seq ?_
        refine cw_seq ?_
        refine cw_region ?_
        refine t_rd rfl (rd_move rfl) ?_
        refine t_rd rfl (rd_move rfl) ?_
        obtain ⟨x440, h441, q442⟩ := ob h; clear h
        refine t_rd rfl (rd_index tS22 rfl rfl (hm439.sl 0 rfl) h441) ?_
        refine t_rd rfl (rd_ld1 tO3 rfl ((hm439.sl 0 rfl).cells h441) (off := 0) rfl) ?_
        obtain ⟨x443, h444, q445⟩ := ob q442; clear q442
        refine t_rd rfl (rd_index tS22 rfl rfl (hm439.sl 1 rfl) h444) ?_
        refine t_rd rfl (rd_ld1 tO3 rfl ((hm439.sl 1 rfl).cells h444) (off := 0) rfl) ?_
        refine t_rd rfl (rd_gtr rfl rfl) ?_
        refine rwt_nil ?_
        refine qn_then ?_
        obtain ⟨hb446, q447⟩ | ⟨hb446, q447⟩ := oi q445 <;> clear q445
        · refine cw_t rfl hb446 ?_
          refine cw_skip ?_
          refine qn_then ?_
          refine cw_block ?_
          refine cw_seq ?_
          refine cw_region ?_
          refine t_rd rfl (rd_assign rfl) ?_
          refine rwt_nil ?_
          refine qn_then ?_
          refine cw_block ?_
          obtain ⟨r574, hit575, q576⟩ := ob q447; clear q447
          refine cw_loop2 (I := fun q envq wq => Sub [(0, v0), (1, (Value.int .i64 a1)), (8, v4), (10, v429), (11, (Value.int .i64 q))] envq ∧ Mem w No [ownL 3 v429 (l428 : List Int), ownL 3 v4 (r1.1 : List Int)] wq) (X := fun eq envq wq => eq = .exit 2 ∧ ∃ (v566 : Value), Sub [(0, v0), (1, (Value.int .i64 a1)), (8, v4), (10, v566)] envq ∧ Mem w No [ownL 3 v566 (r574 : List Int), ownL 3 v4 (r1.1 : List Int)] wq) hit575 ⟨(by repeat (first | exact Sub.nil _ | refine Sub.cons rfl ?_)), (hm439.pick [0, 1] (by decide) rfl)⟩ ?_ ?_
          · rintro i567 x569 env570 w571 hf572 hr573 ⟨hs_, hm_⟩
            have hs_ : Sub [(0, v0), (1, (Value.int .i64 a1)), (8, v4), (10, v429), (11, (Value.int .i64 i567))] env570 := hs_
            have hm577 : Mem w No [ownL 3 v429 (l428 : List Int), ownL 3 v4 (r1.1 : List Int)] w571 := hm_
            refine cw_sub hs_ ?_
            clear hs_ hm_ q576
            have h : r23_Critical_l4 N a0 a1 r1 l428 i567 = some x569 := hf572
            clear hf572
            refine cw_seq ?_
            refine cw_seq ?_
            refine cw_region ?_
            refine t_rd rfl (rd_move rfl) ?_
            refine t_rd rfl (rd_move rfl) ?_
            obtain ⟨x578, h579, q580⟩ := ob h; clear h
            refine t_rd rfl (rd_index tS22 rfl rfl (hm577.sl 0 rfl) h579) ?_
            refine t_rd rfl (rd_ld1 tO3 rfl ((hm577.sl 0 rfl).cells h579) (off := 0) rfl) ?_
            refine t_rd rfl (rd_lss rfl rfl) ?_
            refine rwt_nil ?_
            refine qn_then ?_
            obtain ⟨hb581, q582⟩ | ⟨hb581, q582⟩ := oi q580 <;> clear q580
            · refine cw_t rfl hb581 ?_
              refine cw_skip ?_
              refine qn_then ?_
              refine cw_seq ?_
              refine cw_block ?_
              refine cw_seq ?_
              obtain ⟨w584, he586⟩ : ∃ q, q = w571.drew := ⟨_, rfl⟩
              have hm585 := hm577.drew; rw [← he586] at hm585
              refine cw_region_s (fun q => q = w584) (cls [] [11]) mixed ?_
              rintro _ rfl; rw [← he586]
              refine s_rp (i := 0) rfl (by kernel_rfl) rfl (fun _ => (rd_move rfl)) ?_
              refine s_rp (i := 1) rfl (by kernel_rfl) rfl (fun _ => (rd_move rfl)) ?_
              obtain ⟨x587, h588, q589⟩ := ob q582; clear q582
              refine s_rp (i := 2) rfl (by kernel_rfl) rfl (fun _ => (rd_index tS35 rfl rfl ((hn0.of_old hm585).sl) h588)) ?_
              obtain ⟨zd590, hz591⟩ := (hn0.of_old hm585).row h588
              refine s_rd (i := 3) rfl (by kernel_rfl) rfl (fun _ hS => by rw [hS]; exact (rd_ld1 tO26 rfl ((hn0.of_old hm585).cells hz591) (off := 0) rfl)) rfl ?_
              refine s_rp (i := 4) rfl (by kernel_rfl) rfl (fun _ => (rd_move rfl)) ?_
              refine s_rp (i := 5) rfl (by kernel_rfl) rfl (fun _ => (rd_move rfl)) ?_
              obtain ⟨x592, h593, q594⟩ := ob q589; clear q589
              refine s_rp (i := 6) rfl (by kernel_rfl) rfl (fun _ => (rd_index tS22 rfl rfl (hm585.sl 0 rfl) h593)) ?_
              refine s_rd (i := 7) rfl (by kernel_rfl) rfl (fun _ hS => by rw [hS]; exact (rd_ld1 tO3 rfl ((hm585.sl 0 rfl).cells h593) (off := 0) rfl)) rfl ?_
              obtain ⟨x595, h596, q597⟩ := ob q594; clear q594
              refine s_rp (i := 8) rfl (by kernel_rfl) rfl (fun _ => (rd_index tS35 rfl rfl ((hn0.of_old hm585).sl) h596)) ?_
              obtain ⟨zd598, hz599⟩ := (hn0.of_old hm585).row h596
              refine s_rd (i := 9) rfl (by kernel_rfl) rfl (fun _ hS => by rw [hS]; exact (rd_ld1 tO26 rfl ((hn0.of_old hm585).cells hz599) (off := 0) rfl)) rfl ?_
              refine s_rp (i := 10) rfl (by kernel_rfl) rfl (fun _ => (rd_move rfl)) ?_
              obtain ⟨r600, h601, q602⟩ := ob q597; clear q597
              refine s_ef (i := 11) rfl (by kernel_rfl) rfl (ef_call tf33 rfl (r23_gap_ok h601 ((hn0.to_call hm585).get hz591 h588) ((hn0.to_call hm585).get hz599 h596))) (by decide) (fun _ _ _ q => absurd q (by decide)) ?_
              rintro _ w604 ⟨e_, hm603⟩
              obtain rfl := e_.symm
              have hm605 := hm585.call hm603
              refine s_rp (i := 12) rfl (by kernel_rfl) rfl (fun _ => (rd_move rfl)) ?_
              refine s_rp (i := 13) rfl (by kernel_rfl) rfl (fun _ => (rd_extract rfl rfl)) ?_
              refine s_rp (i := 14) rfl (by kernel_rfl) rfl (fun _ => (rd_extract rfl rfl)) ?_
              refine s_rp (i := 15) rfl (by kernel_rfl) rfl (fun _ => (rd_assign rfl)) ?_
              refine s_rp (i := 16) rfl (by kernel_rfl) rfl (fun _ => (rd_assign rfl)) ?_
              refine s_nil (by kernel_rfl) ?_
              refine qn_then ?_
              refine cw_seq ?_
              obtain ⟨w607, he609⟩ : ∃ q, q = w604.drew := ⟨_, rfl⟩
              have hm608 := hm605.drew; rw [← he609] at hm608
              refine cw_region_s (fun q => q = w607) (cls [] []) mixed ?_
              rintro _ rfl; rw [← he609]
              refine s_rp (i := 0) rfl (by kernel_rfl) rfl (fun _ => (rd_move rfl)) ?_
              refine s_rp (i := 1) rfl (by kernel_rfl) rfl (fun _ => (rd_move rfl)) ?_
              obtain ⟨x610, h611, q612⟩ := ob q602; clear q602
              refine s_rp (i := 2) rfl (by kernel_rfl) rfl (fun _ => (rd_index tS22 rfl rfl (hm608.sl 1 rfl) h611)) ?_
              refine s_rd (i := 3) rfl (by kernel_rfl) rfl (fun _ hS => by rw [hS]; exact (rd_ld1 tO3 rfl ((hm608.sl 1 rfl).cells h611) (off := 0) rfl)) rfl ?_
              refine s_rp (i := 4) rfl (by kernel_rfl) rfl (fun _ => (rd_move rfl)) ?_
              obtain ⟨x613, h614, q615⟩ := ob q612; clear q612
              refine s_rp (i := 5) rfl (by kernel_rfl) rfl (fun _ => (rd_add64 h614 rfl rfl)) ?_
              refine s_rp (i := 6) rfl (by kernel_rfl) rfl (fun _ => (rd_move rfl)) ?_
              refine s_rp (i := 7) rfl (by kernel_rfl) rfl (fun _ => (rd_move rfl)) ?_
              obtain ⟨x616, h617, q618⟩ := ob q615; clear q615
              refine s_rp (i := 8) rfl (by kernel_rfl) rfl (fun _ => (rd_index tS22 rfl rfl (hm608.sl 0 rfl) h617)) ?_
              refine s_rd (i := 9) rfl (by kernel_rfl) rfl (fun _ hS => by rw [hS]; exact (rd_ld1 tO3 rfl ((hm608.sl 0 rfl).cells h617) (off := 0) rfl)) rfl ?_
              obtain ⟨x619, h620, q621⟩ := ob q618; clear q618
              refine s_rp (i := 10) rfl (by kernel_rfl) rfl (fun _ => (rd_index tS22 rfl rfl (hm608.sl 1 rfl) h620)) ?_
              refine s_rd (i := 11) rfl (by kernel_rfl) rfl (fun _ hS => by rw [hS]; exact (rd_ld1 tO3 rfl ((hm608.sl 1 rfl).cells h620) (off := 0) rfl)) rfl ?_
              refine s_rp (i := 12) rfl (by kernel_rfl) rfl (fun _ => (rd_eql rfl rfl)) ?_
              refine s_nil (by kernel_rfl) ?_
              refine qn_then ?_
              obtain ⟨hb622, q623⟩ | ⟨hb622, q623⟩ := oi q621 <;> clear q621
              · refine cw_t rfl hb622 ?_
                refine cw_seq ?_
                refine cw_region ?_
                refine t_rd rfl (rd_move rfl) ?_
                refine t_ef rfl (ef_bslice (l := ([i567] : List Int)) hm608 tS22 rfl (cs := #[(Value.int .i64 i567)]) (by unfold bsl; kernel_rfl) rfl rfl) ?_
                intro v624 w626 hm625
                refine t_rd rfl (rd_move rfl) ?_
                obtain ⟨l627, h628, q629⟩ := ob q623; clear q623
                refine t_ef rfl (ef_append (k := 0) hm625 tS22 tE3 rfl rfl rfl rfl (hm625.sl 1 rfl) h628) ?_
                intro v630 w632 hm631
                refine t_rd rfl (rd_assign rfl) ?_
                refine rwt_nil ?_
                refine qn_then ?_
                refine cw_exit ?_
                refine qx_other rfl (qx_then (qx_then ?_))
                obtain rfl := hr573 _ (os q629)
                exact ⟨rfl, v630, (by repeat (first | exact Sub.nil _ | refine Sub.cons rfl ?_)), (hm631.pick [0, 2] (by decide) rfl)⟩
              · refine cw_f rfl hb622 ?_
                refine cw_skip ?_
                refine qn_block (qn_then ?_)
                refine cw_region ?_
                refine t_rd rfl (rd_move rfl) ?_
                obtain ⟨x633, h634, q635⟩ := ob q623; clear q623
                refine t_rd rfl (rd_add64 h634 rfl rfl) ?_
                refine t_rd rfl (rd_assign rfl) ?_
                refine rwt_nil ?_
                refine qn_then ?_
                refine ⟨_, (os q635), (by repeat (first | exact Sub.nil _ | refine Sub.cons rfl ?_)), (hm608.pick [0, 1] (by decide) rfl)⟩
            · refine cw_f rfl hb581 ?_
              refine cw_exit ?_
              refine qx_then (qx_then ?_)
              obtain rfl := hr573 _ (os q582)
              exact ⟨rfl, v429, (by repeat (first | exact Sub.nil _ | refine Sub.cons rfl ?_)), (hm577.pick [0, 1] (by decide) rfl)⟩
          · skip
            intro e env636 w637 hX638
            obtain ⟨rfl, v566, hs639, hm640⟩ := hX638
            refine qx_same (qn_block (qn_then ?_))
            refine ⟨_, (os q576), v566, (Sub.tr (by repeat (first | exact Sub.nil _ | refine Sub.cons rfl ?_)) hs639), (hm640.pick [0, 1] (by decide) rfl)⟩
        · refine cw_f rfl hb446 ?_
          refine cw_exit ?_
          refine qx_then (qx_then ?_)
          obtain rfl := hr435 _ (os q447)
          exact ⟨rfl, v429, (by repeat (first | exact Sub.nil _ | refine Sub.cons rfl ?_)), (hm439.pick [0] (by decide) rfl)⟩
      · skip
        intro e env641 w642 hX643
        obtain ⟨rfl, v427, hs644, hm645⟩ := hX643
        refine qx_same (qn_then ?_)
        refine cw_sub hs644 ?_
        refine cw_seq ?_
        refine cw_region ?_
        refine t_rd rfl (rd_move rfl) ?_
        refine t_rd rfl (rd_assign rfl) ?_
        refine t_rd rfl (rd_assign rfl) ?_
        refine rwt_nil ?_
        refine qn_then ?_
        refine cw_ret ?_
        obtain rfl := os q438
        exact ret2 rfl rfl rfl ⟨v427, rfl, (hm645.pick [0] (by decide) rfl)⟩

theorem separation_Check_ok {N : Nat} {a0 : List (List T_Span)} {a1 : Int} {a2 : List Int} {res : Bool × Int} (h : separation_Check N a0 a1 a2 = some res) {w : World} {v0 : Value} {v2 : Value} (hv0 : Sl (Old w No) w v0 a0) (hv2 : Sl (Old w No) w v2 a2) :
    CallsR Try.prog 26 [v0, (Value.int .i64 a1), v2] w (fun u w' => u = (Value.tuple #[(Value.bool res.1), (Value.int .i64 res.2)]) ∧ Mem w No [] w') := by
  unfold separation_Check at h
  refine fn_ok Try.func26 rfl rfl rfl ?_
  obtain ⟨zs_a0, hn0⟩ := hv0.nest
  have hm0 := Mem.nil w
  refine cw_seq ?_
  refine cw_region ?_
  refine t_rd rfl (rd_assign rfl) ?_
  refine t_rd rfl (rd_assign rfl) ?_
  refine rwt_nil ?_
  refine qn_then ?_
  refine cw_seq ?_
  refine cw_region ?_
  refine t_rd rfl (rd_move rfl) ?_
  refine t_rd rfl (rd_move rfl) ?_
  obtain ⟨r1, h2, q3⟩ := ob h; clear h
  refine t_ef rfl (ef_call tf37 rfl (separation_gaps_ok h2 ((hn0.to_call hm0).sl))) ?_
  rintro _ w7 ⟨zs5, v4, e_, hm6⟩
  obtain rfl := e_.symm
  have hm8 := hm0.call hm6
  refine t_rd rfl (rd_move rfl) ?_
  refine t_rd rfl (rd_extract rfl rfl) ?_
  refine t_rd rfl (rd_extract rfl rfl) ?_
  refine t_rd rfl (rd_assign rfl) ?_
  refine t_rd rfl (rd_assign rfl) ?_
  refine rwt_nil ?_
  refine qn_then ?_
  refine cw_seq ?_
  refine cw_seq ?_
  refine cw_region ?_
  refine t_rd rfl (rd_move rfl) ?_
  refine t_rd rfl (rd_neq rfl rfl) ?_
  refine rwt_nil ?_
  refine qn_then ?_
  obtain ⟨hb9, q10⟩ | ⟨hb9, q10⟩ := oi q3 <;> clear q3
  · refine cw_t rfl hb9 ?_
    refine cw_seq ?_
    refine cw_region ?_
    refine t_rd rfl (rd_move rfl) ?_
    refine t_rd rfl (rd_assign rfl) ?_
    refine t_rd rfl (rd_assign rfl) ?_
    refine rwt_nil ?_
    refine qn_then ?_
    refine cw_ret ?_
    refine qr_then ?_
    obtain rfl := os q10
    exact ret2 rfl rfl rfl ⟨rfl, (hm8.pick [] (by decide) rfl)⟩
  · refine cw_f rfl hb9 ?_
    refine cw_skip ?_
    refine qn_then ?_
    refine cw_seq ?_
    refine cw_seq ?_
    refine cw_region ?_
    refine t_rd rfl (rd_move rfl) ?_
    refine t_rd rfl (rd_lenS tS22 rfl (hv2.of_old hm8)) ?_
    refine t_rd rfl (rd_move rfl) ?_
    refine t_rd rfl (rd_lenS tS35 rfl ((hn0.of_old hm8).sl)) ?_
    refine t_rd rfl (rd_neq rfl rfl) ?_
    refine rwt_nil ?_
    refine qn_then ?_
    obtain ⟨hb11, q12⟩ | ⟨hb11, q12⟩ := oi q10 <;> clear q10
    · refine cw_t rfl hb11 ?_
      refine cw_seq ?_
      refine cw_region ?_
      refine t_rd rfl (rd_assign rfl) ?_
      refine t_rd rfl (rd_assign rfl) ?_
      refine rwt_nil ?_
      refine qn_then ?_
      refine cw_ret ?_
      refine qr_then ?_
      obtain rfl := os q12
      exact ret2 rfl rfl rfl ⟨rfl, (hm8.pick [] (by decide) rfl)⟩
    · refine cw_f rfl hb11 ?_
      refine cw_skip ?_
      refine qn_then ?_
      refine cw_seq ?_
      refine cw_seq ?_
      refine cw_region ?_
      refine t_rd rfl (rd_move rfl) ?_
      refine t_rd rfl (rd_lenS tS22 rfl (hv2.of_old hm8)) ?_
      refine t_rd rfl (rd_move rfl) ?_
      refine rwt_nil ?_
      refine qn_then ?_
      refine cw_block ?_
      obtain ⟨r201, hit202, q203⟩ := ob q12; clear q12
      refine cw_loop2 (I := fun q envq wq => Sub [(2, v2), (8, v4), (28, v2), (29, (Value.int .i64 (List.length a2 : Int))), (30, (Value.int .i64 q))] envq ∧ Mem w No [ownL 22 v4 (zs5 : List Hdr), rowsC 3 zs5 (r1.1 : List (List Int)) none] wq) (X := fun eq envq wq => (∃ p204, r201 = (Sum.inl p204) ∧ eq = .ret ∧ retQ Try.prog 61 Try.f26 (fun u w' => u = (Value.tuple #[(Value.bool p204.1), (Value.int .i64 p204.2)]) ∧ Mem w No [] w') .ret envq wq) ∨ (∃ p205, r201 = (Sum.inr p205) ∧ eq = .exit 0 ∧ Sub [] envq ∧ Mem w No [] wq)) hit202 ⟨(by repeat (first | exact Sub.nil _ | refine Sub.cons rfl ?_)), (hm8.pick [0, 1] (by decide) rfl)⟩ ?_ ?_
      · rintro i194 x196 env197 w198 hf199 hr200 ⟨hs_, hm_⟩
        have hs_ : Sub [(2, v2), (8, v4), (28, v2), (29, (Value.int .i64 (List.length a2 : Int))), (30, (Value.int .i64 i194))] env197 := hs_
        have hm206 : Mem w No [ownL 22 v4 (zs5 : List Hdr), rowsC 3 zs5 (r1.1 : List (List Int)) none] w198 := hm_
        refine cw_sub hs_ ?_
        clear hs_ hm_ q203
        have h : separation_Check_l3 N a2 r1 i194 = some x196 := hf199
        clear hf199
        refine cw_seq ?_
        refine cw_region ?_
        refine t_rd rfl (rd_lss rfl rfl) ?_
        refine rwt_nil ?_
        refine qn_then ?_
        refine cw_seq ?_
        obtain ⟨hb207, q208⟩ | ⟨hb207, q208⟩ := oi h <;> clear h
        · refine cw_t rfl hb207 ?_
          refine cw_skip ?_
          refine qn_then ?_
          refine cw_seq ?_
          refine cw_block ?_
          refine cw_seq ?_
          refine cw_region ?_
          refine t_rd rfl (rd_move rfl) ?_
          obtain ⟨x209, h210, q211⟩ := ob q208; clear q208
          refine t_rd rfl (rd_index tS22 rfl rfl (hv2.of_old hm206) h210) ?_
          refine t_rd rfl (rd_ld1 tO3 rfl ((hv2.of_old hm206).cells h210) (off := 0) rfl) ?_
          refine t_rd rfl (rd_assign rfl) ?_
          refine t_rd rfl (rd_assign rfl) ?_
          refine rwt_nil ?_
          refine qn_then ?_
          refine cw_seq ?_
          refine cw_seq ?_
          refine cw_region ?_
          refine t_rd rfl (rd_move rfl) ?_
          refine t_rd rfl (rd_lss rfl rfl) ?_
          refine t_rd rfl (rd_move rfl) ?_
          refine t_rdg rfl rfl rfl rfl (gv_f _) (fun hg212 => (rd_move rfl)) ?_
          refine t_rdg rfl rfl rfl rfl (gv_f _) (fun hg213 => (rd_gtr (gvx rfl hg213) rfl)) ?_
          refine t_rd rfl (rd_or rfl (fun hc214 => (gvx rfl (bnotIt hc214)))) ?_
          refine rwt_nil ?_
          refine qn_then ?_
          obtain ⟨hb215, q216⟩ | ⟨hb215, q216⟩ := oi q211 <;> clear q211
          · refine cw_t rfl hb215 ?_
            refine cw_seq ?_
            refine cw_region ?_
            refine t_rd rfl (rd_assign rfl) ?_
            refine t_rd rfl (rd_assign rfl) ?_
            refine rwt_nil ?_
            refine qn_then ?_
            refine cw_ret ?_
            refine qr_then (qr_block (qr_then (qr_then ?_)))
            obtain rfl := hr200 _ (os q216)
            refine .inl (⟨_, rfl, ⟨rfl, ?_⟩⟩)
            exact ret2 rfl rfl rfl ⟨rfl, (hm206.pick [] (by decide) rfl)⟩
          · refine cw_f rfl hb215 ?_
            refine cw_skip ?_
            refine qn_then ?_
            refine cw_seq ?_
            refine cw_region ?_
            refine t_rd rfl (rd_move rfl) ?_
            refine t_rd rfl (rd_move rfl) ?_
            obtain ⟨x217, h218, q219⟩ := ob q216; clear q216
            refine t_rd rfl (rd_index tS54 rfl rfl ((Nl.mk (hm206.sl_call 0 rfl) (hm206.rows_call 1 rfl)).sl) h218) ?_
            obtain ⟨zd220, hz221⟩ := (Nl.mk (hm206.sl_call 0 rfl) (hm206.rows_call 1 rfl)).row h218
            refine t_rd rfl (rd_ld1 tO22 rfl ((Nl.mk (hm206.sl_call 0 rfl) (hm206.rows_call 1 rfl)).cells hz221) (off := 0) rfl) ?_
            refine t_rd rfl (rd_lenS tS22 rfl ((Nl.mk (hm206.sl_call 0 rfl) (hm206.rows_call 1 rfl)).get hz221 h218)) ?_
            refine t_rd rfl (rd_move rfl) ?_
            refine rwt_nil ?_
            refine qn_then ?_
            refine cw_block ?_
            obtain ⟨r262, hit263, q264⟩ := ob q219; clear q219
            refine cw_loop2 (I := fun q envq wq => Sub [(2, v2), (8, v4), (11, (Value.int .i64 x209)), (28, v2), (29, (Value.int .i64 (List.length a2 : Int))), (30, (Value.int .i64 i194)), (44, zd220.1), (45, (Value.int .i64 (List.length x217 : Int))), (46, (Value.int .i64 q))] envq ∧ Mem w No [ownL 22 v4 (zs5 : List Hdr), rowsC 3 zs5 (r1.1 : List (List Int)) none] wq) (X := fun eq envq wq => (∃ p265, r262 = (Sum.inl p265) ∧ eq = .ret ∧ retQ Try.prog 61 Try.f26 (fun u w' => u = (Value.tuple #[(Value.bool p265.1), (Value.int .i64 p265.2)]) ∧ Mem w No [] w') .ret envq wq) ∨ (∃ p266, r262 = (Sum.inr p266) ∧ eq = .exit 2 ∧ Sub [(2, v2), (8, v4), (28, v2), (29, (Value.int .i64 (List.length a2 : Int))), (30, (Value.int .i64 i194))] envq ∧ Mem w No [ownL 22 v4 (zs5 : List Hdr), rowsC 3 zs5 (r1.1 : List (List Int)) none] wq)) hit263 ⟨(by repeat (first | exact Sub.nil _ | refine Sub.cons rfl ?_)), (hm206.pick [0, 1] (by decide) rfl)⟩ ?_ ?_
            · rintro i255 x257 env258 w259 hf260 hr261 ⟨hs_, hm_⟩
              have hs_ : Sub [(2, v2), (8, v4), (11, (Value.int .i64 x209)), (28, v2), (29, (Value.int .i64 (List.length a2 : Int))), (30, (Value.int .i64 i194)), (44, zd220.1), (45, (Value.int .i64 (List.length x217 : Int))), (46, (Value.int .i64 i255))] env258 := hs_
              have hm267 : Mem w No [ownL 22 v4 (zs5 : List Hdr), rowsC 3 zs5 (r1.1 : List (List Int)) none] w259 := hm_
              refine cw_sub hs_ ?_
              clear hs_ hm_ q264
              have h : separation_Check_l4 N a2 x209 x217 i255 = some x257 := hf260
              clear hf260
              refine cw_seq ?_
              refine cw_region ?_
              refine t_rd rfl (rd_lss rfl rfl) ?_
              refine rwt_nil ?_
              refine qn_then ?_
              refine cw_seq ?_
              obtain ⟨hb268, q269⟩ | ⟨hb268, q269⟩ := oi h <;> clear h
              · refine cw_t rfl hb268 ?_
                refine cw_skip ?_
                refine qn_then ?_
                refine cw_seq ?_
                refine cw_block ?_
                refine cw_seq ?_
                refine cw_region ?_
                refine t_rd rfl (rd_move rfl) ?_
                obtain ⟨x270, h271, q272⟩ := ob q269; clear q269
                refine t_rd rfl (rd_index tS22 rfl rfl ((Nl.mk (hm267.sl_call 0 rfl) (hm267.rows_call 1 rfl)).get hz221 h218) h271) ?_
                refine t_rd rfl (rd_ld1 tO3 rfl (((Nl.mk (hm267.sl_call 0 rfl) (hm267.rows_call 1 rfl)).get hz221 h218).cells h271) (off := 0) rfl) ?_
                refine t_rd rfl (rd_assign rfl) ?_
                refine t_rd rfl (rd_assign rfl) ?_
                refine rwt_nil ?_
                refine qn_then ?_
                refine cw_seq ?_
                refine cw_region ?_
                refine t_rd rfl (rd_move rfl) ?_
                refine t_rd rfl (rd_move rfl) ?_
                refine t_rd rfl (rd_move rfl) ?_
                obtain ⟨x273, h274, q275⟩ := ob q272; clear q272
                refine t_rd rfl (rd_index tS22 rfl rfl (hv2.of_old hm267) h274) ?_
                refine t_rd rfl (rd_ld1 tO3 rfl ((hv2.of_old hm267).cells h274) (off := 0) rfl) ?_
                refine t_rd rfl (rd_move rfl) ?_
                obtain ⟨x276, h277, q278⟩ := ob q275; clear q275
                refine t_rd rfl (rd_add64 h277 rfl rfl) ?_
                refine t_rd rfl (rd_lss rfl rfl) ?_
                refine rwt_nil ?_
                refine qn_then ?_
                obtain ⟨hb279, q280⟩ | ⟨hb279, q280⟩ := oi q278 <;> clear q278
                · refine cw_t rfl hb279 ?_
                  refine cw_seq ?_
                  refine cw_region ?_
                  refine t_rd rfl (rd_assign rfl) ?_
                  refine t_rd rfl (rd_assign rfl) ?_
                  refine rwt_nil ?_
                  refine qn_then ?_
                  refine cw_ret ?_
                  refine qr_block (qr_then (qr_then ?_))
                  obtain rfl := hr261 _ (os q280)
                  refine .inl (⟨_, rfl, ⟨rfl, ?_⟩⟩)
                  exact ret2 rfl rfl rfl ⟨rfl, (hm267.pick [] (by decide) rfl)⟩
                · refine cw_f rfl hb279 ?_
                  refine cw_skip ?_
                  refine qn_block (qn_then ?_)
                  refine cw_region ?_
                  obtain ⟨x281, h282, q283⟩ := ob q280; clear q280
                  refine t_rd rfl (rd_add64 h282 rfl rfl) ?_
                  refine t_rd rfl (rd_move rfl) ?_
                  refine rwt_nil ?_
                  refine qn_then ?_
                  refine ⟨_, (os q283), (by repeat (first | exact Sub.nil _ | refine Sub.cons rfl ?_)), (hm267.pick [0, 1] (by decide) rfl)⟩
              · refine cw_f rfl hb268 ?_
                refine cw_exit ?_
                refine qx_then (qx_then ?_)
                obtain rfl := hr261 _ (os q269)
                exact .inr (⟨_, rfl, ⟨rfl, (by repeat (first | exact Sub.nil _ | refine Sub.cons rfl ?_)), (hm267.pick [0, 1] (by decide) rfl)⟩⟩)
            · skip
              intro e env284 w285 hX286
              rcases hX286 with hX286 | hX286
              · obtain ⟨p288, rfl, hX286⟩ := hX286
                obtain ⟨rfl, hq290⟩ := hX286
                obtain rfl := hr200 _ (os q264)
                exact qr_block (qr_block (qr_then (qr_then (.inl (⟨_, rfl, ⟨rfl, hq290⟩⟩)))))
              · obtain ⟨p291, rfl, hX286⟩ := hX286
                obtain ⟨rfl, hs292, hm293⟩ := hX286
                refine qx_same (qn_block (qn_then ?_))
                refine cw_sub hs292 ?_
                refine cw_region ?_
                obtain ⟨x294, h295, q296⟩ := ob q264; clear q264
                refine t_rd rfl (rd_add64 h295 rfl rfl) ?_
                refine t_rd rfl (rd_move rfl) ?_
                refine rwt_nil ?_
                refine qn_then ?_
                refine ⟨_, (os q296), (by repeat (first | exact Sub.nil _ | refine Sub.cons rfl ?_)), (hm293.pick [0, 1] (by decide) rfl)⟩
        · refine cw_f rfl hb207 ?_
          refine cw_exit ?_
          refine qx_then (qx_then ?_)
          obtain rfl := hr200 _ (os q208)
          exact .inr (⟨_, rfl, ⟨rfl, (by repeat (first | exact Sub.nil _ | refine Sub.cons rfl ?_)), (hm206.pick [] (by decide) rfl)⟩⟩)
      · skip
        intro e env297 w298 hX299
        rcases hX299 with hX299 | hX299
        · obtain ⟨p301, rfl, hX299⟩ := hX299
          obtain ⟨rfl, hq303⟩ := hX299
          exact qr_block (qr_then ((by have e := os q203; subst e; exact hq303)))
        · obtain ⟨p304, rfl, hX299⟩ := hX299
          obtain ⟨rfl, hs305, hm306⟩ := hX299
          refine qx_same (qn_then ?_)
          refine cw_sub hs305 ?_
          refine cw_seq ?_
          refine cw_region ?_
          refine t_rd rfl (rd_assign rfl) ?_
          refine t_rd rfl (rd_assign rfl) ?_
          refine rwt_nil ?_
          refine qn_then ?_
          refine cw_ret ?_
          obtain rfl := os q203
          exact ret2 rfl rfl rfl ⟨rfl, (hm306.pick [] (by decide) rfl)⟩

theorem r23_Check_ok {N : Nat} {a0 : List (List T_Span)} {a1 : Int} {a2 : List Int} {res : Bool × Int} (h : r23_Check N a0 a1 a2 = some res) {w : World} {v0 : Value} {v2 : Value} (hv0 : Sl (Old w No) w v0 a0) (hv2 : Sl (Old w No) w v2 a2) :
    CallsR Try.prog 36 [v0, (Value.int .i64 a1), v2] w (fun u w' => u = (Value.tuple #[(Value.bool res.1), (Value.int .i64 res.2)]) ∧ Mem w No [] w') := by
  unfold r23_Check at h
  refine fn_ok Try.func36 rfl rfl rfl ?_
  obtain ⟨zs_a0, hn0⟩ := hv0.nest
  have hm0 := Mem.nil w
  refine cw_seq ?_
  refine cw_region ?_
  refine t_rd rfl (rd_assign rfl) ?_
  refine t_rd rfl (rd_assign rfl) ?_
  refine rwt_nil ?_
  refine qn_then ?_
  refine cw_seq ?_
  refine cw_seq ?_
  refine cw_region ?_
  refine t_rd rfl (rd_move rfl) ?_
  refine t_rd rfl (rd_move rfl) ?_
  obtain ⟨r1, h2, q3⟩ := ob h; clear h
  refine t_ef rfl (ef_call tf34 rfl (r23_Lists_ok h2 ((hn0.to_call hm0).sl))) ?_
  rintro _ w5 ⟨e_, hm4⟩
  obtain rfl := e_.symm
  have hm6 := hm0.call hm4
  refine t_rd rfl (rd_assign rfl) ?_
  refine rwt_nil ?_
  refine qn_then ?_
  refine cw_seq ?_
  refine cw_region ?_
  refine t_rd rfl (rd_move rfl) ?_
  refine t_rd rfl (rd_neq rfl rfl) ?_
  refine rwt_nil ?_
  refine qn_then ?_
  obtain ⟨hb7, q8⟩ | ⟨hb7, q8⟩ := oi q3 <;> clear q3
  · refine cw_t rfl hb7 ?_
    refine cw_seq ?_
    refine cw_region ?_
    refine t_rd rfl (rd_move rfl) ?_
    refine t_rd rfl (rd_assign rfl) ?_
    refine t_rd rfl (rd_assign rfl) ?_
    refine rwt_nil ?_
    refine qn_then ?_
    refine cw_ret ?_
    refine qr_then ?_
    obtain rfl := os q8
    exact ret2 rfl rfl rfl ⟨rfl, (hm6.pick [] (by decide) rfl)⟩
  · refine cw_f rfl hb7 ?_
    refine cw_skip ?_
    refine qn_then ?_
    refine cw_seq ?_
    refine cw_region ?_
    refine t_rd rfl (rd_move rfl) ?_
    refine t_rd rfl (rd_lenS tS22 rfl (hv2.of_old hm6)) ?_
    refine t_rd rfl (rd_move rfl) ?_
    refine t_rd rfl (rd_lenS tS35 rfl ((hn0.of_old hm6).sl)) ?_
    refine t_rd rfl (rd_eql rfl rfl) ?_
    refine t_rd rfl (rd_assign rfl) ?_
    refine rwt_nil ?_
    refine qn_then ?_
    refine cw_seq ?_
    refine cw_seq ?_
    refine cw_region ?_
    refine t_rd rfl (rd_assign rfl) ?_
    refine rwt_nil ?_
    refine qn_then ?_
    refine cw_block ?_
    obtain ⟨r66, hit67, q68⟩ := ob q8; clear q8
    refine cw_loop2 (I := fun q envq wq => Sub [(0, v0), (1, (Value.int .i64 a1)), (2, v2), (9, (Value.bool q.1)), (10, (Value.int .i64 q.2))] envq ∧ Mem w No [] wq) (X := fun eq envq wq => eq = .exit 0 ∧ Sub [(0, v0), (1, (Value.int .i64 a1)), (2, v2), (9, (Value.bool r66))] envq ∧ Mem w No [] wq) hit67 ⟨(by repeat (first | exact Sub.nil _ | refine Sub.cons rfl ?_)), (hm6.pick [] (by decide) rfl)⟩ ?_ ?_
    · rintro ⟨b58, i59⟩ x61 env62 w63 hf64 hr65 ⟨hs_, hm_⟩
      have hs_ : Sub [(0, v0), (1, (Value.int .i64 a1)), (2, v2), (9, (Value.bool b58)), (10, (Value.int .i64 i59))] env62 := hs_
      have hm69 : Mem w No [] w63 := hm_
      refine cw_sub hs_ ?_
      clear hs_ hm_ q68
      have h : r23_Check_l1 N a2 b58 i59 = some x61 := hf64
      clear hf64
      refine cw_seq ?_
      refine cw_seq ?_
      refine cw_region ?_
      refine t_rd rfl (rd_move rfl) ?_
      refine t_rd rfl (rd_move rfl) ?_
      refine t_rd rfl (rd_lenS tS22 rfl (hv2.of_old hm69)) ?_
      refine t_rd rfl (rd_lss rfl rfl) ?_
      refine rwt_nil ?_
      refine qn_then ?_
      obtain ⟨hb70, q71⟩ | ⟨hb70, q71⟩ := oi h <;> clear h
      · refine cw_t rfl hb70 ?_
        refine cw_skip ?_
        refine qn_then ?_
        refine cw_seq ?_
        refine cw_block ?_
        refine cw_region ?_
        refine t_rd rfl (rd_move rfl) ?_
        refine t_rd rfl (rd_move rfl) ?_
        refine t_rdg rfl rfl rfl rfl (gv_t _) (fun hg72 => (rd_move rfl)) ?_
        refine t_rdg rfl rfl rfl rfl (gv_t _) (fun hg73 => (rd_move rfl)) ?_
        obtain ⟨x75, h76, q77⟩ := ob q71; clear q71
        refine t_rdg rfl rfl rfl rfl (gv_t _) (fun hg74 => (rd_index tS22 (gvx rfl hg74) (gvx rfl hg74) (hv2.of_old hm69) (gO_t h76 hg74))) ?_
        refine t_rdg rfl rfl rfl rfl (gv_t _) (fun hg78 => (rd_ld1 tO3 (gvx rfl hg78) ((hv2.of_old hm69).cells (gO_t h76 hg78)) (off := 0) rfl)) ?_
        refine t_rdg rfl rfl rfl rfl (gv_t _) (fun hg79 => (rd_geq (gvx rfl hg79) rfl)) ?_
        refine t_rd rfl (rd_and rfl (fun hc80 => (gvx rfl hc80))) ?_
        refine t_rd rfl (rd_move rfl) ?_
        refine t_rdg rfl rfl rfl rfl (gv_t _) (fun hg81 => (rd_move rfl)) ?_
        refine t_rdg rfl rfl rfl rfl (gv_t _) (fun hg82 => (rd_move rfl)) ?_
        obtain ⟨x84, h85, q86⟩ := ob q77; clear q77
        refine t_rdg rfl rfl rfl rfl (gv_t _) (fun hg83 => (rd_index tS22 (gvx rfl hg83) (gvx rfl hg83) (hv2.of_old hm69) (gO_t h85 hg83))) ?_
        refine t_rdg rfl rfl rfl rfl (gv_t _) (fun hg87 => (rd_ld1 tO3 (gvx rfl hg87) ((hv2.of_old hm69).cells (gO_t h85 hg87)) (off := 0) rfl)) ?_
        refine t_rdg rfl rfl rfl rfl (gv_t _) (fun hg88 => (rd_leq (gvx rfl hg88) rfl)) ?_
        refine t_rd rfl (rd_and rfl (fun hc89 => (gvx rfl hc89))) ?_
        refine t_rd rfl (rd_assign rfl) ?_
        refine rwt_nil ?_
        refine qn_block (qn_then ?_)
        refine cw_region ?_
        refine t_rd rfl (rd_move rfl) ?_
        obtain ⟨x90, h91, q92⟩ := ob q86; clear q86
        refine t_rd rfl (rd_add64 h91 rfl rfl) ?_
        refine t_rd rfl (rd_assign rfl) ?_
        refine rwt_nil ?_
        refine qn_then ?_
        refine ⟨_, (os q92), (by repeat (first | exact Sub.nil _ | refine Sub.cons rfl ?_)), (hm69.pick [] (by decide) rfl)⟩
      · refine cw_f rfl hb70 ?_
        refine cw_exit ?_
        refine qx_then (qx_then ?_)
        obtain rfl := hr65 _ (os q71)
        exact ⟨rfl, (by repeat (first | exact Sub.nil _ | refine Sub.cons rfl ?_)), (hm69.pick [] (by decide) rfl)⟩
    · skip
      intro e env93 w94 hX95
      obtain ⟨rfl, hs96, hm97⟩ := hX95
      refine qx_same (qn_then ?_)
      refine cw_sub hs96 ?_
      refine cw_seq ?_
      refine cw_seq ?_
      refine cw_region ?_
      refine t_rd rfl (rd_assign rfl) ?_
      refine rwt_nil ?_
      refine qn_then ?_
      refine cw_block ?_
      obtain ⟨r485, hit486, q487⟩ := ob q68; clear q68
      refine cw_loop2 (I := fun q envq wq => Sub [(0, v0), (1, (Value.int .i64 a1)), (2, v2), (9, (Value.bool q.1)), (11, (Value.int .i64 q.2))] envq ∧ Mem w No [] wq) (X := fun eq envq wq => (∃ p488, r485 = (Sum.inl p488) ∧ eq = .ret ∧ retQ Try.prog 89 Try.f36 (fun u w' => u = (Value.tuple #[(Value.bool p488.1), (Value.int .i64 p488.2)]) ∧ Mem w No [] w') .ret envq wq) ∨ (∃ p489, r485 = (Sum.inr p489) ∧ eq = .exit 2 ∧ Sub [(9, (Value.bool p489))] envq ∧ Mem w No [] wq)) hit486 ⟨(by repeat (first | exact Sub.nil _ | refine Sub.cons rfl ?_)), (hm97.pick [] (by decide) rfl)⟩ ?_ ?_
      · rintro ⟨b477, i478⟩ x480 env481 w482 hf483 hr484 ⟨hs_, hm_⟩
        have hs_ : Sub [(0, v0), (1, (Value.int .i64 a1)), (2, v2), (9, (Value.bool b477)), (11, (Value.int .i64 i478))] env481 := hs_
        have hm490 : Mem w No [] w482 := hm_
        refine cw_sub hs_ ?_
        clear hs_ hm_ q487
        have h : r23_Check_l4 N a0 a1 a2 b477 i478 = some x480 := hf483
        clear hf483
        refine cw_seq ?_
        refine cw_seq ?_
        refine cw_region ?_
        refine t_rd rfl (rd_move rfl) ?_
        refine t_rd rfl (rd_move rfl) ?_
        refine t_rd rfl (rd_lenS tS35 rfl ((hn0.of_old hm490).sl)) ?_
        refine t_rd rfl (rd_lss rfl rfl) ?_
        refine rwt_nil ?_
        refine qn_then ?_
        obtain ⟨hb491, q492⟩ | ⟨hb491, q492⟩ := oi h <;> clear h
        · refine cw_t rfl hb491 ?_
          refine cw_skip ?_
          refine qn_then ?_
          refine cw_seq ?_
          refine cw_block ?_
          refine cw_seq ?_
          refine cw_region ?_
          refine t_rd rfl (rd_assign rfl) ?_
          refine rwt_nil ?_
          refine qn_then ?_
          refine cw_block ?_
          obtain ⟨r608, hit609, q610⟩ := ob q492; clear q492
          refine cw_loop2 (I := fun q envq wq => Sub [(0, v0), (1, (Value.int .i64 a1)), (2, v2), (9, (Value.bool q.1)), (11, (Value.int .i64 i478)), (12, (Value.int .i64 q.2))] envq ∧ Mem w No [] wq) (X := fun eq envq wq => (∃ p611, r608 = (Sum.inl p611) ∧ eq = .ret ∧ retQ Try.prog 89 Try.f36 (fun u w' => u = (Value.tuple #[(Value.bool p611.1), (Value.int .i64 p611.2)]) ∧ Mem w No [] w') .ret envq wq) ∨ (∃ p612, r608 = (Sum.inr p612) ∧ eq = .exit 4 ∧ Sub [(0, v0), (1, (Value.int .i64 a1)), (2, v2), (9, (Value.bool p612)), (11, (Value.int .i64 i478))] envq ∧ Mem w No [] wq)) hit609 ⟨(by repeat (first | exact Sub.nil _ | refine Sub.cons rfl ?_)), (hm490.pick [] (by decide) rfl)⟩ ?_ ?_
          · rintro ⟨b600, i601⟩ x603 env604 w605 hf606 hr607 ⟨hs_, hm_⟩
            have hs_ : Sub [(0, v0), (1, (Value.int .i64 a1)), (2, v2), (9, (Value.bool b600)), (11, (Value.int .i64 i478)), (12, (Value.int .i64 i601))] env604 := hs_
            have hm613 : Mem w No [] w605 := hm_
            refine cw_sub hs_ ?_
            clear hs_ hm_ q610
            have h : r23_Check_l5 N a0 a1 a2 i478 b600 i601 = some x603 := hf606
            clear hf606
            refine cw_seq ?_
            refine cw_seq ?_
            refine cw_region ?_
            refine t_rd rfl (rd_move rfl) ?_
            refine t_rd rfl (rd_move rfl) ?_
            refine t_rd rfl (rd_lss rfl rfl) ?_
            refine rwt_nil ?_
            refine qn_then ?_
            obtain ⟨hb614, q615⟩ | ⟨hb614, q615⟩ := oi h <;> clear h
            · refine cw_t rfl hb614 ?_
              refine cw_skip ?_
              refine qn_then ?_
              refine cw_seq ?_
              refine cw_block ?_
              refine cw_seq ?_
              obtain ⟨w617, he619⟩ : ∃ q, q = w605.drew := ⟨_, rfl⟩
              have hm618 := hm613.drew; rw [← he619] at hm618
              refine cw_region_s (fun q => q = w617) (cls [] [9]) mixed ?_
              rintro _ rfl; rw [← he619]
              refine s_rp (i := 0) rfl (by kernel_rfl) rfl (fun _ => (rd_move rfl)) ?_
              refine s_rp (i := 1) rfl (by kernel_rfl) rfl (fun _ => (rd_move rfl)) ?_
              obtain ⟨x620, h621, q622⟩ := ob q615; clear q615
              refine s_rp (i := 2) rfl (by kernel_rfl) rfl (fun _ => (rd_index tS35 rfl rfl ((hn0.of_old hm618).sl) h621)) ?_
              obtain ⟨zd623, hz624⟩ := (hn0.of_old hm618).row h621
              refine s_rd (i := 3) rfl (by kernel_rfl) rfl (fun _ hS => by rw [hS]; exact (rd_ld1 tO26 rfl ((hn0.of_old hm618).cells hz624) (off := 0) rfl)) rfl ?_
              refine s_rp (i := 4) rfl (by kernel_rfl) rfl (fun _ => (rd_move rfl)) ?_
              refine s_rp (i := 5) rfl (by kernel_rfl) rfl (fun _ => (rd_move rfl)) ?_
              obtain ⟨x625, h626, q627⟩ := ob q622; clear q622
              refine s_rp (i := 6) rfl (by kernel_rfl) rfl (fun _ => (rd_index tS35 rfl rfl ((hn0.of_old hm618).sl) h626)) ?_
              obtain ⟨zd628, hz629⟩ := (hn0.of_old hm618).row h626
              refine s_rd (i := 7) rfl (by kernel_rfl) rfl (fun _ hS => by rw [hS]; exact (rd_ld1 tO26 rfl ((hn0.of_old hm618).cells hz629) (off := 0) rfl)) rfl ?_
              refine s_rp (i := 8) rfl (by kernel_rfl) rfl (fun _ => (rd_move rfl)) ?_
              obtain ⟨r630, h631, q632⟩ := ob q627; clear q627
              refine s_ef (i := 9) rfl (by kernel_rfl) rfl (ef_call tf33 rfl (r23_gap_ok h631 ((hn0.to_call hm618).get hz624 h621) ((hn0.to_call hm618).get hz629 h626))) (by decide) (fun _ _ _ q => absurd q (by decide)) ?_
              rintro _ w634 ⟨e_, hm633⟩
              obtain rfl := e_.symm
              have hm635 := hm618.call hm633
              refine s_rp (i := 10) rfl (by kernel_rfl) rfl (fun _ => (rd_move rfl)) ?_
              refine s_rp (i := 11) rfl (by kernel_rfl) rfl (fun _ => (rd_extract rfl rfl)) ?_
              refine s_rp (i := 12) rfl (by kernel_rfl) rfl (fun _ => (rd_extract rfl rfl)) ?_
              refine s_rp (i := 13) rfl (by kernel_rfl) rfl (fun _ => (rd_assign rfl)) ?_
              refine s_rp (i := 14) rfl (by kernel_rfl) rfl (fun _ => (rd_assign rfl)) ?_
              refine s_nil (by kernel_rfl) ?_
              refine qn_then ?_
              refine cw_seq ?_
              refine cw_seq ?_
              refine cw_region ?_
              refine t_rd rfl (rd_move rfl) ?_
              refine t_rd rfl (rd_neq rfl rfl) ?_
              refine rwt_nil ?_
              refine qn_then ?_
              obtain ⟨hb636, q637⟩ | ⟨hb636, q637⟩ := oi q632 <;> clear q632
              · refine cw_t rfl hb636 ?_
                refine cw_seq ?_
                refine cw_region ?_
                refine t_rd rfl (rd_move rfl) ?_
                refine t_rd rfl (rd_assign rfl) ?_
                refine t_rd rfl (rd_assign rfl) ?_
                refine rwt_nil ?_
                refine qn_then ?_
                refine cw_ret ?_
                refine qr_then (qr_block (qr_then (qr_then ?_)))
                obtain rfl := hr607 _ (os q637)
                refine .inl (⟨_, rfl, ⟨rfl, ?_⟩⟩)
                exact ret2 rfl rfl rfl ⟨rfl, (hm635.pick [] (by decide) rfl)⟩
              · refine cw_f rfl hb636 ?_
                refine cw_skip ?_
                refine qn_then ?_
                obtain ⟨w639, he641⟩ : ∃ q, q = w634.drew := ⟨_, rfl⟩
                have hm640 := hm635.drew; rw [← he641] at hm640
                refine cw_region_s (fun q => q = w639) (cls [] []) mixed ?_
                rintro _ rfl; rw [← he641]
                refine s_rp (i := 0) rfl (by kernel_rfl) rfl (fun _ => (rd_move rfl)) ?_
                refine s_rp (i := 1) rfl (by kernel_rfl) rfl (fun _ => (rd_move rfl)) ?_
                refine s_rpg (i := 2) rfl (by kernel_rfl) rfl rfl rfl rfl (gv_t _) (fun hg642 _ => (rd_move rfl)) ?_
                refine s_rpg (i := 3) rfl (by kernel_rfl) rfl rfl rfl rfl (gv_t _) (fun hg643 _ => (rd_move rfl)) ?_
                obtain ⟨x645, h646, q647⟩ := ob q637; clear q637
                refine s_rpg (i := 4) rfl (by kernel_rfl) rfl rfl rfl rfl (gv_t _) (fun hg644 _ => (rd_index tS22 (gvx rfl hg644) (gvx rfl hg644) (hv2.of_old hm640) (gO_t h646 hg644))) ?_
                refine s_rdg (i := 5) rfl (by kernel_rfl) rfl rfl rfl rfl (gv_t _) (fun hg648 => (fun _ hS => by rw [hS]; exact (rd_ld1 tO3 (gvx rfl hg648) ((hv2.of_old hm640).cells (gO_t h646 hg648)) (off := 0) rfl))) rfl ?_
                refine s_rpg (i := 6) rfl (by kernel_rfl) rfl rfl rfl rfl (gv_t _) (fun hg649 _ => (rd_move rfl)) ?_
                refine s_rpg (i := 7) rfl (by kernel_rfl) rfl rfl rfl rfl (gv_t _) (fun hg650 _ => (rd_move rfl)) ?_
                obtain ⟨x652, h653, q654⟩ := ob q647; clear q647
                refine s_rpg (i := 8) rfl (by kernel_rfl) rfl rfl rfl rfl (gv_t _) (fun hg651 _ => (rd_index tS22 (gvx rfl hg651) (gvx rfl hg651) (hv2.of_old hm640) (gO_t h653 hg651))) ?_
                refine s_rdg (i := 9) rfl (by kernel_rfl) rfl rfl rfl rfl (gv_t _) (fun hg655 => (fun _ hS => by rw [hS]; exact (rd_ld1 tO3 (gvx rfl hg655) ((hv2.of_old hm640).cells (gO_t h653 hg655)) (off := 0) rfl))) rfl ?_
                obtain ⟨x657, h658, q659⟩ := ob q654; clear q654
                refine s_rpg (i := 10) rfl (by kernel_rfl) rfl rfl rfl rfl (gv_t _) (fun hg656 _ => (rd_sub64 (gO_t h658 hg656) (gvx rfl hg656) (gvx rfl hg656))) ?_
                refine s_rpg (i := 11) rfl (by kernel_rfl) rfl rfl rfl rfl (gv_t _) (fun hg660 _ => (rd_move rfl)) ?_
                refine s_rpg (i := 12) rfl (by kernel_rfl) rfl rfl rfl rfl (gv_t _) (fun hg661 _ => (rd_geq (gvx rfl hg661) (gvx rfl hg661))) ?_
                refine s_rp (i := 13) rfl (by kernel_rfl) rfl (fun _ => (rd_and rfl (fun hc662 => (gvx rfl hc662)))) ?_
                refine s_rp (i := 14) rfl (by kernel_rfl) rfl (fun _ => (rd_assign rfl)) ?_
                refine s_nil (by kernel_rfl) ?_
                refine qn_block (qn_then ?_)
                refine cw_region ?_
                refine t_rd rfl (rd_move rfl) ?_
                obtain ⟨x663, h664, q665⟩ := ob q659; clear q659
                refine t_rd rfl (rd_add64 h664 rfl rfl) ?_
                refine t_rd rfl (rd_assign rfl) ?_
                refine rwt_nil ?_
                refine qn_then ?_
                refine ⟨_, (os q665), (by repeat (first | exact Sub.nil _ | refine Sub.cons rfl ?_)), (hm640.pick [] (by decide) rfl)⟩
            · refine cw_f rfl hb614 ?_
              refine cw_exit ?_
              refine qx_then (qx_then ?_)
              obtain rfl := hr607 _ (os q615)
              exact .inr (⟨_, rfl, ⟨rfl, (by repeat (first | exact Sub.nil _ | refine Sub.cons rfl ?_)), (hm613.pick [] (by decide) rfl)⟩⟩)
          · skip
            intro e env666 w667 hX668
            rcases hX668 with hX668 | hX668
            · obtain ⟨p670, rfl, hX668⟩ := hX668
              obtain ⟨rfl, hq672⟩ := hX668
              obtain rfl := hr484 _ (os q610)
              exact qr_block (qr_block (qr_then (qr_then (.inl (⟨_, rfl, ⟨rfl, hq672⟩⟩)))))
            · obtain ⟨p673, rfl, hX668⟩ := hX668
              obtain ⟨rfl, hs674, hm675⟩ := hX668
              refine qx_same (qn_block (qn_then ?_))
              refine cw_sub hs674 ?_
              refine cw_region ?_
              refine t_rd rfl (rd_move rfl) ?_
              obtain ⟨x676, h677, q678⟩ := ob q610; clear q610
              refine t_rd rfl (rd_add64 h677 rfl rfl) ?_
              refine t_rd rfl (rd_assign rfl) ?_
              refine rwt_nil ?_
              refine qn_then ?_
              refine ⟨_, (os q678), (by repeat (first | exact Sub.nil _ | refine Sub.cons rfl ?_)), (hm675.pick [] (by decide) rfl)⟩
        · refine cw_f rfl hb491 ?_
          refine cw_exit ?_
          refine qx_then (qx_then ?_)
          obtain rfl := hr484 _ (os q492)
          exact .inr (⟨_, rfl, ⟨rfl, (by repeat (first | exact Sub.nil _ | refine Sub.cons rfl ?_)), (hm490.pick [] (by decide) rfl)⟩⟩)
      · skip
        intro e env679 w680 hX681
        rcases hX681 with hX681 | hX681
        · obtain ⟨p683, rfl, hX681⟩ := hX681
          obtain ⟨rfl, hq685⟩ := hX681
          exact qr_block (qr_then ((by have e := os q487; subst e; exact hq685)))
        · obtain ⟨p686, rfl, hX681⟩ := hX681
          obtain ⟨rfl, hs687, hm688⟩ := hX681
          refine qx_same (qn_then ?_)
          refine cw_sub hs687 ?_
          refine cw_seq ?_
          refine cw_region ?_
          refine t_rd rfl (rd_move rfl) ?_
          refine t_rd rfl (rd_assign rfl) ?_
          refine t_rd rfl (rd_assign rfl) ?_
          refine rwt_nil ?_
          refine qn_then ?_
          refine cw_ret ?_
          obtain rfl := os q487
          exact ret2 rfl rfl rfl ⟨rfl, (hm688.pick [] (by decide) rfl)⟩

theorem law23_exact_ok {N : Nat} {a0 : List (List T_Span)} {a1 : Int} {a2 : Int} {a3 : List Int} {res : Bool} (h : law23_exact N a0 a1 a2 a3 = some res) {w : World} {v0 : Value} {v3 : Value} (hv0 : Sl (Old w No) w v0 a0) (hv3 : Sl (Old w No) w v3 a3) :
    CallsR Try.prog 25 [v0, (Value.int .i64 a1), (Value.int .i64 a2), v3] w (fun u w' => u = (Value.bool res) ∧ Mem w No [] w') := by
  unfold law23_exact at h
  refine fn_ok Try.func25 rfl rfl rfl ?_
  obtain ⟨zs_a0, hn0⟩ := hv0.nest
  have hm0 := Mem.nil w
  refine cw_seq ?_
  refine cw_region ?_
  refine t_rd rfl (rd_assign rfl) ?_
  refine rwt_nil ?_
  refine qn_then ?_
  refine cw_seq ?_
  refine cw_region ?_
  refine t_rd rfl (rd_move rfl) ?_
  refine t_rd rfl (rd_move rfl) ?_
  obtain ⟨r1, h2, q3⟩ := ob h; clear h
  refine t_ef rfl (ef_call tf17 rfl (separation_Releases_ok h2 ((hn0.to_call hm0).sl))) ?_
  rintro _ w6 ⟨v4, e_, hm5⟩
  obtain rfl := e_.symm
  have hm7 := hm0.call hm5
  refine t_rd rfl (rd_move rfl) ?_
  refine t_rd rfl (rd_extract rfl rfl) ?_
  refine t_rd rfl (rd_extract rfl rfl) ?_
  refine t_rd rfl (rd_assign rfl) ?_
  refine t_rd rfl (rd_assign rfl) ?_
  refine rwt_nil ?_
  refine qn_then ?_
  refine cw_seq ?_
  refine cw_region ?_
  refine t_rd rfl (rd_move rfl) ?_
  refine t_rd rfl (rd_move rfl) ?_
  obtain ⟨r8, h9, q10⟩ := ob q3; clear q3
  refine t_ef rfl (ef_call tf24 rfl (r23_Releases_ok h9 ((hn0.to_call hm7).sl))) ?_
  rintro _ w13 ⟨v11, e_, hm12⟩
  obtain rfl := e_.symm
  have hm14 := hm7.call hm12
  refine t_rd rfl (rd_move rfl) ?_
  refine t_rd rfl (rd_extract rfl rfl) ?_
  refine t_rd rfl (rd_extract rfl rfl) ?_
  refine t_rd rfl (rd_assign rfl) ?_
  refine t_rd rfl (rd_assign rfl) ?_
  refine rwt_nil ?_
  refine qn_then ?_
  refine cw_seq ?_
  refine cw_region ?_
  refine t_rd rfl (rd_move rfl) ?_
  refine t_rd rfl (rd_move rfl) ?_
  refine t_rd rfl (rd_move rfl) ?_
  obtain ⟨r15, h16, q17⟩ := ob q10; clear q10
  refine t_ef rfl (ef_call tf16 rfl (separation_Critical_ok h16 ((hn0.to_call hm14).sl))) ?_
  rintro _ w20 ⟨v18, e_, hm19⟩
  obtain rfl := e_.symm
  have hm21 := hm14.call hm19
  refine t_rd rfl (rd_move rfl) ?_
  refine t_rd rfl (rd_extract rfl rfl) ?_
  refine t_rd rfl (rd_extract rfl rfl) ?_
  refine t_rd rfl (rd_assign rfl) ?_
  refine t_rd rfl (rd_assign rfl) ?_
  refine rwt_nil ?_
  refine qn_then ?_
  refine cw_seq ?_
  refine cw_region ?_
  refine t_rd rfl (rd_move rfl) ?_
  refine t_rd rfl (rd_move rfl) ?_
  refine t_rd rfl (rd_move rfl) ?_
  obtain ⟨r22, h23, q24⟩ := ob q17; clear q17
  refine t_ef rfl (ef_call tf35 rfl (r23_Critical_ok h23 ((hn0.to_call hm21).sl))) ?_
  rintro _ w27 ⟨v25, e_, hm26⟩
  obtain rfl := e_.symm
  have hm28 := hm21.call hm26
  refine t_rd rfl (rd_move rfl) ?_
  refine t_rd rfl (rd_extract rfl rfl) ?_
  refine t_rd rfl (rd_extract rfl rfl) ?_
  refine t_rd rfl (rd_assign rfl) ?_
  refine t_rd rfl (rd_assign rfl) ?_
  refine rwt_nil ?_
  refine qn_then ?_
  refine cw_seq ?_
  refine cw_region ?_
  refine t_rd rfl (rd_move rfl) ?_
  refine t_rd rfl (rd_move rfl) ?_
  refine t_rd rfl (rd_move rfl) ?_
  obtain ⟨r29, h30, q31⟩ := ob q24; clear q24
  refine t_ef rfl (ef_call tf26 rfl (separation_Check_ok h30 ((hn0.to_call hm28).sl) (hv3.to_call hm28))) ?_
  rintro _ w33 ⟨e_, hm32⟩
  obtain rfl := e_.symm
  have hm34 := hm28.call hm32
  refine t_rd rfl (rd_move rfl) ?_
  refine t_rd rfl (rd_extract rfl rfl) ?_
  refine t_rd rfl (rd_extract rfl rfl) ?_
  refine t_rd rfl (rd_assign rfl) ?_
  refine t_rd rfl (rd_assign rfl) ?_
  refine rwt_nil ?_
  refine qn_then ?_
  refine cw_seq ?_
  refine cw_region ?_
  refine t_rd rfl (rd_move rfl) ?_
  refine t_rd rfl (rd_move rfl) ?_
  refine t_rd rfl (rd_move rfl) ?_
  obtain ⟨r35, h36, q37⟩ := ob q31; clear q31
  refine t_ef rfl (ef_call tf36 rfl (r23_Check_ok h36 ((hn0.to_call hm34).sl) (hv3.to_call hm34))) ?_
  rintro _ w39 ⟨e_, hm38⟩
  obtain rfl := e_.symm
  have hm40 := hm34.call hm38
  refine t_rd rfl (rd_move rfl) ?_
  refine t_rd rfl (rd_extract rfl rfl) ?_
  refine t_rd rfl (rd_extract rfl rfl) ?_
  refine t_rd rfl (rd_assign rfl) ?_
  refine t_rd rfl (rd_assign rfl) ?_
  refine rwt_nil ?_
  refine qn_then ?_
  refine cw_seq ?_
  refine cw_seq ?_
  refine cw_region ?_
  refine t_rd rfl (rd_move rfl) ?_
  refine t_rd rfl (rd_move rfl) ?_
  obtain ⟨r41, h42, q43⟩ := ob q37; clear q37
  refine t_ef rfl (ef_call tf29 rfl (humpgen_Ints_ok h42 (hm40.sl_call 3 rfl) (hm40.sl_call 2 rfl))) ?_
  rintro _ w45 ⟨e_, hm44⟩
  obtain rfl := e_.symm
  have hm46 := hm40.call hm44
  refine t_rd rfl (rd_not rfl) ?_
  refine t_rd rfl (rd_move rfl) ?_
  refine t_rdg rfl rfl rfl rfl (gv_f _) (fun hg47 => (rd_move rfl)) ?_
  refine t_rdg rfl rfl rfl rfl (gv_f _) (fun hg48 => (rd_move rfl)) ?_
  refine t_rdg rfl rfl rfl rfl (gv_f _) (fun hg49 => (rd_neq (gvx rfl hg49) (gvx rfl hg49))) ?_
  refine t_rd rfl (rd_or rfl (fun hc50 => (gvx rfl (bnotIt hc50)))) ?_
  refine t_rd rfl (rd_move rfl) ?_
  refine t_rdg rfl rfl rfl rfl (gv_f _) (fun hg51 => (rd_move rfl)) ?_
  refine t_rdg rfl rfl rfl rfl (gv_f _) (fun hg52 => (rd_move rfl)) ?_
  obtain ⟨r54, h55, q56⟩ := ob q43; clear q43
  refine t_efg rfl rfl rfl rfl (R := (fun v w' => v = gV (!((!r41) || (!decide (r1.2 = r8.2)))) (Value.bool r54) ∧ Mem w45 No [] w')) (gv_f _) (fun hg53 => (ef_call tf29 (evc (gvx rfl hg53) (evc (gvx rfl hg53) evn)) (humpgen_Ints_ok (gO_t h55 hg53) (hm46.sl_call 1 rfl) (hm46.sl_call 0 rfl))).mono (by rintro _ _ ⟨rfl, q⟩; exact ⟨(gV_t hg53).symm, q⟩)) (fun q => ⟨(gV_f q).symm, Mem.nil _⟩) ?_
  rintro _ w58 ⟨rfl, hm57⟩
  have hm59 := hm46.call hm57
  refine t_rdg rfl rfl rfl rfl (gv_f _) (fun hg60 => (rd_not (gvx rfl hg60))) ?_
  refine t_rd rfl (rd_or rfl (fun hc61 => (gvx rfl (bnotIt hc61)))) ?_
  refine t_rd rfl (rd_move rfl) ?_
  refine t_rdg rfl rfl rfl rfl (gv_f _) (fun hg62 => (rd_move rfl)) ?_
  refine t_rdg rfl rfl rfl rfl (gv_f _) (fun hg63 => (rd_move rfl)) ?_
  refine t_rdg rfl rfl rfl rfl (gv_f _) (fun hg64 => (rd_neq (gvx rfl hg64) (gvx rfl hg64))) ?_
  refine t_rd rfl (rd_or rfl (fun hc65 => (gvx rfl (bnotIt hc65)))) ?_
  refine t_rd rfl (rd_move rfl) ?_
  refine t_rdg rfl rfl rfl rfl (gv_f _) (fun hg66 => (rd_move rfl)) ?_
  refine t_rdg rfl rfl rfl rfl (gv_f _) (fun hg67 => (rd_move rfl)) ?_
  refine t_rdg rfl rfl rfl rfl (gv_f _) (fun hg68 => (rd_neqb tB4 (gvx rfl hg68) (gvx rfl hg68))) ?_
  refine t_rd rfl (rd_or rfl (fun hc69 => (gvx rfl (bnotIt hc69)))) ?_
  refine t_rd rfl (rd_move rfl) ?_
  refine t_rdg rfl rfl rfl rfl (gv_f _) (fun hg70 => (rd_move rfl)) ?_
  refine t_rdg rfl rfl rfl rfl (gv_f _) (fun hg71 => (rd_move rfl)) ?_
  refine t_rdg rfl rfl rfl rfl (gv_f _) (fun hg72 => (rd_neq (gvx rfl hg72) (gvx rfl hg72))) ?_
  refine t_rd rfl (rd_or rfl (fun hc73 => (gvx rfl (bnotIt hc73)))) ?_
  refine rwt_nil ?_
  refine qn_then ?_
  obtain ⟨hb74, q75⟩ | ⟨hb74, q75⟩ := oi q56 <;> clear q56
  · refine cw_t rfl hb74 ?_
    refine cw_seq ?_
    refine cw_region ?_
    refine t_rd rfl (rd_assign rfl) ?_
    refine rwt_nil ?_
    refine qn_then ?_
    refine cw_ret ?_
    refine qr_then ?_
    obtain rfl := os q75
    exact ret1 rfl rfl ⟨rfl, (hm59.pick [] (by decide) rfl)⟩
  · refine cw_f rfl hb74 ?_
    refine cw_skip ?_
    refine qn_then ?_
    refine cw_seq ?_
    refine cw_seq ?_
    refine cw_region ?_
    refine t_rd rfl (rd_assign rfl) ?_
    refine rwt_nil ?_
    refine qn_then ?_
    refine cw_block ?_
    obtain ⟨r210, hit211, q212⟩ := ob q75; clear q75
    refine cw_loop2 (I := fun q envq wq => Sub [(0, v0), (1, (Value.int .i64 a1)), (21, (Value.int .i64 q))] envq ∧ Mem w No [] wq) (X := fun eq envq wq => (∃ p213, r210 = (Sum.inl p213) ∧ eq = .ret ∧ retQ Try.prog 143 Try.f25 (fun u w' => u = (Value.bool p213) ∧ Mem w No [] w') .ret envq wq) ∨ (∃ p214, r210 = (Sum.inr p214) ∧ eq = .exit 0 ∧ Sub [] envq ∧ Mem w No [] wq)) hit211 ⟨(by repeat (first | exact Sub.nil _ | refine Sub.cons rfl ?_)), (hm59.pick [] (by decide) rfl)⟩ ?_ ?_
    · rintro i203 x205 env206 w207 hf208 hr209 ⟨hs_, hm_⟩
      have hs_ : Sub [(0, v0), (1, (Value.int .i64 a1)), (21, (Value.int .i64 i203))] env206 := hs_
      have hm215 : Mem w No [] w207 := hm_
      refine cw_sub hs_ ?_
      clear hs_ hm_ q212
      have h : law23_exact_l1 N a0 a1 i203 = some x205 := hf208
      clear hf208
      refine cw_seq ?_
      refine cw_seq ?_
      refine cw_region ?_
      refine t_rd rfl (rd_move rfl) ?_
      obtain ⟨x216, h217, q218⟩ := ob h; clear h
      refine t_rd rfl (rd_add64 h217 rfl rfl) ?_
      refine t_rd rfl (rd_move rfl) ?_
      refine t_rd rfl (rd_lenS tS35 rfl ((hn0.of_old hm215).sl)) ?_
      refine t_rd rfl (rd_lss rfl rfl) ?_
      refine t_rd rfl (rd_move rfl) ?_
      refine t_rdg rfl rfl rfl rfl (gv_t _) (fun hg219 => (rd_move rfl)) ?_
      refine t_rdg rfl rfl rfl rfl (gv_t _) (fun hg220 => (rd_lss (gvx rfl hg220) rfl)) ?_
      refine t_rd rfl (rd_and rfl (fun hc221 => (gvx rfl hc221))) ?_
      refine rwt_nil ?_
      refine qn_then ?_
      obtain ⟨hb222, q223⟩ | ⟨hb222, q223⟩ := oi q218 <;> clear q218
      · refine cw_t rfl hb222 ?_
        refine cw_skip ?_
        refine qn_then ?_
        refine cw_seq ?_
        refine cw_block ?_
        refine cw_seq ?_
        obtain ⟨w225, he227⟩ : ∃ q, q = w207.drew := ⟨_, rfl⟩
        have hm226 := hm215.drew; rw [← he227] at hm226
        refine cw_region_s (fun q => q = w225) (cls [] [10]) mixed ?_
        rintro _ rfl; rw [← he227]
        refine s_rp (i := 0) rfl (by kernel_rfl) rfl (fun _ => (rd_move rfl)) ?_
        refine s_rp (i := 1) rfl (by kernel_rfl) rfl (fun _ => (rd_move rfl)) ?_
        obtain ⟨x228, h229, q230⟩ := ob q223; clear q223
        refine s_rp (i := 2) rfl (by kernel_rfl) rfl (fun _ => (rd_index tS35 rfl rfl ((hn0.of_old hm226).sl) h229)) ?_
        obtain ⟨zd231, hz232⟩ := (hn0.of_old hm226).row h229
        refine s_rd (i := 3) rfl (by kernel_rfl) rfl (fun _ hS => by rw [hS]; exact (rd_ld1 tO26 rfl ((hn0.of_old hm226).cells hz232) (off := 0) rfl)) rfl ?_
        refine s_rp (i := 4) rfl (by kernel_rfl) rfl (fun _ => (rd_move rfl)) ?_
        refine s_rp (i := 5) rfl (by kernel_rfl) rfl (fun _ => (rd_move rfl)) ?_
        obtain ⟨x233, h234, q235⟩ := ob q230; clear q230
        refine s_rp (i := 6) rfl (by kernel_rfl) rfl (fun _ => (rd_add64 h234 rfl rfl)) ?_
        obtain ⟨x236, h237, q238⟩ := ob q235; clear q235
        refine s_rp (i := 7) rfl (by kernel_rfl) rfl (fun _ => (rd_index tS35 rfl rfl ((hn0.of_old hm226).sl) h237)) ?_
        obtain ⟨zd239, hz240⟩ := (hn0.of_old hm226).row h237
        refine s_rd (i := 8) rfl (by kernel_rfl) rfl (fun _ hS => by rw [hS]; exact (rd_ld1 tO26 rfl ((hn0.of_old hm226).cells hz240) (off := 0) rfl)) rfl ?_
        refine s_rp (i := 9) rfl (by kernel_rfl) rfl (fun _ => (rd_move rfl)) ?_
        obtain ⟨r241, h242, q243⟩ := ob q238; clear q238
        refine s_ef (i := 10) rfl (by kernel_rfl) rfl (ef_call tf12 rfl (separation_Gap_ok h242 ((hn0.to_call hm226).get hz232 h229) ((hn0.to_call hm226).get hz240 h237))) (by decide) (fun _ _ _ q => absurd q (by decide)) ?_
        rintro _ w245 ⟨e_, hm244⟩
        obtain rfl := e_.symm
        have hm246 := hm226.call hm244
        refine s_rp (i := 11) rfl (by kernel_rfl) rfl (fun _ => (rd_move rfl)) ?_
        refine s_rp (i := 12) rfl (by kernel_rfl) rfl (fun _ => (rd_extract rfl rfl)) ?_
        refine s_rp (i := 13) rfl (by kernel_rfl) rfl (fun _ => (rd_extract rfl rfl)) ?_
        refine s_rp (i := 14) rfl (by kernel_rfl) rfl (fun _ => (rd_assign rfl)) ?_
        refine s_rp (i := 15) rfl (by kernel_rfl) rfl (fun _ => (rd_assign rfl)) ?_
        refine s_nil (by kernel_rfl) ?_
        refine qn_then ?_
        refine cw_seq ?_
        obtain ⟨w248, he250⟩ : ∃ q, q = w245.drew := ⟨_, rfl⟩
        have hm249 := hm246.drew; rw [← he250] at hm249
        refine cw_region_s (fun q => q = w248) (cls [] [10]) mixed ?_
        rintro _ rfl; rw [← he250]
        refine s_rp (i := 0) rfl (by kernel_rfl) rfl (fun _ => (rd_move rfl)) ?_
        refine s_rp (i := 1) rfl (by kernel_rfl) rfl (fun _ => (rd_move rfl)) ?_
        obtain ⟨x251, h252, q253⟩ := ob q243; clear q243
        refine s_rp (i := 2) rfl (by kernel_rfl) rfl (fun _ => (rd_index tS35 rfl rfl ((hn0.of_old hm249).sl) h252)) ?_
        obtain ⟨zd254, hz255⟩ := (hn0.of_old hm249).row h252
        refine s_rd (i := 3) rfl (by kernel_rfl) rfl (fun _ hS => by rw [hS]; exact (rd_ld1 tO26 rfl ((hn0.of_old hm249).cells hz255) (off := 0) rfl)) rfl ?_
        refine s_rp (i := 4) rfl (by kernel_rfl) rfl (fun _ => (rd_move rfl)) ?_
        refine s_rp (i := 5) rfl (by kernel_rfl) rfl (fun _ => (rd_move rfl)) ?_
        obtain ⟨x256, h257, q258⟩ := ob q253; clear q253
        refine s_rp (i := 6) rfl (by kernel_rfl) rfl (fun _ => (rd_add64 h257 rfl rfl)) ?_
        obtain ⟨x259, h260, q261⟩ := ob q258; clear q258
        refine s_rp (i := 7) rfl (by kernel_rfl) rfl (fun _ => (rd_index tS35 rfl rfl ((hn0.of_old hm249).sl) h260)) ?_
        obtain ⟨zd262, hz263⟩ := (hn0.of_old hm249).row h260
        refine s_rd (i := 8) rfl (by kernel_rfl) rfl (fun _ hS => by rw [hS]; exact (rd_ld1 tO26 rfl ((hn0.of_old hm249).cells hz263) (off := 0) rfl)) rfl ?_
        refine s_rp (i := 9) rfl (by kernel_rfl) rfl (fun _ => (rd_move rfl)) ?_
        obtain ⟨r264, h265, q266⟩ := ob q261; clear q261
        refine s_ef (i := 10) rfl (by kernel_rfl) rfl (ef_call tf18 rfl (r23_Gap_ok h265 ((hn0.to_call hm249).get hz255 h252) ((hn0.to_call hm249).get hz263 h260))) (by decide) (fun _ _ _ q => absurd q (by decide)) ?_
        rintro _ w268 ⟨e_, hm267⟩
        obtain rfl := e_.symm
        have hm269 := hm249.call hm267
        refine s_rp (i := 11) rfl (by kernel_rfl) rfl (fun _ => (rd_move rfl)) ?_
        refine s_rp (i := 12) rfl (by kernel_rfl) rfl (fun _ => (rd_extract rfl rfl)) ?_
        refine s_rp (i := 13) rfl (by kernel_rfl) rfl (fun _ => (rd_extract rfl rfl)) ?_
        refine s_rp (i := 14) rfl (by kernel_rfl) rfl (fun _ => (rd_assign rfl)) ?_
        refine s_rp (i := 15) rfl (by kernel_rfl) rfl (fun _ => (rd_assign rfl)) ?_
        refine s_nil (by kernel_rfl) ?_
        refine qn_then ?_
        refine cw_seq ?_
        refine cw_region ?_
        refine t_rd rfl (rd_move rfl) ?_
        refine t_rd rfl (rd_move rfl) ?_
        refine t_rd rfl (rd_neq rfl rfl) ?_
        refine t_rd rfl (rd_move rfl) ?_
        refine t_rdg rfl rfl rfl rfl (gv_f _) (fun hg270 => (rd_move rfl)) ?_
        refine t_rdg rfl rfl rfl rfl (gv_f _) (fun hg271 => (rd_move rfl)) ?_
        refine t_rdg rfl rfl rfl rfl (gv_f _) (fun hg272 => (rd_neq (gvx rfl hg272) (gvx rfl hg272))) ?_
        refine t_rd rfl (rd_or rfl (fun hc273 => (gvx rfl (bnotIt hc273)))) ?_
        refine rwt_nil ?_
        refine qn_then ?_
        obtain ⟨hb274, q275⟩ | ⟨hb274, q275⟩ := oi q266 <;> clear q266
        · refine cw_t rfl hb274 ?_
          refine cw_seq ?_
          refine cw_region ?_
          refine t_rd rfl (rd_assign rfl) ?_
          refine rwt_nil ?_
          refine qn_then ?_
          refine cw_ret ?_
          refine qr_block (qr_then (qr_then ?_))
          obtain rfl := hr209 _ (os q275)
          refine .inl (⟨_, rfl, ⟨rfl, ?_⟩⟩)
          exact ret1 rfl rfl ⟨rfl, (hm269.pick [] (by decide) rfl)⟩
        · refine cw_f rfl hb274 ?_
          refine cw_skip ?_
          refine qn_block (qn_then ?_)
          refine cw_region ?_
          refine t_rd rfl (rd_move rfl) ?_
          obtain ⟨x276, h277, q278⟩ := ob q275; clear q275
          refine t_rd rfl (rd_add64 h277 rfl rfl) ?_
          refine t_rd rfl (rd_assign rfl) ?_
          refine rwt_nil ?_
          refine qn_then ?_
          refine ⟨_, (os q278), (by repeat (first | exact Sub.nil _ | refine Sub.cons rfl ?_)), (hm269.pick [] (by decide) rfl)⟩
      · refine cw_f rfl hb222 ?_
        refine cw_exit ?_
        refine qx_then (qx_then ?_)
        obtain rfl := hr209 _ (os q223)
        exact .inr (⟨_, rfl, ⟨rfl, (by repeat (first | exact Sub.nil _ | refine Sub.cons rfl ?_)), (hm215.pick [] (by decide) rfl)⟩⟩)
    · skip
      intro e env279 w280 hX281
      rcases hX281 with hX281 | hX281
      · obtain ⟨p283, rfl, hX281⟩ := hX281
        obtain ⟨rfl, hq285⟩ := hX281
        exact qr_block (qr_then ((by have e := os q212; subst e; exact hq285)))
      · obtain ⟨p286, rfl, hX281⟩ := hX281
        obtain ⟨rfl, hs287, hm288⟩ := hX281
        refine qx_same (qn_then ?_)
        refine cw_sub hs287 ?_
        refine cw_seq ?_
        refine cw_region ?_
        refine t_rd rfl (rd_assign rfl) ?_
        refine rwt_nil ?_
        refine qn_then ?_
        refine cw_ret ?_
        obtain rfl := os q212
        exact ret1 rfl rfl ⟨rfl, (hm288.pick [] (by decide) rfl)⟩

theorem law23_SeparationExact_ok {N : Nat} {a0 : List Int} {a1 : List (List T_Span)} {a2 : Int} {a3 : Int} {a4 : List Int} {res : Bool} (h : law23_SeparationExact N a0 a1 a2 a3 a4 = some res) {w : World} {v0 : Value} {v1 : Value} {v4 : Value} (hv0 : Sl (Old w No) w v0 a0) (hv1 : Sl (Old w No) w v1 a1) (hv4 : Sl (Old w No) w v4 a4) :
    CallsR Try.prog 6 [v0, v1, (Value.int .i64 a2), (Value.int .i64 a3), v4] w (fun u w' => u = (Value.bool res) ∧ Mem w No [] w') := by
  unfold law23_SeparationExact at h
  refine fn_ok Try.func6 rfl rfl rfl ?_
  obtain ⟨zs_a1, hn1⟩ := hv1.nest
  have hm0 := Mem.nil w
  refine cw_seq ?_
  refine cw_region ?_
  refine t_rd rfl (rd_assign rfl) ?_
  refine rwt_nil ?_
  refine qn_then ?_
  refine cw_seq ?_
  refine cw_region ?_
  refine t_rd rfl (rd_move rfl) ?_
  obtain ⟨r1, h2, q3⟩ := ob h; clear h
  refine t_ef rfl (ef_call tf9 rfl (humpgen_New_ok h2 (hv0.to_call hm0))) ?_
  rintro _ w6 ⟨g4, e_, hm5⟩
  obtain rfl := e_.symm
  have hm7 := hm0.call hm5
  refine t_rd rfl (rd_assign rfl) ?_
  refine rwt_nil ?_
  refine qn_then ?_
  refine cw_seq ?_
  refine cw_seq ?_
  refine cw_region ?_
  refine t_rd rfl (rd_assign rfl) ?_
  refine rwt_nil ?_
  refine qn_then ?_
  refine cw_block ?_
  obtain ⟨r814, hit815, q816⟩ := ob q3; clear q3
  refine cw_loop2 (I := fun q envq wq => Sub [(1, v1), (2, (Value.int .i64 a2)), (3, (Value.int .i64 a3)), (4, v4), (11, (Value.pointer (some ⟨g4, 0, none⟩))), (12, (Value.int .i64 q.1))] envq ∧ Mem w No [blk g4 52 [v0, (Value.int .i64 q.2)]] wq) (X := fun eq envq wq => (∃ p817, r814 = (Sum.inl p817) ∧ eq = .ret ∧ retQ Try.prog 112 Try.f6 (fun u w' => u = (Value.bool p817) ∧ Mem w No [] w') .ret envq wq) ∨ (∃ p818, r814 = (Sum.inr p818) ∧ eq = .exit 0 ∧ Sub [(1, v1), (2, (Value.int .i64 a2)), (3, (Value.int .i64 a3)), (4, v4)] envq ∧ Mem w No [] wq)) hit815 ⟨(by repeat (first | exact Sub.nil _ | refine Sub.cons rfl ?_)), (hm7.pick [0] (by decide) rfl)⟩ ?_ ?_
  · rintro ⟨i806, i807⟩ x809 env810 w811 hf812 hr813 ⟨hs_, hm_⟩
    have hs_ : Sub [(1, v1), (2, (Value.int .i64 a2)), (3, (Value.int .i64 a3)), (4, v4), (11, (Value.pointer (some ⟨g4, 0, none⟩))), (12, (Value.int .i64 i806))] env810 := hs_
    have hm819 : Mem w No [blk g4 52 [v0, (Value.int .i64 i807)]] w811 := hm_
    refine cw_sub hs_ ?_
    clear hs_ hm_ q816
    have h : law23_SeparationExact_l3 N a0 a2 a3 a4 i806 i807 = some x809 := hf812
    clear hf812
    refine cw_seq ?_
    refine cw_seq ?_
    refine cw_region ?_
    refine t_rd rfl (rd_move rfl) ?_
    refine t_rd rfl (rd_lss rfl rfl) ?_
    refine rwt_nil ?_
    refine qn_then ?_
    obtain ⟨hb820, q821⟩ | ⟨hb820, q821⟩ := oi h <;> clear h
    · refine cw_t rfl hb820 ?_
      refine cw_skip ?_
      refine qn_then ?_
      refine cw_seq ?_
      refine cw_block ?_
      refine cw_seq ?_
      refine cw_region ?_
      refine t_rd rfl (rd_move rfl) ?_
      obtain ⟨r822, h823, q824⟩ := ob q821; clear q821
      refine t_ef rfl (ef_call tf14 rfl (yardgen_SpanLists_ok h823 (hv0.to_callT (k := 0) hm819 rfl) (hm819.get (k := 0) rfl))) ?_
      rintro _ w828 ⟨zs826, v825, e_, hm827⟩
      obtain rfl := e_.symm
      have hm829 := hm819.callT (k := 0) rfl (fun _ h => h) hm827 (fun _ => Iff.rfl)
      refine t_rd rfl (rd_assign rfl) ?_
      refine rwt_nil ?_
      refine qn_then ?_
      refine cw_seq ?_
      refine cw_seq ?_
      refine cw_region ?_
      refine t_rd rfl (rd_move rfl) ?_
      refine t_rd rfl (rd_eql rfl rfl) ?_
      refine t_rd rfl (rd_move rfl) ?_
      refine t_rdg rfl rfl rfl rfl (gv_t _) (fun hg830 => (rd_move rfl)) ?_
      refine t_rdg rfl rfl rfl rfl (gv_t _) (fun hg831 => (rd_lenS tS35 (gvx rfl hg831) ((Nl.mk (hm829.sl_call 0 rfl) (hm829.rows_call 1 rfl)).sl))) ?_
      refine t_rdg rfl rfl rfl rfl (gv_t _) (fun hg832 => (rd_gtr (gvx rfl hg832) rfl)) ?_
      refine t_rd rfl (rd_and rfl (fun hc833 => (gvx rfl hc833))) ?_
      refine rwt_nil ?_
      refine qn_then ?_
      obtain ⟨j904, hit905, q906⟩ := ob q824; clear q824
      refine cw_join (X := fun eq envq wq => eq = .normal ∧ ∃ (v902 : Value) (zs903 : List Hdr), Sub [(1, v1), (2, (Value.int .i64 a2)), (3, (Value.int .i64 a3)), (4, v4), (11, (Value.pointer (some ⟨g4, 0, none⟩))), (12, (Value.int .i64 i806)), (13, v902)] envq ∧ Mem w No [ownL 26 v902 (zs903 : List Hdr), rowsC 32 zs903 (j904.2 : List (List T_Span)) none, blk g4 52 [v0, (Value.int .i64 j904.1)]] wq) ?_ ?_
      · clear q906
        obtain ⟨hb907, q908⟩ | ⟨hb907, q908⟩ := oi hit905 <;> clear hit905
        · refine cw_t rfl hb907 ?_
          obtain ⟨w910, he912⟩ : ∃ q, q = w828.drew := ⟨_, rfl⟩
          have hm911 := hm829.drew; rw [← he912] at hm911
          refine cw_region_s (fun q => (ownL 26 v825 (zs826 : List Hdr)).φ q ∧ (rowsC 32 zs826 (r822.2 : List (List T_Span)) none).φ q) (cls [4] [9, 11]) mixed ?_
          rintro _ rfl; rw [← he912]
          refine s_rp (i := 0) rfl (by kernel_rfl) rfl (fun _ => (rd_move rfl)) ?_
          refine s_rp (i := 1) rfl (by kernel_rfl) rfl (fun _ => (rd_move rfl)) ?_
          refine s_rp (i := 2) rfl (by kernel_rfl) rfl (fun _ => (rd_move rfl)) ?_
          refine s_rp (i := 3) rfl (by kernel_rfl) rfl (fun _ => (rd_lenS tS35 rfl ((Nl.mk (hm911.sl_call 0 rfl) (hm911.rows_call 1 rfl)).sl))) ?_
          refine s_rp (i := 5) rfl (by kernel_rfl) rfl (fun _ => (rd_move rfl)) ?_
          refine s_rp (i := 6) rfl (by kernel_rfl) rfl (fun _ => (rd_move rfl)) ?_
          obtain ⟨x943, h944, q945⟩ := ob q908; clear q908
          refine s_rp (i := 7) rfl (by kernel_rfl) rfl (fun _ => (rd_index tS35 rfl rfl ((Nl.mk (hm911.sl_call 0 rfl) (hm911.rows_call 1 rfl)).sl) h944)) ?_
          obtain ⟨zd946, hz947⟩ := (Nl.mk (hm911.sl_call 0 rfl) (hm911.rows_call 1 rfl)).row h944
          refine s_rd (i := 8) rfl (by kernel_rfl) rfl (fun w909 hS => (rd_ld1 tO26 rfl ((nl_φ hS.1 hS.2).cells hz947) (off := 0) rfl)) ⟨(hm911.get (k := 0) rfl), (hm911.get (k := 1) rfl)⟩ ?_
          obtain ⟨r948, h949, q950⟩ := ob q945; clear q945
          refine s_ef (i := 4) rfl (by kernel_rfl) rfl (ef_call tf23 rfl (Maker_Next_ok h949 (hv0.to_callT (k := 2) hm911 rfl) (hm911.get (k := 2) rfl))) (by decide) ?_ ?_
          · rintro _ w952 ⟨e_, hm951⟩
            obtain rfl := e_.symm
            have hm953 := hm911.callT (k := 2) rfl (fun _ h => h) hm951 (fun _ => Iff.rfl)
            intro _
            exact ⟨(hm953.get (k := 0) rfl), (hm953.get (k := 1) rfl)⟩
          rintro _ w952 ⟨e_, hm951⟩
          obtain rfl := e_.symm
          have hm953 := hm911.callT (k := 2) rfl (fun _ h => h) hm951 (fun _ => Iff.rfl)
          obtain ⟨r954, h955, q956⟩ := ob q950; clear q950
          refine s_ef (i := 9) rfl (by kernel_rfl) rfl (ef_call tf22 rfl (yardgen_SpoilSpans_ok h955 (hv0.to_callT (k := 2) hm953 rfl) (hm953.get (k := 2) rfl) ((Nl.mk (hm953.sl_callT 0 2 rfl rfl (by decide)) (hm953.rows_callT 1 2 rfl rfl (by decide))).get hz947 h944))) (by decide) (fun _ _ _ q => absurd q (by decide)) ?_
          rintro _ w959 ⟨v957, e_, hm958⟩
          obtain rfl := e_.symm
          have hm960 := hm953.callT (k := 2) rfl (fun _ h => h) hm958 (fun _ => Iff.rfl)
          obtain ⟨x961, h962, q963⟩ := ob q956; clear q956
          refine s_rp (i := 10) rfl (by kernel_rfl) rfl (fun _ => (rd_index tS35 rfl rfl ((Nl.mk (hm960.sl_call 1 rfl) (hm960.rows_call 2 rfl)).sl) h962)) ?_
          obtain ⟨zd964, ez965⟩ : ∃ z : Hdr, z.1 = v957 := ⟨⟨v957, sl_one (hm960.sl 0 rfl)⟩, rfl⟩
          obtain ⟨zd966, hz967⟩ := (Nl.mk (hm960.sl_call 1 rfl) (hm960.rows_call 2 rfl)).row h962
          have hm968 := hm960.pick [2, 0, 1, 3] (L' := [rowsC 32 zs826 (r822.2 : List (List T_Span)) none, ownL 32 v957 (r954.2 : List T_Span), ownL 26 v825 (zs826 : List Hdr), blk g4 52 [v0, (Value.int .i64 r954.1)]]) (by decide) rfl
          have hm969 := hm968.hole (Int.toNat r948.2)
          refine s_ef0 (i := 11) rfl (by kernel_rfl) (ef_stl (k := 2) (off := 0) (x' := zd964) hm969 tO26 rfl rfl (sl_one (hm969.sl 1 rfl)) rfl hz967 (by show [v957] = [zd964.1]; rw [ez965]) rfl) (by decide) (fun _ _ _ q => absurd q (by decide)) ?_
          intro _ w971 hm970
          have hm972 := hm970.fill ez965
          refine s_nil (by kernel_rfl) ?_
          obtain rfl := os q963
          exact ⟨rfl, v825, (List.set zs826 (Int.toNat r948.2) zd964), (by repeat (first | exact Sub.nil _ | refine Sub.cons rfl ?_)), (hm972.pick [1, 0, 2] (by decide) rfl)⟩
        · refine cw_f rfl hb907 ?_
          refine cw_skip ?_
          obtain rfl := os q908
          exact ⟨rfl, v825, zs826, (by repeat (first | exact Sub.nil _ | refine Sub.cons rfl ?_)), (hm829.pick [0, 1, 2] (by decide) rfl)⟩
      · clear hit905
        intro e env973 w974 hX975
        obtain ⟨rfl, v902, zs903, hs976, hm977⟩ := hX975
        refine qn_then ?_
        refine cw_sub hs976 ?_
        refine cw_seq ?_
        refine cw_region ?_
        refine t_rd rfl (rd_move rfl) ?_
        obtain ⟨r978, h979, q980⟩ := ob q906; clear q906
        refine t_ef rfl (ef_call tf24 rfl (r23_Releases_ok h979 ((Nl.mk (hm977.sl_call 0 rfl) (hm977.rows_call 1 rfl)).sl))) ?_
        rintro _ w983 ⟨v981, e_, hm982⟩
        obtain rfl := e_.symm
        have hm984 := hm977.call hm982
        refine t_rd rfl (rd_move rfl) ?_
        refine t_rd rfl (rd_extract rfl rfl) ?_
        refine t_rd rfl (rd_extract rfl rfl) ?_
        refine t_rd rfl (rd_assign rfl) ?_
        refine t_rd rfl (rd_assign rfl) ?_
        refine rwt_nil ?_
        refine qn_then ?_
        refine cw_seq ?_
        refine cw_seq ?_
        refine cw_region ?_
        refine t_rd rfl (rd_assign rfl) ?_
        refine rwt_nil ?_
        refine qn_then ?_
        refine cw_block ?_
        obtain ⟨r1109, hit1110, q1111⟩ := ob q980; clear q980
        refine cw_loop2 (I := fun q envq wq => Sub [(1, v1), (2, (Value.int .i64 a2)), (3, (Value.int .i64 a3)), (4, v4), (11, (Value.pointer (some ⟨g4, 0, none⟩))), (12, (Value.int .i64 i806)), (13, v902), (14, v981), (16, (Value.int .i64 q.1))] envq ∧ Mem w No [ownL 3 v981 (q.2.2 : List Int), ownL 26 v902 (zs903 : List Hdr), rowsC 32 zs903 (j904.2 : List (List T_Span)) none, blk g4 52 [v0, (Value.int .i64 q.2.1)]] wq) (X := fun eq envq wq => eq = .exit 2 ∧ Sub [(1, v1), (2, (Value.int .i64 a2)), (3, (Value.int .i64 a3)), (4, v4), (11, (Value.pointer (some ⟨g4, 0, none⟩))), (12, (Value.int .i64 i806)), (13, v902), (14, v981)] envq ∧ Mem w No [ownL 3 v981 (r1109.2 : List Int), ownL 26 v902 (zs903 : List Hdr), rowsC 32 zs903 (j904.2 : List (List T_Span)) none, blk g4 52 [v0, (Value.int .i64 r1109.1)]] wq) hit1110 ⟨(by repeat (first | exact Sub.nil _ | refine Sub.cons rfl ?_)), (hm984.pick [0, 1, 2, 3] (by decide) rfl)⟩ ?_ ?_
        · rintro ⟨i1100, i1101, l1102⟩ x1104 env1105 w1106 hf1107 hr1108 ⟨hs_, hm_⟩
          have hs_ : Sub [(1, v1), (2, (Value.int .i64 a2)), (3, (Value.int .i64 a3)), (4, v4), (11, (Value.pointer (some ⟨g4, 0, none⟩))), (12, (Value.int .i64 i806)), (13, v902), (14, v981), (16, (Value.int .i64 i1100))] env1105 := hs_
          have hm1112 : Mem w No [ownL 3 v981 (l1102 : List Int), ownL 26 v902 (zs903 : List Hdr), rowsC 32 zs903 (j904.2 : List (List T_Span)) none, blk g4 52 [v0, (Value.int .i64 i1101)]] w1106 := hm_
          refine cw_sub hs_ ?_
          clear hs_ hm_ q1111
          have h : law23_SeparationExact_l4 N a0 i1100 i1101 l1102 = some x1104 := hf1107
          clear hf1107
          refine cw_seq ?_
          refine cw_seq ?_
          refine cw_region ?_
          refine t_rd rfl (rd_move rfl) ?_
          refine t_rd rfl (rd_move rfl) ?_
          refine t_rd rfl (rd_lenS tS22 rfl (hm1112.sl 0 rfl)) ?_
          refine t_rd rfl (rd_lss rfl rfl) ?_
          refine rwt_nil ?_
          refine qn_then ?_
          obtain ⟨hb1113, q1114⟩ | ⟨hb1113, q1114⟩ := oi h <;> clear h
          · refine cw_t rfl hb1113 ?_
            refine cw_skip ?_
            refine qn_then ?_
            refine cw_seq ?_
            refine cw_block ?_
            obtain ⟨w1116, he1118⟩ : ∃ q, q = w1106.drew := ⟨_, rfl⟩
            have hm1117 := hm1112.drew; rw [← he1118] at hm1117
            refine cw_region_s (fun q => (ownL 3 v981 (l1102 : List Int)).φ q) (cls [5, 6] [11]) mixed ?_
            rintro _ rfl; rw [← he1118]
            refine s_rp (i := 0) rfl (by kernel_rfl) rfl (fun _ => (rd_move rfl)) ?_
            refine s_rp (i := 1) rfl (by kernel_rfl) rfl (fun _ => (rd_move rfl)) ?_
            obtain ⟨x1142, h1143, q1144⟩ := ob q1114; clear q1114
            refine s_rp (i := 2) rfl (by kernel_rfl) rfl (fun _ => (rd_index tS22 rfl rfl (hm1117.sl 0 rfl) h1143)) ?_
            refine s_rd (i := 3) rfl (by kernel_rfl) rfl (fun w1115 hS => (rd_ld1 tO3 rfl ((sl_of_own hS).cells h1143) (off := 0) rfl)) (hm1117.get (k := 0) rfl) ?_
            refine s_rp (i := 4) rfl (by kernel_rfl) rfl (fun _ => (rd_move rfl)) ?_
            refine s_rp (i := 7) rfl (by kernel_rfl) rfl (fun _ => (rd_move rfl)) ?_
            refine s_ef (i := 5) rfl (by kernel_rfl) rfl (ef_bslice (l := ([0, 0, 0, 5, (-1)] : List Int)) hm1117 tS22 rfl (cs := #[(Value.int .i64 0), (Value.int .i64 0), (Value.int .i64 0), (Value.int .i64 5), (Value.int .i64 (-1))]) (by unfold bsl; kernel_rfl) rfl rfl) (by decide) ?_ ?_
            · intro v1145 w1147 hm1146
              intro _
              exact (hm1146.get (k := 1) rfl)
            intro v1145 w1147 hm1146
            obtain ⟨r1148, h1149, q1150⟩ := ob q1144; clear q1144
            refine s_ef (i := 6) rfl (by kernel_rfl) rfl (ef_call tf15 rfl (Maker_Pick_ok h1149 (hv0.to_callT (k := 4) hm1146 rfl) (hm1146.get (k := 4) rfl) (hm1146.sl_callT 0 4 rfl rfl (by decide)))) (by decide) ?_ ?_
            · rintro _ w1152 ⟨e_, hm1151⟩
              obtain rfl := e_.symm
              have hm1153 := hm1146.callT (k := 4) rfl (fun _ h => h) hm1151 (fun _ => Iff.rfl)
              intro _
              exact (hm1153.get (k := 1) rfl)
            rintro _ w1152 ⟨e_, hm1151⟩
            obtain rfl := e_.symm
            have hm1153 := hm1146.callT (k := 4) rfl (fun _ h => h) hm1151 (fun _ => Iff.rfl)
            obtain ⟨x1154, h1155, q1156⟩ := ob q1150; clear q1150
            refine s_rp (i := 8) rfl (by kernel_rfl) rfl (fun _ => (rd_mul64 h1155 rfl rfl)) ?_
            obtain ⟨x1157, h1158, q1159⟩ := ob q1156; clear q1156
            refine s_rp (i := 9) rfl (by kernel_rfl) rfl (fun _ => (rd_add64 h1158 rfl rfl)) ?_
            obtain ⟨x1160, h1161, q1162⟩ := ob q1159; clear q1159
            refine s_rp (i := 10) rfl (by kernel_rfl) rfl (fun _ => (rd_index tS22 rfl rfl (hm1153.sl 1 rfl) h1161)) ?_
            refine s_ef0 (i := 11) rfl (by kernel_rfl) (ef_stl (k := 1) (off := 0) (x' := x1157) hm1153 tO3 rfl rfl rfl rfl h1161 rfl rfl) (by decide) (fun _ _ _ q => absurd q (by decide)) ?_
            intro _ w1164 hm1163
            refine s_nil (by kernel_rfl) ?_
            refine qn_block (qn_then ?_)
            refine cw_region ?_
            refine t_rd rfl (rd_move rfl) ?_
            obtain ⟨x1165, h1166, q1167⟩ := ob q1162; clear q1162
            refine t_rd rfl (rd_add64 h1166 rfl rfl) ?_
            refine t_rd rfl (rd_assign rfl) ?_
            refine rwt_nil ?_
            refine qn_then ?_
            refine ⟨_, (os q1167), (by repeat (first | exact Sub.nil _ | refine Sub.cons rfl ?_)), (hm1163.pick [1, 2, 3, 4] (by decide) rfl)⟩
          · refine cw_f rfl hb1113 ?_
            refine cw_exit ?_
            refine qx_then (qx_then ?_)
            obtain rfl := hr1108 _ (os q1114)
            exact ⟨rfl, (by repeat (first | exact Sub.nil _ | refine Sub.cons rfl ?_)), (hm1112.pick [0, 1, 2, 3] (by decide) rfl)⟩
        · skip
          intro e env1168 w1169 hX1170
          obtain ⟨rfl, hs1171, hm1172⟩ := hX1170
          refine qx_same (qn_then ?_)
          refine cw_sub hs1171 ?_
          refine cw_seq ?_
          refine cw_region ?_
          refine t_rd rfl (rd_move rfl) ?_
          refine t_rd rfl (rd_move rfl) ?_
          refine t_ef rfl (ef_bslice (l := ([0, 800, 800, 1000000000, (-1), 1000000001] : List Int)) hm1172 tS22 rfl (cs := #[(Value.int .i64 0), (Value.int .i64 800), (Value.int .i64 800), (Value.int .i64 1000000000), (Value.int .i64 (-1)), (Value.int .i64 1000000001)]) (by unfold bsl; kernel_rfl) rfl rfl) ?_
          intro v1173 w1175 hm1174
          obtain ⟨r1176, h1177, q1178⟩ := ob q1111; clear q1111
          refine t_ef rfl (ef_call tf15 rfl (Maker_Pick_ok h1177 (hv0.to_callT (k := 4) hm1174 rfl) (hm1174.get (k := 4) rfl) (hm1174.sl_callT 0 4 rfl rfl (by decide)))) ?_
          rintro _ w1180 ⟨e_, hm1179⟩
          obtain rfl := e_.symm
          have hm1181 := hm1174.callT (k := 4) rfl (fun _ h => h) hm1179 (fun _ => Iff.rfl)
          refine t_rd rfl (rd_move rfl) ?_
          refine t_rd rfl (rd_move rfl) ?_
          refine t_rd rfl (rd_lenS tS35 rfl ((Nl.mk (hm1181.sl_call 2 rfl) (hm1181.rows_call 3 rfl)).sl)) ?_
          obtain ⟨x1182, h1183, q1184⟩ := ob q1178; clear q1178
          refine t_rd rfl (rd_add64 h1183 rfl rfl) ?_
          obtain ⟨r1185, h1186, q1187⟩ := ob q1184; clear q1184
          refine t_ef rfl (ef_call tf23 rfl (Maker_Next_ok h1186 (hv0.to_callT (k := 4) hm1181 rfl) (hm1181.get (k := 4) rfl))) ?_
          rintro _ w1189 ⟨e_, hm1188⟩
          obtain rfl := e_.symm
          have hm1190 := hm1181.callT (k := 4) rfl (fun _ h => h) hm1188 (fun _ => Iff.rfl)
          obtain ⟨x1191, h1192, q1193⟩ := ob q1187; clear q1187
          refine t_rd rfl (rd_sub64 h1192 rfl rfl) ?_
          refine t_rd rfl (rd_move rfl) ?_
          obtain ⟨r1194, h1195, q1196⟩ := ob q1193; clear q1193
          refine t_ef rfl (ef_call tf25 rfl (law23_exact_ok h1195 ((Nl.mk (hm1190.sl_call 2 rfl) (hm1190.rows_call 3 rfl)).sl) (hm1190.sl_call 1 rfl))) ?_
          rintro _ w1198 ⟨e_, hm1197⟩
          obtain rfl := e_.symm
          have hm1199 := hm1190.call hm1197
          refine t_rd rfl (rd_not rfl) ?_
          refine t_rd rfl (rd_move rfl) ?_
          refine t_rdg rfl rfl rfl rfl (gv_f _) (fun hg1200 => (rd_move rfl)) ?_
          refine t_rdg rfl rfl rfl rfl (gv_f _) (fun hg1201 => (rd_move rfl)) ?_
          refine t_rdg rfl rfl rfl rfl (gv_f _) (fun hg1202 => (rd_move rfl)) ?_
          refine t_rdg rfl rfl rfl rfl (gv_f _) (fun hg1203 => (rd_move rfl)) ?_
          obtain ⟨r1205, h1206, q1207⟩ := ob q1196; clear q1196
          refine t_efg rfl rfl rfl rfl (R := (fun v w' => v = gV (!(!r1194)) (Value.bool r1205) ∧ Mem w1198 No [] w')) (gv_f _) (fun hg1204 => (ef_call tf25 (evc (gvx rfl hg1204) (evc (gvx rfl hg1204) (evc (gvx rfl hg1204) (evc (gvx rfl hg1204) evn)))) (law23_exact_ok (gO_t h1206 hg1204) ((Nl.mk (hm1199.sl_call 2 rfl) (hm1199.rows_call 3 rfl)).sl) (hv4.to_call hm1199))).mono (by rintro _ _ ⟨rfl, q⟩; exact ⟨(gV_t hg1204).symm, q⟩)) (fun q => ⟨(gV_f q).symm, Mem.nil _⟩) ?_
          rintro _ w1209 ⟨rfl, hm1208⟩
          have hm1210 := hm1199.call hm1208
          refine t_rdg rfl rfl rfl rfl (gv_f _) (fun hg1211 => (rd_not (gvx rfl hg1211))) ?_
          refine t_rd rfl (rd_or rfl (fun hc1212 => (gvx rfl (bnotIt hc1212)))) ?_
          refine rwt_nil ?_
          refine qn_then ?_
          obtain ⟨hb1213, q1214⟩ | ⟨hb1213, q1214⟩ := oi q1207 <;> clear q1207
          · refine cw_t rfl hb1213 ?_
            refine cw_seq ?_
            refine cw_region ?_
            refine t_rd rfl (rd_assign rfl) ?_
            refine rwt_nil ?_
            refine qn_then ?_
            refine cw_ret ?_
            refine qr_block (qr_then (qr_then ?_))
            obtain rfl := hr813 _ (os q1214)
            refine .inl (⟨_, rfl, ⟨rfl, ?_⟩⟩)
            exact ret1 rfl rfl ⟨rfl, (hm1210.pick [] (by decide) rfl)⟩
          · refine cw_f rfl hb1213 ?_
            refine cw_skip ?_
            refine qn_block (qn_then ?_)
            refine cw_region ?_
            refine t_rd rfl (rd_move rfl) ?_
            obtain ⟨x1215, h1216, q1217⟩ := ob q1214; clear q1214
            refine t_rd rfl (rd_add64 h1216 rfl rfl) ?_
            refine t_rd rfl (rd_assign rfl) ?_
            refine rwt_nil ?_
            refine qn_then ?_
            refine ⟨_, (os q1217), (by repeat (first | exact Sub.nil _ | refine Sub.cons rfl ?_)), (hm1210.pick [4] (by decide) rfl)⟩
    · refine cw_f rfl hb820 ?_
      refine cw_exit ?_
      refine qx_then (qx_then ?_)
      obtain rfl := hr813 _ (os q821)
      exact .inr (⟨_, rfl, ⟨rfl, (by repeat (first | exact Sub.nil _ | refine Sub.cons rfl ?_)), (hm819.pick [] (by decide) rfl)⟩⟩)
  · skip
    intro e env1218 w1219 hX1220
    rcases hX1220 with hX1220 | hX1220
    · obtain ⟨p1222, rfl, hX1220⟩ := hX1220
      obtain ⟨rfl, hq1224⟩ := hX1220
      exact qr_block (qr_then ((by have e := os q816; subst e; exact hq1224)))
    · obtain ⟨p1225, rfl, hX1220⟩ := hX1220
      obtain ⟨rfl, hs1226, hm1227⟩ := hX1220
      refine qx_same (qn_then ?_)
      refine cw_sub hs1226 ?_
      refine cw_seq ?_
      refine cw_seq ?_
      refine cw_region ?_
      refine t_rd rfl (rd_move rfl) ?_
      refine t_rd rfl (rd_lenS tS35 rfl ((hn1.of_old hm1227).sl)) ?_
      refine t_rd rfl (rd_gtr rfl rfl) ?_
      refine rwt_nil ?_
      refine qn_then ?_
      obtain ⟨hb1228, q1229⟩ | ⟨hb1228, q1229⟩ := oi q816 <;> clear q816
      · refine cw_t rfl hb1228 ?_
        refine cw_seq ?_
        refine cw_region ?_
        obtain ⟨r1230, h1231, q1232⟩ := ob q1229; clear q1229
        refine t_ef rfl (ef_call tf13 rfl (law23_sane_ok h1231)) ?_
        rintro _ w1234 ⟨e_, hm1233⟩
        obtain rfl := e_.symm
        have hm1235 := hm1227.call hm1233
        refine t_rd rfl (rd_assign rfl) ?_
        refine rwt_nil ?_
        refine qn_then ?_
        refine cw_ret ?_
        refine qr_then ?_
        obtain rfl := os q1232
        exact ret1 rfl rfl ⟨rfl, (hm1235.pick [] (by decide) rfl)⟩
      · refine cw_f rfl hb1228 ?_
        refine cw_skip ?_
        refine qn_then ?_
        refine cw_seq ?_
        refine cw_seq ?_
        refine cw_region ?_
        refine t_rd rfl (rd_assign rfl) ?_
        refine rwt_nil ?_
        refine qn_then ?_
        refine cw_block ?_
        obtain ⟨r1280, hit1281, q1282⟩ := ob q1229; clear q1229
        refine cw_loop2 (I := fun q envq wq => Sub [(1, v1), (2, (Value.int .i64 a2)), (3, (Value.int .i64 a3)), (4, v4), (17, (Value.int .i64 q))] envq ∧ Mem w No [] wq) (X := fun eq envq wq => (∃ p1283, r1280 = (Sum.inl p1283) ∧ eq = .ret ∧ retQ Try.prog 112 Try.f6 (fun u w' => u = (Value.bool p1283) ∧ Mem w No [] w') .ret envq wq) ∨ (∃ p1284, r1280 = (Sum.inr p1284) ∧ eq = .exit 4 ∧ Sub [(1, v1), (2, (Value.int .i64 a2)), (3, (Value.int .i64 a3)), (4, v4)] envq ∧ Mem w No [] wq)) hit1281 ⟨(by repeat (first | exact Sub.nil _ | refine Sub.cons rfl ?_)), (hm1227.pick [] (by decide) rfl)⟩ ?_ ?_
        · rintro i1273 x1275 env1276 w1277 hf1278 hr1279 ⟨hs_, hm_⟩
          have hs_ : Sub [(1, v1), (2, (Value.int .i64 a2)), (3, (Value.int .i64 a3)), (4, v4), (17, (Value.int .i64 i1273))] env1276 := hs_
          have hm1285 : Mem w No [] w1277 := hm_
          refine cw_sub hs_ ?_
          clear hs_ hm_ q1282
          have h : law23_SeparationExact_l5 N a1 i1273 = some x1275 := hf1278
          clear hf1278
          refine cw_seq ?_
          refine cw_seq ?_
          refine cw_region ?_
          refine t_rd rfl (rd_move rfl) ?_
          refine t_rd rfl (rd_move rfl) ?_
          refine t_rd rfl (rd_lenS tS35 rfl ((hn1.of_old hm1285).sl)) ?_
          refine t_rd rfl (rd_lss rfl rfl) ?_
          refine rwt_nil ?_
          refine qn_then ?_
          obtain ⟨hb1286, q1287⟩ | ⟨hb1286, q1287⟩ := oi h <;> clear h
          · refine cw_t rfl hb1286 ?_
            refine cw_skip ?_
            refine qn_then ?_
            refine cw_seq ?_
            refine cw_block ?_
            refine cw_seq ?_
            refine cw_region ?_
            refine t_rd rfl (rd_move rfl) ?_
            refine t_rd rfl (rd_move rfl) ?_
            obtain ⟨x1288, h1289, q1290⟩ := ob q1287; clear q1287
            refine t_rd rfl (rd_index tS35 rfl rfl ((hn1.of_old hm1285).sl) h1289) ?_
            obtain ⟨zd1291, hz1292⟩ := (hn1.of_old hm1285).row h1289
            refine t_rd rfl (rd_ld1 tO26 rfl ((hn1.of_old hm1285).cells hz1292) (off := 0) rfl) ?_
            refine t_rd rfl (rd_lenS tS26 rfl ((hn1.of_old hm1285).get hz1292 h1289)) ?_
            refine t_rd rfl (rd_gtr rfl rfl) ?_
            refine rwt_nil ?_
            refine qn_then ?_
            obtain ⟨hb1293, q1294⟩ | ⟨hb1293, q1294⟩ := oi q1290 <;> clear q1290
            · refine cw_t rfl hb1293 ?_
              refine cw_seq ?_
              refine cw_region ?_
              obtain ⟨r1295, h1296, q1297⟩ := ob q1294; clear q1294
              refine t_ef rfl (ef_call tf13 rfl (law23_sane_ok h1296)) ?_
              rintro _ w1299 ⟨e_, hm1298⟩
              obtain rfl := e_.symm
              have hm1300 := hm1285.call hm1298
              refine t_rd rfl (rd_assign rfl) ?_
              refine rwt_nil ?_
              refine qn_then ?_
              refine cw_ret ?_
              refine qr_block (qr_then (qr_then ?_))
              obtain rfl := hr1279 _ (os q1297)
              refine .inl (⟨_, rfl, ⟨rfl, ?_⟩⟩)
              exact ret1 rfl rfl ⟨rfl, (hm1300.pick [] (by decide) rfl)⟩
            · refine cw_f rfl hb1293 ?_
              refine cw_skip ?_
              refine qn_block (qn_then ?_)
              refine cw_region ?_
              refine t_rd rfl (rd_move rfl) ?_
              obtain ⟨x1301, h1302, q1303⟩ := ob q1294; clear q1294
              refine t_rd rfl (rd_add64 h1302 rfl rfl) ?_
              refine t_rd rfl (rd_assign rfl) ?_
              refine rwt_nil ?_
              refine qn_then ?_
              refine ⟨_, (os q1303), (by repeat (first | exact Sub.nil _ | refine Sub.cons rfl ?_)), (hm1285.pick [] (by decide) rfl)⟩
          · refine cw_f rfl hb1286 ?_
            refine cw_exit ?_
            refine qx_then (qx_then ?_)
            obtain rfl := hr1279 _ (os q1287)
            exact .inr (⟨_, rfl, ⟨rfl, (by repeat (first | exact Sub.nil _ | refine Sub.cons rfl ?_)), (hm1285.pick [] (by decide) rfl)⟩⟩)
        · skip
          intro e env1304 w1305 hX1306
          rcases hX1306 with hX1306 | hX1306
          · obtain ⟨p1308, rfl, hX1306⟩ := hX1306
            obtain ⟨rfl, hq1310⟩ := hX1306
            exact qr_block (qr_then ((by have e := os q1282; subst e; exact hq1310)))
          · obtain ⟨p1311, rfl, hX1306⟩ := hX1306
            obtain ⟨rfl, hs1312, hm1313⟩ := hX1306
            refine qx_same (qn_then ?_)
            refine cw_sub hs1312 ?_
            refine cw_seq ?_
            refine cw_region ?_
            refine t_rd rfl (rd_move rfl) ?_
            refine t_rd rfl (rd_move rfl) ?_
            refine t_rd rfl (rd_move rfl) ?_
            refine t_rd rfl (rd_move rfl) ?_
            obtain ⟨r1314, h1315, q1316⟩ := ob q1282; clear q1282
            refine t_ef rfl (ef_call tf25 rfl (law23_exact_ok h1315 ((hn1.to_call hm1313).sl) (hv4.to_call hm1313))) ?_
            rintro _ w1318 ⟨e_, hm1317⟩
            obtain rfl := e_.symm
            have hm1319 := hm1313.call hm1317
            refine t_rd rfl (rd_move rfl) ?_
            obtain ⟨r1321, h1322, q1323⟩ := ob q1316; clear q1316
            refine t_efg rfl rfl rfl rfl (R := (fun v w' => v = gV r1314 (Value.bool r1321) ∧ Mem w1318 No [] w')) (gv_t _) (fun hg1320 => (ef_call tf13 rfl (law23_sane_ok (gO_t h1322 hg1320))).mono (by rintro _ _ ⟨rfl, q⟩; exact ⟨(gV_t hg1320).symm, q⟩)) (fun q => ⟨(gV_f q).symm, Mem.nil _⟩) ?_
            rintro _ w1325 ⟨rfl, hm1324⟩
            have hm1326 := hm1319.call hm1324
            refine t_rd rfl (rd_and rfl (fun hc1327 => (gvx rfl hc1327))) ?_
            refine t_rd rfl (rd_assign rfl) ?_
            refine rwt_nil ?_
            refine qn_then ?_
            refine cw_ret ?_
            obtain rfl := os q1323
            exact ret1 rfl rfl ⟨rfl, (hm1326.pick [] (by decide) rfl)⟩

end Go.Proofs.Ytgabhhciodicoaa
