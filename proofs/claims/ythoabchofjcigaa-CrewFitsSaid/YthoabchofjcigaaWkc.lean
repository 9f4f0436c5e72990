/- Each call computes what its mirror does; written by a program of mine (gowalk.py). -/
import Derived.Test.YthoabchofjcigaaWkb
namespace Go.Proofs.Ythoabchofjcigaa
open Go.Gv Go.RowKit
set_option linter.unusedVariables false
set_option maxRecDepth 100000

theorem r40_Covers_ok {N : Nat} {a0 : List T_Task} {a1 : List T_Crew} {a2 : List Int} {a3 : List Int} {res : Bool} (h : r40_Covers N a0 a1 a2 a3 = some res) {w : World} {v0 : Value} {v1 : Value} {v2 : Value} {v3 : Value} (hv0 : Sl (Old w No) w v0 a0) (hv1 : Sl (Old w No) w v1 a1) (hv2 : Sl (Old w No) w v2 a2) (hv3 : Sl (Old w No) w v3 a3) :
    CallsR Try.prog 21 [v0, v1, v2, v3] w (fun u w' => u = (Value.bool res) ∧ Mem w No [] w') := by
  unfold r40_Covers at h
  refine fn_ok Try.func21 rfl rfl rfl ?_
  have hm0 := Mem.nil w
  refine cw_seq ?_
  refine cw_region ?_
  refine t_rd rfl (rd_assign rfl) ?_
  refine rwt_nil ?_
  refine qn_then ?_
  refine cw_seq ?_
  refine cw_seq ?_
  refine cw_region ?_
  refine t_rd rfl (rd_move rfl) ?_
  refine t_rd rfl (rd_move rfl) ?_
  refine t_rd rfl (rd_lenS tS25 rfl (hv0.of_old hm0)) ?_
  obtain ⟨r1, h2, q3⟩ := ob h; clear h
  refine t_ef rfl (ef_call tf29 rfl (r40_ascending_ok h2 (hv2.to_call hm0))) ?_
  rintro _ w5 ⟨e_, hm4⟩
  obtain rfl := e_.symm
  have hm6 := hm0.call hm4
  refine t_rd rfl (rd_not rfl) ?_
  refine t_rd rfl (rd_move rfl) ?_
  refine t_rdg rfl rfl rfl rfl (gv_f _) (fun hg7 => (rd_move rfl)) ?_
  refine t_rdg rfl rfl rfl rfl (gv_f _) (fun hg8 => (rd_move rfl)) ?_
  refine t_rdg rfl rfl rfl rfl (gv_f _) (fun hg9 => (rd_lenS tS26 (gvx rfl hg9) (hv1.of_old hm6))) ?_
  obtain ⟨r11, h12, q13⟩ := ob q3; clear q3
  refine t_efg rfl rfl rfl rfl (R := (fun v w' => v = gV (!(!r1)) (Value.bool r11) ∧ Mem w5 No [] w')) (gv_f _) (fun hg10 => (ef_call tf29 (evc (gvx rfl hg10) (evc (gvx rfl hg10) evn)) (r40_ascending_ok (gO_t h12 hg10) (hv3.to_call hm6))).mono (by rintro _ _ ⟨rfl, q⟩; exact ⟨(gV_t hg10).symm, q⟩)) (fun q => ⟨(gV_f q).symm, Mem.nil _⟩) ?_
  rintro _ w15 ⟨rfl, hm14⟩
  have hm16 := hm6.call hm14
  refine t_rdg rfl rfl rfl rfl (gv_f _) (fun hg17 => (rd_not (gvx rfl hg17))) ?_
  refine t_rd rfl (rd_or rfl (fun hc18 => (gvx rfl (bnotIt hc18)))) ?_
  refine rwt_nil ?_
  refine qn_then ?_
  obtain ⟨hb19, q20⟩ | ⟨hb19, q20⟩ := oi q13 <;> clear q13
  · refine cw_t rfl hb19 ?_
    refine cw_seq ?_
    refine cw_region ?_
    refine t_rd rfl (rd_assign rfl) ?_
    refine rwt_nil ?_
    refine qn_then ?_
    refine cw_ret ?_
    refine qr_then ?_
    obtain rfl := os q20
    exact ret1 rfl rfl ⟨rfl, (hm16.pick [] (by decide) rfl)⟩
  · refine cw_f rfl hb19 ?_
    refine cw_skip ?_
    refine qn_then ?_
    refine cw_seq ?_
    refine cw_seq ?_
    refine cw_region ?_
    refine t_rd rfl (rd_assign rfl) ?_
    refine rwt_nil ?_
    refine qn_then ?_
    refine cw_block ?_
    obtain ⟨r357, hit358, q359⟩ := ob q20; clear q20
    refine cw_loop2 (I := fun q envq wq => Sub [(0, v0), (1, v1), (2, v2), (3, v3), (9, (Value.int .i64 q))] envq ∧ Mem w No [] wq) (X := fun eq envq wq => (∃ p360, r357 = (Sum.inl p360) ∧ eq = .ret ∧ retQ Try.prog 56 Try.f21 (fun u w' => u = (Value.bool p360) ∧ Mem w No [] w') .ret envq wq) ∨ (∃ p361, r357 = (Sum.inr p361) ∧ eq = .exit 0 ∧ Sub [] envq ∧ Mem w No [] wq)) hit358 ⟨(by repeat (first | exact Sub.nil _ | refine Sub.cons rfl ?_)), (hm16.pick [] (by decide) rfl)⟩ ?_ ?_
    · rintro i350 x352 env353 w354 hf355 hr356 ⟨hs_, hm_⟩
      have hs_ : Sub [(0, v0), (1, v1), (2, v2), (3, v3), (9, (Value.int .i64 i350))] env353 := hs_
      have hm362 : Mem w No [] w354 := hm_
      refine cw_sub hs_ ?_
      clear hs_ hm_ q359
      have h : r40_Covers_l3 N a0 a1 a2 a3 i350 = some x352 := hf355
      clear hf355
      refine cw_seq ?_
      refine cw_seq ?_
      refine cw_region ?_
      refine t_rd rfl (rd_move rfl) ?_
      refine t_rd rfl (rd_move rfl) ?_
      refine t_rd rfl (rd_lenS tS25 rfl (hv0.of_old hm362)) ?_
      refine t_rd rfl (rd_lss rfl rfl) ?_
      refine rwt_nil ?_
      refine qn_then ?_
      obtain ⟨hb363, q364⟩ | ⟨hb363, q364⟩ := oi h <;> clear h
      · refine cw_t rfl hb363 ?_
        refine cw_skip ?_
        refine qn_then ?_
        refine cw_seq ?_
        refine cw_block ?_
        refine cw_seq ?_
        refine cw_region ?_
        refine t_rd rfl (rd_assign rfl) ?_
        refine rwt_nil ?_
        refine qn_then ?_
        refine cw_block ?_
        obtain ⟨r463, hit464, q465⟩ := ob q364; clear q364
        refine cw_loop2 (I := fun q envq wq => Sub [(0, v0), (1, v1), (2, v2), (3, v3), (9, (Value.int .i64 i350)), (10, (Value.int .i64 q))] envq ∧ Mem w No [] wq) (X := fun eq envq wq => (∃ p466, r463 = (Sum.inl p466) ∧ eq = .ret ∧ retQ Try.prog 56 Try.f21 (fun u w' => u = (Value.bool p466) ∧ Mem w No [] w') .ret envq wq) ∨ (∃ p467, r463 = (Sum.inr p467) ∧ eq = .exit 2 ∧ Sub [(0, v0), (1, v1), (2, v2), (3, v3), (9, (Value.int .i64 i350))] envq ∧ Mem w No [] wq)) hit464 ⟨(by repeat (first | exact Sub.nil _ | refine Sub.cons rfl ?_)), (hm362.pick [] (by decide) rfl)⟩ ?_ ?_
        · rintro i456 x458 env459 w460 hf461 hr462 ⟨hs_, hm_⟩
          have hs_ : Sub [(0, v0), (1, v1), (2, v2), (3, v3), (9, (Value.int .i64 i350)), (10, (Value.int .i64 i456))] env459 := hs_
          have hm468 : Mem w No [] w460 := hm_
          refine cw_sub hs_ ?_
          clear hs_ hm_ q465
          have h : r40_Covers_l4 N a0 a1 a2 a3 i350 i456 = some x458 := hf461
          clear hf461
          refine cw_seq ?_
          refine cw_seq ?_
          refine cw_region ?_
          refine t_rd rfl (rd_move rfl) ?_
          refine t_rd rfl (rd_move rfl) ?_
          refine t_rd rfl (rd_lenS tS26 rfl (hv1.of_old hm468)) ?_
          refine t_rd rfl (rd_lss rfl rfl) ?_
          refine rwt_nil ?_
          refine qn_then ?_
          obtain ⟨hb469, q470⟩ | ⟨hb469, q470⟩ := oi h <;> clear h
          · refine cw_t rfl hb469 ?_
            refine cw_skip ?_
            refine qn_then ?_
            refine cw_seq ?_
            refine cw_block ?_
            refine cw_seq ?_
            obtain ⟨w472, he474⟩ : ∃ q, q = w460.drew := ⟨_, rfl⟩
            have hm473 := hm468.drew; rw [← he474] at hm473
            refine cw_region_s (fun q => q = w472) (cls [] [8, 12, 18]) mixed ?_
            rintro _ rfl; rw [← he474]
            refine s_rp (i := 0) rfl (by kernel_rfl) rfl (fun _ => (rd_move rfl)) ?_
            refine s_rp (i := 1) rfl (by kernel_rfl) rfl (fun _ => (rd_move rfl)) ?_
            obtain ⟨x475, h476, q477⟩ := ob q470; clear q470
            refine s_rp (i := 2) rfl (by kernel_rfl) rfl (fun _ => (rd_index tS25 rfl rfl (hv0.of_old hm473) h476)) ?_
            refine s_rd (i := 3) rfl (by kernel_rfl) rfl (fun _ hS => by rw [hS]; exact (rd_ld tA37 rfl ((hv0.of_old hm473).cells h476) rfl)) rfl ?_
            refine s_rp (i := 4) rfl (by kernel_rfl) rfl (fun _ => (rd_move rfl)) ?_
            refine s_rp (i := 5) rfl (by kernel_rfl) rfl (fun _ => (rd_move rfl)) ?_
            obtain ⟨x478, h479, q480⟩ := ob q477; clear q477
            refine s_rp (i := 6) rfl (by kernel_rfl) rfl (fun _ => (rd_index tS26 rfl rfl (hv1.of_old hm473) h479)) ?_
            refine s_rd (i := 7) rfl (by kernel_rfl) rfl (fun _ hS => by rw [hS]; exact (rd_ld tA39 rfl ((hv1.of_old hm473).cells h479) rfl)) rfl ?_
            obtain ⟨r481, h482, q483⟩ := ob q480; clear q480
            refine s_ef (i := 8) rfl (by kernel_rfl) rfl (ef_call tf11 rfl (r40_Fits_ok h482)) (by decide) (fun _ _ _ q => absurd q (by decide)) ?_
            rintro _ w485 ⟨e_, hm484⟩
            obtain rfl := e_.symm
            have hm486 := hm473.call hm484
            refine s_rp (i := 9) rfl (by kernel_rfl) rfl (fun _ => (rd_move rfl)) ?_
            refine s_rpg (i := 10) rfl (by kernel_rfl) rfl rfl rfl rfl (gv_t _) (fun hg487 _ => (rd_move rfl)) ?_
            refine s_rpg (i := 11) rfl (by kernel_rfl) rfl rfl rfl rfl (gv_t _) (fun hg488 _ => (rd_move rfl)) ?_
            obtain ⟨r490, h491, q492⟩ := ob q483; clear q483
            refine s_efg (i := 12) rfl (by kernel_rfl) rfl rfl rfl rfl (R := (fun v w' => v = gV r481 (Value.bool r490) ∧ Mem w485 No [] w')) (gv_t _) (fun hg489 => (ef_call tf30 (evc (gvx rfl hg489) (evc (gvx rfl hg489) evn)) (r40_has_ok (gO_t h491 hg489) (hv2.to_call hm486))).mono (by rintro _ _ ⟨rfl, q⟩; exact ⟨(gV_t hg489).symm, q⟩)) (fun q => ⟨(gV_f q).symm, Mem.nil _⟩) (by decide) (fun _ _ _ q => absurd q (by decide)) ?_
            rintro _ w494 ⟨rfl, hm493⟩
            have hm495 := hm486.call hm493
            refine s_rpg (i := 13) rfl (by kernel_rfl) rfl rfl rfl rfl (gv_t _) (fun hg496 _ => (rd_not (gvx rfl hg496))) ?_
            refine s_rp (i := 14) rfl (by kernel_rfl) rfl (fun _ => (rd_and rfl (fun hc497 => (gvx rfl hc497)))) ?_
            refine s_rp (i := 15) rfl (by kernel_rfl) rfl (fun _ => (rd_move rfl)) ?_
            refine s_rpg (i := 16) rfl (by kernel_rfl) rfl rfl rfl rfl (gv_t _) (fun hg498 _ => (rd_move rfl)) ?_
            refine s_rpg (i := 17) rfl (by kernel_rfl) rfl rfl rfl rfl (gv_t _) (fun hg499 _ => (rd_move rfl)) ?_
            obtain ⟨r501, h502, q503⟩ := ob q492; clear q492
            refine s_efg (i := 18) rfl (by kernel_rfl) rfl rfl rfl rfl (R := (fun v w' => v = gV (r481 && (!r490)) (Value.bool r501) ∧ Mem w494 No [] w')) (gv_t _) (fun hg500 => (ef_call tf30 (evc (gvx rfl hg500) (evc (gvx rfl hg500) evn)) (r40_has_ok (gO_t h502 hg500) (hv3.to_call hm495))).mono (by rintro _ _ ⟨rfl, q⟩; exact ⟨(gV_t hg500).symm, q⟩)) (fun q => ⟨(gV_f q).symm, Mem.nil _⟩) (by decide) (fun _ _ _ q => absurd q (by decide)) ?_
            rintro _ w505 ⟨rfl, hm504⟩
            have hm506 := hm495.call hm504
            refine s_rpg (i := 19) rfl (by kernel_rfl) rfl rfl rfl rfl (gv_t _) (fun hg507 _ => (rd_not (gvx rfl hg507))) ?_
            refine s_rp (i := 20) rfl (by kernel_rfl) rfl (fun _ => (rd_and rfl (fun hc508 => (gvx rfl hc508)))) ?_
            refine s_nil (by kernel_rfl) ?_
            refine qn_then ?_
            obtain ⟨hb509, q510⟩ | ⟨hb509, q510⟩ := oi q503 <;> clear q503
            · refine cw_t rfl hb509 ?_
              refine cw_seq ?_
              refine cw_region ?_
              refine t_rd rfl (rd_assign rfl) ?_
              refine rwt_nil ?_
              refine qn_then ?_
              refine cw_ret ?_
              refine qr_block (qr_then (qr_then ?_))
              obtain rfl := hr462 _ (os q510)
              refine .inl (⟨_, rfl, ⟨rfl, ?_⟩⟩)
              exact ret1 rfl rfl ⟨rfl, (hm506.pick [] (by decide) rfl)⟩
            · refine cw_f rfl hb509 ?_
              refine cw_skip ?_
              refine qn_block (qn_then ?_)
              refine cw_region ?_
              refine t_rd rfl (rd_move rfl) ?_
              obtain ⟨x511, h512, q513⟩ := ob q510; clear q510
              refine t_rd rfl (rd_add64 h512 rfl rfl) ?_
              refine t_rd rfl (rd_assign rfl) ?_
              refine rwt_nil ?_
              refine qn_then ?_
              refine ⟨_, (os q513), (by repeat (first | exact Sub.nil _ | refine Sub.cons rfl ?_)), (hm506.pick [] (by decide) rfl)⟩
          · refine cw_f rfl hb469 ?_
            refine cw_exit ?_
            refine qx_then (qx_then ?_)
            obtain rfl := hr462 _ (os q470)
            exact .inr (⟨_, rfl, ⟨rfl, (by repeat (first | exact Sub.nil _ | refine Sub.cons rfl ?_)), (hm468.pick [] (by decide) rfl)⟩⟩)
        · skip
          intro e env514 w515 hX516
          rcases hX516 with hX516 | hX516
          · obtain ⟨p518, rfl, hX516⟩ := hX516
            obtain ⟨rfl, hq520⟩ := hX516
            obtain rfl := hr356 _ (os q465)
            exact qr_block (qr_block (qr_then (qr_then (.inl (⟨_, rfl, ⟨rfl, hq520⟩⟩)))))
          · obtain ⟨p521, rfl, hX516⟩ := hX516
            obtain ⟨rfl, hs522, hm523⟩ := hX516
            refine qx_same (qn_block (qn_then ?_))
            refine cw_sub hs522 ?_
            refine cw_region ?_
            refine t_rd rfl (rd_move rfl) ?_
            obtain ⟨x524, h525, q526⟩ := ob q465; clear q465
            refine t_rd rfl (rd_add64 h525 rfl rfl) ?_
            refine t_rd rfl (rd_assign rfl) ?_
            refine rwt_nil ?_
            refine qn_then ?_
            refine ⟨_, (os q526), (by repeat (first | exact Sub.nil _ | refine Sub.cons rfl ?_)), (hm523.pick [] (by decide) rfl)⟩
      · refine cw_f rfl hb363 ?_
        refine cw_exit ?_
        refine qx_then (qx_then ?_)
        obtain rfl := hr356 _ (os q364)
        exact .inr (⟨_, rfl, ⟨rfl, (by repeat (first | exact Sub.nil _ | refine Sub.cons rfl ?_)), (hm362.pick [] (by decide) rfl)⟩⟩)
    · skip
      intro e env527 w528 hX529
      rcases hX529 with hX529 | hX529
      · obtain ⟨p531, rfl, hX529⟩ := hX529
        obtain ⟨rfl, hq533⟩ := hX529
        exact qr_block (qr_then ((by have e := os q359; subst e; exact hq533)))
      · obtain ⟨p534, rfl, hX529⟩ := hX529
        obtain ⟨rfl, hs535, hm536⟩ := hX529
        refine qx_same (qn_then ?_)
        refine cw_sub hs535 ?_
        refine cw_seq ?_
        refine cw_region ?_
        refine t_rd rfl (rd_assign rfl) ?_
        refine rwt_nil ?_
        refine qn_then ?_
        refine cw_ret ?_
        obtain rfl := os q359
        exact ret1 rfl rfl ⟨rfl, (hm536.pick [] (by decide) rfl)⟩

theorem r40_Check_ok {N : Nat} {a0 : List T_Task} {a1 : List T_Crew} {a2 : List T_Pair} {a3 : List Int} {a4 : List Int} {res : Bool × Int} (h : r40_Check N a0 a1 a2 a3 a4 = some res) {w : World} {v0 : Value} {v1 : Value} {v2 : Value} {v3 : Value} {v4 : Value} (hv0 : Sl (Old w No) w v0 a0) (hv1 : Sl (Old w No) w v1 a1) (hv2 : Sl (Old w No) w v2 a2) (hv3 : Sl (Old w No) w v3 a3) (hv4 : Sl (Old w No) w v4 a4) :
    CallsR Try.prog 18 [v0, v1, v2, v3, v4] w (fun u w' => u = (Value.tuple #[(Value.bool res.1), (Value.int .i64 res.2)]) ∧ Mem w No [] w') := by
  unfold r40_Check at h
  refine fn_ok Try.func18 rfl rfl rfl ?_
  have hm0 := Mem.nil w
  refine cw_seq ?_
  refine cw_region ?_
  refine t_rd rfl (rd_assign rfl) ?_
  refine t_rd rfl (rd_assign rfl) ?_
  refine rwt_nil ?_
  refine qn_then ?_
  refine cw_seq ?_
  refine cw_seq ?_
  refine cw_region ?_
  refine t_rd rfl (rd_move rfl) ?_
  refine t_rd rfl (rd_move rfl) ?_
  obtain ⟨r1, h2, q3⟩ := ob h; clear h
  refine t_ef rfl (ef_call tf20 rfl (r40_Valid_ok h2 (hv0.to_call hm0) (hv1.to_call hm0))) ?_
  rintro _ w5 ⟨e_, hm4⟩
  obtain rfl := e_.symm
  have hm6 := hm0.call hm4
  refine t_rd rfl (rd_assign rfl) ?_
  refine rwt_nil ?_
  refine qn_then ?_
  refine cw_seq ?_
  refine cw_region ?_
  refine t_rd rfl (rd_move rfl) ?_
  refine t_rd rfl (rd_neq rfl rfl) ?_
  refine rwt_nil ?_
  refine qn_then ?_
  obtain ⟨hb7, q8⟩ | ⟨hb7, q8⟩ := oi q3 <;> clear q3
  · refine cw_t rfl hb7 ?_
    refine cw_seq ?_
    refine cw_region ?_
    refine t_rd rfl (rd_move rfl) ?_
    refine t_rd rfl (rd_assign rfl) ?_
    refine t_rd rfl (rd_assign rfl) ?_
    refine rwt_nil ?_
    refine qn_then ?_
    refine cw_ret ?_
    refine qr_then ?_
    obtain rfl := os q8
    exact ret2 rfl rfl rfl ⟨rfl, (hm6.pick [] (by decide) rfl)⟩
  · refine cw_f rfl hb7 ?_
    refine cw_skip ?_
    refine qn_then ?_
    refine cw_seq ?_
    refine cw_region ?_
    refine t_rd rfl (rd_move rfl) ?_
    refine t_rd rfl (rd_move rfl) ?_
    refine t_rd rfl (rd_move rfl) ?_
    obtain ⟨r9, h10, q11⟩ := ob q8; clear q8
    refine t_ef rfl (ef_call tf12 rfl (r40_Matching_ok h10 (hv0.to_call hm6) (hv1.to_call hm6) (hv2.to_call hm6))) ?_
    rintro _ w13 ⟨e_, hm12⟩
    obtain rfl := e_.symm
    have hm14 := hm6.call hm12
    refine t_rd rfl (rd_move rfl) ?_
    refine t_rdg rfl rfl rfl rfl (gv_t _) (fun hg15 => (rd_move rfl)) ?_
    refine t_rdg rfl rfl rfl rfl (gv_t _) (fun hg16 => (rd_move rfl)) ?_
    refine t_rdg rfl rfl rfl rfl (gv_t _) (fun hg17 => (rd_move rfl)) ?_
    refine t_rdg rfl rfl rfl rfl (gv_t _) (fun hg18 => (rd_move rfl)) ?_
    obtain ⟨r20, h21, q22⟩ := ob q11; clear q11
    refine t_efg rfl rfl rfl rfl (R := (fun v w' => v = gV r9 (Value.bool r20) ∧ Mem w13 No [] w')) (gv_t _) (fun hg19 => (ef_call tf21 (evc (gvx rfl hg19) (evc (gvx rfl hg19) (evc (gvx rfl hg19) (evc (gvx rfl hg19) evn)))) (r40_Covers_ok (gO_t h21 hg19) (hv0.to_call hm14) (hv1.to_call hm14) (hv3.to_call hm14) (hv4.to_call hm14))).mono (by rintro _ _ ⟨rfl, q⟩; exact ⟨(gV_t hg19).symm, q⟩)) (fun q => ⟨(gV_f q).symm, Mem.nil _⟩) ?_
    rintro _ w24 ⟨rfl, hm23⟩
    have hm25 := hm14.call hm23
    refine t_rd rfl (rd_and rfl (fun hc26 => (gvx rfl hc26))) ?_
    refine t_rd rfl (rd_move rfl) ?_
    refine t_rdg rfl rfl rfl rfl (gv_t _) (fun hg27 => (rd_move rfl)) ?_
    refine t_rdg rfl rfl rfl rfl (gv_t _) (fun hg28 => (rd_lenS tS29 (gvx rfl hg28) (hv2.of_old hm25))) ?_
    refine t_rdg rfl rfl rfl rfl (gv_t _) (fun hg29 => (rd_move rfl)) ?_
    refine t_rdg rfl rfl rfl rfl (gv_t _) (fun hg30 => (rd_lenS tS22 (gvx rfl hg30) (hv3.of_old hm25))) ?_
    refine t_rdg rfl rfl rfl rfl (gv_t _) (fun hg31 => (rd_move rfl)) ?_
    refine t_rdg rfl rfl rfl rfl (gv_t _) (fun hg32 => (rd_lenS tS22 (gvx rfl hg32) (hv4.of_old hm25))) ?_
    obtain ⟨x34, h35, q36⟩ := ob q22; clear q22
    refine t_rdg rfl rfl rfl rfl (gv_t _) (fun hg33 => (rd_add64 (gO_t h35 hg33) (gvx rfl hg33) (gvx rfl hg33))) ?_
    refine t_rdg rfl rfl rfl rfl (gv_t _) (fun hg37 => (rd_eql (gvx rfl hg37) (gvx rfl hg37))) ?_
    refine t_rd rfl (rd_and rfl (fun hc38 => (gvx rfl hc38))) ?_
    refine t_rd rfl (rd_assign rfl) ?_
    refine t_rd rfl (rd_assign rfl) ?_
    refine rwt_nil ?_
    refine qn_then ?_
    refine cw_ret ?_
    obtain rfl := os q36
    exact ret2 rfl rfl rfl ⟨rfl, (hm25.pick [] (by decide) rfl)⟩

theorem law40_CrewFits_ok {N : Nat} {a0 : List Int} {a1 : List T_Task} {a2 : List T_Crew} {a3 : List T_Pair} {res : Bool} (h : law40_CrewFits N a0 a1 a2 a3 = some res) {w : World} {v0 : Value} {v1 : Value} {v2 : Value} {v3 : Value} (hv0 : Sl (Old w No) w v0 a0) (hv1 : Sl (Old w No) w v1 a1) (hv2 : Sl (Old w No) w v2 a2) (hv3 : Sl (Old w No) w v3 a3) :
    CallsR Try.prog 5 [v0, v1, v2, v3] w (fun u w' => u = (Value.bool res) ∧ Mem w No [] w') := by
  unfold law40_CrewFits at h
  refine fn_ok Try.func5 rfl rfl rfl ?_
  have hm0 := Mem.nil w
  refine cw_seq ?_
  refine cw_region ?_
  refine t_rd rfl (rd_assign rfl) ?_
  refine rwt_nil ?_
  refine qn_then ?_
  refine cw_seq ?_
  refine cw_region ?_
  refine t_rd rfl (rd_move rfl) ?_
  obtain ⟨r1, h2, q3⟩ := ob h; clear h
  refine t_ef rfl (ef_call tf7 rfl (humpgen_New_ok h2 (hv0.to_call hm0))) ?_
  rintro _ w6 ⟨g4, e_, hm5⟩
  obtain rfl := e_.symm
  have hm7 := hm0.call hm5
  refine t_rd rfl (rd_assign rfl) ?_
  refine rwt_nil ?_
  refine qn_then ?_
  refine cw_seq ?_
  refine cw_seq ?_
  refine cw_region ?_
  refine t_rd rfl (rd_assign rfl) ?_
  refine rwt_nil ?_
  refine qn_then ?_
  refine cw_block ?_
  obtain ⟨r1088, hit1089, q1090⟩ := ob q3; clear q3
  refine cw_loop2 (I := fun q envq wq => Sub [(1, v1), (2, v2), (3, v3), (9, (Value.pointer (some ⟨g4, 0, none⟩))), (10, (Value.int .i64 q.1))] envq ∧ Mem w No [blk g4 58 [v0, (Value.int .i64 q.2)]] wq) (X := fun eq envq wq => (∃ p1091, r1088 = (Sum.inl p1091) ∧ eq = .ret ∧ retQ Try.prog 243 Try.f5 (fun u w' => u = (Value.bool p1091) ∧ Mem w No [] w') .ret envq wq) ∨ (∃ p1092, r1088 = (Sum.inr p1092) ∧ eq = .exit 0 ∧ Sub [(1, v1), (2, v2), (3, v3)] envq ∧ Mem w No [] wq)) hit1089 ⟨(by repeat (first | exact Sub.nil _ | refine Sub.cons rfl ?_)), (hm7.pick [0] (by decide) rfl)⟩ ?_ ?_
  · rintro ⟨i1080, i1081⟩ x1083 env1084 w1085 hf1086 hr1087 ⟨hs_, hm_⟩
    have hs_ : Sub [(1, v1), (2, v2), (3, v3), (9, (Value.pointer (some ⟨g4, 0, none⟩))), (10, (Value.int .i64 i1080))] env1084 := hs_
    have hm1093 : Mem w No [blk g4 58 [v0, (Value.int .i64 i1081)]] w1085 := hm_
    refine cw_sub hs_ ?_
    clear hs_ hm_ q1090
    have h : law40_CrewFits_l3 N a0 i1080 i1081 = some x1083 := hf1086
    clear hf1086
    refine cw_seq ?_
    refine cw_seq ?_
    refine cw_region ?_
    refine t_rd rfl (rd_move rfl) ?_
    refine t_rd rfl (rd_lss rfl rfl) ?_
    refine rwt_nil ?_
    refine qn_then ?_
    obtain ⟨hb1094, q1095⟩ | ⟨hb1094, q1095⟩ := oi h <;> clear h
    · refine cw_t rfl hb1094 ?_
      refine cw_skip ?_
      refine qn_then ?_
      refine cw_seq ?_
      refine cw_block ?_
      refine cw_seq ?_
      refine cw_region ?_
      refine t_rd rfl (rd_move rfl) ?_
      obtain ⟨r1096, h1097, q1098⟩ := ob q1095; clear q1095
      refine t_ef rfl (ef_call tf8 rfl (law40_made_ok h1097 (hv0.to_callT (k := 0) hm1093 rfl) (hm1093.get (k := 0) rfl))) ?_
      rintro _ w1102 ⟨v1099, v1100, e_, hm1101⟩
      obtain rfl := e_.symm
      have hm1103 := hm1093.callT (k := 0) rfl (fun _ h => h) hm1101 (fun _ => Iff.rfl)
      refine t_rd rfl (rd_move rfl) ?_
      refine t_rd rfl (rd_extract rfl rfl) ?_
      refine t_rd rfl (rd_extract rfl rfl) ?_
      refine t_rd rfl (rd_assign rfl) ?_
      refine t_rd rfl (rd_assign rfl) ?_
      refine rwt_nil ?_
      refine qn_then ?_
      refine cw_seq ?_
      refine cw_region ?_
      refine t_rd rfl (rd_move rfl) ?_
      refine t_rd rfl (rd_move rfl) ?_
      obtain ⟨r1104, h1105, q1106⟩ := ob q1098; clear q1098
      refine t_ef rfl (ef_call tf9 rfl (crew_Assign_ok h1105 (hm1103.sl_call 0 rfl) (hm1103.sl_call 1 rfl))) ?_
      rintro _ w1109 ⟨v1107, e_, hm1108⟩
      obtain rfl := e_.symm
      have hm1110 := hm1103.call hm1108
      refine t_rd rfl (rd_move rfl) ?_
      refine t_rd rfl (rd_extract rfl rfl) ?_
      refine t_rd rfl (rd_extract rfl rfl) ?_
      refine t_rd rfl (rd_assign rfl) ?_
      refine t_rd rfl (rd_assign rfl) ?_
      refine rwt_nil ?_
      refine qn_then ?_
      refine cw_seq ?_
      refine cw_region ?_
      refine t_rd rfl (rd_move rfl) ?_
      refine t_rd rfl (rd_move rfl) ?_
      obtain ⟨r1111, h1112, q1113⟩ := ob q1106; clear q1106
      refine t_ef rfl (ef_call tf16 rfl (crew_Cover_ok h1112 (hm1110.sl_call 1 rfl) (hm1110.sl_call 2 rfl))) ?_
      rintro _ w1117 ⟨v1114, v1115, e_, hm1116⟩
      obtain rfl := e_.symm
      have hm1118 := hm1110.call hm1116
      refine t_rd rfl (rd_move rfl) ?_
      refine t_rd rfl (rd_extract rfl rfl) ?_
      refine t_rd rfl (rd_extract rfl rfl) ?_
      refine t_rd rfl (rd_extract rfl rfl) ?_
      refine t_rd rfl (rd_assign rfl) ?_
      refine t_rd rfl (rd_assign rfl) ?_
      refine t_rd rfl (rd_assign rfl) ?_
      refine rwt_nil ?_
      refine qn_then ?_
      refine cw_seq ?_
      refine cw_region ?_
      refine t_ef rfl (ef_bslice0 (α := T_Pair) hm1118 tS29) ?_
      intro v1119 w1121 hm1120
      refine t_rd rfl (rd_move rfl) ?_
      obtain ⟨l1122, h1123, q1124⟩ := ob q1113; clear q1113
      refine t_ef rfl (ef_append (k := 0) hm1120 tS29 tE41 rfl rfl rfl rfl (hm1120.sl 3 rfl) h1123) ?_
      intro v1125 w1127 hm1126
      refine t_ef rfl (ef_bslice0 (α := Int) hm1126 tS22) ?_
      intro v1128 w1130 hm1129
      refine t_rd rfl (rd_move rfl) ?_
      obtain ⟨l1131, h1132, q1133⟩ := ob q1124; clear q1124
      refine t_ef rfl (ef_append (k := 0) hm1129 tS22 tE3 rfl rfl rfl rfl (hm1129.sl 2 rfl) h1132) ?_
      intro v1134 w1136 hm1135
      refine t_ef rfl (ef_bslice0 (α := Int) hm1135 tS22) ?_
      intro v1137 w1139 hm1138
      refine t_rd rfl (rd_move rfl) ?_
      obtain ⟨l1140, h1141, q1142⟩ := ob q1133; clear q1133
      refine t_ef rfl (ef_append (k := 0) hm1138 tS22 tE3 rfl rfl rfl rfl (hm1138.sl 4 rfl) h1141) ?_
      intro v1143 w1145 hm1144
      refine t_rd rfl (rd_assign rfl) ?_
      refine t_rd rfl (rd_assign rfl) ?_
      refine t_rd rfl (rd_assign rfl) ?_
      refine rwt_nil ?_
      refine qn_then ?_
      refine cw_seq ?_
      refine cw_seq ?_
      refine cw_region ?_
      refine t_rd rfl (rd_move rfl) ?_
      refine rwt_nil ?_
      refine qn_then ?_
      obtain ⟨j1266, hit1267, q1268⟩ := ob q1142; clear q1142
      refine cw_join (X := fun eq envq wq => eq = .normal ∧ ∃ (v1265 : Value) (v1260 : Value) (v1262 : Value), Sub [(1, v1), (2, v2), (3, v3), (9, (Value.pointer (some ⟨g4, 0, none⟩))), (10, (Value.int .i64 i1080)), (11, v1260), (12, v1262), (13, v1125), (15, v1265), (16, v1143)] envq ∧ Mem w No [ownL 3 v1143 (l1140 : List Int), ownL 3 v1265 (j1266.2.2.2.2 : List Int), ownL 41 v1125 (j1266.2.2.2.1 : List T_Pair), ownL 37 v1260 (j1266.2.1 : List T_Task), ownL 39 v1262 (j1266.2.2.1 : List T_Crew), blk g4 58 [v0, (Value.int .i64 j1266.1)]] wq) ?_ ?_
      · clear q1268
        refine cw_block ?_
        refine cw_seq ?_
        refine cw_region ?_
        refine t_rd rfl (rd_eql rfl rfl) ?_
        refine t_rd rfl (rd_assign rfl) ?_
        refine rwt_nil ?_
        refine qn_then ?_
        obtain ⟨hb1269, q1270⟩ | ⟨hb1269, q1270⟩ := oi hit1267 <;> clear hit1267
        · refine cw_t rfl hb1269 ?_
          refine cw_seq ?_
          refine cw_region ?_
          refine t_rd rfl (rd_move rfl) ?_
          refine t_rd rfl (rd_lenS tS29 rfl (hm1144.sl 2 rfl)) ?_
          refine t_rd rfl (rd_gtr rfl rfl) ?_
          refine rwt_nil ?_
          refine qn_then ?_
          obtain ⟨hb1271, q1272⟩ | ⟨hb1271, q1272⟩ := oi q1270 <;> clear q1270
          · refine cw_t rfl hb1271 ?_
            refine cw_region ?_
            refine t_rd rfl (rd_move rfl) ?_
            refine t_rd rfl (rd_move rfl) ?_
            refine t_rd rfl (rd_move rfl) ?_
            refine t_rd rfl (rd_lenS tS29 rfl (hm1144.sl 2 rfl)) ?_
            obtain ⟨r1273, h1274, q1275⟩ := ob q1272; clear q1272
            refine t_ef rfl (ef_call tf10 rfl (Maker_Next_ok h1274 (hv0.to_callT (k := 8) hm1144 rfl) (hm1144.get (k := 8) rfl))) ?_
            rintro _ w1277 ⟨e_, hm1276⟩
            obtain rfl := e_.symm
            have hm1278 := hm1144.callT (k := 8) rfl (fun _ h => h) hm1276 (fun _ => Iff.rfl)
            refine t_rd rfl (rd_move rfl) ?_
            obtain ⟨r1279, h1280, q1281⟩ := ob q1275; clear q1275
            refine t_ef rfl (ef_call tf10 rfl (Maker_Next_ok h1280 (hv0.to_callT (k := 8) hm1278 rfl) (hm1278.get (k := 8) rfl))) ?_
            rintro _ w1283 ⟨e_, hm1282⟩
            obtain rfl := e_.symm
            have hm1284 := hm1278.callT (k := 8) rfl (fun _ h => h) hm1282 (fun _ => Iff.rfl)
            obtain ⟨x1285, h1286, q1287⟩ := ob q1281; clear q1281
            refine t_rd rfl (rd_sub64 h1286 rfl rfl) ?_
            refine t_rd rfl (rd_move rfl) ?_
            obtain ⟨r1288, h1289, q1290⟩ := ob q1287; clear q1287
            refine t_ef rfl (ef_call tf10 rfl (Maker_Next_ok h1289 (hv0.to_callT (k := 8) hm1284 rfl) (hm1284.get (k := 8) rfl))) ?_
            rintro _ w1292 ⟨e_, hm1291⟩
            obtain rfl := e_.symm
            have hm1293 := hm1284.callT (k := 8) rfl (fun _ h => h) hm1291 (fun _ => Iff.rfl)
            obtain ⟨x1294, h1295, q1296⟩ := ob q1290; clear q1290
            refine t_rd rfl (rd_sub64 h1295 rfl rfl) ?_
            refine t_rd rfl (rd_build (cs := #[(Value.int .i64 x1285), (Value.int .i64 x1294)]) rfl (by kernel_rfl)) ?_
            obtain ⟨x1297, h1298, q1299⟩ := ob q1296; clear q1296
            refine t_rd rfl (rd_index tS29 rfl rfl (hm1293.sl 2 rfl) h1298) ?_
            refine t_ef0 (ef_stlw (k := 2) (x' := (T_Pair.mk x1285 x1294)) hm1293 tA41 rfl rfl rfl h1298 rfl rfl) ?_
            intro _ w1301 hm1300
            refine rwt_nil ?_
            refine qn_block ?_
            obtain rfl := os q1299
            exact ⟨rfl, v1134, v1099, v1100, (by repeat (first | exact Sub.nil _ | refine Sub.cons rfl ?_)), (hm1300.pick [0, 1, 2, 6, 7, 8] (by decide) rfl)⟩
          · refine cw_f rfl hb1271 ?_
            refine cw_skip ?_
            refine qn_block ?_
            obtain rfl := os q1272
            exact ⟨rfl, v1134, v1099, v1100, (by repeat (first | exact Sub.nil _ | refine Sub.cons rfl ?_)), (hm1144.pick [0, 1, 2, 6, 7, 8] (by decide) rfl)⟩
        · refine cw_f rfl hb1269 ?_
          refine cw_seq ?_
          refine cw_region ?_
          refine t_rd rfl (rd_eql rfl rfl) ?_
          refine t_rd rfl (rd_assign rfl) ?_
          refine rwt_nil ?_
          refine qn_then ?_
          obtain ⟨hb1302, q1303⟩ | ⟨hb1302, q1303⟩ := oi q1270 <;> clear q1270
          · refine cw_t rfl hb1302 ?_
            refine cw_region ?_
            refine t_rd rfl (rd_move rfl) ?_
            refine t_rd rfl (rd_move rfl) ?_
            refine t_rd rfl (rd_move rfl) ?_
            refine t_rd rfl (rd_lenS tS25 rfl (hm1144.sl 6 rfl)) ?_
            obtain ⟨x1304, h1305, q1306⟩ := ob q1303; clear q1303
            refine t_rd rfl (rd_sub64 h1305 rfl rfl) ?_
            refine t_rd rfl (rd_move rfl) ?_
            refine t_rd rfl (rd_lenS tS25 rfl (hm1144.sl 6 rfl)) ?_
            refine t_ef rfl (ef_bslice (l := ([(-1), x1304, (List.length r1096.2.1 : Int)] : List Int)) hm1144 tS22 rfl (cs := #[(Value.int .i64 (-1)), (Value.int .i64 x1304), (Value.int .i64 (List.length r1096.2.1 : Int))]) (by unfold bsl; kernel_rfl) rfl rfl) ?_
            intro v1307 w1309 hm1308
            obtain ⟨r1310, h1311, q1312⟩ := ob q1306; clear q1306
            refine t_ef rfl (ef_call tf14 rfl (Maker_Pick_ok h1311 (hv0.to_callT (k := 9) hm1308 rfl) (hm1308.get (k := 9) rfl) (hm1308.sl_callT 0 9 rfl rfl (by decide)))) ?_
            rintro _ w1314 ⟨e_, hm1313⟩
            obtain rfl := e_.symm
            have hm1315 := hm1308.callT (k := 9) rfl (fun _ h => h) hm1313 (fun _ => Iff.rfl)
            refine t_ef rfl (ef_bslice (l := ([r1310.2] : List Int)) hm1315 tS22 rfl (cs := #[(Value.int .i64 r1310.2)]) (by unfold bsl; kernel_rfl) rfl rfl) ?_
            intro v1316 w1318 hm1317
            obtain ⟨l1319, h1320, q1321⟩ := ob q1312; clear q1312
            refine t_ef rfl (ef_append (k := 3) hm1317 tS22 tE3 rfl rfl rfl rfl (hm1317.sl 0 rfl) h1320) ?_
            intro v1322 w1324 hm1323
            refine t_rd rfl (rd_assign rfl) ?_
            refine rwt_nil ?_
            refine qn_block ?_
            obtain rfl := os q1321
            exact ⟨rfl, v1322, v1099, v1100, (by repeat (first | exact Sub.nil _ | refine Sub.cons rfl ?_)), (hm1323.pick [2, 3, 4, 8, 9, 10] (by decide) rfl)⟩
          · refine cw_f rfl hb1302 ?_
            refine cw_seq ?_
            refine cw_region ?_
            refine t_rd rfl (rd_eql rfl rfl) ?_
            refine t_rd rfl (rd_assign rfl) ?_
            refine rwt_nil ?_
            refine qn_then ?_
            obtain ⟨hb1325, q1326⟩ | ⟨hb1325, q1326⟩ := oi q1303 <;> clear q1303
            · refine cw_t rfl hb1325 ?_
              refine cw_seq ?_
              refine cw_region ?_
              refine t_rd rfl (rd_move rfl) ?_
              refine t_rd rfl (rd_move rfl) ?_
              refine t_ef rfl (ef_bslice (l := ([(-1), 5, 9] : List Int)) hm1144 tS22 rfl (cs := #[(Value.int .i64 (-1)), (Value.int .i64 5), (Value.int .i64 9)]) (by unfold bsl; kernel_rfl) rfl rfl) ?_
              intro v1327 w1329 hm1328
              obtain ⟨r1330, h1331, q1332⟩ := ob q1326; clear q1326
              refine t_ef rfl (ef_call tf14 rfl (Maker_Pick_ok h1331 (hv0.to_callT (k := 9) hm1328 rfl) (hm1328.get (k := 9) rfl) (hm1328.sl_callT 0 9 rfl rfl (by decide)))) ?_
              rintro _ w1334 ⟨e_, hm1333⟩
              obtain rfl := e_.symm
              have hm1335 := hm1328.callT (k := 9) rfl (fun _ h => h) hm1333 (fun _ => Iff.rfl)
              refine t_rd rfl (rd_move rfl) ?_
              refine t_ef rfl (ef_bslice (l := ([9, 10080, 10081] : List Int)) hm1335 tS22 rfl (cs := #[(Value.int .i64 9), (Value.int .i64 10080), (Value.int .i64 10081)]) (by unfold bsl; kernel_rfl) rfl rfl) ?_
              intro v1336 w1338 hm1337
              obtain ⟨r1339, h1340, q1341⟩ := ob q1332; clear q1332
              refine t_ef rfl (ef_call tf14 rfl (Maker_Pick_ok h1340 (hv0.to_callT (k := 10) hm1337 rfl) (hm1337.get (k := 10) rfl) (hm1337.sl_callT 0 10 rfl rfl (by decide)))) ?_
              rintro _ w1343 ⟨e_, hm1342⟩
              obtain rfl := e_.symm
              have hm1344 := hm1337.callT (k := 10) rfl (fun _ h => h) hm1342 (fun _ => Iff.rfl)
              refine t_rd rfl (rd_build (cs := #[(Value.int .i64 r1330.2), (Value.int .i64 r1339.2)]) rfl (by kernel_rfl)) ?_
              refine t_ef rfl (ef_bslice (l := ([(T_Task.mk r1330.2 r1339.2)] : List T_Task)) hm1344 tS25 rfl (cs := #[(Value.int .i64 r1330.2), (Value.int .i64 r1339.2)]) (by unfold bsl; kernel_rfl) rfl rfl) ?_
              intro v1345 w1347 hm1346
              obtain ⟨l1348, h1349, q1350⟩ := ob q1341; clear q1341
              refine t_ef rfl (ef_append (k := 9) hm1346 tS25 tE37 rfl rfl rfl rfl (hm1346.sl 0 rfl) h1349) ?_
              intro v1351 w1353 hm1352
              refine t_rd rfl (rd_assign rfl) ?_
              refine rwt_nil ?_
              refine qn_then ?_
              refine cw_region ?_
              refine t_rd rfl (rd_move rfl) ?_
              refine t_rd rfl (rd_move rfl) ?_
              refine t_ef rfl (ef_bslice (l := ([3, 4] : List Int)) hm1352 tS22 rfl (cs := #[(Value.int .i64 3), (Value.int .i64 4)]) (by unfold bsl; kernel_rfl) rfl rfl) ?_
              intro v1354 w1356 hm1355
              obtain ⟨r1357, h1358, q1359⟩ := ob q1350; clear q1350
              refine t_ef rfl (ef_call tf14 rfl (Maker_Pick_ok h1358 (hv0.to_callT (k := 12) hm1355 rfl) (hm1355.get (k := 12) rfl) (hm1355.sl_callT 0 12 rfl rfl (by decide)))) ?_
              rintro _ w1361 ⟨e_, hm1360⟩
              obtain rfl := e_.symm
              have hm1362 := hm1355.callT (k := 12) rfl (fun _ h => h) hm1360 (fun _ => Iff.rfl)
              refine t_rd rfl (rd_move rfl) ?_
              refine t_ef rfl (ef_bslice (l := ([0, 1, 10080, 10081] : List Int)) hm1362 tS22 rfl (cs := #[(Value.int .i64 0), (Value.int .i64 1), (Value.int .i64 10080), (Value.int .i64 10081)]) (by unfold bsl; kernel_rfl) rfl rfl) ?_
              intro v1363 w1365 hm1364
              obtain ⟨r1366, h1367, q1368⟩ := ob q1359; clear q1359
              refine t_ef rfl (ef_call tf14 rfl (Maker_Pick_ok h1367 (hv0.to_callT (k := 13) hm1364 rfl) (hm1364.get (k := 13) rfl) (hm1364.sl_callT 0 13 rfl rfl (by decide)))) ?_
              rintro _ w1370 ⟨e_, hm1369⟩
              obtain rfl := e_.symm
              have hm1371 := hm1364.callT (k := 13) rfl (fun _ h => h) hm1369 (fun _ => Iff.rfl)
              refine t_rd rfl (rd_build (cs := #[(Value.int .i64 3), (Value.int .i64 r1357.2), (Value.int .i64 r1366.2)]) rfl (by kernel_rfl)) ?_
              refine t_ef rfl (ef_bslice (l := ([(T_Crew.mk 3 r1357.2 r1366.2)] : List T_Crew)) hm1371 tS26 rfl (cs := #[(Value.int .i64 3), (Value.int .i64 r1357.2), (Value.int .i64 r1366.2)]) (by unfold bsl; kernel_rfl) rfl rfl) ?_
              intro v1372 w1374 hm1373
              obtain ⟨l1375, h1376, q1377⟩ := ob q1368; clear q1368
              refine t_ef rfl (ef_append (k := 13) hm1373 tS26 tE39 rfl rfl rfl rfl (hm1373.sl 0 rfl) h1376) ?_
              intro v1378 w1380 hm1379
              refine t_rd rfl (rd_assign rfl) ?_
              refine rwt_nil ?_
              refine qn_block ?_
              obtain rfl := os q1377
              exact ⟨rfl, v1134, v1351, v1378, (by repeat (first | exact Sub.nil _ | refine Sub.cons rfl ?_)), (hm1379.pick [6, 7, 8, 12, 13, 14] (by decide) rfl)⟩
            · refine cw_f rfl hb1325 ?_
              refine cw_skip ?_
              refine qn_block ?_
              obtain rfl := os q1326
              exact ⟨rfl, v1134, v1099, v1100, (by repeat (first | exact Sub.nil _ | refine Sub.cons rfl ?_)), (hm1144.pick [0, 1, 2, 6, 7, 8] (by decide) rfl)⟩
      · clear hit1267
        intro e env1381 w1382 hX1383
        obtain ⟨rfl, v1265, v1260, v1262, hs1384, hm1385⟩ := hX1383
        refine qn_then ?_
        refine cw_sub hs1384 ?_
        refine cw_seq ?_
        refine cw_region ?_
        refine t_rd rfl (rd_move rfl) ?_
        refine t_rd rfl (rd_move rfl) ?_
        refine t_rd rfl (rd_move rfl) ?_
        refine t_rd rfl (rd_move rfl) ?_
        refine t_rd rfl (rd_move rfl) ?_
        obtain ⟨r1386, h1387, q1388⟩ := ob q1268; clear q1268
        refine t_ef rfl (ef_call tf17 rfl (crew_Check_ok h1387 (hm1385.sl_call 3 rfl) (hm1385.sl_call 4 rfl) (hm1385.sl_call 2 rfl) (hm1385.sl_call 1 rfl) (hm1385.sl_call 0 rfl))) ?_
        rintro _ w1390 ⟨e_, hm1389⟩
        obtain rfl := e_.symm
        have hm1391 := hm1385.call hm1389
        refine t_rd rfl (rd_move rfl) ?_
        refine t_rd rfl (rd_extract rfl rfl) ?_
        refine t_rd rfl (rd_extract rfl rfl) ?_
        refine t_rd rfl (rd_assign rfl) ?_
        refine t_rd rfl (rd_assign rfl) ?_
        refine rwt_nil ?_
        refine qn_then ?_
        refine cw_seq ?_
        refine cw_region ?_
        refine t_rd rfl (rd_move rfl) ?_
        refine t_rd rfl (rd_move rfl) ?_
        refine t_rd rfl (rd_move rfl) ?_
        refine t_rd rfl (rd_move rfl) ?_
        refine t_rd rfl (rd_move rfl) ?_
        obtain ⟨r1392, h1393, q1394⟩ := ob q1388; clear q1388
        refine t_ef rfl (ef_call tf18 rfl (r40_Check_ok h1393 (hm1391.sl_call 3 rfl) (hm1391.sl_call 4 rfl) (hm1391.sl_call 2 rfl) (hm1391.sl_call 1 rfl) (hm1391.sl_call 0 rfl))) ?_
        rintro _ w1396 ⟨e_, hm1395⟩
        obtain rfl := e_.symm
        have hm1397 := hm1391.call hm1395
        refine t_rd rfl (rd_move rfl) ?_
        refine t_rd rfl (rd_extract rfl rfl) ?_
        refine t_rd rfl (rd_extract rfl rfl) ?_
        refine t_rd rfl (rd_assign rfl) ?_
        refine t_rd rfl (rd_assign rfl) ?_
        refine rwt_nil ?_
        refine qn_then ?_
        refine cw_seq ?_
        refine cw_seq ?_
        refine cw_region ?_
        refine t_rd rfl (rd_move rfl) ?_
        refine t_rd rfl (rd_move rfl) ?_
        refine t_rd rfl (rd_neqb tB4 rfl rfl) ?_
        refine t_rd rfl (rd_move rfl) ?_
        refine t_rdg rfl rfl rfl rfl (gv_f _) (fun hg1398 => (rd_move rfl)) ?_
        refine t_rdg rfl rfl rfl rfl (gv_f _) (fun hg1399 => (rd_move rfl)) ?_
        refine t_rdg rfl rfl rfl rfl (gv_f _) (fun hg1400 => (rd_neq (gvx rfl hg1400) (gvx rfl hg1400))) ?_
        refine t_rd rfl (rd_or rfl (fun hc1401 => (gvx rfl (bnotIt hc1401)))) ?_
        refine rwt_nil ?_
        refine qn_then ?_
        obtain ⟨hb1402, q1403⟩ | ⟨hb1402, q1403⟩ := oi q1394 <;> clear q1394
        · refine cw_t rfl hb1402 ?_
          refine cw_seq ?_
          refine cw_region ?_
          refine t_rd rfl (rd_assign rfl) ?_
          refine rwt_nil ?_
          refine qn_then ?_
          refine cw_ret ?_
          refine qr_then (qr_block (qr_then (qr_then ?_)))
          obtain rfl := hr1087 _ (os q1403)
          refine .inl (⟨_, rfl, ⟨rfl, ?_⟩⟩)
          exact ret1 rfl rfl ⟨rfl, (hm1397.pick [] (by decide) rfl)⟩
        · refine cw_f rfl hb1402 ?_
          refine cw_skip ?_
          refine qn_then ?_
          refine cw_seq ?_
          refine cw_region ?_
          refine t_rd rfl (rd_assign rfl) ?_
          refine rwt_nil ?_
          refine qn_then ?_
          refine cw_block ?_
          obtain ⟨r1545, hit1546, q1547⟩ := ob q1403; clear q1403
          refine cw_loop2 (I := fun q envq wq => Sub [(1, v1), (2, v2), (3, v3), (9, (Value.pointer (some ⟨g4, 0, none⟩))), (10, (Value.int .i64 i1080)), (11, v1260), (12, v1262), (22, (Value.int .i64 q.1))] envq ∧ Mem w No [ownL 37 v1260 (j1266.2.1 : List T_Task), ownL 39 v1262 (j1266.2.2.1 : List T_Crew), blk g4 58 [v0, (Value.int .i64 q.2)]] wq) (X := fun eq envq wq => (∃ p1548, r1545 = (Sum.inl p1548) ∧ eq = .ret ∧ retQ Try.prog 243 Try.f5 (fun u w' => u = (Value.bool p1548) ∧ Mem w No [] w') .ret envq wq) ∨ (∃ p1549, r1545 = (Sum.inr p1549) ∧ eq = .exit 3 ∧ Sub [(1, v1), (2, v2), (3, v3), (9, (Value.pointer (some ⟨g4, 0, none⟩))), (10, (Value.int .i64 i1080))] envq ∧ Mem w No [blk g4 58 [v0, (Value.int .i64 p1549)]] wq)) hit1546 ⟨(by repeat (first | exact Sub.nil _ | refine Sub.cons rfl ?_)), (hm1397.pick [3, 4, 5] (by decide) rfl)⟩ ?_ ?_
          · rintro ⟨i1537, i1538⟩ x1540 env1541 w1542 hf1543 hr1544 ⟨hs_, hm_⟩
            have hs_ : Sub [(1, v1), (2, v2), (3, v3), (9, (Value.pointer (some ⟨g4, 0, none⟩))), (10, (Value.int .i64 i1080)), (11, v1260), (12, v1262), (22, (Value.int .i64 i1537))] env1541 := hs_
            have hm1550 : Mem w No [ownL 37 v1260 (j1266.2.1 : List T_Task), ownL 39 v1262 (j1266.2.2.1 : List T_Crew), blk g4 58 [v0, (Value.int .i64 i1538)]] w1542 := hm_
            refine cw_sub hs_ ?_
            clear hs_ hm_ q1547
            have h : law40_CrewFits_l4 N a0 j1266 i1537 i1538 = some x1540 := hf1543
            clear hf1543
            refine cw_seq ?_
            refine cw_seq ?_
            refine cw_region ?_
            refine t_rd rfl (rd_move rfl) ?_
            refine t_rd rfl (rd_move rfl) ?_
            refine t_rd rfl (rd_lenS tS25 rfl (hm1550.sl 0 rfl)) ?_
            refine t_rd rfl (rd_lss rfl rfl) ?_
            refine t_rd rfl (rd_move rfl) ?_
            refine t_rdg rfl rfl rfl rfl (gv_t _) (fun hg1551 => (rd_move rfl)) ?_
            refine t_rdg rfl rfl rfl rfl (gv_t _) (fun hg1552 => (rd_lenS tS26 (gvx rfl hg1552) (hm1550.sl 1 rfl))) ?_
            refine t_rdg rfl rfl rfl rfl (gv_t _) (fun hg1553 => (rd_gtr (gvx rfl hg1553) rfl)) ?_
            refine t_rd rfl (rd_and rfl (fun hc1554 => (gvx rfl hc1554))) ?_
            refine rwt_nil ?_
            refine qn_then ?_
            obtain ⟨hb1555, q1556⟩ | ⟨hb1555, q1556⟩ := oi h <;> clear h
            · refine cw_t rfl hb1555 ?_
              refine cw_skip ?_
              refine qn_then ?_
              refine cw_seq ?_
              refine cw_block ?_
              refine cw_seq ?_
              refine cw_region ?_
              refine t_rd rfl (rd_move rfl) ?_
              refine t_rd rfl (rd_move rfl) ?_
              refine t_rd rfl (rd_move rfl) ?_
              refine t_rd rfl (rd_lenS tS26 rfl (hm1550.sl 1 rfl)) ?_
              obtain ⟨r1557, h1558, q1559⟩ := ob q1556; clear q1556
              refine t_ef rfl (ef_call tf10 rfl (Maker_Next_ok h1558 (hv0.to_callT (k := 2) hm1550 rfl) (hm1550.get (k := 2) rfl))) ?_
              rintro _ w1561 ⟨e_, hm1560⟩
              obtain rfl := e_.symm
              have hm1562 := hm1550.callT (k := 2) rfl (fun _ h => h) hm1560 (fun _ => Iff.rfl)
              obtain ⟨x1563, h1564, q1565⟩ := ob q1559; clear q1559
              refine t_rd rfl (rd_index tS26 rfl rfl (hm1562.sl 1 rfl) h1564) ?_
              refine t_rd rfl (rd_ld tA39 rfl ((hm1562.sl 1 rfl).cells h1564) rfl) ?_
              refine t_ef rfl (ef_alloc hm1562 tZ39 rfl) ?_
              rintro _ w1568 ⟨g1566, rfl, hm1567⟩
              refine t_ef0 (ef_stw (k := 0) hm1567 tA39 rfl rfl (oc_cons rfl (oc_cons rfl (oc_cons rfl oc_nil))) rfl rfl rfl) ?_
              intro _ w1570 hm1569
              refine rwt_nil ?_
              refine qn_then ?_
              refine cw_seq ?_
              obtain ⟨w1572, he1574⟩ : ∃ q, q = w1570.drew := ⟨_, rfl⟩
              have hm1573 := hm1569.drew; rw [← he1574] at hm1573
              refine cw_region_s (fun q => (ownL 37 v1260 (j1266.2.1 : List T_Task)).φ q ∧ (blk g1566 39 [(Value.int .i64 x1563.From), (Value.int .i64 x1563.To), (Value.int .i64 x1563.Most)]).φ q) (cls [5] [11]) mixed ?_
              rintro _ rfl; rw [← he1574]
              refine s_rp (i := 0) rfl (by kernel_rfl) rfl (fun _ => (rd_move rfl)) ?_
              refine s_rp (i := 1) rfl (by kernel_rfl) rfl (fun _ => (rd_move rfl)) ?_
              obtain ⟨x1593, h1594, q1595⟩ := ob q1565; clear q1565
              refine s_rp (i := 2) rfl (by kernel_rfl) rfl (fun _ => (rd_index tS25 rfl rfl (hm1573.sl 1 rfl) h1594)) ?_
              refine s_rd (i := 3) rfl (by kernel_rfl) rfl (fun w1571 hS => (rd_ld tA37 rfl ((sl_of_own hS.1).cells h1594) rfl)) ⟨(hm1573.get (k := 1) rfl), (hm1573.get (k := 0) rfl)⟩ ?_
              refine s_rd (i := 4) rfl (by kernel_rfl) rfl (fun w1571 hS => (rd_ld tA39 rfl (cells_blk hS.2) rfl)) ⟨(hm1573.get (k := 1) rfl), (hm1573.get (k := 0) rfl)⟩ ?_
              refine s_rp (i := 6) rfl (by kernel_rfl) rfl (fun _ => (rd_move rfl)) ?_
              refine s_rp (i := 7) rfl (by kernel_rfl) rfl (fun _ => (rd_move rfl)) ?_
              obtain ⟨x1596, h1597, q1598⟩ := ob q1595; clear q1595
              refine s_rp (i := 8) rfl (by kernel_rfl) rfl (fun _ => (rd_index tS25 rfl rfl (hm1573.sl 1 rfl) h1597)) ?_
              refine s_rd (i := 9) rfl (by kernel_rfl) rfl (fun w1571 hS => (rd_ld tA37 rfl ((sl_of_own hS.1).cells h1597) rfl)) ⟨(hm1573.get (k := 1) rfl), (hm1573.get (k := 0) rfl)⟩ ?_
              refine s_rd (i := 10) rfl (by kernel_rfl) rfl (fun w1571 hS => (rd_ld tA39 rfl (cells_blk hS.2) rfl)) ⟨(hm1573.get (k := 1) rfl), (hm1573.get (k := 0) rfl)⟩ ?_
              obtain ⟨r1599, h1600, q1601⟩ := ob q1598; clear q1598
              refine s_ef (i := 5) rfl (by kernel_rfl) rfl (ef_call tf19 rfl (crew_Fits_ok h1600)) (by decide) ?_ ?_
              · rintro _ w1603 ⟨e_, hm1602⟩
                obtain rfl := e_.symm
                have hm1604 := hm1573.call hm1602
                intro _
                exact ⟨(hm1604.get (k := 1) rfl), (hm1604.get (k := 0) rfl)⟩
              rintro _ w1603 ⟨e_, hm1602⟩
              obtain rfl := e_.symm
              have hm1604 := hm1573.call hm1602
              obtain ⟨r1605, h1606, q1607⟩ := ob q1601; clear q1601
              refine s_ef (i := 11) rfl (by kernel_rfl) rfl (ef_call tf11 rfl (r40_Fits_ok h1606)) (by decide) (fun _ _ _ q => absurd q (by decide)) ?_
              rintro _ w1609 ⟨e_, hm1608⟩
              obtain rfl := e_.symm
              have hm1610 := hm1604.call hm1608
              refine s_rp (i := 12) rfl (by kernel_rfl) rfl (fun _ => (rd_neqb tB4 rfl rfl)) ?_
              refine s_nil (by kernel_rfl) ?_
              refine qn_then ?_
              obtain ⟨hb1611, q1612⟩ | ⟨hb1611, q1612⟩ := oi q1607 <;> clear q1607
              · refine cw_t rfl hb1611 ?_
                refine cw_seq ?_
                refine cw_region ?_
                refine t_rd rfl (rd_assign rfl) ?_
                refine rwt_nil ?_
                refine qn_then ?_
                refine cw_ret ?_
                refine qr_block (qr_then (qr_then ?_))
                obtain rfl := hr1544 _ (os q1612)
                refine .inl (⟨_, rfl, ⟨rfl, ?_⟩⟩)
                exact ret1 rfl rfl ⟨rfl, (hm1610.pick [] (by decide) rfl)⟩
              · refine cw_f rfl hb1611 ?_
                refine cw_skip ?_
                refine qn_block (qn_then ?_)
                refine cw_region ?_
                refine t_rd rfl (rd_move rfl) ?_
                obtain ⟨x1613, h1614, q1615⟩ := ob q1612; clear q1612
                refine t_rd rfl (rd_add64 h1614 rfl rfl) ?_
                refine t_rd rfl (rd_assign rfl) ?_
                refine rwt_nil ?_
                refine qn_then ?_
                refine ⟨_, (os q1615), (by repeat (first | exact Sub.nil _ | refine Sub.cons rfl ?_)), (hm1610.pick [1, 2, 3] (by decide) rfl)⟩
            · refine cw_f rfl hb1555 ?_
              refine cw_exit ?_
              refine qx_then (qx_then ?_)
              obtain rfl := hr1544 _ (os q1556)
              exact .inr (⟨_, rfl, ⟨rfl, (by repeat (first | exact Sub.nil _ | refine Sub.cons rfl ?_)), (hm1550.pick [2] (by decide) rfl)⟩⟩)
          · skip
            intro e env1616 w1617 hX1618
            rcases hX1618 with hX1618 | hX1618
            · obtain ⟨p1620, rfl, hX1618⟩ := hX1618
              obtain ⟨rfl, hq1622⟩ := hX1618
              obtain rfl := hr1087 _ (os q1547)
              exact qr_block (qr_block (qr_then (qr_then (.inl (⟨_, rfl, ⟨rfl, hq1622⟩⟩)))))
            · obtain ⟨p1623, rfl, hX1618⟩ := hX1618
              obtain ⟨rfl, hs1624, hm1625⟩ := hX1618
              refine qx_same (qn_block (qn_then ?_))
              refine cw_sub hs1624 ?_
              refine cw_region ?_
              refine t_rd rfl (rd_move rfl) ?_
              obtain ⟨x1626, h1627, q1628⟩ := ob q1547; clear q1547
              refine t_rd rfl (rd_add64 h1627 rfl rfl) ?_
              refine t_rd rfl (rd_assign rfl) ?_
              refine rwt_nil ?_
              refine qn_then ?_
              refine ⟨_, (os q1628), (by repeat (first | exact Sub.nil _ | refine Sub.cons rfl ?_)), (hm1625.pick [0] (by decide) rfl)⟩
    · refine cw_f rfl hb1094 ?_
      refine cw_exit ?_
      refine qx_then (qx_then ?_)
      obtain rfl := hr1087 _ (os q1095)
      exact .inr (⟨_, rfl, ⟨rfl, (by repeat (first | exact Sub.nil _ | refine Sub.cons rfl ?_)), (hm1093.pick [] (by decide) rfl)⟩⟩)
  · skip
    intro e env1629 w1630 hX1631
    rcases hX1631 with hX1631 | hX1631
    · obtain ⟨p1633, rfl, hX1631⟩ := hX1631
      obtain ⟨rfl, hq1635⟩ := hX1631
      exact qr_block (qr_then ((by have e := os q1090; subst e; exact hq1635)))
    · obtain ⟨p1636, rfl, hX1631⟩ := hX1631
      obtain ⟨rfl, hs1637, hm1638⟩ := hX1631
      refine qx_same (qn_then ?_)
      refine cw_sub hs1637 ?_
      refine cw_seq ?_
      refine cw_seq ?_
      refine cw_region ?_
      refine t_rd rfl (rd_move rfl) ?_
      refine t_rd rfl (rd_lenS tS25 rfl (hv1.of_old hm1638)) ?_
      refine t_rd rfl (rd_gtr rfl rfl) ?_
      refine t_rd rfl (rd_move rfl) ?_
      refine t_rdg rfl rfl rfl rfl (gv_f _) (fun hg1639 => (rd_move rfl)) ?_
      refine t_rdg rfl rfl rfl rfl (gv_f _) (fun hg1640 => (rd_lenS tS26 (gvx rfl hg1640) (hv2.of_old hm1638))) ?_
      refine t_rdg rfl rfl rfl rfl (gv_f _) (fun hg1641 => (rd_gtr (gvx rfl hg1641) rfl)) ?_
      refine t_rd rfl (rd_or rfl (fun hc1642 => (gvx rfl (bnotIt hc1642)))) ?_
      refine t_rd rfl (rd_move rfl) ?_
      refine t_rdg rfl rfl rfl rfl (gv_f _) (fun hg1643 => (rd_move rfl)) ?_
      refine t_rdg rfl rfl rfl rfl (gv_f _) (fun hg1644 => (rd_lenS tS29 (gvx rfl hg1644) (hv3.of_old hm1638))) ?_
      refine t_rdg rfl rfl rfl rfl (gv_f _) (fun hg1645 => (rd_gtr (gvx rfl hg1645) rfl)) ?_
      refine t_rd rfl (rd_or rfl (fun hc1646 => (gvx rfl (bnotIt hc1646)))) ?_
      refine rwt_nil ?_
      refine qn_then ?_
      obtain ⟨hb1647, q1648⟩ | ⟨hb1647, q1648⟩ := oi q1090 <;> clear q1090
      · refine cw_t rfl hb1647 ?_
        refine cw_seq ?_
        refine cw_region ?_
        obtain ⟨r1649, h1650, q1651⟩ := ob q1648; clear q1648
        refine t_ef rfl (ef_call tf13 rfl (law40_sane_ok h1650)) ?_
        rintro _ w1653 ⟨e_, hm1652⟩
        obtain rfl := e_.symm
        have hm1654 := hm1638.call hm1652
        refine t_rd rfl (rd_assign rfl) ?_
        refine rwt_nil ?_
        refine qn_then ?_
        refine cw_ret ?_
        refine qr_then ?_
        obtain rfl := os q1651
        exact ret1 rfl rfl ⟨rfl, (hm1654.pick [] (by decide) rfl)⟩
      · refine cw_f rfl hb1647 ?_
        refine cw_skip ?_
        refine qn_then ?_
        refine cw_seq ?_
        refine cw_region ?_
        refine t_rd rfl (rd_move rfl) ?_
        refine t_rd rfl (rd_move rfl) ?_
        refine t_rd rfl (rd_move rfl) ?_
        obtain ⟨r1655, h1656, q1657⟩ := ob q1648; clear q1648
        refine t_ef rfl (ef_call tf17 rfl (crew_Check_ok h1656 (hv1.to_call hm1638) (hv2.to_call hm1638) (hv3.to_call hm1638) (Sl.nil _ _) (Sl.nil _ _))) ?_
        rintro _ w1659 ⟨e_, hm1658⟩
        obtain rfl := e_.symm
        have hm1660 := hm1638.call hm1658
        refine t_rd rfl (rd_move rfl) ?_
        refine t_rd rfl (rd_extract rfl rfl) ?_
        refine t_rd rfl (rd_extract rfl rfl) ?_
        refine t_rd rfl (rd_assign rfl) ?_
        refine t_rd rfl (rd_assign rfl) ?_
        refine rwt_nil ?_
        refine qn_then ?_
        refine cw_seq ?_
        refine cw_region ?_
        refine t_rd rfl (rd_move rfl) ?_
        refine t_rd rfl (rd_move rfl) ?_
        refine t_rd rfl (rd_move rfl) ?_
        obtain ⟨r1661, h1662, q1663⟩ := ob q1657; clear q1657
        refine t_ef rfl (ef_call tf18 rfl (r40_Check_ok h1662 (hv1.to_call hm1660) (hv2.to_call hm1660) (hv3.to_call hm1660) (Sl.nil _ _) (Sl.nil _ _))) ?_
        rintro _ w1665 ⟨e_, hm1664⟩
        obtain rfl := e_.symm
        have hm1666 := hm1660.call hm1664
        refine t_rd rfl (rd_move rfl) ?_
        refine t_rd rfl (rd_extract rfl rfl) ?_
        refine t_rd rfl (rd_extract rfl rfl) ?_
        refine t_rd rfl (rd_assign rfl) ?_
        refine t_rd rfl (rd_assign rfl) ?_
        refine rwt_nil ?_
        refine qn_then ?_
        refine cw_seq ?_
        refine cw_region ?_
        refine t_rd rfl (rd_move rfl) ?_
        refine t_rd rfl (rd_move rfl) ?_
        obtain ⟨r1667, h1668, q1669⟩ := ob q1663; clear q1663
        refine t_ef rfl (ef_call tf9 rfl (crew_Assign_ok h1668 (hv1.to_call hm1666) (hv2.to_call hm1666))) ?_
        rintro _ w1672 ⟨v1670, e_, hm1671⟩
        obtain rfl := e_.symm
        have hm1673 := hm1666.call hm1671
        refine t_rd rfl (rd_move rfl) ?_
        refine t_rd rfl (rd_extract rfl rfl) ?_
        refine t_rd rfl (rd_extract rfl rfl) ?_
        refine t_rd rfl (rd_assign rfl) ?_
        refine t_rd rfl (rd_assign rfl) ?_
        refine rwt_nil ?_
        refine qn_then ?_
        refine cw_seq ?_
        refine cw_region ?_
        refine t_rd rfl (rd_move rfl) ?_
        refine t_rd rfl (rd_move rfl) ?_
        obtain ⟨r1674, h1675, q1676⟩ := ob q1669; clear q1669
        refine t_ef rfl (ef_call tf16 rfl (crew_Cover_ok h1675 (hv1.to_call hm1673) (hv2.to_call hm1673))) ?_
        rintro _ w1680 ⟨v1677, v1678, e_, hm1679⟩
        obtain rfl := e_.symm
        have hm1681 := hm1673.call hm1679
        refine t_rd rfl (rd_move rfl) ?_
        refine t_rd rfl (rd_extract rfl rfl) ?_
        refine t_rd rfl (rd_extract rfl rfl) ?_
        refine t_rd rfl (rd_extract rfl rfl) ?_
        refine t_rd rfl (rd_assign rfl) ?_
        refine t_rd rfl (rd_assign rfl) ?_
        refine t_rd rfl (rd_assign rfl) ?_
        refine rwt_nil ?_
        refine qn_then ?_
        refine cw_seq ?_
        refine cw_region ?_
        refine t_rd rfl (rd_move rfl) ?_
        refine t_rd rfl (rd_move rfl) ?_
        obtain ⟨r1682, h1683, q1684⟩ := ob q1676; clear q1676
        refine t_ef rfl (ef_call tf20 rfl (r40_Valid_ok h1683 (hv1.to_call hm1681) (hv2.to_call hm1681))) ?_
        rintro _ w1686 ⟨e_, hm1685⟩
        obtain rfl := e_.symm
        have hm1687 := hm1681.call hm1685
        refine t_rd rfl (rd_assign rfl) ?_
        refine rwt_nil ?_
        refine qn_then ?_
        refine cw_seq ?_
        refine cw_region ?_
        refine t_rd rfl (rd_move rfl) ?_
        refine t_rd rfl (rd_move rfl) ?_
        refine t_rd rfl (rd_eqlb tB4 rfl rfl) ?_
        refine t_rd rfl (rd_move rfl) ?_
        refine t_rdg rfl rfl rfl rfl (gv_t _) (fun hg1688 => (rd_move rfl)) ?_
        refine t_rdg rfl rfl rfl rfl (gv_t _) (fun hg1689 => (rd_move rfl)) ?_
        refine t_rdg rfl rfl rfl rfl (gv_t _) (fun hg1690 => (rd_eql (gvx rfl hg1690) (gvx rfl hg1690))) ?_
        refine t_rd rfl (rd_and rfl (fun hc1691 => (gvx rfl hc1691))) ?_
        refine t_rd rfl (rd_move rfl) ?_
        refine t_rdg rfl rfl rfl rfl (gv_t _) (fun hg1692 => (rd_move rfl)) ?_
        refine t_rdg rfl rfl rfl rfl (gv_t _) (fun hg1693 => (rd_move rfl)) ?_
        refine t_rdg rfl rfl rfl rfl (gv_t _) (fun hg1694 => (rd_eql (gvx rfl hg1694) (gvx rfl hg1694))) ?_
        refine t_rd rfl (rd_and rfl (fun hc1695 => (gvx rfl hc1695))) ?_
        refine t_rd rfl (rd_move rfl) ?_
        refine t_rdg rfl rfl rfl rfl (gv_t _) (fun hg1696 => (rd_move rfl)) ?_
        refine t_rdg rfl rfl rfl rfl (gv_t _) (fun hg1697 => (rd_move rfl)) ?_
        refine t_rdg rfl rfl rfl rfl (gv_t _) (fun hg1698 => (rd_eql (gvx rfl hg1698) (gvx rfl hg1698))) ?_
        refine t_rd rfl (rd_and rfl (fun hc1699 => (gvx rfl hc1699))) ?_
        refine t_rd rfl (rd_move rfl) ?_
        obtain ⟨r1701, h1702, q1703⟩ := ob q1684; clear q1684
        refine t_efg rfl rfl rfl rfl (R := (fun v w' => v = gV ((((r1655.1 == r1661.1) && decide (r1655.2 = r1661.2)) && decide (r1667.2 = r1682)) && decide (r1674.2.2 = r1682)) (Value.bool r1701) ∧ Mem w1686 No [] w')) (gv_t _) (fun hg1700 => (ef_call tf13 rfl (law40_sane_ok (gO_t h1702 hg1700))).mono (by rintro _ _ ⟨rfl, q⟩; exact ⟨(gV_t hg1700).symm, q⟩)) (fun q => ⟨(gV_f q).symm, Mem.nil _⟩) ?_
        rintro _ w1705 ⟨rfl, hm1704⟩
        have hm1706 := hm1687.call hm1704
        refine t_rd rfl (rd_and rfl (fun hc1707 => (gvx rfl hc1707))) ?_
        refine t_rd rfl (rd_assign rfl) ?_
        refine rwt_nil ?_
        refine qn_then ?_
        refine cw_ret ?_
        obtain rfl := os q1703
        exact ret1 rfl rfl ⟨rfl, (hm1706.pick [] (by decide) rfl)⟩

theorem search_place_r_ok {N : Nat} (M : Nat) : ∀ {a0_duties : List T_Task} {a0_crews : List T_Crew} {a0_of : List Int} {a0_seen : List Bool} {a1 : Int} {res : List Int × List Bool × Bool} (h : search_place_r N M a0_duties a0_crews a0_of a0_seen a1 = some res) {w : World} {g0 : Nat} {v0_duties : Value} {v0_crews : Value} {v0_of : Value} {v0_seen : Value} (hv0_duties : Sl (Old w (bunC [blk g0 67 [v0_duties, v0_crews, v0_of, v0_seen], ownL 3 v0_of (a0_of : List Int), ownL 4 v0_seen (a0_seen : List Bool)]).D) w v0_duties a0_duties) (hv0_crews : Sl (Old w (bunC [blk g0 67 [v0_duties, v0_crews, v0_of, v0_seen], ownL 3 v0_of (a0_of : List Int), ownL 4 v0_seen (a0_seen : List Bool)]).D) w v0_crews a0_crews) (hkb : (bunC [blk g0 67 [v0_duties, v0_crews, v0_of, v0_seen], ownL 3 v0_of (a0_of : List Int), ownL 4 v0_seen (a0_seen : List Bool)]).φ w),
    CallsR Try.prog 31 [(Value.pointer (some ⟨g0, 0, none⟩)), (Value.int .i64 a1)] w (fun u w' => u = (Value.bool res.2.2) ∧ Mem w (bunC [blk g0 67 [v0_duties, v0_crews, v0_of, v0_seen], ownL 3 v0_of (a0_of : List Int), ownL 4 v0_seen (a0_seen : List Bool)]).D [bunC [blk g0 67 [v0_duties, v0_crews, v0_of, v0_seen], ownL 3 v0_of (res.1 : List Int), ownL 4 v0_seen (res.2.1 : List Bool)]] w') := by
  induction M with
  | zero =>
    intro a0_duties a0_crews a0_of a0_seen a1 res h
    rw [search_place_r] at h
    cases h
  | succ M ih =>
  intro a0_duties a0_crews a0_of a0_seen a1 res h w g0 v0_duties v0_crews v0_of v0_seen hv0_duties hv0_crews hkb
  rw [search_place_r] at h
  refine fn_ok Try.func31 rfl rfl rfl ?_
  have hm0 := Mem.opened hkb
  refine cw_seq ?_
  refine cw_region ?_
  refine t_rd rfl (rd_assign rfl) ?_
  refine rwt_nil ?_
  refine qn_then ?_
  refine cw_seq ?_
  refine cw_seq ?_
  refine cw_region ?_
  refine t_rd rfl (rd_assign rfl) ?_
  refine rwt_nil ?_
  refine qn_then ?_
  refine cw_block ?_
  obtain ⟨r209, hit210, q211⟩ := ob h; clear h
  refine cw_loop2 (I := fun q envq wq => Sub [(0, (Value.pointer (some ⟨g0, 0, none⟩))), (1, (Value.int .i64 a1)), (5, (Value.int .i64 q.1))] envq ∧ Mem w (bunC [blk g0 67 [v0_duties, v0_crews, v0_of, v0_seen], ownL 3 v0_of (a0_of : List Int), ownL 4 v0_seen (a0_seen : List Bool)]).D [blk g0 67 [v0_duties, v0_crews, v0_of, v0_seen], ownL 3 v0_of (q.2.1 : List Int), ownL 4 v0_seen (q.2.2 : List Bool)] wq) (X := fun eq envq wq => (∃ p212, r209 = (Sum.inl p212) ∧ eq = .ret ∧ retQ Try.prog 72 Try.f31 (fun u w' => u = (Value.bool p212.2.2) ∧ Mem w (bunC [blk g0 67 [v0_duties, v0_crews, v0_of, v0_seen], ownL 3 v0_of (a0_of : List Int), ownL 4 v0_seen (a0_seen : List Bool)]).D [bunC [blk g0 67 [v0_duties, v0_crews, v0_of, v0_seen], ownL 3 v0_of (p212.1 : List Int), ownL 4 v0_seen (p212.2.1 : List Bool)]] w') .ret envq wq) ∨ (∃ p213, r209 = (Sum.inr p213) ∧ eq = .exit 0 ∧ Sub [] envq ∧ Mem w (bunC [blk g0 67 [v0_duties, v0_crews, v0_of, v0_seen], ownL 3 v0_of (a0_of : List Int), ownL 4 v0_seen (a0_seen : List Bool)]).D [blk g0 67 [v0_duties, v0_crews, v0_of, v0_seen], ownL 3 v0_of (p213.1 : List Int), ownL 4 v0_seen (p213.2 : List Bool)] wq)) hit210 ⟨(by repeat (first | exact Sub.nil _ | refine Sub.cons rfl ?_)), (hm0.pick [0, 1, 2] (by decide) rfl)⟩ ?_ ?_
  · rintro ⟨i200, l201, l202⟩ x204 env205 w206 hf207 hr208 ⟨hs_, hm_⟩
    have hs_ : Sub [(0, (Value.pointer (some ⟨g0, 0, none⟩))), (1, (Value.int .i64 a1)), (5, (Value.int .i64 i200))] env205 := hs_
    have hm214 : Mem w (bunC [blk g0 67 [v0_duties, v0_crews, v0_of, v0_seen], ownL 3 v0_of (a0_of : List Int), ownL 4 v0_seen (a0_seen : List Bool)]).D [blk g0 67 [v0_duties, v0_crews, v0_of, v0_seen], ownL 3 v0_of (l201 : List Int), ownL 4 v0_seen (l202 : List Bool)] w206 := hm_
    refine cw_sub hs_ ?_
    clear hs_ hm_ q211
    have h : search_place_l1 N (search_place_r N M) a0_duties a0_crews a1 i200 l201 l202 = some x204 := hf207
    clear hf207
    refine cw_seq ?_
    refine cw_seq ?_
    refine cw_region ?_
    refine t_rd rfl (rd_move rfl) ?_
    refine t_rd rfl (rd_move rfl) ?_
    refine t_rd rfl (rd_nilCheck rfl) ?_
    refine t_rd rfl (rd_fld tF67_1 rfl) ?_
    refine t_rd rfl (rd_ld1 tO26 rfl (hm214.blk 0 rfl) (off := 1) rfl) ?_
    refine t_rd rfl (rd_lenS tS26 rfl (hv0_crews.of_old hm214)) ?_
    refine t_rd rfl (rd_lss rfl rfl) ?_
    refine rwt_nil ?_
    refine qn_then ?_
    obtain ⟨hb215, q216⟩ | ⟨hb215, q216⟩ := oi h <;> clear h
    · refine cw_t rfl hb215 ?_
      refine cw_skip ?_
      refine qn_then ?_
      refine cw_seq ?_
      refine cw_block ?_
      refine cw_seq ?_
      refine cw_seq ?_
      obtain ⟨w218, he220⟩ : ∃ q, q = w206.drew := ⟨_, rfl⟩
      have hm219 := hm214.drew; rw [← he220] at hm219
      refine cw_region_s (fun q => q = w218) (cls [] [22]) mixed ?_
      rintro _ rfl; rw [← he220]
      refine s_rp (i := 0) rfl (by kernel_rfl) rfl (fun _ => (rd_move rfl)) ?_
      refine s_rp (i := 1) rfl (by kernel_rfl) rfl (fun _ => (rd_nilCheck rfl)) ?_
      refine s_rp (i := 2) rfl (by kernel_rfl) rfl (fun _ => (rd_fld tF67_3 rfl)) ?_
      refine s_rd (i := 3) rfl (by kernel_rfl) rfl (fun _ hS => by rw [hS]; exact (rd_ld1 tO33 rfl (hm219.blk 0 rfl) (off := 3) rfl)) rfl ?_
      refine s_rp (i := 4) rfl (by kernel_rfl) rfl (fun _ => (rd_move rfl)) ?_
      obtain ⟨x221, h222, q223⟩ := ob q216; clear q216
      refine s_rp (i := 5) rfl (by kernel_rfl) rfl (fun _ => (rd_index tS33 rfl rfl (hm219.sl 2 rfl) h222)) ?_
      refine s_rd (i := 6) rfl (by kernel_rfl) rfl (fun _ hS => by rw [hS]; exact (rd_ld1 tO4 rfl ((hm219.sl 2 rfl).cells h222) (off := 0) rfl)) rfl ?_
      refine s_rp (i := 7) rfl (by kernel_rfl) rfl (fun _ => (rd_move rfl)) ?_
      refine s_rpg (i := 8) rfl (by kernel_rfl) rfl rfl rfl rfl (gv_f _) (fun hg224 _ => (rd_move rfl)) ?_
      refine s_rpg (i := 9) rfl (by kernel_rfl) rfl rfl rfl rfl (gv_f _) (fun hg225 _ => (rd_nilCheck (gvx rfl hg225))) ?_
      refine s_rpg (i := 10) rfl (by kernel_rfl) rfl rfl rfl rfl (gv_f _) (fun hg226 _ => (rd_fld tF67_0 (gvx rfl hg226))) ?_
      refine s_rdg (i := 11) rfl (by kernel_rfl) rfl rfl rfl rfl (gv_f _) (fun hg227 => (fun _ hS => by rw [hS]; exact (rd_ld1 tO25 (gvx rfl hg227) (hm219.blk 0 rfl) (off := 0) rfl))) rfl ?_
      refine s_rpg (i := 12) rfl (by kernel_rfl) rfl rfl rfl rfl (gv_f _) (fun hg228 _ => (rd_move rfl)) ?_
      obtain ⟨x230, h231, q232⟩ := ob q223; clear q223
      refine s_rpg (i := 13) rfl (by kernel_rfl) rfl rfl rfl rfl (gv_f _) (fun hg229 _ => (rd_index tS25 (gvx rfl hg229) (gvx rfl hg229) (hv0_duties.of_old hm219) (gO_t h231 hg229))) ?_
      refine s_rdg (i := 14) rfl (by kernel_rfl) rfl rfl rfl rfl (gv_f _) (fun hg233 => (fun _ hS => by rw [hS]; exact (rd_ld tA37 (gvx rfl hg233) ((hv0_duties.of_old hm219).cells (gO_t h231 hg233)) rfl))) rfl ?_
      refine s_rpg (i := 15) rfl (by kernel_rfl) rfl rfl rfl rfl (gv_f _) (fun hg234 _ => (rd_move rfl)) ?_
      refine s_rpg (i := 16) rfl (by kernel_rfl) rfl rfl rfl rfl (gv_f _) (fun hg235 _ => (rd_nilCheck (gvx rfl hg235))) ?_
      refine s_rpg (i := 17) rfl (by kernel_rfl) rfl rfl rfl rfl (gv_f _) (fun hg236 _ => (rd_fld tF67_1 (gvx rfl hg236))) ?_
      refine s_rdg (i := 18) rfl (by kernel_rfl) rfl rfl rfl rfl (gv_f _) (fun hg237 => (fun _ hS => by rw [hS]; exact (rd_ld1 tO26 (gvx rfl hg237) (hm219.blk 0 rfl) (off := 1) rfl))) rfl ?_
      refine s_rpg (i := 19) rfl (by kernel_rfl) rfl rfl rfl rfl (gv_f _) (fun hg238 _ => (rd_move rfl)) ?_
      obtain ⟨x240, h241, q242⟩ := ob q232; clear q232
      refine s_rpg (i := 20) rfl (by kernel_rfl) rfl rfl rfl rfl (gv_f _) (fun hg239 _ => (rd_index tS26 (gvx rfl hg239) (gvx rfl hg239) (hv0_crews.of_old hm219) (gO_t h241 hg239))) ?_
      refine s_rdg (i := 21) rfl (by kernel_rfl) rfl rfl rfl rfl (gv_f _) (fun hg243 => (fun _ hS => by rw [hS]; exact (rd_ld tA39 (gvx rfl hg243) ((hv0_crews.of_old hm219).cells (gO_t h241 hg243)) rfl))) rfl ?_
      obtain ⟨r245, h246, q247⟩ := ob q242; clear q242
      refine s_efg (i := 22) rfl (by kernel_rfl) rfl rfl rfl rfl (R := (fun v w' => v = gV (!x221) (Value.bool r245) ∧ Mem w218 No [] w')) (gv_f _) (fun hg244 => (ef_call tf11 (evc (gvx rfl hg244) (evc (gvx rfl hg244) evn)) (r40_Fits_ok (gO_t h246 hg244))).mono (by rintro _ _ ⟨rfl, q⟩; exact ⟨(gV_t hg244).symm, q⟩)) (fun q => ⟨(gV_f q).symm, Mem.nil _⟩) (by decide) (fun _ _ _ q => absurd q (by decide)) ?_
      rintro _ w249 ⟨rfl, hm248⟩
      have hm250 := hm219.call hm248
      refine s_rpg (i := 23) rfl (by kernel_rfl) rfl rfl rfl rfl (gv_f _) (fun hg251 _ => (rd_not (gvx rfl hg251))) ?_
      refine s_rp (i := 24) rfl (by kernel_rfl) rfl (fun _ => (rd_or rfl (fun hc252 => (gvx rfl (bnotIt hc252))))) ?_
      refine s_nil (by kernel_rfl) ?_
      refine qn_then ?_
      obtain ⟨hb253, q254⟩ | ⟨hb253, q254⟩ := oi q247 <;> clear q247
      · refine cw_t rfl hb253 ?_
        refine cw_exit ?_
        refine qx_then (qx_same (qn_then ?_))
        refine cw_region ?_
        refine t_rd rfl (rd_move rfl) ?_
        obtain ⟨x255, h256, q257⟩ := ob q254; clear q254
        refine t_rd rfl (rd_add64 h256 rfl rfl) ?_
        refine t_rd rfl (rd_assign rfl) ?_
        refine rwt_nil ?_
        refine qn_then ?_
        refine ⟨_, (os q257), (by repeat (first | exact Sub.nil _ | refine Sub.cons rfl ?_)), (hm250.pick [0, 1, 2] (by decide) rfl)⟩
      · refine cw_f rfl hb253 ?_
        refine cw_skip ?_
        refine qn_then ?_
        refine cw_seq ?_
        refine cw_region ?_
        refine t_rd rfl (rd_move rfl) ?_
        refine t_rd rfl (rd_nilCheck rfl) ?_
        refine t_rd rfl (rd_fld tF67_3 rfl) ?_
        refine t_rd rfl (rd_ld1 tO33 rfl (hm250.blk 0 rfl) (off := 3) rfl) ?_
        refine t_rd rfl (rd_move rfl) ?_
        obtain ⟨x258, h259, q260⟩ := ob q254; clear q254
        refine t_rd rfl (rd_index tS33 rfl rfl (hm250.sl 2 rfl) h259) ?_
        refine t_ef0 (ef_stl (k := 2) (off := 0) (x' := true) hm250 tO4 rfl rfl rfl rfl h259 rfl rfl) ?_
        intro _ w262 hm261
        refine rwt_nil ?_
        refine qn_then ?_
        refine cw_seq ?_
        refine cw_region ?_
        refine t_rd rfl (rd_move rfl) ?_
        refine t_rd rfl (rd_nilCheck rfl) ?_
        refine t_rd rfl (rd_fld tF67_2 rfl) ?_
        refine t_rd rfl (rd_ld1 tO22 rfl (hm261.blk 0 rfl) (off := 2) rfl) ?_
        refine t_rd rfl (rd_move rfl) ?_
        obtain ⟨x263, h264, q265⟩ := ob q260; clear q260
        refine t_rd rfl (rd_index tS22 rfl rfl (hm261.sl 1 rfl) h264) ?_
        refine t_rd rfl (rd_ld1 tO3 rfl ((hm261.sl 1 rfl).cells h264) (off := 0) rfl) ?_
        refine t_rd rfl (rd_lss rfl rfl) ?_
        refine t_rd rfl (rd_move rfl) ?_
        refine t_rdg rfl rfl rfl rfl (gv_f _) (fun hg266 => (rd_move rfl)) ?_
        refine t_rdg rfl rfl rfl rfl (gv_f _) (fun hg267 => (rd_move rfl)) ?_
        refine t_rdg rfl rfl rfl rfl (gv_f _) (fun hg268 => (rd_nilCheck (gvx rfl hg268))) ?_
        refine t_rdg rfl rfl rfl rfl (gv_f _) (fun hg269 => (rd_fld tF67_2 (gvx rfl hg269))) ?_
        refine t_rdg rfl rfl rfl rfl (gv_f _) (fun hg270 => (rd_ld1 tO22 (gvx rfl hg270) (hm261.blk 0 rfl) (off := 2) rfl)) ?_
        refine t_rdg rfl rfl rfl rfl (gv_f _) (fun hg271 => (rd_move rfl)) ?_
        obtain ⟨x273, h274, q275⟩ := ob q265; clear q265
        refine t_rdg rfl rfl rfl rfl (gv_f _) (fun hg272 => (rd_index tS22 (gvx rfl hg272) (gvx rfl hg272) (hm261.sl 1 rfl) (gO_t h274 hg272))) ?_
        refine t_rdg rfl rfl rfl rfl (gv_f _) (fun hg276 => (rd_ld1 tO3 (gvx rfl hg276) ((hm261.sl 1 rfl).cells (gO_t h274 hg276)) (off := 0) rfl)) ?_
        obtain ⟨hb278, q279⟩ | ⟨hb278, q279⟩ := oi q275 <;> clear q275
        · skip
          have hm281 := hm261.bundle [blk g0 67 [v0_duties, v0_crews, v0_of, v0_seen], ownL 3 v0_of (l201 : List Int), ownL 4 v0_seen ((List.set l202 (Int.toNat i200) true) : List Bool)] []
          obtain ⟨r282, h283, q284⟩ := ob q279; clear q279
          refine t_efg rfl rfl rfl rfl (gv_f _) (fun _ => (ef_call tf31 (evc (gvx rfl hb278) (evc (gvx rfl hb278) evn)) (ih h283 (hv0_duties.to_callT (k := 0) hm281 rfl) (hv0_crews.to_callT (k := 0) hm281 rfl) (hm281.get (k := 0) rfl)))) (fun q => bcontra q hb278) ?_
          rintro _ w286 ⟨e_, hm285⟩
          obtain rfl := e_.symm
          have hm287 := hm281.callT (k := 0) rfl (fun _ h => h) hm285 (fun _ => Iff.rfl)
          have hm288 := hm287.unbundle [blk g0 67 [v0_duties, v0_crews, v0_of, v0_seen], ownL 3 v0_of (r282.1 : List Int), ownL 4 v0_seen (r282.2.1 : List Bool)] []
          refine t_rd rfl (rd_or rfl (fun hc289 => rfl)) ?_
          refine rwt_nil ?_
          refine qn_then ?_
          obtain ⟨hb290, q291⟩ | ⟨hb290, q291⟩ := oi q284 <;> clear q284
          · refine cw_t rfl hb290 ?_
            refine cw_seq ?_
            refine cw_region ?_
            refine t_rd rfl (rd_move rfl) ?_
            refine t_rd rfl (rd_nilCheck rfl) ?_
            refine t_rd rfl (rd_fld tF67_2 rfl) ?_
            refine t_rd rfl (rd_ld1 tO22 rfl (hm288.blk 0 rfl) (off := 2) rfl) ?_
            refine t_rd rfl (rd_move rfl) ?_
            refine t_rd rfl (rd_move rfl) ?_
            obtain ⟨x292, h293, q294⟩ := ob q291; clear q291
            refine t_rd rfl (rd_index tS22 rfl rfl (hm288.sl 1 rfl) h293) ?_
            refine t_ef0 (ef_stl (k := 1) (off := 0) (x' := a1) hm288 tO3 rfl rfl rfl rfl h293 rfl rfl) ?_
            intro _ w296 hm295
            refine rwt_nil ?_
            refine qn_then ?_
            refine cw_seq ?_
            refine cw_region ?_
            refine t_rd rfl (rd_assign rfl) ?_
            refine rwt_nil ?_
            refine qn_then ?_
            refine cw_ret ?_
            refine qr_block (qr_then (qr_then ?_))
            obtain rfl := hr208 _ (os q294)
            refine .inl (⟨_, rfl, ⟨rfl, ?_⟩⟩)
            exact ret1 rfl rfl ⟨rfl, (Mem.bundle [blk g0 67 [v0_duties, v0_crews, v0_of, v0_seen], ownL 3 v0_of ((List.set r282.1 (Int.toNat i200) a1) : List Int), ownL 4 v0_seen (r282.2.1 : List Bool)] [] (hm295.pick (L' := [blk g0 67 [v0_duties, v0_crews, v0_of, v0_seen], ownL 3 v0_of ((List.set r282.1 (Int.toNat i200) a1) : List Int), ownL 4 v0_seen (r282.2.1 : List Bool)]) [0, 1, 2] (by decide) rfl))⟩
          · refine cw_f rfl hb290 ?_
            refine cw_skip ?_
            refine qn_block (qn_then ?_)
            refine cw_region ?_
            refine t_rd rfl (rd_move rfl) ?_
            obtain ⟨x297, h298, q299⟩ := ob q291; clear q291
            refine t_rd rfl (rd_add64 h298 rfl rfl) ?_
            refine t_rd rfl (rd_assign rfl) ?_
            refine rwt_nil ?_
            refine qn_then ?_
            refine ⟨_, (os q299), (by repeat (first | exact Sub.nil _ | refine Sub.cons rfl ?_)), (hm288.pick [0, 1, 2] (by decide) rfl)⟩
        · skip
          refine t_efg rfl rfl rfl rfl (R := fun v w' => v = undef ∧ w' = w262) (gv_f _) (fun hg300 => bcontra hb278 hg300) (fun _ => ⟨rfl, rfl⟩) ?_
          rintro v_ w_ ⟨e1_, e2_⟩; rw [e1_, e2_]; clear e1_ e2_ v_ w_
          refine t_rd rfl (rd_or (b := true) rfl (fun hc301 => bcontra hc301 (bnotf hb278))) ?_
          refine rwt_nil ?_
          refine qn_then ?_
          obtain ⟨hb302, q303⟩ | ⟨hb302, q303⟩ := oi q279 <;> clear q279
          · refine cw_t rfl hb302 ?_
            refine cw_seq ?_
            refine cw_region ?_
            refine t_rd rfl (rd_move rfl) ?_
            refine t_rd rfl (rd_nilCheck rfl) ?_
            refine t_rd rfl (rd_fld tF67_2 rfl) ?_
            refine t_rd rfl (rd_ld1 tO22 rfl (hm261.blk 0 rfl) (off := 2) rfl) ?_
            refine t_rd rfl (rd_move rfl) ?_
            refine t_rd rfl (rd_move rfl) ?_
            obtain ⟨x304, h305, q306⟩ := ob q303; clear q303
            refine t_rd rfl (rd_index tS22 rfl rfl (hm261.sl 1 rfl) h305) ?_
            refine t_ef0 (ef_stl (k := 1) (off := 0) (x' := a1) hm261 tO3 rfl rfl rfl rfl h305 rfl rfl) ?_
            intro _ w308 hm307
            refine rwt_nil ?_
            refine qn_then ?_
            refine cw_seq ?_
            refine cw_region ?_
            refine t_rd rfl (rd_assign rfl) ?_
            refine rwt_nil ?_
            refine qn_then ?_
            refine cw_ret ?_
            refine qr_block (qr_then (qr_then ?_))
            obtain rfl := hr208 _ (os q306)
            refine .inl (⟨_, rfl, ⟨rfl, ?_⟩⟩)
            exact ret1 rfl rfl ⟨rfl, (Mem.bundle [blk g0 67 [v0_duties, v0_crews, v0_of, v0_seen], ownL 3 v0_of ((List.set l201 (Int.toNat i200) a1) : List Int), ownL 4 v0_seen ((List.set l202 (Int.toNat i200) true) : List Bool)] [] (hm307.pick (L' := [blk g0 67 [v0_duties, v0_crews, v0_of, v0_seen], ownL 3 v0_of ((List.set l201 (Int.toNat i200) a1) : List Int), ownL 4 v0_seen ((List.set l202 (Int.toNat i200) true) : List Bool)]) [0, 1, 2] (by decide) rfl))⟩
          · refine cw_f rfl hb302 ?_
            refine cw_skip ?_
            refine qn_block (qn_then ?_)
            refine cw_region ?_
            refine t_rd rfl (rd_move rfl) ?_
            obtain ⟨x309, h310, q311⟩ := ob q303; clear q303
            refine t_rd rfl (rd_add64 h310 rfl rfl) ?_
            refine t_rd rfl (rd_assign rfl) ?_
            refine rwt_nil ?_
            refine qn_then ?_
            refine ⟨_, (os q311), (by repeat (first | exact Sub.nil _ | refine Sub.cons rfl ?_)), (hm261.pick [0, 1, 2] (by decide) rfl)⟩
    · refine cw_f rfl hb215 ?_
      refine cw_exit ?_
      refine qx_then (qx_then ?_)
      obtain rfl := hr208 _ (os q216)
      exact .inr (⟨_, rfl, ⟨rfl, (by repeat (first | exact Sub.nil _ | refine Sub.cons rfl ?_)), (hm214.pick [0, 1, 2] (by decide) rfl)⟩⟩)
  · skip
    intro e env312 w313 hX314
    rcases hX314 with hX314 | hX314
    · obtain ⟨p316, rfl, hX314⟩ := hX314
      obtain ⟨rfl, hq318⟩ := hX314
      exact qr_block (qr_then ((by have e := os q211; subst e; exact hq318)))
    · obtain ⟨p319, rfl, hX314⟩ := hX314
      obtain ⟨rfl, hs320, hm321⟩ := hX314
      refine qx_same (qn_then ?_)
      refine cw_sub hs320 ?_
      refine cw_seq ?_
      refine cw_region ?_
      refine t_rd rfl (rd_assign rfl) ?_
      refine rwt_nil ?_
      refine qn_then ?_
      refine cw_ret ?_
      obtain rfl := os q211
      exact ret1 rfl rfl ⟨rfl, (Mem.bundle [blk g0 67 [v0_duties, v0_crews, v0_of, v0_seen], ownL 3 v0_of (p319.1 : List Int), ownL 4 v0_seen (p319.2 : List Bool)] [] (hm321.pick (L' := [blk g0 67 [v0_duties, v0_crews, v0_of, v0_seen], ownL 3 v0_of (p319.1 : List Int), ownL 4 v0_seen (p319.2 : List Bool)]) [0, 1, 2] (by decide) rfl))⟩

theorem search_place_ok {N : Nat} {a0_duties : List T_Task} {a0_crews : List T_Crew} {a0_of : List Int} {a0_seen : List Bool} {a1 : Int} {res : List Int × List Bool × Bool} (h : search_place N a0_duties a0_crews a0_of a0_seen a1 = some res) {w : World} {g0 : Nat} {v0_duties : Value} {v0_crews : Value} {v0_of : Value} {v0_seen : Value} (hv0_duties : Sl (Old w (bunC [blk g0 67 [v0_duties, v0_crews, v0_of, v0_seen], ownL 3 v0_of (a0_of : List Int), ownL 4 v0_seen (a0_seen : List Bool)]).D) w v0_duties a0_duties) (hv0_crews : Sl (Old w (bunC [blk g0 67 [v0_duties, v0_crews, v0_of, v0_seen], ownL 3 v0_of (a0_of : List Int), ownL 4 v0_seen (a0_seen : List Bool)]).D) w v0_crews a0_crews) (hkb : (bunC [blk g0 67 [v0_duties, v0_crews, v0_of, v0_seen], ownL 3 v0_of (a0_of : List Int), ownL 4 v0_seen (a0_seen : List Bool)]).φ w) :
    CallsR Try.prog 31 [(Value.pointer (some ⟨g0, 0, none⟩)), (Value.int .i64 a1)] w (fun u w' => u = (Value.bool res.2.2) ∧ Mem w (bunC [blk g0 67 [v0_duties, v0_crews, v0_of, v0_seen], ownL 3 v0_of (a0_of : List Int), ownL 4 v0_seen (a0_seen : List Bool)]).D [bunC [blk g0 67 [v0_duties, v0_crews, v0_of, v0_seen], ownL 3 v0_of (res.1 : List Int), ownL 4 v0_seen (res.2.1 : List Bool)]] w') := search_place_r_ok N h hv0_duties hv0_crews hkb

theorem r40_Most_ok {N : Nat} {a0 : List T_Task} {a1 : List T_Crew} {res : Int} (h : r40_Most N a0 a1 = some res) {w : World} {v0 : Value} {v1 : Value} (hv0 : Sl (Old w No) w v0 a0) (hv1 : Sl (Old w No) w v1 a1) :
    CallsR Try.prog 22 [v0, v1] w (fun u w' => u = (Value.int .i64 res) ∧ Mem w No [] w') := by
  unfold r40_Most at h
  refine fn_ok Try.func22 rfl rfl rfl ?_
  have hm0 := Mem.nil w
  refine cw_seq ?_
  refine cw_region ?_
  refine t_rd rfl (rd_assign rfl) ?_
  refine rwt_nil ?_
  refine qn_then ?_
  refine cw_seq ?_
  refine cw_region ?_
  refine t_rd rfl (rd_move rfl) ?_
  refine t_rd rfl (rd_move rfl) ?_
  refine t_rd rfl (rd_build (cs := #[v0, v1, (Value.slice none 0 0), (Value.slice none 0 0)]) rfl (by obtain ⟨_, _, e⟩ := ((hv0.of_old hm0)).val; rw [e]; clear e; obtain ⟨_, _, e⟩ := ((hv1.of_old hm0)).val; rw [e]; clear e; kernel_rfl)) ?_
  refine t_ef rfl (ef_box hm0 rfl rfl) ?_
  rintro _ w3 ⟨g1, rfl, hm2⟩
  refine t_rd rfl (rd_assign rfl) ?_
  refine rwt_nil ?_
  refine qn_then ?_
  refine cw_seq ?_
  refine cw_seq ?_
  refine cw_region ?_
  refine t_rd rfl (rd_assign rfl) ?_
  refine rwt_nil ?_
  refine qn_then ?_
  refine cw_block ?_
  have hm21 := hm2.addNil (α := Int) 3
  obtain ⟨r69, hit70, q71⟩ := ob h; clear h
  refine cw_loop2 (I := fun q envq wq => ∃ (v62 : Value), Sub [(0, v0), (1, v1), (5, (Value.pointer (some ⟨g1, 0, none⟩))), (6, (Value.int .i64 q.1))] envq ∧ Mem w No [ownL 3 v62 (q.2 : List Int), blk g1 67 [v0, v1, v62, (Value.slice none 0 0)]] wq) (X := fun eq envq wq => eq = .exit 0 ∧ ∃ (v59 : Value), Sub [(0, v0), (1, v1), (5, (Value.pointer (some ⟨g1, 0, none⟩)))] envq ∧ Mem w No [ownL 3 v59 (r69 : List Int), blk g1 67 [v0, v1, v59, (Value.slice none 0 0)]] wq) hit70 ⟨(Value.slice none 0 0), (by repeat (first | exact Sub.nil _ | refine Sub.cons rfl ?_)), (hm21.pick [0, 1] (by decide) rfl)⟩ ?_ ?_
  · rintro ⟨i60, l61⟩ x64 env65 w66 hf67 hr68 ⟨v62, hs_, hm_⟩
    have hs_ : Sub [(0, v0), (1, v1), (5, (Value.pointer (some ⟨g1, 0, none⟩))), (6, (Value.int .i64 i60))] env65 := hs_
    have hm72 : Mem w No [ownL 3 v62 (l61 : List Int), blk g1 67 [v0, v1, v62, (Value.slice none 0 0)]] w66 := hm_
    refine cw_sub hs_ ?_
    clear hs_ hm_ q71
    have h : r40_Most_l1 N a1 i60 l61 = some x64 := hf67
    clear hf67
    refine cw_seq ?_
    refine cw_seq ?_
    refine cw_region ?_
    refine t_rd rfl (rd_move rfl) ?_
    refine t_rd rfl (rd_move rfl) ?_
    refine t_rd rfl (rd_lenS tS26 rfl (hv1.of_old hm72)) ?_
    refine t_rd rfl (rd_lss rfl rfl) ?_
    refine rwt_nil ?_
    refine qn_then ?_
    obtain ⟨hb73, q74⟩ | ⟨hb73, q74⟩ := oi h <;> clear h
    · refine cw_t rfl hb73 ?_
      refine cw_skip ?_
      refine qn_then ?_
      refine cw_seq ?_
      refine cw_block ?_
      refine cw_region ?_
      refine t_rd rfl (rd_move rfl) ?_
      refine t_rd rfl (rd_move rfl) ?_
      refine t_rd rfl (rd_nilCheck rfl) ?_
      refine t_rd rfl (rd_fld tF67_2 rfl) ?_
      refine t_rd rfl (rd_ld1 tO22 rfl (hm72.blk 1 rfl) (off := 2) rfl) ?_
      refine t_ef rfl (ef_bslice (l := ([(-1)] : List Int)) hm72 tS22 rfl (cs := #[(Value.int .i64 (-1))]) (by unfold bsl; kernel_rfl) rfl rfl) ?_
      intro v75 w77 hm76
      obtain ⟨l78, h79, q80⟩ := ob q74; clear q74
      refine t_ef rfl (ef_append (k := 1) hm76 tS22 tE3 rfl rfl rfl rfl (hm76.sl 0 rfl) h79) ?_
      intro v81 w83 hm82
      refine t_rd rfl (rd_nilCheck rfl) ?_
      refine t_rd rfl (rd_fld tF67_2 rfl) ?_
      refine t_ef0 (ef_st1 (k := 2) (off := 2) hm82 tO22 rfl rfl rfl (sl_one (hm82.sl 1 rfl)) rfl rfl) ?_
      intro _ w85 hm84
      refine rwt_nil ?_
      refine qn_block (qn_then ?_)
      refine cw_region ?_
      refine t_rd rfl (rd_move rfl) ?_
      obtain ⟨x86, h87, q88⟩ := ob q80; clear q80
      refine t_rd rfl (rd_add64 h87 rfl rfl) ?_
      refine t_rd rfl (rd_assign rfl) ?_
      refine rwt_nil ?_
      refine qn_then ?_
      refine ⟨_, (os q88), v81, (by repeat (first | exact Sub.nil _ | refine Sub.cons rfl ?_)), (hm84.pick [1, 2] (by decide) rfl)⟩
    · refine cw_f rfl hb73 ?_
      refine cw_exit ?_
      refine qx_then (qx_then ?_)
      obtain rfl := hr68 _ (os q74)
      exact ⟨rfl, v62, (by repeat (first | exact Sub.nil _ | refine Sub.cons rfl ?_)), (hm72.pick [0, 1] (by decide) rfl)⟩
  · skip
    intro e env89 w90 hX91
    obtain ⟨rfl, v59, hs92, hm93⟩ := hX91
    refine qx_same (qn_then ?_)
    refine cw_sub hs92 ?_
    refine cw_seq ?_
    refine cw_region ?_
    refine t_rd rfl (rd_assign rfl) ?_
    refine rwt_nil ?_
    refine qn_then ?_
    refine cw_seq ?_
    refine cw_seq ?_
    refine cw_region ?_
    refine t_rd rfl (rd_assign rfl) ?_
    refine rwt_nil ?_
    refine qn_then ?_
    refine cw_block ?_
    have hm124 := hm93.addNil (α := Bool) 4
    obtain ⟨r205, hit206, q207⟩ := ob q71; clear q71
    refine cw_loop2 (I := fun q envq wq => ∃ (v198 : Value), Sub [(0, v0), (1, v1), (5, (Value.pointer (some ⟨g1, 0, none⟩))), (7, (Value.int .i64 q.1)), (8, (Value.int .i64 q.2.1))] envq ∧ Mem w No [ownL 4 v198 (q.2.2.2 : List Bool), ownL 3 v59 (q.2.2.1 : List Int), blk g1 67 [v0, v1, v59, v198]] wq) (X := fun eq envq wq => eq = .exit 2 ∧ Sub [(7, (Value.int .i64 r205))] envq ∧ Mem w No [] wq) hit206 ⟨(Value.slice none 0 0), (by repeat (first | exact Sub.nil _ | refine Sub.cons rfl ?_)), (hm124.pick [0, 1, 2] (by decide) rfl)⟩ ?_ ?_
    · rintro ⟨i194, i195, l196, l197⟩ x200 env201 w202 hf203 hr204 ⟨v198, hs_, hm_⟩
      have hs_ : Sub [(0, v0), (1, v1), (5, (Value.pointer (some ⟨g1, 0, none⟩))), (7, (Value.int .i64 i194)), (8, (Value.int .i64 i195))] env201 := hs_
      have hm208 : Mem w No [ownL 4 v198 (l197 : List Bool), ownL 3 v59 (l196 : List Int), blk g1 67 [v0, v1, v59, v198]] w202 := hm_
      refine cw_sub hs_ ?_
      clear hs_ hm_ q207
      have h : r40_Most_l2 N a0 a1 i194 i195 l196 l197 = some x200 := hf203
      clear hf203
      refine cw_seq ?_
      refine cw_seq ?_
      refine cw_region ?_
      refine t_rd rfl (rd_move rfl) ?_
      refine t_rd rfl (rd_move rfl) ?_
      refine t_rd rfl (rd_lenS tS25 rfl (hv0.of_old hm208)) ?_
      refine t_rd rfl (rd_lss rfl rfl) ?_
      refine rwt_nil ?_
      refine qn_then ?_
      obtain ⟨hb209, q210⟩ | ⟨hb209, q210⟩ := oi h <;> clear h
      · refine cw_t rfl hb209 ?_
        refine cw_skip ?_
        refine qn_then ?_
        refine cw_seq ?_
        refine cw_block ?_
        refine cw_seq ?_
        refine cw_region ?_
        refine t_rd rfl (rd_move rfl) ?_
        refine t_rd rfl (rd_move rfl) ?_
        refine t_rd rfl (rd_lenS tS26 rfl (hv1.of_old hm208)) ?_
        obtain ⟨l211, h212, q213⟩ := ob q210; clear q210
        refine t_ef rfl (ef_make hm208 tS33 tE4 rfl rfl rfl h212) ?_
        intro v214 w216 hm215
        refine t_rd rfl (rd_nilCheck rfl) ?_
        refine t_rd rfl (rd_fld tF67_3 rfl) ?_
        refine t_ef0 (ef_st1 (k := 3) (off := 3) hm215 tO33 rfl rfl rfl (sl_one (hm215.sl 0 rfl)) rfl rfl) ?_
        intro _ w218 hm217
        refine rwt_nil ?_
        refine qn_then ?_
        refine cw_seq ?_
        refine cw_region ?_
        refine t_rd rfl (rd_move rfl) ?_
        refine t_rd rfl (rd_move rfl) ?_
        have hm219 := hm217.pick [3, 2, 0, 1] (L' := [blk g1 67 [v0, v1, v59, v214], ownL 3 v59 (l196 : List Int), ownL 4 v214 (l211 : List Bool), ownL 4 v198 (l197 : List Bool)]) (by decide) rfl
        have hm220 := hm219.bundle [blk g1 67 [v0, v1, v59, v214], ownL 3 v59 (l196 : List Int), ownL 4 v214 (l211 : List Bool)] [ownL 4 v198 (l197 : List Bool)]
        obtain ⟨r221, h222, q223⟩ := ob q213; clear q213
        refine t_ef rfl (ef_call tf31 rfl (search_place_ok h222 (hv0.to_callT (k := 0) hm220 rfl) (hv1.to_callT (k := 0) hm220 rfl) (hm220.get (k := 0) rfl))) ?_
        rintro _ w225 ⟨e_, hm224⟩
        obtain rfl := e_.symm
        have hm226 := hm220.callT (k := 0) rfl (fun _ h => h) hm224 (fun _ => Iff.rfl)
        have hm227 := hm226.unbundle [blk g1 67 [v0, v1, v59, v214], ownL 3 v59 (r221.1 : List Int), ownL 4 v214 (r221.2.1 : List Bool)] [ownL 4 v198 (l197 : List Bool)]
        refine rwt_nil ?_
        refine qn_then ?_
        obtain ⟨hb228, q229⟩ | ⟨hb228, q229⟩ := oi q223 <;> clear q223
        · refine cw_t rfl hb228 ?_
          refine cw_region ?_
          refine t_rd rfl (rd_move rfl) ?_
          obtain ⟨x230, h231, q232⟩ := ob q229; clear q229
          refine t_rd rfl (rd_add64 h231 rfl rfl) ?_
          refine t_rd rfl (rd_assign rfl) ?_
          refine rwt_nil ?_
          refine qn_block (qn_then ?_)
          refine cw_region ?_
          refine t_rd rfl (rd_move rfl) ?_
          obtain ⟨x233, h234, q235⟩ := ob q232; clear q232
          refine t_rd rfl (rd_add64 h234 rfl rfl) ?_
          refine t_rd rfl (rd_assign rfl) ?_
          refine rwt_nil ?_
          refine qn_then ?_
          refine ⟨_, (os q235), v214, (by repeat (first | exact Sub.nil _ | refine Sub.cons rfl ?_)), (hm227.pick [2, 1, 0] (by decide) rfl)⟩
        · refine cw_f rfl hb228 ?_
          refine cw_skip ?_
          refine qn_block (qn_then ?_)
          refine cw_region ?_
          refine t_rd rfl (rd_move rfl) ?_
          obtain ⟨x236, h237, q238⟩ := ob q229; clear q229
          refine t_rd rfl (rd_add64 h237 rfl rfl) ?_
          refine t_rd rfl (rd_assign rfl) ?_
          refine rwt_nil ?_
          refine qn_then ?_
          refine ⟨_, (os q238), v214, (by repeat (first | exact Sub.nil _ | refine Sub.cons rfl ?_)), (hm227.pick [2, 1, 0] (by decide) rfl)⟩
      · refine cw_f rfl hb209 ?_
        refine cw_exit ?_
        refine qx_then (qx_then ?_)
        obtain rfl := hr204 _ (os q210)
        exact ⟨rfl, (by repeat (first | exact Sub.nil _ | refine Sub.cons rfl ?_)), (hm208.pick [] (by decide) rfl)⟩
    · skip
      intro e env239 w240 hX241
      obtain ⟨rfl, hs242, hm243⟩ := hX241
      refine qx_same (qn_then ?_)
      refine cw_sub hs242 ?_
      refine cw_seq ?_
      refine cw_region ?_
      refine t_rd rfl (rd_move rfl) ?_
      refine t_rd rfl (rd_assign rfl) ?_
      refine rwt_nil ?_
      refine qn_then ?_
      refine cw_ret ?_
      obtain rfl := os q207
      exact ret1 rfl rfl ⟨rfl, (hm243.pick [] (by decide) rfl)⟩

theorem law40_CrewProves_ok {N : Nat} {a0 : List Int} {res : Bool} (h : law40_CrewProves N a0 = some res) {w : World} {v0 : Value} (hv0 : Sl (Old w No) w v0 a0) :
    CallsR Try.prog 6 [v0] w (fun u w' => u = (Value.bool res) ∧ Mem w No [] w') := by
  unfold law40_CrewProves at h
  refine fn_ok Try.func6 rfl rfl rfl ?_
  have hm0 := Mem.nil w
  refine cw_seq ?_
  refine cw_region ?_
  refine t_rd rfl (rd_assign rfl) ?_
  refine rwt_nil ?_
  refine qn_then ?_
  refine cw_seq ?_
  refine cw_region ?_
  refine t_rd rfl (rd_move rfl) ?_
  obtain ⟨r1, h2, q3⟩ := ob h; clear h
  refine t_ef rfl (ef_call tf7 rfl (humpgen_New_ok h2 (hv0.to_call hm0))) ?_
  rintro _ w6 ⟨g4, e_, hm5⟩
  obtain rfl := e_.symm
  have hm7 := hm0.call hm5
  refine t_rd rfl (rd_assign rfl) ?_
  refine rwt_nil ?_
  refine qn_then ?_
  refine cw_seq ?_
  refine cw_region ?_
  refine t_rd rfl (rd_move rfl) ?_
  obtain ⟨r8, h9, q10⟩ := ob q3; clear q3
  refine t_ef rfl (ef_call tf8 rfl (law40_made_ok h9 (hv0.to_callT (k := 0) hm7 rfl) (hm7.get (k := 0) rfl))) ?_
  rintro _ w14 ⟨v11, v12, e_, hm13⟩
  obtain rfl := e_.symm
  have hm15 := hm7.callT (k := 0) rfl (fun _ h => h) hm13 (fun _ => Iff.rfl)
  refine t_rd rfl (rd_move rfl) ?_
  refine t_rd rfl (rd_extract rfl rfl) ?_
  refine t_rd rfl (rd_extract rfl rfl) ?_
  refine t_rd rfl (rd_assign rfl) ?_
  refine t_rd rfl (rd_assign rfl) ?_
  refine rwt_nil ?_
  refine qn_then ?_
  refine cw_seq ?_
  refine cw_region ?_
  refine t_rd rfl (rd_move rfl) ?_
  refine t_rd rfl (rd_move rfl) ?_
  obtain ⟨r16, h17, q18⟩ := ob q10; clear q10
  refine t_ef rfl (ef_call tf9 rfl (crew_Assign_ok h17 (hm15.sl_call 0 rfl) (hm15.sl_call 1 rfl))) ?_
  rintro _ w21 ⟨v19, e_, hm20⟩
  obtain rfl := e_.symm
  have hm22 := hm15.call hm20
  refine t_rd rfl (rd_move rfl) ?_
  refine t_rd rfl (rd_extract rfl rfl) ?_
  refine t_rd rfl (rd_extract rfl rfl) ?_
  refine t_rd rfl (rd_assign rfl) ?_
  refine t_rd rfl (rd_assign rfl) ?_
  refine rwt_nil ?_
  refine qn_then ?_
  refine cw_seq ?_
  refine cw_region ?_
  refine t_rd rfl (rd_move rfl) ?_
  refine t_rd rfl (rd_move rfl) ?_
  obtain ⟨r23, h24, q25⟩ := ob q18; clear q18
  refine t_ef rfl (ef_call tf16 rfl (crew_Cover_ok h24 (hm22.sl_call 1 rfl) (hm22.sl_call 2 rfl))) ?_
  rintro _ w29 ⟨v26, v27, e_, hm28⟩
  obtain rfl := e_.symm
  have hm30 := hm22.call hm28
  refine t_rd rfl (rd_move rfl) ?_
  refine t_rd rfl (rd_extract rfl rfl) ?_
  refine t_rd rfl (rd_extract rfl rfl) ?_
  refine t_rd rfl (rd_extract rfl rfl) ?_
  refine t_rd rfl (rd_assign rfl) ?_
  refine t_rd rfl (rd_assign rfl) ?_
  refine t_rd rfl (rd_assign rfl) ?_
  refine rwt_nil ?_
  refine qn_then ?_
  refine cw_seq ?_
  refine cw_region ?_
  refine t_rd rfl (rd_move rfl) ?_
  refine t_rd rfl (rd_move rfl) ?_
  refine t_rd rfl (rd_move rfl) ?_
  refine t_rd rfl (rd_move rfl) ?_
  refine t_rd rfl (rd_move rfl) ?_
  obtain ⟨r31, h32, q33⟩ := ob q25; clear q25
  refine t_ef rfl (ef_call tf17 rfl (crew_Check_ok h32 (hm30.sl_call 3 rfl) (hm30.sl_call 4 rfl) (hm30.sl_call 2 rfl) (hm30.sl_call 0 rfl) (hm30.sl_call 1 rfl))) ?_
  rintro _ w35 ⟨e_, hm34⟩
  obtain rfl := e_.symm
  have hm36 := hm30.call hm34
  refine t_rd rfl (rd_move rfl) ?_
  refine t_rd rfl (rd_extract rfl rfl) ?_
  refine t_rd rfl (rd_extract rfl rfl) ?_
  refine t_rd rfl (rd_assign rfl) ?_
  refine t_rd rfl (rd_assign rfl) ?_
  refine rwt_nil ?_
  refine qn_then ?_
  refine cw_seq ?_
  refine cw_region ?_
  refine t_rd rfl (rd_move rfl) ?_
  refine t_rd rfl (rd_eql rfl rfl) ?_
  refine t_rd rfl (rd_move rfl) ?_
  refine t_rdg rfl rfl rfl rfl (gv_t _) (fun hg37 => (rd_move rfl)) ?_
  refine t_rdg rfl rfl rfl rfl (gv_t _) (fun hg38 => (rd_eql (gvx rfl hg38) rfl)) ?_
  refine t_rd rfl (rd_and rfl (fun hc39 => (gvx rfl hc39))) ?_
  refine t_rd rfl (rd_move rfl) ?_
  refine t_rdg rfl rfl rfl rfl (gv_t _) (fun hg40 => (rd_move rfl)) ?_
  refine t_rdg rfl rfl rfl rfl (gv_t _) (fun hg41 => (rd_eql (gvx rfl hg41) rfl)) ?_
  refine t_rd rfl (rd_and rfl (fun hc42 => (gvx rfl hc42))) ?_
  refine t_rd rfl (rd_move rfl) ?_
  refine t_rdg rfl rfl rfl rfl (gv_t _) (fun hg43 => (rd_move rfl)) ?_
  refine t_rd rfl (rd_and rfl (fun hc44 => (gvx rfl hc44))) ?_
  refine t_rd rfl (rd_move rfl) ?_
  refine t_rdg rfl rfl rfl rfl (gv_t _) (fun hg45 => (rd_move rfl)) ?_
  refine t_rdg rfl rfl rfl rfl (gv_t _) (fun hg46 => (rd_move rfl)) ?_
  refine t_rdg rfl rfl rfl rfl (gv_t _) (fun hg47 => (rd_move rfl)) ?_
  obtain ⟨r49, h50, q51⟩ := ob q33; clear q33
  refine t_efg rfl rfl rfl rfl (R := (fun v w' => v = gV (((decide (r16.2 = 0) && decide (r23.2.2 = 0)) && decide (r31.2 = 0)) && r31.1) (Value.bool r49) ∧ Mem w35 No [] w')) (gv_t _) (fun hg48 => (ef_call tf12 (evc (gvx rfl hg48) (evc (gvx rfl hg48) (evc (gvx rfl hg48) evn))) (r40_Matching_ok (gO_t h50 hg48) (hm36.sl_call 3 rfl) (hm36.sl_call 4 rfl) (hm36.sl_call 2 rfl))).mono (by rintro _ _ ⟨rfl, q⟩; exact ⟨(gV_t hg48).symm, q⟩)) (fun q => ⟨(gV_f q).symm, Mem.nil _⟩) ?_
  rintro _ w53 ⟨rfl, hm52⟩
  have hm54 := hm36.call hm52
  refine t_rd rfl (rd_and rfl (fun hc55 => (gvx rfl hc55))) ?_
  refine t_rd rfl (rd_move rfl) ?_
  refine t_rdg rfl rfl rfl rfl (gv_t _) (fun hg56 => (rd_move rfl)) ?_
  refine t_rdg rfl rfl rfl rfl (gv_t _) (fun hg57 => (rd_move rfl)) ?_
  refine t_rdg rfl rfl rfl rfl (gv_t _) (fun hg58 => (rd_move rfl)) ?_
  refine t_rdg rfl rfl rfl rfl (gv_t _) (fun hg59 => (rd_move rfl)) ?_
  obtain ⟨r61, h62, q63⟩ := ob q51; clear q51
  refine t_efg rfl rfl rfl rfl (R := (fun v w' => v = gV ((((decide (r16.2 = 0) && decide (r23.2.2 = 0)) && decide (r31.2 = 0)) && r31.1) && r49) (Value.bool r61) ∧ Mem w53 No [] w')) (gv_t _) (fun hg60 => (ef_call tf21 (evc (gvx rfl hg60) (evc (gvx rfl hg60) (evc (gvx rfl hg60) (evc (gvx rfl hg60) evn)))) (r40_Covers_ok (gO_t h62 hg60) (hm54.sl_call 3 rfl) (hm54.sl_call 4 rfl) (hm54.sl_call 0 rfl) (hm54.sl_call 1 rfl))).mono (by rintro _ _ ⟨rfl, q⟩; exact ⟨(gV_t hg60).symm, q⟩)) (fun q => ⟨(gV_f q).symm, Mem.nil _⟩) ?_
  rintro _ w65 ⟨rfl, hm64⟩
  have hm66 := hm54.call hm64
  refine t_rd rfl (rd_and rfl (fun hc67 => (gvx rfl hc67))) ?_
  refine t_rd rfl (rd_move rfl) ?_
  refine t_rdg rfl rfl rfl rfl (gv_t _) (fun hg68 => (rd_move rfl)) ?_
  refine t_rdg rfl rfl rfl rfl (gv_t _) (fun hg69 => (rd_lenS tS29 (gvx rfl hg69) (hm66.sl 2 rfl))) ?_
  refine t_rdg rfl rfl rfl rfl (gv_t _) (fun hg70 => (rd_move rfl)) ?_
  refine t_rdg rfl rfl rfl rfl (gv_t _) (fun hg71 => (rd_lenS tS22 (gvx rfl hg71) (hm66.sl 0 rfl))) ?_
  refine t_rdg rfl rfl rfl rfl (gv_t _) (fun hg72 => (rd_move rfl)) ?_
  refine t_rdg rfl rfl rfl rfl (gv_t _) (fun hg73 => (rd_lenS tS22 (gvx rfl hg73) (hm66.sl 1 rfl))) ?_
  obtain ⟨x75, h76, q77⟩ := ob q63; clear q63
  refine t_rdg rfl rfl rfl rfl (gv_t _) (fun hg74 => (rd_add64 (gO_t h76 hg74) (gvx rfl hg74) (gvx rfl hg74))) ?_
  refine t_rdg rfl rfl rfl rfl (gv_t _) (fun hg78 => (rd_eql (gvx rfl hg78) (gvx rfl hg78))) ?_
  refine t_rd rfl (rd_and rfl (fun hc79 => (gvx rfl hc79))) ?_
  refine t_rd rfl (rd_move rfl) ?_
  refine t_rdg rfl rfl rfl rfl (gv_t _) (fun hg80 => (rd_move rfl)) ?_
  refine t_rdg rfl rfl rfl rfl (gv_t _) (fun hg81 => (rd_lenS tS29 (gvx rfl hg81) (hm66.sl 2 rfl))) ?_
  refine t_rdg rfl rfl rfl rfl (gv_t _) (fun hg82 => (rd_move rfl)) ?_
  refine t_rdg rfl rfl rfl rfl (gv_t _) (fun hg83 => (rd_move rfl)) ?_
  obtain ⟨r85, h86, q87⟩ := ob q77; clear q77
  refine t_efg rfl rfl rfl rfl (R := (fun v w' => v = gV ((((((decide (r16.2 = 0) && decide (r23.2.2 = 0)) && decide (r31.2 = 0)) && r31.1) && r49) && r61) && decide ((List.length r16.1 : Int) = x75)) (Value.int .i64 r85) ∧ Mem w65 No [] w')) (gv_t _) (fun hg84 => (ef_call tf22 (evc (gvx rfl hg84) (evc (gvx rfl hg84) evn)) (r40_Most_ok (gO_t h86 hg84) (hm66.sl_call 3 rfl) (hm66.sl_call 4 rfl))).mono (by rintro _ _ ⟨rfl, q⟩; exact ⟨(gV_t hg84).symm, q⟩)) (fun q => ⟨(gV_f q).symm, Mem.nil _⟩) ?_
  rintro _ w89 ⟨rfl, hm88⟩
  have hm90 := hm66.call hm88
  refine t_rdg rfl rfl rfl rfl (gv_t _) (fun hg91 => (rd_eql (gvx rfl hg91) (gvx rfl hg91))) ?_
  refine t_rd rfl (rd_and rfl (fun hc92 => (gvx rfl hc92))) ?_
  refine t_rd rfl (rd_move rfl) ?_
  obtain ⟨r94, h95, q96⟩ := ob q87; clear q87
  refine t_efg rfl rfl rfl rfl (R := (fun v w' => v = gV (((((((decide (r16.2 = 0) && decide (r23.2.2 = 0)) && decide (r31.2 = 0)) && r31.1) && r49) && r61) && decide ((List.length r16.1 : Int) = x75)) && decide ((List.length r16.1 : Int) = r85)) (Value.bool r94) ∧ Mem w89 No [] w')) (gv_t _) (fun hg93 => (ef_call tf13 rfl (law40_sane_ok (gO_t h95 hg93))).mono (by rintro _ _ ⟨rfl, q⟩; exact ⟨(gV_t hg93).symm, q⟩)) (fun q => ⟨(gV_f q).symm, Mem.nil _⟩) ?_
  rintro _ w98 ⟨rfl, hm97⟩
  have hm99 := hm90.call hm97
  refine t_rd rfl (rd_and rfl (fun hc100 => (gvx rfl hc100))) ?_
  refine t_rd rfl (rd_assign rfl) ?_
  refine rwt_nil ?_
  refine qn_then ?_
  refine cw_ret ?_
  obtain rfl := os q96
  exact ret1 rfl rfl ⟨rfl, (hm99.pick [] (by decide) rfl)⟩

end Go.Proofs.Ythoabchofjcigaa
