/- Each call computes what its mirror does; written by a program of mine (gowalk.py). -/
import Derived.Test.YthoabchofjcigaaTy
namespace Go.Proofs.Ythoabchofjcigaa
open Go.Gv Go.RowKit
set_option linter.unusedVariables false
set_option maxRecDepth 100000

theorem humpgen_New_ok {N : Nat} {a0 : List Int} {res : Int} (h : humpgen_New N a0 = some res) {w : World} {v0 : Value} (hv0 : Sl (Old w No) w v0 a0) :
    CallsR Try.prog 7 [v0] w (fun u w' => ∃ gr : Nat, u = (Value.pointer (some ⟨gr, 0, none⟩)) ∧ Mem w No [blk gr 58 [v0, (Value.int .i64 res)]] w') := by
  unfold humpgen_New at h
  refine fn_ok Try.func7 rfl rfl rfl ?_
  have hm0 := Mem.nil w
  refine cw_seq ?_
  refine cw_region ?_
  refine t_rd rfl (rd_assign rfl) ?_
  refine rwt_nil ?_
  refine qn_then ?_
  refine cw_seq ?_
  refine cw_region ?_
  refine t_rd rfl (rd_move rfl) ?_
  refine t_rd rfl (rd_build (cs := #[v0, (Value.int .i64 0)]) rfl (by obtain ⟨_, _, e⟩ := ((hv0.of_old hm0)).val; rw [e]; clear e; kernel_rfl)) ?_
  refine t_ef rfl (ef_box hm0 rfl rfl) ?_
  rintro _ w6 ⟨g4, rfl, hm5⟩
  refine t_rd rfl (rd_assign rfl) ?_
  refine rwt_nil ?_
  refine qn_then ?_
  refine cw_ret ?_
  obtain rfl := os h
  exact ret1 rfl rfl ⟨g4, rfl, (hm5.pick [0] (by decide) rfl)⟩

theorem Maker_Next_ok {N : Nat} {a0_l : List Int} {a0_n : Int} {a1 : Int} {res : Int × Int} (h : Maker_Next N a0_l a0_n a1 = some res) {w : World} {v0_l : Value} {g0 : Nat} (hv0_l : Sl (Old w (fun k => k = g0)) w v0_l a0_l) (hk0 : (blk g0 58 [v0_l, (Value.int .i64 a0_n)]).φ w) :
    CallsR Try.prog 10 [(Value.pointer (some ⟨g0, 0, none⟩)), (Value.int .i64 a1)] w (fun u w' => u = (Value.int .i64 res.2) ∧ Mem w (fun k => k = g0) [blk g0 58 [v0_l, (Value.int .i64 res.1)]] w') := by
  unfold Maker_Next at h
  refine fn_ok Try.func10 rfl rfl rfl ?_
  have hm0 := Mem.one hk0
  refine cw_seq ?_
  refine cw_region ?_
  refine t_rd rfl (rd_assign rfl) ?_
  refine rwt_nil ?_
  refine qn_then ?_
  refine cw_seq ?_
  refine cw_region ?_
  refine t_rd rfl (rd_assign rfl) ?_
  refine rwt_nil ?_
  refine qn_then ?_
  refine cw_seq ?_
  refine cw_seq ?_
  refine cw_region ?_
  refine t_rd rfl (rd_move rfl) ?_
  refine t_rd rfl (rd_nilCheck rfl) ?_
  refine t_rd rfl (rd_fld tF58_0 rfl) ?_
  refine t_rd rfl (rd_ld1 tO22 rfl (hm0.blk 0 rfl) (off := 0) rfl) ?_
  refine t_rd rfl (rd_lenS tS22 rfl (hv0_l.of_old hm0)) ?_
  refine t_rd rfl (rd_gtr rfl rfl) ?_
  refine rwt_nil ?_
  refine qn_then ?_
  obtain ⟨j69, hit70, q71⟩ := ob h; clear h
  refine cw_join (X := fun eq envq wq => eq = .normal ∧ Sub [(0, (Value.pointer (some ⟨g0, 0, none⟩))), (1, (Value.int .i64 a1)), (5, (Value.int .i64 j69))] envq ∧ Mem w (fun k => k = g0) [blk g0 58 [v0_l, (Value.int .i64 a0_n)]] wq) ?_ ?_
  · clear q71
    obtain ⟨hb72, q73⟩ | ⟨hb72, q73⟩ := oi hit70 <;> clear hit70
    · refine cw_t rfl hb72 ?_
      obtain ⟨w75, he77⟩ : ∃ q, q = w.drew := ⟨_, rfl⟩
      have hm76 := hm0.drew; rw [← he77] at hm76
      refine cw_region_s (fun q => q = w75) (cls [] []) mixed ?_
      rintro _ rfl; rw [← he77]
      refine s_rp (i := 0) rfl (by kernel_rfl) rfl (fun _ => (rd_move rfl)) ?_
      refine s_rp (i := 1) rfl (by kernel_rfl) rfl (fun _ => (rd_nilCheck rfl)) ?_
      refine s_rp (i := 2) rfl (by kernel_rfl) rfl (fun _ => (rd_fld tF58_0 rfl)) ?_
      refine s_rd (i := 3) rfl (by kernel_rfl) rfl (fun _ hS => by rw [hS]; exact (rd_ld1 tO22 rfl (hm76.blk 0 rfl) (off := 0) rfl)) rfl ?_
      refine s_rp (i := 4) rfl (by kernel_rfl) rfl (fun _ => (rd_move rfl)) ?_
      refine s_rp (i := 5) rfl (by kernel_rfl) rfl (fun _ => (rd_nilCheck rfl)) ?_
      refine s_rp (i := 6) rfl (by kernel_rfl) rfl (fun _ => (rd_fld tF58_1 rfl)) ?_
      refine s_rd (i := 7) rfl (by kernel_rfl) rfl (fun _ hS => by rw [hS]; exact (rd_ld1 tO3 rfl (hm76.blk 0 rfl) (off := 1) rfl)) rfl ?_
      refine s_rp (i := 8) rfl (by kernel_rfl) rfl (fun _ => (rd_move rfl)) ?_
      refine s_rp (i := 9) rfl (by kernel_rfl) rfl (fun _ => (rd_nilCheck rfl)) ?_
      refine s_rp (i := 10) rfl (by kernel_rfl) rfl (fun _ => (rd_fld tF58_0 rfl)) ?_
      refine s_rd (i := 11) rfl (by kernel_rfl) rfl (fun _ hS => by rw [hS]; exact (rd_ld1 tO22 rfl (hm76.blk 0 rfl) (off := 0) rfl)) rfl ?_
      refine s_rp (i := 12) rfl (by kernel_rfl) rfl (fun _ => (rd_lenS tS22 rfl (hv0_l.of_old hm76))) ?_
      obtain ⟨x78, h79, q80⟩ := ob q73; clear q73
      refine s_rp (i := 13) rfl (by kernel_rfl) rfl (fun _ => (rd_rem64 h79 rfl rfl)) ?_
      obtain ⟨x81, h82, q83⟩ := ob q80; clear q80
      refine s_rp (i := 14) rfl (by kernel_rfl) rfl (fun _ => (rd_index tS22 rfl rfl (hv0_l.of_old hm76) h82)) ?_
      refine s_rd (i := 15) rfl (by kernel_rfl) rfl (fun _ hS => by rw [hS]; exact (rd_ld1 tO3 rfl ((hv0_l.of_old hm76).cells h82) (off := 0) rfl)) rfl ?_
      refine s_rp (i := 16) rfl (by kernel_rfl) rfl (fun _ => (rd_move rfl)) ?_
      refine s_rp (i := 17) rfl (by kernel_rfl) rfl (fun _ => (rd_nilCheck rfl)) ?_
      refine s_rp (i := 18) rfl (by kernel_rfl) rfl (fun _ => (rd_fld tF58_1 rfl)) ?_
      refine s_rd (i := 19) rfl (by kernel_rfl) rfl (fun _ hS => by rw [hS]; exact (rd_ld1 tO3 rfl (hm76.blk 0 rfl) (off := 1) rfl)) rfl ?_
      refine s_rp (i := 20) rfl (by kernel_rfl) rfl (fun _ => (rd_move rfl)) ?_
      refine s_rp (i := 21) rfl (by kernel_rfl) rfl (fun _ => (rd_nilCheck rfl)) ?_
      refine s_rp (i := 22) rfl (by kernel_rfl) rfl (fun _ => (rd_fld tF58_0 rfl)) ?_
      refine s_rd (i := 23) rfl (by kernel_rfl) rfl (fun _ hS => by rw [hS]; exact (rd_ld1 tO22 rfl (hm76.blk 0 rfl) (off := 0) rfl)) rfl ?_
      refine s_rp (i := 24) rfl (by kernel_rfl) rfl (fun _ => (rd_lenS tS22 rfl (hv0_l.of_old hm76))) ?_
      obtain ⟨x84, h85, q86⟩ := ob q83; clear q83
      refine s_rp (i := 25) rfl (by kernel_rfl) rfl (fun _ => (rd_quo64 h85 rfl rfl)) ?_
      refine s_rp (i := 26) rfl (by kernel_rfl) rfl (fun _ => (rd_mulw rfl rfl)) ?_
      refine s_rp (i := 27) rfl (by kernel_rfl) rfl (fun _ => (rd_addw rfl rfl)) ?_
      refine s_rp (i := 28) rfl (by kernel_rfl) rfl (fun _ => (rd_assign rfl)) ?_
      refine s_nil (by kernel_rfl) ?_
      obtain rfl := os q86
      exact ⟨rfl, (by repeat (first | exact Sub.nil _ | refine Sub.cons rfl ?_)), (hm76.pick [0] (by decide) rfl)⟩
    · refine cw_f rfl hb72 ?_
      refine cw_skip ?_
      obtain rfl := os q73
      exact ⟨rfl, (by repeat (first | exact Sub.nil _ | refine Sub.cons rfl ?_)), (hm0.pick [0] (by decide) rfl)⟩
  · clear hit70
    intro e env87 w88 hX89
    obtain ⟨rfl, hs90, hm91⟩ := hX89
    refine qn_then ?_
    refine cw_sub hs90 ?_
    refine cw_seq ?_
    refine cw_region ?_
    refine t_rd rfl (rd_move rfl) ?_
    refine t_rd rfl (rd_nilCheck rfl) ?_
    refine t_rd rfl (rd_fld tF58_1 rfl) ?_
    refine t_rd rfl (rd_ld1 tO3 rfl (hm91.blk 0 rfl) (off := 1) rfl) ?_
    obtain ⟨x92, h93, q94⟩ := ob q71; clear q71
    refine t_rd rfl (rd_add64 h93 rfl rfl) ?_
    refine t_rd rfl (rd_nilCheck rfl) ?_
    refine t_rd rfl (rd_fld tF58_1 rfl) ?_
    refine t_ef0 (ef_st1 (k := 0) (off := 1) hm91 tO3 rfl rfl rfl rfl rfl rfl) ?_
    intro _ w96 hm95
    refine rwt_nil ?_
    refine qn_then ?_
    refine cw_seq ?_
    refine cw_region ?_
    refine t_rd rfl (rd_move rfl) ?_
    refine t_rd rfl (rd_move rfl) ?_
    obtain ⟨x97, h98, q99⟩ := ob q94; clear q94
    refine t_rd rfl (rd_rem64 h98 rfl rfl) ?_
    refine t_rd rfl (rd_assign rfl) ?_
    refine rwt_nil ?_
    refine qn_then ?_
    refine cw_seq ?_
    refine cw_seq ?_
    refine cw_region ?_
    refine t_rd rfl (rd_move rfl) ?_
    refine t_rd rfl (rd_lss rfl rfl) ?_
    refine rwt_nil ?_
    refine qn_then ?_
    obtain ⟨hb100, q101⟩ | ⟨hb100, q101⟩ := oi q99 <;> clear q99
    · refine cw_t rfl hb100 ?_
      refine cw_region ?_
      refine t_rd rfl (rd_move rfl) ?_
      refine t_rd rfl (rd_move rfl) ?_
      obtain ⟨x102, h103, q104⟩ := ob q101; clear q101
      refine t_rd rfl (rd_add64 h103 rfl rfl) ?_
      refine t_rd rfl (rd_assign rfl) ?_
      refine rwt_nil ?_
      refine qn_then ?_
      refine cw_seq ?_
      refine cw_region ?_
      refine t_rd rfl (rd_move rfl) ?_
      refine t_rd rfl (rd_assign rfl) ?_
      refine rwt_nil ?_
      refine qn_then ?_
      refine cw_ret ?_
      obtain rfl := os q104
      exact ret1 rfl rfl ⟨rfl, (hm95.pick [0] (by decide) rfl)⟩
    · refine cw_f rfl hb100 ?_
      refine cw_skip ?_
      refine qn_then ?_
      refine cw_seq ?_
      refine cw_region ?_
      refine t_rd rfl (rd_move rfl) ?_
      refine t_rd rfl (rd_assign rfl) ?_
      refine rwt_nil ?_
      refine qn_then ?_
      refine cw_ret ?_
      obtain rfl := os q101
      exact ret1 rfl rfl ⟨rfl, (hm95.pick [0] (by decide) rfl)⟩

theorem Maker_Pick_ok {N : Nat} {a0_l : List Int} {a0_n : Int} {a1 : List Int} {res : Int × Int} (h : Maker_Pick N a0_l a0_n a1 = some res) {w : World} {v0_l : Value} {g0 : Nat} {v1 : Value} (hv0_l : Sl (Old w (fun k => k = g0)) w v0_l a0_l) (hk0 : (blk g0 58 [v0_l, (Value.int .i64 a0_n)]).φ w) (hv1 : Sl (Old w (fun k => k = g0)) w v1 a1) :
    CallsR Try.prog 14 [(Value.pointer (some ⟨g0, 0, none⟩)), v1] w (fun u w' => u = (Value.int .i64 res.2) ∧ Mem w (fun k => k = g0) [blk g0 58 [v0_l, (Value.int .i64 res.1)]] w') := by
  unfold Maker_Pick at h
  refine fn_ok Try.func14 rfl rfl rfl ?_
  have hm0 := Mem.one hk0
  refine cw_seq ?_
  refine cw_region ?_
  refine t_rd rfl (rd_assign rfl) ?_
  refine rwt_nil ?_
  refine qn_then ?_
  refine cw_seq ?_
  refine cw_region ?_
  refine t_rd rfl (rd_move rfl) ?_
  refine t_rd rfl (rd_move rfl) ?_
  refine t_rd rfl (rd_move rfl) ?_
  refine t_rd rfl (rd_lenS tS22 rfl (hv1.of_old hm0)) ?_
  obtain ⟨r10, h11, q12⟩ := ob h; clear h
  refine t_ef rfl (ef_call tf10 rfl (Maker_Next_ok h11 (hv0_l.to_callT (k := 0) hm0 rfl) (hm0.get (k := 0) rfl))) ?_
  rintro _ w14 ⟨e_, hm13⟩
  obtain rfl := e_.symm
  have hm15 := hm0.callT (k := 0) rfl (fun _ h => h) hm13 (fun _ => Iff.rfl)
  obtain ⟨x16, h17, q18⟩ := ob q12; clear q12
  refine t_rd rfl (rd_index tS22 rfl rfl (hv1.of_old hm15) h17) ?_
  refine t_rd rfl (rd_ld1 tO3 rfl ((hv1.of_old hm15).cells h17) (off := 0) rfl) ?_
  refine t_rd rfl (rd_assign rfl) ?_
  refine rwt_nil ?_
  refine qn_then ?_
  refine cw_ret ?_
  obtain rfl := os q18
  exact ret1 rfl rfl ⟨rfl, (hm15.pick [0] (by decide) rfl)⟩

theorem law40_made_ok {N : Nat} {a0_l : List Int} {a0_n : Int} {a1 : Int} {a2 : Int} {res : Int × List T_Task × List T_Crew} (h : law40_made N a0_l a0_n a1 a2 = some res) {w : World} {v0_l : Value} {g0 : Nat} (hv0_l : Sl (Old w (fun k => k = g0)) w v0_l a0_l) (hk0 : (blk g0 58 [v0_l, (Value.int .i64 a0_n)]).φ w) :
    CallsR Try.prog 8 [(Value.pointer (some ⟨g0, 0, none⟩)), (Value.int .i64 a1), (Value.int .i64 a2)] w (fun u w' => ∃ (y0 : Value) (y1 : Value), u = (Value.tuple #[y0, y1]) ∧ Mem w (fun k => k = g0) [blk g0 58 [v0_l, (Value.int .i64 res.1)], ownL 37 y0 (res.2.1 : List T_Task), ownL 39 y1 (res.2.2 : List T_Crew)] w') := by
  unfold law40_made at h
  refine fn_ok Try.func8 rfl rfl rfl ?_
  have hm0 := Mem.one hk0
  refine cw_seq ?_
  refine cw_region ?_
  refine t_rd rfl (rd_assign rfl) ?_
  refine t_rd rfl (rd_assign rfl) ?_
  refine rwt_nil ?_
  refine qn_then ?_
  refine cw_seq ?_
  refine cw_seq ?_
  refine cw_region ?_
  refine t_rd rfl (rd_move rfl) ?_
  refine t_rd rfl (rd_move rfl) ?_
  obtain ⟨x371, h372, q373⟩ := ob h; clear h
  refine t_rd rfl (rd_add64 h372 rfl rfl) ?_
  obtain ⟨r374, h375, q376⟩ := ob q373; clear q373
  refine t_ef rfl (ef_call tf10 rfl (Maker_Next_ok h375 (hv0_l.to_callT (k := 0) hm0 rfl) (hm0.get (k := 0) rfl))) ?_
  rintro _ w378 ⟨e_, hm377⟩
  obtain rfl := e_.symm
  have hm379 := hm0.callT (k := 0) rfl (fun _ h => h) hm377 (fun _ => Iff.rfl)
  refine t_rd rfl (rd_assign rfl) ?_
  refine rwt_nil ?_
  refine qn_then ?_
  refine cw_block ?_
  have hm413 := hm379.addNil (α := T_Task) 37
  obtain ⟨r497, hit498, q499⟩ := ob q376; clear q376
  refine cw_loop2 (I := fun q envq wq => ∃ (v490 : Value), Sub [(0, (Value.pointer (some ⟨g0, 0, none⟩))), (2, (Value.int .i64 a2)), (6, v490), (7, (Value.slice none 0 0)), (8, (Value.int .i64 q.1))] envq ∧ Mem w (fun k => k = g0) [ownL 37 v490 (q.2.2 : List T_Task), blk g0 58 [v0_l, (Value.int .i64 q.2.1)]] wq) (X := fun eq envq wq => eq = .exit 0 ∧ ∃ (v486 : Value), Sub [(0, (Value.pointer (some ⟨g0, 0, none⟩))), (2, (Value.int .i64 a2)), (6, v486), (7, (Value.slice none 0 0))] envq ∧ Mem w (fun k => k = g0) [ownL 37 v486 (r497.2 : List T_Task), blk g0 58 [v0_l, (Value.int .i64 r497.1)]] wq) hit498 ⟨(Value.slice none 0 0), (by repeat (first | exact Sub.nil _ | refine Sub.cons rfl ?_)), (hm413.pick [0, 1] (by decide) rfl)⟩ ?_ ?_
  · rintro ⟨i487, i488, l489⟩ x492 env493 w494 hf495 hr496 ⟨v490, hs_, hm_⟩
    have hs_ : Sub [(0, (Value.pointer (some ⟨g0, 0, none⟩))), (2, (Value.int .i64 a2)), (6, v490), (7, (Value.slice none 0 0)), (8, (Value.int .i64 i487))] env493 := hs_
    have hm500 : Mem w (fun k => k = g0) [ownL 37 v490 (l489 : List T_Task), blk g0 58 [v0_l, (Value.int .i64 i488)]] w494 := hm_
    refine cw_sub hs_ ?_
    clear hs_ hm_ q499
    have h : law40_made_l1 N a0_l i487 i488 l489 = some x492 := hf495
    clear hf495
    refine cw_seq ?_
    refine cw_seq ?_
    refine cw_region ?_
    refine t_rd rfl (rd_move rfl) ?_
    refine t_rd rfl (rd_gtr rfl rfl) ?_
    refine rwt_nil ?_
    refine qn_then ?_
    obtain ⟨hb501, q502⟩ | ⟨hb501, q502⟩ := oi h <;> clear h
    · refine cw_t rfl hb501 ?_
      refine cw_skip ?_
      refine qn_then ?_
      refine cw_seq ?_
      refine cw_block ?_
      refine cw_seq ?_
      refine cw_region ?_
      refine t_rd rfl (rd_move rfl) ?_
      obtain ⟨r503, h504, q505⟩ := ob q502; clear q502
      refine t_ef rfl (ef_call tf10 rfl (Maker_Next_ok h504 (hv0_l.to_callT (k := 1) hm500 rfl) (hm500.get (k := 1) rfl))) ?_
      rintro _ w507 ⟨e_, hm506⟩
      obtain rfl := e_.symm
      have hm508 := hm500.callT (k := 1) rfl (fun _ h => h) hm506 (fun _ => Iff.rfl)
      refine t_rd rfl (rd_assign rfl) ?_
      refine rwt_nil ?_
      refine qn_then ?_
      refine cw_region ?_
      refine t_rd rfl (rd_move rfl) ?_
      refine t_rd rfl (rd_move rfl) ?_
      refine t_rd rfl (rd_move rfl) ?_
      obtain ⟨x509, h510, q511⟩ := ob q505; clear q505
      refine t_rd rfl (rd_add64 h510 rfl rfl) ?_
      refine t_rd rfl (rd_move rfl) ?_
      obtain ⟨r512, h513, q514⟩ := ob q511; clear q511
      refine t_ef rfl (ef_call tf10 rfl (Maker_Next_ok h513 (hv0_l.to_callT (k := 1) hm508 rfl) (hm508.get (k := 1) rfl))) ?_
      rintro _ w516 ⟨e_, hm515⟩
      obtain rfl := e_.symm
      have hm517 := hm508.callT (k := 1) rfl (fun _ h => h) hm515 (fun _ => Iff.rfl)
      obtain ⟨x518, h519, q520⟩ := ob q514; clear q514
      refine t_rd rfl (rd_add64 h519 rfl rfl) ?_
      refine t_rd rfl (rd_build (cs := #[(Value.int .i64 r503.2), (Value.int .i64 x518)]) rfl (by kernel_rfl)) ?_
      refine t_ef rfl (ef_bslice (l := ([(T_Task.mk r503.2 x518)] : List T_Task)) hm517 tS25 rfl (cs := #[(Value.int .i64 r503.2), (Value.int .i64 x518)]) (by unfold bsl; kernel_rfl) rfl rfl) ?_
      intro v521 w523 hm522
      obtain ⟨l524, h525, q526⟩ := ob q520; clear q520
      refine t_ef rfl (ef_append (k := 1) hm522 tS25 tE37 rfl rfl rfl rfl (hm522.sl 0 rfl) h525) ?_
      intro v527 w529 hm528
      refine t_rd rfl (rd_assign rfl) ?_
      refine rwt_nil ?_
      refine qn_block (qn_then ?_)
      refine cw_region ?_
      refine t_rd rfl (rd_move rfl) ?_
      obtain ⟨x530, h531, q532⟩ := ob q526; clear q526
      refine t_rd rfl (rd_sub64 h531 rfl rfl) ?_
      refine t_rd rfl (rd_assign rfl) ?_
      refine rwt_nil ?_
      refine qn_then ?_
      refine ⟨_, (os q532), v527, (by repeat (first | exact Sub.nil _ | refine Sub.cons rfl ?_)), (hm528.pick [1, 2] (by decide) rfl)⟩
    · refine cw_f rfl hb501 ?_
      refine cw_exit ?_
      refine qx_then (qx_then ?_)
      obtain rfl := hr496 _ (os q502)
      exact ⟨rfl, v490, (by repeat (first | exact Sub.nil _ | refine Sub.cons rfl ?_)), (hm500.pick [0, 1] (by decide) rfl)⟩
  · skip
    intro e env533 w534 hX535
    obtain ⟨rfl, v486, hs536, hm537⟩ := hX535
    refine qx_same (qn_then ?_)
    refine cw_sub hs536 ?_
    refine cw_seq ?_
    refine cw_seq ?_
    refine cw_region ?_
    refine t_rd rfl (rd_move rfl) ?_
    refine t_rd rfl (rd_move rfl) ?_
    obtain ⟨x538, h539, q540⟩ := ob q499; clear q499
    refine t_rd rfl (rd_add64 h539 rfl rfl) ?_
    obtain ⟨r541, h542, q543⟩ := ob q540; clear q540
    refine t_ef rfl (ef_call tf10 rfl (Maker_Next_ok h542 (hv0_l.to_callT (k := 1) hm537 rfl) (hm537.get (k := 1) rfl))) ?_
    rintro _ w545 ⟨e_, hm544⟩
    obtain rfl := e_.symm
    have hm546 := hm537.callT (k := 1) rfl (fun _ h => h) hm544 (fun _ => Iff.rfl)
    refine t_rd rfl (rd_assign rfl) ?_
    refine rwt_nil ?_
    refine qn_then ?_
    refine cw_block ?_
    have hm589 := hm546.addNil (α := T_Crew) 39
    obtain ⟨r691, hit692, q693⟩ := ob q543; clear q543
    refine cw_loop2 (I := fun q envq wq => ∃ (v684 : Value), Sub [(0, (Value.pointer (some ⟨g0, 0, none⟩))), (6, v486), (7, v684), (10, (Value.int .i64 q.1))] envq ∧ Mem w (fun k => k = g0) [ownL 39 v684 (q.2.2 : List T_Crew), ownL 37 v486 (r497.2 : List T_Task), blk g0 58 [v0_l, (Value.int .i64 q.2.1)]] wq) (X := fun eq envq wq => eq = .exit 2 ∧ ∃ (v680 : Value), Sub [(6, v486), (7, v680)] envq ∧ Mem w (fun k => k = g0) [ownL 39 v680 (r691.2 : List T_Crew), ownL 37 v486 (r497.2 : List T_Task), blk g0 58 [v0_l, (Value.int .i64 r691.1)]] wq) hit692 ⟨(Value.slice none 0 0), (by repeat (first | exact Sub.nil _ | refine Sub.cons rfl ?_)), (hm589.pick [0, 1, 2] (by decide) rfl)⟩ ?_ ?_
    · rintro ⟨i681, i682, l683⟩ x686 env687 w688 hf689 hr690 ⟨v684, hs_, hm_⟩
      have hs_ : Sub [(0, (Value.pointer (some ⟨g0, 0, none⟩))), (6, v486), (7, v684), (10, (Value.int .i64 i681))] env687 := hs_
      have hm694 : Mem w (fun k => k = g0) [ownL 39 v684 (l683 : List T_Crew), ownL 37 v486 (r497.2 : List T_Task), blk g0 58 [v0_l, (Value.int .i64 i682)]] w688 := hm_
      refine cw_sub hs_ ?_
      clear hs_ hm_ q693
      have h : law40_made_l2 N a0_l i681 i682 l683 = some x686 := hf689
      clear hf689
      refine cw_seq ?_
      refine cw_seq ?_
      refine cw_region ?_
      refine t_rd rfl (rd_move rfl) ?_
      refine t_rd rfl (rd_gtr rfl rfl) ?_
      refine rwt_nil ?_
      refine qn_then ?_
      obtain ⟨hb695, q696⟩ | ⟨hb695, q696⟩ := oi h <;> clear h
      · refine cw_t rfl hb695 ?_
        refine cw_skip ?_
        refine qn_then ?_
        refine cw_seq ?_
        refine cw_block ?_
        refine cw_seq ?_
        refine cw_region ?_
        refine t_rd rfl (rd_move rfl) ?_
        obtain ⟨r697, h698, q699⟩ := ob q696; clear q696
        refine t_ef rfl (ef_call tf10 rfl (Maker_Next_ok h698 (hv0_l.to_callT (k := 2) hm694 rfl) (hm694.get (k := 2) rfl))) ?_
        rintro _ w701 ⟨e_, hm700⟩
        obtain rfl := e_.symm
        have hm702 := hm694.callT (k := 2) rfl (fun _ h => h) hm700 (fun _ => Iff.rfl)
        refine t_rd rfl (rd_assign rfl) ?_
        refine rwt_nil ?_
        refine qn_then ?_
        refine cw_region ?_
        refine t_rd rfl (rd_move rfl) ?_
        refine t_rd rfl (rd_move rfl) ?_
        refine t_rd rfl (rd_move rfl) ?_
        obtain ⟨x703, h704, q705⟩ := ob q699; clear q699
        refine t_rd rfl (rd_add64 h704 rfl rfl) ?_
        refine t_rd rfl (rd_move rfl) ?_
        obtain ⟨r706, h707, q708⟩ := ob q705; clear q705
        refine t_ef rfl (ef_call tf10 rfl (Maker_Next_ok h707 (hv0_l.to_callT (k := 2) hm702 rfl) (hm702.get (k := 2) rfl))) ?_
        rintro _ w710 ⟨e_, hm709⟩
        obtain rfl := e_.symm
        have hm711 := hm702.callT (k := 2) rfl (fun _ h => h) hm709 (fun _ => Iff.rfl)
        obtain ⟨x712, h713, q714⟩ := ob q708; clear q708
        refine t_rd rfl (rd_add64 h713 rfl rfl) ?_
        refine t_rd rfl (rd_move rfl) ?_
        refine t_ef rfl (ef_bslice (l := ([5, 20, 60] : List Int)) hm711 tS22 rfl (cs := #[(Value.int .i64 5), (Value.int .i64 20), (Value.int .i64 60)]) (by unfold bsl; kernel_rfl) rfl rfl) ?_
        intro v715 w717 hm716
        obtain ⟨r718, h719, q720⟩ := ob q714; clear q714
        refine t_ef rfl (ef_call tf14 rfl (Maker_Pick_ok h719 (hv0_l.to_callT (k := 3) hm716 rfl) (hm716.get (k := 3) rfl) (hm716.sl_callT 0 3 rfl rfl (by decide)))) ?_
        rintro _ w722 ⟨e_, hm721⟩
        obtain rfl := e_.symm
        have hm723 := hm716.callT (k := 3) rfl (fun _ h => h) hm721 (fun _ => Iff.rfl)
        refine t_rd rfl (rd_build (cs := #[(Value.int .i64 r697.2), (Value.int .i64 x712), (Value.int .i64 r718.2)]) rfl (by kernel_rfl)) ?_
        refine t_ef rfl (ef_bslice (l := ([(T_Crew.mk r697.2 x712 r718.2)] : List T_Crew)) hm723 tS26 rfl (cs := #[(Value.int .i64 r697.2), (Value.int .i64 x712), (Value.int .i64 r718.2)]) (by unfold bsl; kernel_rfl) rfl rfl) ?_
        intro v724 w726 hm725
        obtain ⟨l727, h728, q729⟩ := ob q720; clear q720
        refine t_ef rfl (ef_append (k := 2) hm725 tS26 tE39 rfl rfl rfl rfl (hm725.sl 0 rfl) h728) ?_
        intro v730 w732 hm731
        refine t_rd rfl (rd_assign rfl) ?_
        refine rwt_nil ?_
        refine qn_block (qn_then ?_)
        refine cw_region ?_
        refine t_rd rfl (rd_move rfl) ?_
        obtain ⟨x733, h734, q735⟩ := ob q729; clear q729
        refine t_rd rfl (rd_sub64 h734 rfl rfl) ?_
        refine t_rd rfl (rd_assign rfl) ?_
        refine rwt_nil ?_
        refine qn_then ?_
        refine ⟨_, (os q735), v730, (by repeat (first | exact Sub.nil _ | refine Sub.cons rfl ?_)), (hm731.pick [2, 3, 4] (by decide) rfl)⟩
      · refine cw_f rfl hb695 ?_
        refine cw_exit ?_
        refine qx_then (qx_then ?_)
        obtain rfl := hr690 _ (os q696)
        exact ⟨rfl, v684, (by repeat (first | exact Sub.nil _ | refine Sub.cons rfl ?_)), (hm694.pick [0, 1, 2] (by decide) rfl)⟩
    · skip
      intro e env736 w737 hX738
      obtain ⟨rfl, v680, hs739, hm740⟩ := hX738
      refine qx_same (qn_then ?_)
      refine cw_sub hs739 ?_
      refine cw_seq ?_
      refine cw_region ?_
      refine t_rd rfl (rd_move rfl) ?_
      refine t_rd rfl (rd_move rfl) ?_
      refine t_rd rfl (rd_assign rfl) ?_
      refine t_rd rfl (rd_assign rfl) ?_
      refine rwt_nil ?_
      refine qn_then ?_
      refine cw_ret ?_
      obtain rfl := os q693
      exact ret2 rfl rfl rfl ⟨v486, v680, rfl, (hm740.pick [2, 1, 0] (by decide) rfl)⟩

theorem crew_time_ok {N : Nat} {a0 : Int} {a1 : Int} {res : Bool} (h : crew_time N a0 a1 = some res) {w : World}   :
    CallsR Try.prog 32 [(Value.int .i64 a0), (Value.int .i64 a1)] w (fun u w' => u = (Value.bool res) ∧ Mem w No [] w') := by
  unfold crew_time at h
  refine fn_ok Try.func32 rfl rfl rfl ?_
  have hm0 := Mem.nil w
  refine cw_seq ?_
  refine cw_region ?_
  refine t_rd rfl (rd_assign rfl) ?_
  refine rwt_nil ?_
  refine qn_then ?_
  refine cw_seq ?_
  refine cw_region ?_
  refine t_rd rfl (rd_move rfl) ?_
  refine t_rd rfl (rd_geq rfl rfl) ?_
  refine t_rd rfl (rd_move rfl) ?_
  refine t_rdg rfl rfl rfl rfl (gv_t _) (fun hg1 => (rd_move rfl)) ?_
  refine t_rdg rfl rfl rfl rfl (gv_t _) (fun hg2 => (rd_move rfl)) ?_
  refine t_rdg rfl rfl rfl rfl (gv_t _) (fun hg3 => (rd_lss (gvx rfl hg3) (gvx rfl hg3))) ?_
  refine t_rd rfl (rd_and rfl (fun hc4 => (gvx rfl hc4))) ?_
  refine t_rd rfl (rd_move rfl) ?_
  refine t_rdg rfl rfl rfl rfl (gv_t _) (fun hg5 => (rd_move rfl)) ?_
  refine t_rdg rfl rfl rfl rfl (gv_t _) (fun hg6 => (rd_leq (gvx rfl hg6) rfl)) ?_
  refine t_rd rfl (rd_and rfl (fun hc7 => (gvx rfl hc7))) ?_
  refine t_rd rfl (rd_assign rfl) ?_
  refine rwt_nil ?_
  refine qn_then ?_
  refine cw_ret ?_
  obtain rfl := os h
  exact ret1 rfl rfl ⟨rfl, (hm0.pick [] (by decide) rfl)⟩

theorem crew_check_ok {N : Nat} {a0 : List T_Task} {a1 : List T_Crew} {res : Int} (h : crew_check N a0 a1 = some res) {w : World} {v0 : Value} {v1 : Value} (hv0 : Sl (Old w No) w v0 a0) (hv1 : Sl (Old w No) w v1 a1) :
    CallsR Try.prog 23 [v0, v1] w (fun u w' => u = (Value.int .i64 res) ∧ Mem w No [] w') := by
  unfold crew_check at h
  refine fn_ok Try.func23 rfl rfl rfl ?_
  have hm0 := Mem.nil w
  refine cw_seq ?_
  refine cw_region ?_
  refine t_rd rfl (rd_assign rfl) ?_
  refine rwt_nil ?_
  refine qn_then ?_
  refine cw_seq ?_
  refine cw_seq ?_
  refine cw_region ?_
  refine t_rd rfl (rd_move rfl) ?_
  refine t_rd rfl (rd_lenS tS25 rfl (hv0.of_old hm0)) ?_
  refine t_rd rfl (rd_gtr rfl rfl) ?_
  refine t_rd rfl (rd_move rfl) ?_
  refine t_rdg rfl rfl rfl rfl (gv_f _) (fun hg1 => (rd_move rfl)) ?_
  refine t_rdg rfl rfl rfl rfl (gv_f _) (fun hg2 => (rd_lenS tS26 (gvx rfl hg2) (hv1.of_old hm0))) ?_
  refine t_rdg rfl rfl rfl rfl (gv_f _) (fun hg3 => (rd_gtr (gvx rfl hg3) rfl)) ?_
  refine t_rd rfl (rd_or rfl (fun hc4 => (gvx rfl (bnotIt hc4)))) ?_
  refine rwt_nil ?_
  refine qn_then ?_
  obtain ⟨hb5, q6⟩ | ⟨hb5, q6⟩ := oi h <;> clear h
  · refine cw_t rfl hb5 ?_
    refine cw_seq ?_
    refine cw_region ?_
    refine t_rd rfl (rd_assign rfl) ?_
    refine rwt_nil ?_
    refine qn_then ?_
    refine cw_ret ?_
    refine qr_then ?_
    obtain rfl := os q6
    exact ret1 rfl rfl ⟨rfl, (hm0.pick [] (by decide) rfl)⟩
  · refine cw_f rfl hb5 ?_
    refine cw_skip ?_
    refine qn_then ?_
    refine cw_seq ?_
    refine cw_seq ?_
    refine cw_region ?_
    refine t_rd rfl (rd_move rfl) ?_
    refine t_rd rfl (rd_lenS tS25 rfl (hv0.of_old hm0)) ?_
    refine t_rd rfl (rd_move rfl) ?_
    refine rwt_nil ?_
    refine qn_then ?_
    refine cw_block ?_
    obtain ⟨r57, hit58, q59⟩ := ob q6; clear q6
    refine cw_loop2 (I := fun q envq wq => Sub [(1, v1), (17, v0), (18, (Value.int .i64 (List.length a0 : Int))), (19, (Value.int .i64 q))] envq ∧ Mem w No [] wq) (X := fun eq envq wq => (∃ p60, r57 = (Sum.inl p60) ∧ eq = .ret ∧ retQ Try.prog 53 Try.f23 (fun u w' => u = (Value.int .i64 p60) ∧ Mem w No [] w') .ret envq wq) ∨ (∃ p61, r57 = (Sum.inr p61) ∧ eq = .exit 0 ∧ Sub [(1, v1)] envq ∧ Mem w No [] wq)) hit58 ⟨(by repeat (first | exact Sub.nil _ | refine Sub.cons rfl ?_)), (hm0.pick [] (by decide) rfl)⟩ ?_ ?_
    · rintro i50 x52 env53 w54 hf55 hr56 ⟨hs_, hm_⟩
      have hs_ : Sub [(1, v1), (17, v0), (18, (Value.int .i64 (List.length a0 : Int))), (19, (Value.int .i64 i50))] env53 := hs_
      have hm62 : Mem w No [] w54 := hm_
      refine cw_sub hs_ ?_
      clear hs_ hm_ q59
      have h : crew_check_l1 N a0 i50 = some x52 := hf55
      clear hf55
      refine cw_seq ?_
      refine cw_region ?_
      refine t_rd rfl (rd_lss rfl rfl) ?_
      refine rwt_nil ?_
      refine qn_then ?_
      refine cw_seq ?_
      obtain ⟨hb63, q64⟩ | ⟨hb63, q64⟩ := oi h <;> clear h
      · refine cw_t rfl hb63 ?_
        refine cw_skip ?_
        refine qn_then ?_
        refine cw_seq ?_
        refine cw_block ?_
        refine cw_seq ?_
        refine cw_region ?_
        obtain ⟨x65, h66, q67⟩ := ob q64; clear q64
        refine t_rd rfl (rd_index tS25 rfl rfl (hv0.of_old hm62) h66) ?_
        refine t_rd rfl (rd_ld tA37 rfl ((hv0.of_old hm62).cells h66) rfl) ?_
        refine t_ef rfl (ef_alloc hm62 tZ37 rfl) ?_
        rintro _ w70 ⟨g68, rfl, hm69⟩
        refine t_ef0 (ef_stw (k := 0) hm69 tA37 rfl rfl (oc_cons rfl (oc_cons rfl oc_nil)) rfl rfl rfl) ?_
        intro _ w72 hm71
        refine rwt_nil ?_
        refine qn_then ?_
        refine cw_seq ?_
        refine cw_region ?_
        refine t_rd rfl (rd_fld tF37_0 rfl) ?_
        refine t_rd rfl (rd_ld1 tO3 rfl (hm71.blk 0 rfl) (off := 0) rfl) ?_
        refine t_rd rfl (rd_fld tF37_1 rfl) ?_
        refine t_rd rfl (rd_ld1 tO3 rfl (hm71.blk 0 rfl) (off := 1) rfl) ?_
        obtain ⟨r73, h74, q75⟩ := ob q67; clear q67
        refine t_ef rfl (ef_call tf32 rfl (crew_time_ok h74)) ?_
        rintro _ w77 ⟨e_, hm76⟩
        obtain rfl := e_.symm
        have hm78 := hm71.call hm76
        refine t_rd rfl (rd_not rfl) ?_
        refine rwt_nil ?_
        refine qn_then ?_
        obtain ⟨hb79, q80⟩ | ⟨hb79, q80⟩ := oi q75 <;> clear q75
        · refine cw_t rfl hb79 ?_
          refine cw_seq ?_
          refine cw_region ?_
          refine t_rd rfl (rd_assign rfl) ?_
          refine rwt_nil ?_
          refine qn_then ?_
          refine cw_ret ?_
          refine qr_block (qr_then (qr_then ?_))
          obtain rfl := hr56 _ (os q80)
          refine .inl (⟨_, rfl, ⟨rfl, ?_⟩⟩)
          exact ret1 rfl rfl ⟨rfl, (hm78.pick [] (by decide) rfl)⟩
        · refine cw_f rfl hb79 ?_
          refine cw_skip ?_
          refine qn_block (qn_then ?_)
          refine cw_region ?_
          obtain ⟨x81, h82, q83⟩ := ob q80; clear q80
          refine t_rd rfl (rd_add64 h82 rfl rfl) ?_
          refine t_rd rfl (rd_move rfl) ?_
          refine rwt_nil ?_
          refine qn_then ?_
          refine ⟨_, (os q83), (by repeat (first | exact Sub.nil _ | refine Sub.cons rfl ?_)), (hm78.pick [] (by decide) rfl)⟩
      · refine cw_f rfl hb63 ?_
        refine cw_exit ?_
        refine qx_then (qx_then ?_)
        obtain rfl := hr56 _ (os q64)
        exact .inr (⟨_, rfl, ⟨rfl, (by repeat (first | exact Sub.nil _ | refine Sub.cons rfl ?_)), (hm62.pick [] (by decide) rfl)⟩⟩)
    · skip
      intro e env84 w85 hX86
      rcases hX86 with hX86 | hX86
      · obtain ⟨p88, rfl, hX86⟩ := hX86
        obtain ⟨rfl, hq90⟩ := hX86
        exact qr_block (qr_then ((by have e := os q59; subst e; exact hq90)))
      · obtain ⟨p91, rfl, hX86⟩ := hX86
        obtain ⟨rfl, hs92, hm93⟩ := hX86
        refine qx_same (qn_then ?_)
        refine cw_sub hs92 ?_
        refine cw_seq ?_
        refine cw_seq ?_
        refine cw_region ?_
        refine t_rd rfl (rd_move rfl) ?_
        refine t_rd rfl (rd_lenS tS26 rfl (hv1.of_old hm93)) ?_
        refine t_rd rfl (rd_move rfl) ?_
        refine rwt_nil ?_
        refine qn_then ?_
        refine cw_block ?_
        obtain ⟨r160, hit161, q162⟩ := ob q59; clear q59
        refine cw_loop2 (I := fun q envq wq => Sub [(30, v1), (31, (Value.int .i64 (List.length a1 : Int))), (32, (Value.int .i64 q))] envq ∧ Mem w No [] wq) (X := fun eq envq wq => (∃ p163, r160 = (Sum.inl p163) ∧ eq = .ret ∧ retQ Try.prog 53 Try.f23 (fun u w' => u = (Value.int .i64 p163) ∧ Mem w No [] w') .ret envq wq) ∨ (∃ p164, r160 = (Sum.inr p164) ∧ eq = .exit 2 ∧ Sub [] envq ∧ Mem w No [] wq)) hit161 ⟨(by repeat (first | exact Sub.nil _ | refine Sub.cons rfl ?_)), (hm93.pick [] (by decide) rfl)⟩ ?_ ?_
        · rintro i153 x155 env156 w157 hf158 hr159 ⟨hs_, hm_⟩
          have hs_ : Sub [(30, v1), (31, (Value.int .i64 (List.length a1 : Int))), (32, (Value.int .i64 i153))] env156 := hs_
          have hm165 : Mem w No [] w157 := hm_
          refine cw_sub hs_ ?_
          clear hs_ hm_ q162
          have h : crew_check_l2 N a1 i153 = some x155 := hf158
          clear hf158
          refine cw_seq ?_
          refine cw_region ?_
          refine t_rd rfl (rd_lss rfl rfl) ?_
          refine rwt_nil ?_
          refine qn_then ?_
          refine cw_seq ?_
          obtain ⟨hb166, q167⟩ | ⟨hb166, q167⟩ := oi h <;> clear h
          · refine cw_t rfl hb166 ?_
            refine cw_skip ?_
            refine qn_then ?_
            refine cw_seq ?_
            refine cw_block ?_
            refine cw_seq ?_
            refine cw_region ?_
            obtain ⟨x168, h169, q170⟩ := ob q167; clear q167
            refine t_rd rfl (rd_index tS26 rfl rfl (hv1.of_old hm165) h169) ?_
            refine t_rd rfl (rd_ld tA39 rfl ((hv1.of_old hm165).cells h169) rfl) ?_
            refine t_ef rfl (ef_alloc hm165 tZ39 rfl) ?_
            rintro _ w173 ⟨g171, rfl, hm172⟩
            refine t_ef0 (ef_stw (k := 0) hm172 tA39 rfl rfl (oc_cons rfl (oc_cons rfl (oc_cons rfl oc_nil))) rfl rfl rfl) ?_
            intro _ w175 hm174
            refine rwt_nil ?_
            refine qn_then ?_
            refine cw_seq ?_
            refine cw_region ?_
            refine t_rd rfl (rd_fld tF39_0 rfl) ?_
            refine t_rd rfl (rd_ld1 tO3 rfl (hm174.blk 0 rfl) (off := 0) rfl) ?_
            refine t_rd rfl (rd_fld tF39_1 rfl) ?_
            refine t_rd rfl (rd_ld1 tO3 rfl (hm174.blk 0 rfl) (off := 1) rfl) ?_
            obtain ⟨r176, h177, q178⟩ := ob q170; clear q170
            refine t_ef rfl (ef_call tf32 rfl (crew_time_ok h177)) ?_
            rintro _ w180 ⟨e_, hm179⟩
            obtain rfl := e_.symm
            have hm181 := hm174.call hm179
            refine t_rd rfl (rd_not rfl) ?_
            refine t_rd rfl (rd_move rfl) ?_
            refine t_rdg rfl rfl rfl rfl (gv_f _) (fun hg182 => (rd_fld tF39_2 rfl)) ?_
            refine t_rdg rfl rfl rfl rfl (gv_f _) (fun hg183 => (rd_ld1 tO3 (gvx rfl hg183) (hm181.blk 0 rfl) (off := 2) rfl)) ?_
            refine t_rdg rfl rfl rfl rfl (gv_f _) (fun hg184 => (rd_lss (gvx rfl hg184) rfl)) ?_
            refine t_rd rfl (rd_or rfl (fun hc185 => (gvx rfl (bnotIt hc185)))) ?_
            refine t_rd rfl (rd_move rfl) ?_
            refine t_rdg rfl rfl rfl rfl (gv_f _) (fun hg186 => (rd_fld tF39_2 rfl)) ?_
            refine t_rdg rfl rfl rfl rfl (gv_f _) (fun hg187 => (rd_ld1 tO3 (gvx rfl hg187) (hm181.blk 0 rfl) (off := 2) rfl)) ?_
            refine t_rdg rfl rfl rfl rfl (gv_f _) (fun hg188 => (rd_gtr (gvx rfl hg188) rfl)) ?_
            refine t_rd rfl (rd_or rfl (fun hc189 => (gvx rfl (bnotIt hc189)))) ?_
            refine rwt_nil ?_
            refine qn_then ?_
            obtain ⟨hb190, q191⟩ | ⟨hb190, q191⟩ := oi q178 <;> clear q178
            · refine cw_t rfl hb190 ?_
              refine cw_seq ?_
              refine cw_region ?_
              refine t_rd rfl (rd_assign rfl) ?_
              refine rwt_nil ?_
              refine qn_then ?_
              refine cw_ret ?_
              refine qr_block (qr_then (qr_then ?_))
              obtain rfl := hr159 _ (os q191)
              refine .inl (⟨_, rfl, ⟨rfl, ?_⟩⟩)
              exact ret1 rfl rfl ⟨rfl, (hm181.pick [] (by decide) rfl)⟩
            · refine cw_f rfl hb190 ?_
              refine cw_skip ?_
              refine qn_block (qn_then ?_)
              refine cw_region ?_
              obtain ⟨x192, h193, q194⟩ := ob q191; clear q191
              refine t_rd rfl (rd_add64 h193 rfl rfl) ?_
              refine t_rd rfl (rd_move rfl) ?_
              refine rwt_nil ?_
              refine qn_then ?_
              refine ⟨_, (os q194), (by repeat (first | exact Sub.nil _ | refine Sub.cons rfl ?_)), (hm181.pick [] (by decide) rfl)⟩
          · refine cw_f rfl hb166 ?_
            refine cw_exit ?_
            refine qx_then (qx_then ?_)
            obtain rfl := hr159 _ (os q167)
            exact .inr (⟨_, rfl, ⟨rfl, (by repeat (first | exact Sub.nil _ | refine Sub.cons rfl ?_)), (hm165.pick [] (by decide) rfl)⟩⟩)
        · skip
          intro e env195 w196 hX197
          rcases hX197 with hX197 | hX197
          · obtain ⟨p199, rfl, hX197⟩ := hX197
            obtain ⟨rfl, hq201⟩ := hX197
            exact qr_block (qr_then ((by have e := os q162; subst e; exact hq201)))
          · obtain ⟨p202, rfl, hX197⟩ := hX197
            obtain ⟨rfl, hs203, hm204⟩ := hX197
            refine qx_same (qn_then ?_)
            refine cw_sub hs203 ?_
            refine cw_seq ?_
            refine cw_region ?_
            refine t_rd rfl (rd_assign rfl) ?_
            refine rwt_nil ?_
            refine qn_then ?_
            refine cw_ret ?_
            obtain rfl := os q162
            exact ret1 rfl rfl ⟨rfl, (hm204.pick [] (by decide) rfl)⟩

theorem crew_Fits_ok {N : Nat} {a0 : T_Task} {a1 : T_Crew} {res : Bool} (h : crew_Fits N a0 a1 = some res) {w : World}   :
    CallsR Try.prog 19 [(Value.agg (Flat.enc a0).toArray), (Value.agg (Flat.enc a1).toArray)] w (fun u w' => u = (Value.bool res) ∧ Mem w No [] w') := by
  unfold crew_Fits at h
  refine fn_ok Try.func19 rfl rfl rfl ?_
  have hm0 := Mem.nil w
  refine cw_seq ?_
  refine cw_region ?_
  refine t_ef rfl (ef_box hm0 rfl rfl) ?_
  rintro _ w3 ⟨g1, rfl, hm2⟩
  refine t_ef rfl (ef_box hm2 rfl rfl) ?_
  rintro _ w6 ⟨g4, rfl, hm5⟩
  refine t_rd rfl (rd_assign rfl) ?_
  refine rwt_nil ?_
  refine qn_then ?_
  refine cw_seq ?_
  refine cw_region ?_
  refine t_rd rfl (rd_fld tF37_0 rfl) ?_
  refine t_rd rfl (rd_ld1 tO3 rfl (hm5.blk 1 rfl) (off := 0) rfl) ?_
  refine t_rd rfl (rd_fld tF39_0 rfl) ?_
  refine t_rd rfl (rd_ld1 tO3 rfl (hm5.blk 0 rfl) (off := 0) rfl) ?_
  refine t_rd rfl (rd_geq rfl rfl) ?_
  refine t_rd rfl (rd_move rfl) ?_
  refine t_rdg rfl rfl rfl rfl (gv_t _) (fun hg7 => (rd_fld tF37_1 rfl)) ?_
  refine t_rdg rfl rfl rfl rfl (gv_t _) (fun hg8 => (rd_ld1 tO3 (gvx rfl hg8) (hm5.blk 1 rfl) (off := 1) rfl)) ?_
  refine t_rdg rfl rfl rfl rfl (gv_t _) (fun hg9 => (rd_fld tF39_1 rfl)) ?_
  refine t_rdg rfl rfl rfl rfl (gv_t _) (fun hg10 => (rd_ld1 tO3 (gvx rfl hg10) (hm5.blk 0 rfl) (off := 1) rfl)) ?_
  refine t_rdg rfl rfl rfl rfl (gv_t _) (fun hg11 => (rd_leq (gvx rfl hg11) (gvx rfl hg11))) ?_
  refine t_rd rfl (rd_and rfl (fun hc12 => (gvx rfl hc12))) ?_
  refine t_rd rfl (rd_move rfl) ?_
  refine t_rdg rfl rfl rfl rfl (gv_t _) (fun hg13 => (rd_fld tF37_1 rfl)) ?_
  refine t_rdg rfl rfl rfl rfl (gv_t _) (fun hg14 => (rd_ld1 tO3 (gvx rfl hg14) (hm5.blk 1 rfl) (off := 1) rfl)) ?_
  refine t_rdg rfl rfl rfl rfl (gv_t _) (fun hg15 => (rd_fld tF37_0 rfl)) ?_
  refine t_rdg rfl rfl rfl rfl (gv_t _) (fun hg16 => (rd_ld1 tO3 (gvx rfl hg16) (hm5.blk 1 rfl) (off := 0) rfl)) ?_
  obtain ⟨x18, h19, q20⟩ := ob h; clear h
  refine t_rdg rfl rfl rfl rfl (gv_t _) (fun hg17 => (rd_sub64 (gO_t h19 hg17) (gvx rfl hg17) (gvx rfl hg17))) ?_
  refine t_rdg rfl rfl rfl rfl (gv_t _) (fun hg21 => (rd_fld tF39_2 rfl)) ?_
  refine t_rdg rfl rfl rfl rfl (gv_t _) (fun hg22 => (rd_ld1 tO3 (gvx rfl hg22) (hm5.blk 0 rfl) (off := 2) rfl)) ?_
  refine t_rdg rfl rfl rfl rfl (gv_t _) (fun hg23 => (rd_leq (gvx rfl hg23) (gvx rfl hg23))) ?_
  refine t_rd rfl (rd_and rfl (fun hc24 => (gvx rfl hc24))) ?_
  refine t_rd rfl (rd_assign rfl) ?_
  refine rwt_nil ?_
  refine qn_then ?_
  refine cw_ret ?_
  obtain rfl := os q20
  exact ret1 rfl rfl ⟨rfl, (hm5.pick [] (by decide) rfl)⟩

theorem crew_match_1_r_ok {N : Nat} (M : Nat) : ∀ {a0 : Int} {a1 : List T_Crew} {a2 : List Bool} {a3 : List T_Task} {a4 : List Int} {a6 : List Int} {res : List Bool × List Int × List Int × Bool} (h : crew_match_1_r N M a0 a1 a2 a3 a4 a6 = some res) {w : World} {gb1 : Nat} {v1 : Value} {gb2 : Nat} {v2 : Value} {gb3 : Nat} {v3 : Value} {gb4 : Nat} {v4 : Value} {gb5 : Nat} {gb6 : Nat} {v6 : Value} (hv1 : Sl (Old w (bunC [ownL 4 v2 (a2 : List Bool), ownL 3 v4 (a4 : List Int), ownL 3 v6 (a6 : List Int)]).D) w v1 a1) (hb1 : BoxAt (Old w (bunC [ownL 4 v2 (a2 : List Bool), ownL 3 v4 (a4 : List Int), ownL 3 v6 (a6 : List Int)]).D) w gb1 v1) (hb2 : BoxAt (Old w (bunC [ownL 4 v2 (a2 : List Bool), ownL 3 v4 (a4 : List Int), ownL 3 v6 (a6 : List Int)]).D) w gb2 v2) (hv3 : Sl (Old w (bunC [ownL 4 v2 (a2 : List Bool), ownL 3 v4 (a4 : List Int), ownL 3 v6 (a6 : List Int)]).D) w v3 a3) (hb3 : BoxAt (Old w (bunC [ownL 4 v2 (a2 : List Bool), ownL 3 v4 (a4 : List Int), ownL 3 v6 (a6 : List Int)]).D) w gb3 v3) (hb4 : BoxAt (Old w (bunC [ownL 4 v2 (a2 : List Bool), ownL 3 v4 (a4 : List Int), ownL 3 v6 (a6 : List Int)]).D) w gb4 v4) (hb5 : BoxAt (Old w (bunC [ownL 4 v2 (a2 : List Bool), ownL 3 v4 (a4 : List Int), ownL 3 v6 (a6 : List Int)]).D) w gb5 (Value.func (.func 33) #[] #[(Value.pointer (some ⟨gb1, 0, none⟩)), (Value.pointer (some ⟨gb2, 0, none⟩)), (Value.pointer (some ⟨gb3, 0, none⟩)), (Value.pointer (some ⟨gb4, 0, none⟩)), (Value.pointer (some ⟨gb5, 0, none⟩)), (Value.pointer (some ⟨gb6, 0, none⟩))])) (hb6 : BoxAt (Old w (bunC [ownL 4 v2 (a2 : List Bool), ownL 3 v4 (a4 : List Int), ownL 3 v6 (a6 : List Int)]).D) w gb6 v6) (hkb : (bunC [ownL 4 v2 (a2 : List Bool), ownL 3 v4 (a4 : List Int), ownL 3 v6 (a6 : List Int)]).φ w),
    CallsR Try.prog 33 [(Value.int .i64 a0), (Value.pointer (some ⟨gb1, 0, none⟩)), (Value.pointer (some ⟨gb2, 0, none⟩)), (Value.pointer (some ⟨gb3, 0, none⟩)), (Value.pointer (some ⟨gb4, 0, none⟩)), (Value.pointer (some ⟨gb5, 0, none⟩)), (Value.pointer (some ⟨gb6, 0, none⟩))] w (fun u w' => u = (Value.bool res.2.2.2) ∧ Mem w (bunC [ownL 4 v2 (a2 : List Bool), ownL 3 v4 (a4 : List Int), ownL 3 v6 (a6 : List Int)]).D [bunC [ownL 4 v2 (res.1 : List Bool), ownL 3 v4 (res.2.1 : List Int), ownL 3 v6 (res.2.2.1 : List Int)]] w') := by
  induction M with
  | zero =>
    intro a0 a1 a2 a3 a4 a6 res h
    rw [crew_match_1_r] at h
    cases h
  | succ M ih =>
  intro a0 a1 a2 a3 a4 a6 res h w gb1 v1 gb2 v2 gb3 v3 gb4 v4 gb5 gb6 v6 hv1 hb1 hb2 hv3 hb3 hb4 hb5 hb6 hkb
  rw [crew_match_1_r] at h
  refine fn_ok Try.func33 rfl rfl rfl ?_
  have hm0 := Mem.opened hkb
  refine cw_seq ?_
  refine cw_region ?_
  refine t_rd rfl (rd_assign rfl) ?_
  refine rwt_nil ?_
  refine qn_then ?_
  refine cw_seq ?_
  refine cw_seq ?_
  refine cw_region ?_
  refine t_rd rfl (rd_ld1 tO26 rfl (hb1.of_old hm0).2 (off := 0) rfl) ?_
  refine t_rd rfl (rd_lenS tS26 rfl (hv1.of_old hm0)) ?_
  refine t_rd rfl (rd_move rfl) ?_
  refine rwt_nil ?_
  refine qn_then ?_
  refine cw_block ?_
  obtain ⟨r284, hit285, q286⟩ := ob h; clear h
  refine cw_loop2 (I := fun q envq wq => Sub [(0, (Value.int .i64 a0)), (2, (Value.pointer (some ⟨gb2, 0, none⟩))), (3, (Value.pointer (some ⟨gb3, 0, none⟩))), (4, (Value.pointer (some ⟨gb4, 0, none⟩))), (5, (Value.pointer (some ⟨gb5, 0, none⟩))), (6, (Value.pointer (some ⟨gb6, 0, none⟩))), (11, v1), (12, (Value.int .i64 (List.length a1 : Int))), (13, (Value.int .i64 q.1))] envq ∧ Mem w (bunC [ownL 4 v2 (a2 : List Bool), ownL 3 v4 (a4 : List Int), ownL 3 v6 (a6 : List Int)]).D [ownL 4 v2 (q.2.1 : List Bool), ownL 3 v4 (q.2.2.1 : List Int), ownL 3 v6 (q.2.2.2 : List Int)] wq) (X := fun eq envq wq => (∃ p287, r284 = (Sum.inl p287) ∧ eq = .ret ∧ retQ Try.prog 56 Try.f33 (fun u w' => u = (Value.bool p287.2.2.2) ∧ Mem w (bunC [ownL 4 v2 (a2 : List Bool), ownL 3 v4 (a4 : List Int), ownL 3 v6 (a6 : List Int)]).D [bunC [ownL 4 v2 (p287.1 : List Bool), ownL 3 v4 (p287.2.1 : List Int), ownL 3 v6 (p287.2.2.1 : List Int)]] w') .ret envq wq) ∨ (∃ p288, r284 = (Sum.inr p288) ∧ eq = .exit 0 ∧ Sub [] envq ∧ Mem w (bunC [ownL 4 v2 (a2 : List Bool), ownL 3 v4 (a4 : List Int), ownL 3 v6 (a6 : List Int)]).D [ownL 4 v2 (p288.1 : List Bool), ownL 3 v4 (p288.2.1 : List Int), ownL 3 v6 (p288.2.2 : List Int)] wq)) hit285 ⟨(by repeat (first | exact Sub.nil _ | refine Sub.cons rfl ?_)), (hm0.pick [0, 1, 2] (by decide) rfl)⟩ ?_ ?_
  · rintro ⟨i274, l275, l276, l277⟩ x279 env280 w281 hf282 hr283 ⟨hs_, hm_⟩
    have hs_ : Sub [(0, (Value.int .i64 a0)), (2, (Value.pointer (some ⟨gb2, 0, none⟩))), (3, (Value.pointer (some ⟨gb3, 0, none⟩))), (4, (Value.pointer (some ⟨gb4, 0, none⟩))), (5, (Value.pointer (some ⟨gb5, 0, none⟩))), (6, (Value.pointer (some ⟨gb6, 0, none⟩))), (11, v1), (12, (Value.int .i64 (List.length a1 : Int))), (13, (Value.int .i64 i274))] env280 := hs_
    have hm289 : Mem w (bunC [ownL 4 v2 (a2 : List Bool), ownL 3 v4 (a4 : List Int), ownL 3 v6 (a6 : List Int)]).D [ownL 4 v2 (l275 : List Bool), ownL 3 v4 (l276 : List Int), ownL 3 v6 (l277 : List Int)] w281 := hm_
    refine cw_sub hs_ ?_
    clear hs_ hm_ q286
    have h : crew_match_1_l1 N (crew_match_1_r N M) a0 a1 a3 i274 l275 l276 l277 = some x279 := hf282
    clear hf282
    refine cw_seq ?_
    refine cw_region ?_
    refine t_rd rfl (rd_lss rfl rfl) ?_
    refine rwt_nil ?_
    refine qn_then ?_
    refine cw_seq ?_
    obtain ⟨hb290, q291⟩ | ⟨hb290, q291⟩ := oi h <;> clear h
    · refine cw_t rfl hb290 ?_
      refine cw_skip ?_
      refine qn_then ?_
      refine cw_seq ?_
      refine cw_block ?_
      refine cw_seq ?_
      refine cw_region ?_
      refine t_rd rfl (rd_move rfl) ?_
      obtain ⟨x292, h293, q294⟩ := ob q291; clear q291
      refine t_rd rfl (rd_index tS26 rfl rfl (hv1.of_old hm289) h293) ?_
      refine t_rd rfl (rd_ld tA39 rfl ((hv1.of_old hm289).cells h293) rfl) ?_
      refine t_ef rfl (ef_alloc hm289 tZ39 rfl) ?_
      rintro _ w297 ⟨g295, rfl, hm296⟩
      refine t_rd rfl (rd_assign rfl) ?_
      refine t_ef0 (ef_stw (k := 0) hm296 tA39 rfl rfl (oc_cons rfl (oc_cons rfl (oc_cons rfl oc_nil))) rfl rfl rfl) ?_
      intro _ w299 hm298
      refine rwt_nil ?_
      refine qn_then ?_
      refine cw_seq ?_
      refine cw_seq ?_
      obtain ⟨w301, he303⟩ : ∃ q, q = w299.drew := ⟨_, rfl⟩
      have hm302 := hm298.drew; rw [← he303] at hm302
      refine cw_region_s (fun q => q = w301) (cls [] [10]) mixed ?_
      rintro _ rfl; rw [← he303]
      refine s_rd (i := 0) rfl (by kernel_rfl) rfl (fun _ hS => by rw [hS]; exact (rd_ld1 tO33 rfl (hb2.of_old hm302).2 (off := 0) rfl)) rfl ?_
      refine s_rp (i := 1) rfl (by kernel_rfl) rfl (fun _ => (rd_move rfl)) ?_
      obtain ⟨x304, h305, q306⟩ := ob q294; clear q294
      refine s_rp (i := 2) rfl (by kernel_rfl) rfl (fun _ => (rd_index tS33 rfl rfl (hm302.sl 1 rfl) h305)) ?_
      refine s_rd (i := 3) rfl (by kernel_rfl) rfl (fun _ hS => by rw [hS]; exact (rd_ld1 tO4 rfl ((hm302.sl 1 rfl).cells h305) (off := 0) rfl)) rfl ?_
      refine s_rp (i := 4) rfl (by kernel_rfl) rfl (fun _ => (rd_move rfl)) ?_
      refine s_rdg (i := 5) rfl (by kernel_rfl) rfl rfl rfl rfl (gv_f _) (fun hg307 => (fun _ hS => by rw [hS]; exact (rd_ld1 tO25 rfl (hb3.of_old hm302).2 (off := 0) rfl))) rfl ?_
      refine s_rpg (i := 6) rfl (by kernel_rfl) rfl rfl rfl rfl (gv_f _) (fun hg308 _ => (rd_move rfl)) ?_
      obtain ⟨x310, h311, q312⟩ := ob q306; clear q306
      refine s_rpg (i := 7) rfl (by kernel_rfl) rfl rfl rfl rfl (gv_f _) (fun hg309 _ => (rd_index tS25 (gvx rfl hg309) (gvx rfl hg309) (hv3.of_old hm302) (gO_t h311 hg309))) ?_
      refine s_rdg (i := 8) rfl (by kernel_rfl) rfl rfl rfl rfl (gv_f _) (fun hg313 => (fun _ hS => by rw [hS]; exact (rd_ld tA37 (gvx rfl hg313) ((hv3.of_old hm302).cells (gO_t h311 hg313)) rfl))) rfl ?_
      refine s_rdg (i := 9) rfl (by kernel_rfl) rfl rfl rfl rfl (gv_f _) (fun hg314 => (fun _ hS => by rw [hS]; exact (rd_ld tA39 rfl (hm302.blk 0 rfl) rfl))) rfl ?_
      obtain ⟨r316, h317, q318⟩ := ob q312; clear q312
      refine s_efg (i := 10) rfl (by kernel_rfl) rfl rfl rfl rfl (R := (fun v w' => v = gV (!x304) (Value.bool r316) ∧ Mem w301 No [] w')) (gv_f _) (fun hg315 => (ef_call tf19 (evc (gvx rfl hg315) (evc (gvx rfl hg315) evn)) (crew_Fits_ok (gO_t h317 hg315))).mono (by rintro _ _ ⟨rfl, q⟩; exact ⟨(gV_t hg315).symm, q⟩)) (fun q => ⟨(gV_f q).symm, Mem.nil _⟩) (by decide) (fun _ _ _ q => absurd q (by decide)) ?_
      rintro _ w320 ⟨rfl, hm319⟩
      have hm321 := hm302.call hm319
      refine s_rpg (i := 11) rfl (by kernel_rfl) rfl rfl rfl rfl (gv_f _) (fun hg322 _ => (rd_not (gvx rfl hg322))) ?_
      refine s_rp (i := 12) rfl (by kernel_rfl) rfl (fun _ => (rd_or rfl (fun hc323 => (gvx rfl (bnotIt hc323))))) ?_
      refine s_nil (by kernel_rfl) ?_
      refine qn_then ?_
      obtain ⟨hb324, q325⟩ | ⟨hb324, q325⟩ := oi q318 <;> clear q318
      · refine cw_t rfl hb324 ?_
        refine cw_exit ?_
        refine qx_then (qx_same (qn_then ?_))
        refine cw_region ?_
        obtain ⟨x326, h327, q328⟩ := ob q325; clear q325
        refine t_rd rfl (rd_add64 h327 rfl rfl) ?_
        refine t_rd rfl (rd_move rfl) ?_
        refine rwt_nil ?_
        refine qn_then ?_
        refine ⟨_, (os q328), (by repeat (first | exact Sub.nil _ | refine Sub.cons rfl ?_)), (hm321.pick [1, 2, 3] (by decide) rfl)⟩
      · refine cw_f rfl hb324 ?_
        refine cw_skip ?_
        refine qn_then ?_
        refine cw_seq ?_
        refine cw_region ?_
        refine t_rd rfl (rd_ld1 tO33 rfl (hb2.of_old hm321).2 (off := 0) rfl) ?_
        refine t_rd rfl (rd_move rfl) ?_
        obtain ⟨x329, h330, q331⟩ := ob q325; clear q325
        refine t_rd rfl (rd_index tS33 rfl rfl (hm321.sl 1 rfl) h330) ?_
        refine t_ef0 (ef_stl (k := 1) (off := 0) (x' := true) hm321 tO4 rfl rfl rfl rfl h330 rfl rfl) ?_
        intro _ w333 hm332
        refine rwt_nil ?_
        refine qn_then ?_
        refine cw_seq ?_
        obtain ⟨w335, he337⟩ : ∃ q, q = w333.drew := ⟨_, rfl⟩
        have hm336 := hm332.drew; rw [← he337] at hm336
        refine cw_region_s (fun q => q = w335) (cls [] [11]) mixed ?_
        rintro _ rfl; rw [← he337]
        refine s_rd (i := 0) rfl (by kernel_rfl) rfl (fun _ hS => by rw [hS]; exact (rd_ld1 tO22 rfl (hb4.of_old hm336).2 (off := 0) rfl)) rfl ?_
        refine s_rp (i := 1) rfl (by kernel_rfl) rfl (fun _ => (rd_move rfl)) ?_
        obtain ⟨x338, h339, q340⟩ := ob q331; clear q331
        refine s_rp (i := 2) rfl (by kernel_rfl) rfl (fun _ => (rd_index tS22 rfl rfl (hm336.sl 2 rfl) h339)) ?_
        refine s_rd (i := 3) rfl (by kernel_rfl) rfl (fun _ hS => by rw [hS]; exact (rd_ld1 tO3 rfl ((hm336.sl 2 rfl).cells h339) (off := 0) rfl)) rfl ?_
        refine s_rp (i := 4) rfl (by kernel_rfl) rfl (fun _ => (rd_lss rfl rfl)) ?_
        refine s_rp (i := 5) rfl (by kernel_rfl) rfl (fun _ => (rd_move rfl)) ?_
        refine s_rdg (i := 6) rfl (by kernel_rfl) rfl rfl rfl rfl (gv_f _) (fun hg341 => (fun _ hS => by rw [hS]; exact (rd_ld1 tO68 rfl (hb5.of_old hm336).2 (off := 0) rfl))) rfl ?_
        refine s_rdg (i := 7) rfl (by kernel_rfl) rfl rfl rfl rfl (gv_f _) (fun hg342 => (fun _ hS => by rw [hS]; exact (rd_ld1 tO22 rfl (hb4.of_old hm336).2 (off := 0) rfl))) rfl ?_
        refine s_rpg (i := 8) rfl (by kernel_rfl) rfl rfl rfl rfl (gv_f _) (fun hg343 _ => (rd_move rfl)) ?_
        obtain ⟨x345, h346, q347⟩ := ob q340; clear q340
        refine s_rpg (i := 9) rfl (by kernel_rfl) rfl rfl rfl rfl (gv_f _) (fun hg344 _ => (rd_index tS22 (gvx rfl hg344) (gvx rfl hg344) (hm336.sl 2 rfl) (gO_t h346 hg344))) ?_
        refine s_rdg (i := 10) rfl (by kernel_rfl) rfl rfl rfl rfl (gv_f _) (fun hg348 => (fun _ hS => by rw [hS]; exact (rd_ld1 tO3 (gvx rfl hg348) ((hm336.sl 2 rfl).cells (gO_t h346 hg348)) (off := 0) rfl))) rfl ?_
        obtain ⟨hb350, q351⟩ | ⟨hb350, q351⟩ := oi q347 <;> clear q347
        · skip
          have hm353 := hm336.pick [1, 2, 3, 0] (L' := [ownL 4 v2 ((List.set l275 (Int.toNat i274) true) : List Bool), ownL 3 v4 (l276 : List Int), ownL 3 v6 (l277 : List Int), blk g295 39 [(Value.int .i64 x292.From), (Value.int .i64 x292.To), (Value.int .i64 x292.Most)]]) (by decide) rfl
          have hm354 := hm353.bundle [ownL 4 v2 ((List.set l275 (Int.toNat i274) true) : List Bool), ownL 3 v4 (l276 : List Int), ownL 3 v6 (l277 : List Int)] [blk g295 39 [(Value.int .i64 x292.From), (Value.int .i64 x292.To), (Value.int .i64 x292.Most)]]
          obtain ⟨r355, h356, q357⟩ := ob q351; clear q351
          refine s_efg (i := 11) rfl (by kernel_rfl) rfl rfl rfl rfl (gv_f _) (fun _ => (ef_callv tf33 (gvx rfl hb350) (evc (gvx rfl hb350) evn) (ih h356 (hv1.to_callT (k := 0) hm354 rfl) (hb1.to_callT (k := 0) hm354 rfl) (hb2.to_callT (k := 0) hm354 rfl) (hv3.to_callT (k := 0) hm354 rfl) (hb3.to_callT (k := 0) hm354 rfl) (hb4.to_callT (k := 0) hm354 rfl) (hb5.to_callT (k := 0) hm354 rfl) (hb6.to_callT (k := 0) hm354 rfl) (hm354.get (k := 0) rfl)))) (fun q => bcontra q hb350) (by decide) (fun _ _ _ q => absurd q (by decide)) ?_
          rintro _ w359 ⟨e_, hm358⟩
          obtain rfl := e_.symm
          have hm360 := hm354.callT (k := 0) rfl (fun _ h => h) hm358 (fun _ => Iff.rfl)
          have hm361 := hm360.unbundle [ownL 4 v2 (r355.1 : List Bool), ownL 3 v4 (r355.2.1 : List Int), ownL 3 v6 (r355.2.2.1 : List Int)] [blk g295 39 [(Value.int .i64 x292.From), (Value.int .i64 x292.To), (Value.int .i64 x292.Most)]]
          refine s_rp (i := 12) rfl (by kernel_rfl) rfl (fun _ => (rd_or rfl (fun hc362 => rfl))) ?_
          refine s_nil (by kernel_rfl) ?_
          refine qn_then ?_
          obtain ⟨hb363, q364⟩ | ⟨hb363, q364⟩ := oi q357 <;> clear q357
          · refine cw_t rfl hb363 ?_
            refine cw_seq ?_
            obtain ⟨w366, he368⟩ : ∃ q, q = w359.drew := ⟨_, rfl⟩
            have hm367 := hm361.drew; rw [← he368] at hm367
            refine cw_region_s (fun q => BoxAt (Old w (bunC [ownL 4 v2 (a2 : List Bool), ownL 3 v4 (a4 : List Int), ownL 3 v6 (a6 : List Int)]).D) q gb6 v6 ∧ BoxAt (Old w (bunC [ownL 4 v2 (a2 : List Bool), ownL 3 v4 (a4 : List Int), ownL 3 v6 (a6 : List Int)]).D) q gb4 v4) (cls [7] [9]) mixed ?_
            rintro _ rfl; rw [← he368]
            refine s_rd (i := 0) rfl (by kernel_rfl) rfl (fun w365 hS => (rd_ld1 tO22 rfl (hS.1).2 (off := 0) rfl)) ⟨(hb6.of_old hm367), (hb4.of_old hm367)⟩ ?_
            refine s_rp (i := 1) rfl (by kernel_rfl) rfl (fun _ => (rd_move rfl)) ?_
            refine s_rd (i := 2) rfl (by kernel_rfl) rfl (fun w365 hS => (rd_ld1 tO22 rfl (hS.2).2 (off := 0) rfl)) ⟨(hb6.of_old hm367), (hb4.of_old hm367)⟩ ?_
            refine s_rp (i := 3) rfl (by kernel_rfl) rfl (fun _ => (rd_move rfl)) ?_
            refine s_rp (i := 4) rfl (by kernel_rfl) rfl (fun _ => (rd_move rfl)) ?_
            refine s_rp (i := 5) rfl (by kernel_rfl) rfl (fun _ => (rd_move rfl)) ?_
            obtain ⟨x379, h380, q381⟩ := ob q364; clear q364
            refine s_rp (i := 6) rfl (by kernel_rfl) rfl (fun _ => (rd_index tS22 rfl rfl (hm367.sl 2 rfl) h380)) ?_
            refine s_ef0 (i := 7) rfl (by kernel_rfl) (ef_stl (k := 2) (off := 0) (x' := i274) hm367 tO3 rfl rfl rfl rfl h380 rfl rfl) (by decide) ?_ ?_
            · intro _ w383 hm382
              intro _
              exact ⟨(hb6.of_old hm382), (hb4.of_old hm382)⟩
            intro _ w383 hm382
            obtain ⟨x384, h385, q386⟩ := ob q381; clear q381
            refine s_rp (i := 8) rfl (by kernel_rfl) rfl (fun _ => (rd_index tS22 rfl rfl (hm382.sl 1 rfl) h385)) ?_
            refine s_ef0 (i := 9) rfl (by kernel_rfl) (ef_stl (k := 1) (off := 0) (x' := a0) hm382 tO3 rfl rfl rfl rfl h385 rfl rfl) (by decide) (fun _ _ _ q => absurd q (by decide)) ?_
            intro _ w388 hm387
            refine s_nil (by kernel_rfl) ?_
            refine qn_then ?_
            refine cw_seq ?_
            refine cw_region ?_
            refine t_rd rfl (rd_assign rfl) ?_
            refine rwt_nil ?_
            refine qn_then ?_
            refine cw_ret ?_
            refine qr_block (qr_then (qr_then ?_))
            obtain rfl := hr283 _ (os q386)
            refine .inl (⟨_, rfl, ⟨rfl, ?_⟩⟩)
            exact ret1 rfl rfl ⟨rfl, (Mem.bundle [ownL 4 v2 (r355.1 : List Bool), ownL 3 v4 ((List.set r355.2.1 (Int.toNat i274) a0) : List Int), ownL 3 v6 ((List.set r355.2.2.1 (Int.toNat a0) i274) : List Int)] [] (hm387.pick (L' := [ownL 4 v2 (r355.1 : List Bool), ownL 3 v4 ((List.set r355.2.1 (Int.toNat i274) a0) : List Int), ownL 3 v6 ((List.set r355.2.2.1 (Int.toNat a0) i274) : List Int)]) [0, 1, 2] (by decide) rfl))⟩
          · refine cw_f rfl hb363 ?_
            refine cw_skip ?_
            refine qn_block (qn_then ?_)
            refine cw_region ?_
            obtain ⟨x389, h390, q391⟩ := ob q364; clear q364
            refine t_rd rfl (rd_add64 h390 rfl rfl) ?_
            refine t_rd rfl (rd_move rfl) ?_
            refine rwt_nil ?_
            refine qn_then ?_
            refine ⟨_, (os q391), (by repeat (first | exact Sub.nil _ | refine Sub.cons rfl ?_)), (hm361.pick [0, 1, 2] (by decide) rfl)⟩
        · skip
          refine s_efg (i := 11) rfl (by kernel_rfl) rfl rfl rfl rfl (R := fun v w' => v = undef ∧ w' = w335) (gv_f _) (fun hg392 => bcontra hb350 hg392) (fun _ => ⟨rfl, rfl⟩) (by decide) (fun _ _ _ q => absurd q (by decide)) ?_
          rintro v_ w_ ⟨e1_, e2_⟩; rw [e1_, e2_]; clear e1_ e2_ v_ w_
          refine s_rp (i := 12) rfl (by kernel_rfl) rfl (fun _ => (rd_or (b := true) rfl (fun hc393 => bcontra hc393 (bnotf hb350)))) ?_
          refine s_nil (by kernel_rfl) ?_
          refine qn_then ?_
          obtain ⟨hb394, q395⟩ | ⟨hb394, q395⟩ := oi q351 <;> clear q351
          · refine cw_t rfl hb394 ?_
            refine cw_seq ?_
            obtain ⟨w397, he399⟩ : ∃ q, q = w335.drew := ⟨_, rfl⟩
            have hm398 := hm336.drew; rw [← he399] at hm398
            refine cw_region_s (fun q => BoxAt (Old w (bunC [ownL 4 v2 (a2 : List Bool), ownL 3 v4 (a4 : List Int), ownL 3 v6 (a6 : List Int)]).D) q gb6 v6 ∧ BoxAt (Old w (bunC [ownL 4 v2 (a2 : List Bool), ownL 3 v4 (a4 : List Int), ownL 3 v6 (a6 : List Int)]).D) q gb4 v4) (cls [7] [9]) mixed ?_
            rintro _ rfl; rw [← he399]
            refine s_rd (i := 0) rfl (by kernel_rfl) rfl (fun w396 hS => (rd_ld1 tO22 rfl (hS.1).2 (off := 0) rfl)) ⟨(hb6.of_old hm398), (hb4.of_old hm398)⟩ ?_
            refine s_rp (i := 1) rfl (by kernel_rfl) rfl (fun _ => (rd_move rfl)) ?_
            refine s_rd (i := 2) rfl (by kernel_rfl) rfl (fun w396 hS => (rd_ld1 tO22 rfl (hS.2).2 (off := 0) rfl)) ⟨(hb6.of_old hm398), (hb4.of_old hm398)⟩ ?_
            refine s_rp (i := 3) rfl (by kernel_rfl) rfl (fun _ => (rd_move rfl)) ?_
            refine s_rp (i := 4) rfl (by kernel_rfl) rfl (fun _ => (rd_move rfl)) ?_
            refine s_rp (i := 5) rfl (by kernel_rfl) rfl (fun _ => (rd_move rfl)) ?_
            obtain ⟨x410, h411, q412⟩ := ob q395; clear q395
            refine s_rp (i := 6) rfl (by kernel_rfl) rfl (fun _ => (rd_index tS22 rfl rfl (hm398.sl 3 rfl) h411)) ?_
            refine s_ef0 (i := 7) rfl (by kernel_rfl) (ef_stl (k := 3) (off := 0) (x' := i274) hm398 tO3 rfl rfl rfl rfl h411 rfl rfl) (by decide) ?_ ?_
            · intro _ w414 hm413
              intro _
              exact ⟨(hb6.of_old hm413), (hb4.of_old hm413)⟩
            intro _ w414 hm413
            obtain ⟨x415, h416, q417⟩ := ob q412; clear q412
            refine s_rp (i := 8) rfl (by kernel_rfl) rfl (fun _ => (rd_index tS22 rfl rfl (hm413.sl 2 rfl) h416)) ?_
            refine s_ef0 (i := 9) rfl (by kernel_rfl) (ef_stl (k := 2) (off := 0) (x' := a0) hm413 tO3 rfl rfl rfl rfl h416 rfl rfl) (by decide) (fun _ _ _ q => absurd q (by decide)) ?_
            intro _ w419 hm418
            refine s_nil (by kernel_rfl) ?_
            refine qn_then ?_
            refine cw_seq ?_
            refine cw_region ?_
            refine t_rd rfl (rd_assign rfl) ?_
            refine rwt_nil ?_
            refine qn_then ?_
            refine cw_ret ?_
            refine qr_block (qr_then (qr_then ?_))
            obtain rfl := hr283 _ (os q417)
            refine .inl (⟨_, rfl, ⟨rfl, ?_⟩⟩)
            exact ret1 rfl rfl ⟨rfl, (Mem.bundle [ownL 4 v2 ((List.set l275 (Int.toNat i274) true) : List Bool), ownL 3 v4 ((List.set l276 (Int.toNat i274) a0) : List Int), ownL 3 v6 ((List.set l277 (Int.toNat a0) i274) : List Int)] [] (hm418.pick (L' := [ownL 4 v2 ((List.set l275 (Int.toNat i274) true) : List Bool), ownL 3 v4 ((List.set l276 (Int.toNat i274) a0) : List Int), ownL 3 v6 ((List.set l277 (Int.toNat a0) i274) : List Int)]) [1, 2, 3] (by decide) rfl))⟩
          · refine cw_f rfl hb394 ?_
            refine cw_skip ?_
            refine qn_block (qn_then ?_)
            refine cw_region ?_
            obtain ⟨x420, h421, q422⟩ := ob q395; clear q395
            refine t_rd rfl (rd_add64 h421 rfl rfl) ?_
            refine t_rd rfl (rd_move rfl) ?_
            refine rwt_nil ?_
            refine qn_then ?_
            refine ⟨_, (os q422), (by repeat (first | exact Sub.nil _ | refine Sub.cons rfl ?_)), (hm336.pick [1, 2, 3] (by decide) rfl)⟩
    · refine cw_f rfl hb290 ?_
      refine cw_exit ?_
      refine qx_then (qx_then ?_)
      obtain rfl := hr283 _ (os q291)
      exact .inr (⟨_, rfl, ⟨rfl, (by repeat (first | exact Sub.nil _ | refine Sub.cons rfl ?_)), (hm289.pick [0, 1, 2] (by decide) rfl)⟩⟩)
  · skip
    intro e env423 w424 hX425
    rcases hX425 with hX425 | hX425
    · obtain ⟨p427, rfl, hX425⟩ := hX425
      obtain ⟨rfl, hq429⟩ := hX425
      exact qr_block (qr_then ((by have e := os q286; subst e; exact hq429)))
    · obtain ⟨p430, rfl, hX425⟩ := hX425
      obtain ⟨rfl, hs431, hm432⟩ := hX425
      refine qx_same (qn_then ?_)
      refine cw_sub hs431 ?_
      refine cw_seq ?_
      refine cw_region ?_
      refine t_rd rfl (rd_assign rfl) ?_
      refine rwt_nil ?_
      refine qn_then ?_
      refine cw_ret ?_
      obtain rfl := os q286
      exact ret1 rfl rfl ⟨rfl, (Mem.bundle [ownL 4 v2 (p430.1 : List Bool), ownL 3 v4 (p430.2.1 : List Int), ownL 3 v6 (p430.2.2 : List Int)] [] (hm432.pick (L' := [ownL 4 v2 (p430.1 : List Bool), ownL 3 v4 (p430.2.1 : List Int), ownL 3 v6 (p430.2.2 : List Int)]) [0, 1, 2] (by decide) rfl))⟩

theorem crew_match_1_ok {N : Nat} {a0 : Int} {a1 : List T_Crew} {a2 : List Bool} {a3 : List T_Task} {a4 : List Int} {a6 : List Int} {res : List Bool × List Int × List Int × Bool} (h : crew_match_1 N a0 a1 a2 a3 a4 a6 = some res) {w : World} {gb1 : Nat} {v1 : Value} {gb2 : Nat} {v2 : Value} {gb3 : Nat} {v3 : Value} {gb4 : Nat} {v4 : Value} {gb5 : Nat} {gb6 : Nat} {v6 : Value} (hv1 : Sl (Old w (bunC [ownL 4 v2 (a2 : List Bool), ownL 3 v4 (a4 : List Int), ownL 3 v6 (a6 : List Int)]).D) w v1 a1) (hb1 : BoxAt (Old w (bunC [ownL 4 v2 (a2 : List Bool), ownL 3 v4 (a4 : List Int), ownL 3 v6 (a6 : List Int)]).D) w gb1 v1) (hb2 : BoxAt (Old w (bunC [ownL 4 v2 (a2 : List Bool), ownL 3 v4 (a4 : List Int), ownL 3 v6 (a6 : List Int)]).D) w gb2 v2) (hv3 : Sl (Old w (bunC [ownL 4 v2 (a2 : List Bool), ownL 3 v4 (a4 : List Int), ownL 3 v6 (a6 : List Int)]).D) w v3 a3) (hb3 : BoxAt (Old w (bunC [ownL 4 v2 (a2 : List Bool), ownL 3 v4 (a4 : List Int), ownL 3 v6 (a6 : List Int)]).D) w gb3 v3) (hb4 : BoxAt (Old w (bunC [ownL 4 v2 (a2 : List Bool), ownL 3 v4 (a4 : List Int), ownL 3 v6 (a6 : List Int)]).D) w gb4 v4) (hb5 : BoxAt (Old w (bunC [ownL 4 v2 (a2 : List Bool), ownL 3 v4 (a4 : List Int), ownL 3 v6 (a6 : List Int)]).D) w gb5 (Value.func (.func 33) #[] #[(Value.pointer (some ⟨gb1, 0, none⟩)), (Value.pointer (some ⟨gb2, 0, none⟩)), (Value.pointer (some ⟨gb3, 0, none⟩)), (Value.pointer (some ⟨gb4, 0, none⟩)), (Value.pointer (some ⟨gb5, 0, none⟩)), (Value.pointer (some ⟨gb6, 0, none⟩))])) (hb6 : BoxAt (Old w (bunC [ownL 4 v2 (a2 : List Bool), ownL 3 v4 (a4 : List Int), ownL 3 v6 (a6 : List Int)]).D) w gb6 v6) (hkb : (bunC [ownL 4 v2 (a2 : List Bool), ownL 3 v4 (a4 : List Int), ownL 3 v6 (a6 : List Int)]).φ w) :
    CallsR Try.prog 33 [(Value.int .i64 a0), (Value.pointer (some ⟨gb1, 0, none⟩)), (Value.pointer (some ⟨gb2, 0, none⟩)), (Value.pointer (some ⟨gb3, 0, none⟩)), (Value.pointer (some ⟨gb4, 0, none⟩)), (Value.pointer (some ⟨gb5, 0, none⟩)), (Value.pointer (some ⟨gb6, 0, none⟩))] w (fun u w' => u = (Value.bool res.2.2.2) ∧ Mem w (bunC [ownL 4 v2 (a2 : List Bool), ownL 3 v4 (a4 : List Int), ownL 3 v6 (a6 : List Int)]).D [bunC [ownL 4 v2 (res.1 : List Bool), ownL 3 v4 (res.2.1 : List Int), ownL 3 v6 (res.2.2.1 : List Int)]] w') := crew_match_1_r_ok N h hv1 hb1 hb2 hv3 hb3 hb4 hb5 hb6 hkb

theorem crew_match_ok {N : Nat} {a0 : List T_Task} {a1 : List T_Crew} {res : List Int × List Int} (h : crew_match N a0 a1 = some res) {w : World} {v0 : Value} {v1 : Value} (hv0 : Sl (Old w No) w v0 a0) (hv1 : Sl (Old w No) w v1 a1) :
    CallsR Try.prog 24 [v0, v1] w (fun u w' => ∃ (y0 : Value) (y1 : Value), u = (Value.tuple #[y0, y1]) ∧ Mem w No [ownL 3 y0 (res.1 : List Int), ownL 3 y1 (res.2 : List Int)] w') := by
  unfold crew_match at h
  refine fn_ok Try.func24 rfl rfl rfl ?_
  have hm0 := Mem.nil w
  refine cw_seq ?_
  refine cw_region ?_
  refine t_ef rfl (ef_box hm0 rfl rfl) ?_
  rintro _ w3 ⟨g1, rfl, hm2⟩
  have cb4 : v0.cells.toList = [v0] := by obtain ⟨_, _, e⟩ := ((hv0.of_old hm0)).val; rw [e]; rfl
  simp only [cb4] at hm2
  refine t_ef rfl (ef_box hm2 rfl rfl) ?_
  rintro _ w7 ⟨g5, rfl, hm6⟩
  have cb8 : v1.cells.toList = [v1] := by obtain ⟨_, _, e⟩ := ((hv1.of_old hm2)).val; rw [e]; rfl
  simp only [cb8] at hm6
  refine t_ef rfl (ef_alloc hm6 tZ22 rfl) ?_
  rintro _ w11 ⟨g9, rfl, hm10⟩
  refine t_ef rfl (ef_alloc hm10 tZ22 rfl) ?_
  rintro _ w14 ⟨g12, rfl, hm13⟩
  refine rwt_nil ?_
  refine qn_then ?_
  refine cw_seq ?_
  have hm74 := hm13.addNil (α := Int) 3
  have hm75 := hm74.addNil (α := Int) 3
  obtain ⟨j139, hit140, q141⟩ := ob h; clear h
  refine cw_join (X := fun eq envq wq => eq = .normal ∧ ∃ (v138 : Value) (v136 : Value), Sub [(2, (Value.pointer (some ⟨g1, 0, none⟩))), (3, (Value.pointer (some ⟨g5, 0, none⟩))), (4, (Value.pointer (some ⟨g9, 0, none⟩))), (5, (Value.pointer (some ⟨g12, 0, none⟩)))] envq ∧ Mem w No [ownL 3 v138 (j139.2 : List Int), ownL 3 v136 (j139.1 : List Int), blk g12 22 [v136], blk g9 22 [v138], blk g5 26 [v1], blk g1 25 [v0]] wq) ?_ ?_
  · clear q141
    obtain ⟨w143, he145⟩ : ∃ q, q = w14.drew := ⟨_, rfl⟩
    have hm144 := hm75.drew; rw [← he145] at hm144
    refine cw_region_s (fun q => (blk g1 25 [v0]).φ q ∧ (blk g5 26 [v1]).φ q) (cls [2, 5, 6] [7]) mixed ?_
    rintro _ rfl; rw [← he145]
    refine s_rd (i := 0) rfl (by kernel_rfl) rfl (fun w142 hS => (rd_ld1 tO25 rfl (cells_blk hS.1) (off := 0) rfl)) ⟨(hm144.get (k := 5) rfl), (hm144.get (k := 4) rfl)⟩ ?_
    refine s_rp (i := 1) rfl (by kernel_rfl) rfl (fun _ => (rd_lenS tS25 rfl (hv0.of_old hm144))) ?_
    refine s_rd (i := 3) rfl (by kernel_rfl) rfl (fun w142 hS => (rd_ld1 tO26 rfl (cells_blk hS.2) (off := 0) rfl)) ⟨(hm144.get (k := 5) rfl), (hm144.get (k := 4) rfl)⟩ ?_
    refine s_rp (i := 4) rfl (by kernel_rfl) rfl (fun _ => (rd_lenS tS26 rfl (hv1.of_old hm144))) ?_
    refine s_br2 (i := 2) (j := 5) (by kernel_rfl) ?_ ?_
    · skip
      obtain ⟨l162, h163, q164⟩ := ob hit140; clear hit140
      refine e_ef (i := 2) rfl rfl (ef_make hm144 tS22 tE3 rfl rfl rfl h163) (by decide) ?_ ?_
      · intro v165 w167 hm166
        intro _
        exact ⟨(hm166.get (k := 6) rfl), (hm166.get (k := 5) rfl)⟩
      intro v165 w167 hm166
      refine s_br2 (i := 5) (j := 6) (by kernel_rfl) ?_ ?_
      · skip
        obtain ⟨l168, h169, q170⟩ := ob q164; clear q164
        refine e_ef (i := 5) rfl rfl (ef_make hm166 tS22 tE3 rfl rfl rfl h169) (by decide) ?_ ?_
        · intro v171 w173 hm172
          intro _
          exact ⟨(hm172.get (k := 7) rfl), (hm172.get (k := 6) rfl)⟩
        intro v171 w173 hm172
        refine s_ef0 (i := 6) rfl (by kernel_rfl) (ef_st1 (k := 5) (off := 0) hm172 tO22 rfl rfl rfl (sl_one (hm172.sl 1 rfl)) rfl rfl) (by decide) ?_ ?_
        · intro _ w175 hm174
          intro _
          exact ⟨(hm174.get (k := 7) rfl), (hm174.get (k := 6) rfl)⟩
        intro _ w175 hm174
        refine s_ef0 (i := 7) rfl (by kernel_rfl) (ef_st1 (k := 4) (off := 0) hm174 tO22 rfl rfl rfl (sl_one (hm174.sl 0 rfl)) rfl rfl) (by decide) (fun _ _ _ q => absurd q (by decide)) ?_
        intro _ w177 hm176
        refine s_nil (by kernel_rfl) ?_
        obtain rfl := os q170
        exact ⟨rfl, v165, v171, (by repeat (first | exact Sub.nil _ | refine Sub.cons rfl ?_)), (hm176.pick [1, 0, 4, 5, 6, 7] (by decide) rfl)⟩
      · skip
        refine e_ef0 (i := 6) rfl (ef_st1 (k := 4) (off := 0) hm166 tO22 rfl rfl rfl (sl_one (hm166.sl 0 rfl)) rfl rfl) (by decide) ?_ ?_
        · intro _ w179 hm178
          intro _
          exact ⟨(hm178.get (k := 6) rfl), (hm178.get (k := 5) rfl)⟩
        intro _ w179 hm178
        obtain ⟨l168, h180, q181⟩ := ob q164; clear q164
        refine s_ef (i := 5) rfl (by kernel_rfl) rfl (ef_make hm178 tS22 tE3 rfl rfl rfl h180) (by decide) ?_ ?_
        · intro v182 w184 hm183
          intro _
          exact ⟨(hm183.get (k := 7) rfl), (hm183.get (k := 6) rfl)⟩
        intro v182 w184 hm183
        refine s_ef0 (i := 7) rfl (by kernel_rfl) (ef_st1 (k := 4) (off := 0) hm183 tO22 rfl rfl rfl (sl_one (hm183.sl 0 rfl)) rfl rfl) (by decide) (fun _ _ _ q => absurd q (by decide)) ?_
        intro _ w186 hm185
        refine s_nil (by kernel_rfl) ?_
        obtain rfl := os q181
        exact ⟨rfl, v165, v182, (by repeat (first | exact Sub.nil _ | refine Sub.cons rfl ?_)), (hm185.pick [1, 0, 4, 5, 6, 7] (by decide) rfl)⟩
    · skip
      obtain ⟨l162, h187, q188⟩ := ob hit140; clear hit140
      obtain ⟨l168, h189, q190⟩ := ob q188; clear q188
      refine e_ef (i := 5) rfl rfl (ef_make hm144 tS22 tE3 rfl rfl rfl h189) (by decide) ?_ ?_
      · intro v191 w193 hm192
        intro _
        exact ⟨(hm192.get (k := 6) rfl), (hm192.get (k := 5) rfl)⟩
      intro v191 w193 hm192
      refine s_ef (i := 2) rfl (by kernel_rfl) rfl (ef_make hm192 tS22 tE3 rfl rfl rfl h187) (by decide) ?_ ?_
      · intro v194 w196 hm195
        intro _
        exact ⟨(hm195.get (k := 7) rfl), (hm195.get (k := 6) rfl)⟩
      intro v194 w196 hm195
      refine s_ef0 (i := 6) rfl (by kernel_rfl) (ef_st1 (k := 5) (off := 0) hm195 tO22 rfl rfl rfl (sl_one (hm195.sl 0 rfl)) rfl rfl) (by decide) ?_ ?_
      · intro _ w198 hm197
        intro _
        exact ⟨(hm197.get (k := 7) rfl), (hm197.get (k := 6) rfl)⟩
      intro _ w198 hm197
      refine s_ef0 (i := 7) rfl (by kernel_rfl) (ef_st1 (k := 4) (off := 0) hm197 tO22 rfl rfl rfl (sl_one (hm197.sl 1 rfl)) rfl rfl) (by decide) (fun _ _ _ q => absurd q (by decide)) ?_
      intro _ w200 hm199
      refine s_nil (by kernel_rfl) ?_
      obtain rfl := os q190
      exact ⟨rfl, v194, v191, (by repeat (first | exact Sub.nil _ | refine Sub.cons rfl ?_)), (hm199.pick [0, 1, 4, 5, 6, 7] (by decide) rfl)⟩
  · clear hit140
    intro e env201 w202 hX203
    obtain ⟨rfl, v138, v136, hs204, hm205⟩ := hX203
    refine qn_then ?_
    refine cw_sub hs204 ?_
    refine cw_seq ?_
    refine cw_seq ?_
    refine cw_region ?_
    refine t_rd rfl (rd_ld1 tO22 rfl (hm205.blk 3 rfl) (off := 0) rfl) ?_
    refine t_rd rfl (rd_lenS tS22 rfl (hm205.sl 0 rfl)) ?_
    refine t_rd rfl (rd_move rfl) ?_
    refine rwt_nil ?_
    refine qn_then ?_
    refine cw_block ?_
    obtain ⟨r237, hit238, q239⟩ := ob q141; clear q141
    refine cw_loop2 (I := fun q envq wq => Sub [(2, (Value.pointer (some ⟨g1, 0, none⟩))), (3, (Value.pointer (some ⟨g5, 0, none⟩))), (4, (Value.pointer (some ⟨g9, 0, none⟩))), (5, (Value.pointer (some ⟨g12, 0, none⟩))), (18, (Value.int .i64 (List.length j139.2 : Int))), (19, (Value.int .i64 q.1))] envq ∧ Mem w No [ownL 3 v138 (q.2 : List Int), ownL 3 v136 (j139.1 : List Int), blk g12 22 [v136], blk g9 22 [v138], blk g5 26 [v1], blk g1 25 [v0]] wq) (X := fun eq envq wq => eq = .exit 0 ∧ Sub [(2, (Value.pointer (some ⟨g1, 0, none⟩))), (3, (Value.pointer (some ⟨g5, 0, none⟩))), (4, (Value.pointer (some ⟨g9, 0, none⟩))), (5, (Value.pointer (some ⟨g12, 0, none⟩)))] envq ∧ Mem w No [ownL 3 v138 (r237 : List Int), ownL 3 v136 (j139.1 : List Int), blk g12 22 [v136], blk g9 22 [v138], blk g5 26 [v1], blk g1 25 [v0]] wq) hit238 ⟨(by repeat (first | exact Sub.nil _ | refine Sub.cons rfl ?_)), (hm205.pick [0, 1, 2, 3, 4, 5] (by decide) rfl)⟩ ?_ ?_
    · rintro ⟨i229, l230⟩ x232 env233 w234 hf235 hr236 ⟨hs_, hm_⟩
      have hs_ : Sub [(2, (Value.pointer (some ⟨g1, 0, none⟩))), (3, (Value.pointer (some ⟨g5, 0, none⟩))), (4, (Value.pointer (some ⟨g9, 0, none⟩))), (5, (Value.pointer (some ⟨g12, 0, none⟩))), (18, (Value.int .i64 (List.length j139.2 : Int))), (19, (Value.int .i64 i229))] env233 := hs_
      have hm240 : Mem w No [ownL 3 v138 (l230 : List Int), ownL 3 v136 (j139.1 : List Int), blk g12 22 [v136], blk g9 22 [v138], blk g5 26 [v1], blk g1 25 [v0]] w234 := hm_
      refine cw_sub hs_ ?_
      clear hs_ hm_ q239
      have h : crew_match_l1 N j139 i229 l230 = some x232 := hf235
      clear hf235
      refine cw_seq ?_
      refine cw_region ?_
      refine t_rd rfl (rd_lss rfl rfl) ?_
      refine rwt_nil ?_
      refine qn_then ?_
      refine cw_seq ?_
      obtain ⟨hb241, q242⟩ | ⟨hb241, q242⟩ := oi h <;> clear h
      · refine cw_t rfl hb241 ?_
        refine cw_skip ?_
        refine qn_then ?_
        refine cw_seq ?_
        refine cw_block ?_
        refine cw_seq ?_
        refine cw_region ?_
        refine t_rd rfl (rd_move rfl) ?_
        refine t_rd rfl (rd_assign rfl) ?_
        refine rwt_nil ?_
        refine qn_then ?_
        refine cw_region ?_
        refine t_rd rfl (rd_ld1 tO22 rfl (hm240.blk 3 rfl) (off := 0) rfl) ?_
        refine t_rd rfl (rd_move rfl) ?_
        obtain ⟨x243, h244, q245⟩ := ob q242; clear q242
        refine t_rd rfl (rd_index tS22 rfl rfl (hm240.sl 0 rfl) h244) ?_
        refine t_ef0 (ef_stl (k := 0) (off := 0) (x' := (-1)) hm240 tO3 rfl rfl rfl rfl h244 rfl rfl) ?_
        intro _ w247 hm246
        refine rwt_nil ?_
        refine qn_block (qn_then ?_)
        refine cw_region ?_
        obtain ⟨x248, h249, q250⟩ := ob q245; clear q245
        refine t_rd rfl (rd_add64 h249 rfl rfl) ?_
        refine t_rd rfl (rd_move rfl) ?_
        refine rwt_nil ?_
        refine qn_then ?_
        refine ⟨_, (os q250), (by repeat (first | exact Sub.nil _ | refine Sub.cons rfl ?_)), (hm246.pick [0, 1, 2, 3, 4, 5] (by decide) rfl)⟩
      · refine cw_f rfl hb241 ?_
        refine cw_exit ?_
        refine qx_then (qx_then ?_)
        obtain rfl := hr236 _ (os q242)
        exact ⟨rfl, (by repeat (first | exact Sub.nil _ | refine Sub.cons rfl ?_)), (hm240.pick [0, 1, 2, 3, 4, 5] (by decide) rfl)⟩
    · skip
      intro e env251 w252 hX253
      obtain ⟨rfl, hs254, hm255⟩ := hX253
      refine qx_same (qn_then ?_)
      refine cw_sub hs254 ?_
      refine cw_seq ?_
      refine cw_seq ?_
      refine cw_region ?_
      refine t_rd rfl (rd_ld1 tO22 rfl (hm255.blk 2 rfl) (off := 0) rfl) ?_
      refine t_rd rfl (rd_lenS tS22 rfl (hm255.sl 1 rfl)) ?_
      refine t_rd rfl (rd_move rfl) ?_
      refine rwt_nil ?_
      refine qn_then ?_
      refine cw_block ?_
      obtain ⟨r287, hit288, q289⟩ := ob q239; clear q239
      refine cw_loop2 (I := fun q envq wq => Sub [(2, (Value.pointer (some ⟨g1, 0, none⟩))), (3, (Value.pointer (some ⟨g5, 0, none⟩))), (4, (Value.pointer (some ⟨g9, 0, none⟩))), (5, (Value.pointer (some ⟨g12, 0, none⟩))), (27, (Value.int .i64 (List.length j139.1 : Int))), (28, (Value.int .i64 q.1))] envq ∧ Mem w No [ownL 3 v138 (r237 : List Int), ownL 3 v136 (q.2 : List Int), blk g12 22 [v136], blk g9 22 [v138], blk g5 26 [v1], blk g1 25 [v0]] wq) (X := fun eq envq wq => eq = .exit 2 ∧ Sub [(2, (Value.pointer (some ⟨g1, 0, none⟩))), (3, (Value.pointer (some ⟨g5, 0, none⟩))), (4, (Value.pointer (some ⟨g9, 0, none⟩))), (5, (Value.pointer (some ⟨g12, 0, none⟩)))] envq ∧ Mem w No [ownL 3 v138 (r237 : List Int), ownL 3 v136 (r287 : List Int), blk g12 22 [v136], blk g9 22 [v138], blk g5 26 [v1], blk g1 25 [v0]] wq) hit288 ⟨(by repeat (first | exact Sub.nil _ | refine Sub.cons rfl ?_)), (hm255.pick [0, 1, 2, 3, 4, 5] (by decide) rfl)⟩ ?_ ?_
      · rintro ⟨i279, l280⟩ x282 env283 w284 hf285 hr286 ⟨hs_, hm_⟩
        have hs_ : Sub [(2, (Value.pointer (some ⟨g1, 0, none⟩))), (3, (Value.pointer (some ⟨g5, 0, none⟩))), (4, (Value.pointer (some ⟨g9, 0, none⟩))), (5, (Value.pointer (some ⟨g12, 0, none⟩))), (27, (Value.int .i64 (List.length j139.1 : Int))), (28, (Value.int .i64 i279))] env283 := hs_
        have hm290 : Mem w No [ownL 3 v138 (r237 : List Int), ownL 3 v136 (l280 : List Int), blk g12 22 [v136], blk g9 22 [v138], blk g5 26 [v1], blk g1 25 [v0]] w284 := hm_
        refine cw_sub hs_ ?_
        clear hs_ hm_ q289
        have h : crew_match_l2 N j139 i279 l280 = some x282 := hf285
        clear hf285
        refine cw_seq ?_
        refine cw_region ?_
        refine t_rd rfl (rd_lss rfl rfl) ?_
        refine rwt_nil ?_
        refine qn_then ?_
        refine cw_seq ?_
        obtain ⟨hb291, q292⟩ | ⟨hb291, q292⟩ := oi h <;> clear h
        · refine cw_t rfl hb291 ?_
          refine cw_skip ?_
          refine qn_then ?_
          refine cw_seq ?_
          refine cw_block ?_
          refine cw_seq ?_
          refine cw_region ?_
          refine t_rd rfl (rd_move rfl) ?_
          refine t_rd rfl (rd_assign rfl) ?_
          refine rwt_nil ?_
          refine qn_then ?_
          refine cw_region ?_
          refine t_rd rfl (rd_ld1 tO22 rfl (hm290.blk 2 rfl) (off := 0) rfl) ?_
          refine t_rd rfl (rd_move rfl) ?_
          obtain ⟨x293, h294, q295⟩ := ob q292; clear q292
          refine t_rd rfl (rd_index tS22 rfl rfl (hm290.sl 1 rfl) h294) ?_
          refine t_ef0 (ef_stl (k := 1) (off := 0) (x' := (-1)) hm290 tO3 rfl rfl rfl rfl h294 rfl rfl) ?_
          intro _ w297 hm296
          refine rwt_nil ?_
          refine qn_block (qn_then ?_)
          refine cw_region ?_
          obtain ⟨x298, h299, q300⟩ := ob q295; clear q295
          refine t_rd rfl (rd_add64 h299 rfl rfl) ?_
          refine t_rd rfl (rd_move rfl) ?_
          refine rwt_nil ?_
          refine qn_then ?_
          refine ⟨_, (os q300), (by repeat (first | exact Sub.nil _ | refine Sub.cons rfl ?_)), (hm296.pick [0, 1, 2, 3, 4, 5] (by decide) rfl)⟩
        · refine cw_f rfl hb291 ?_
          refine cw_exit ?_
          refine qx_then (qx_then ?_)
          obtain rfl := hr286 _ (os q292)
          exact ⟨rfl, (by repeat (first | exact Sub.nil _ | refine Sub.cons rfl ?_)), (hm290.pick [0, 1, 2, 3, 4, 5] (by decide) rfl)⟩
      · skip
        intro e env301 w302 hX303
        obtain ⟨rfl, hs304, hm305⟩ := hX303
        refine qx_same (qn_then ?_)
        refine cw_sub hs304 ?_
        refine cw_seq ?_
        refine cw_seq ?_
        refine cw_region ?_
        refine t_rd rfl (rd_ld1 tO25 rfl (hm305.blk 5 rfl) (off := 0) rfl) ?_
        refine t_rd rfl (rd_lenS tS25 rfl (hv0.of_old hm305)) ?_
        refine t_rd rfl (rd_move rfl) ?_
        refine rwt_nil ?_
        refine qn_then ?_
        refine cw_block ?_
        obtain ⟨r380, hit381, q382⟩ := ob q289; clear q289
        refine cw_loop2 (I := fun q envq wq => Sub [(2, (Value.pointer (some ⟨g1, 0, none⟩))), (3, (Value.pointer (some ⟨g5, 0, none⟩))), (4, (Value.pointer (some ⟨g9, 0, none⟩))), (5, (Value.pointer (some ⟨g12, 0, none⟩))), (36, (Value.int .i64 (List.length a0 : Int))), (37, (Value.int .i64 q.1))] envq ∧ Mem w No [ownL 3 v138 (q.2.2 : List Int), ownL 3 v136 (q.2.1 : List Int), blk g12 22 [v136], blk g9 22 [v138], blk g5 26 [v1], blk g1 25 [v0]] wq) (X := fun eq envq wq => eq = .exit 4 ∧ Sub [(4, (Value.pointer (some ⟨g9, 0, none⟩))), (5, (Value.pointer (some ⟨g12, 0, none⟩)))] envq ∧ Mem w No [ownL 3 v138 (r380.2 : List Int), ownL 3 v136 (r380.1 : List Int), blk g12 22 [v136], blk g9 22 [v138]] wq) hit381 ⟨(by repeat (first | exact Sub.nil _ | refine Sub.cons rfl ?_)), (hm305.pick [0, 1, 2, 3, 4, 5] (by decide) rfl)⟩ ?_ ?_
        · rintro ⟨i371, l372, l373⟩ x375 env376 w377 hf378 hr379 ⟨hs_, hm_⟩
          have hs_ : Sub [(2, (Value.pointer (some ⟨g1, 0, none⟩))), (3, (Value.pointer (some ⟨g5, 0, none⟩))), (4, (Value.pointer (some ⟨g9, 0, none⟩))), (5, (Value.pointer (some ⟨g12, 0, none⟩))), (36, (Value.int .i64 (List.length a0 : Int))), (37, (Value.int .i64 i371))] env376 := hs_
          have hm383 : Mem w No [ownL 3 v138 (l373 : List Int), ownL 3 v136 (l372 : List Int), blk g12 22 [v136], blk g9 22 [v138], blk g5 26 [v1], blk g1 25 [v0]] w377 := hm_
          refine cw_sub hs_ ?_
          clear hs_ hm_ q382
          have h : crew_match_l3 N a0 a1 i371 l372 l373 = some x375 := hf378
          clear hf378
          refine cw_seq ?_
          refine cw_region ?_
          refine t_rd rfl (rd_lss rfl rfl) ?_
          refine rwt_nil ?_
          refine qn_then ?_
          refine cw_seq ?_
          obtain ⟨hb384, q385⟩ | ⟨hb384, q385⟩ := oi h <;> clear h
          · refine cw_t rfl hb384 ?_
            refine cw_skip ?_
            refine qn_then ?_
            refine cw_seq ?_
            refine cw_block ?_
            refine cw_seq ?_
            refine cw_region ?_
            refine t_rd rfl (rd_move rfl) ?_
            refine t_rd rfl (rd_assign rfl) ?_
            refine rwt_nil ?_
            refine qn_then ?_
            refine cw_seq ?_
            refine cw_region ?_
            refine t_rd rfl (rd_ld1 tO26 rfl (hm383.blk 4 rfl) (off := 0) rfl) ?_
            refine t_rd rfl (rd_lenS tS26 rfl (hv1.of_old hm383)) ?_
            obtain ⟨l386, h387, q388⟩ := ob q385; clear q385
            refine t_ef rfl (ef_make hm383 tS33 tE4 rfl rfl rfl h387) ?_
            intro v389 w391 hm390
            refine t_ef rfl (ef_alloc hm390 tZ33 rfl) ?_
            rintro _ w394 ⟨g392, rfl, hm393⟩
            refine t_ef0 (ef_st1 (k := 0) (off := 0) hm393 tO33 rfl rfl rfl (sl_one (hm393.sl 1 rfl)) rfl rfl) ?_
            intro _ w396 hm395
            refine rwt_nil ?_
            refine qn_then ?_
            refine cw_seq ?_
            refine cw_region ?_
            refine t_ef rfl (ef_alloc hm395 tZ68 rfl) ?_
            rintro _ w399 ⟨g397, rfl, hm398⟩
            refine rwt_nil ?_
            refine qn_then ?_
            refine cw_seq ?_
            refine cw_region ?_
            refine t_rd rfl (rd_makeFunc rfl) ?_
            refine t_ef0 (ef_st1 (k := 0) (off := 0) hm398 tO68 rfl rfl rfl rfl rfl rfl) ?_
            intro _ w401 hm400
            refine rwt_nil ?_
            refine qn_then ?_
            refine cw_region ?_
            refine t_rd rfl (rd_ld1 tO68 rfl (hm400.blk 0 rfl) (off := 0) rfl) ?_
            refine t_rd rfl (rd_move rfl) ?_
            have hm402 := hm400.pick [2, 4, 3, 0, 1, 5, 6, 7, 8] (L' := [ownL 4 v389 (l386 : List Bool), ownL 3 v136 (l372 : List Int), ownL 3 v138 (l373 : List Int), blk g397 68 [(Value.func (.func 33) #[] #[(Value.pointer (some ⟨g5, 0, none⟩)), (Value.pointer (some ⟨g392, 0, none⟩)), (Value.pointer (some ⟨g1, 0, none⟩)), (Value.pointer (some ⟨g12, 0, none⟩)), (Value.pointer (some ⟨g397, 0, none⟩)), (Value.pointer (some ⟨g9, 0, none⟩))])], blk g392 33 [v389], blk g12 22 [v136], blk g9 22 [v138], blk g5 26 [v1], blk g1 25 [v0]]) (by decide) rfl
            have hm403 := hm402.bundle [ownL 4 v389 (l386 : List Bool), ownL 3 v136 (l372 : List Int), ownL 3 v138 (l373 : List Int)] [blk g397 68 [(Value.func (.func 33) #[] #[(Value.pointer (some ⟨g5, 0, none⟩)), (Value.pointer (some ⟨g392, 0, none⟩)), (Value.pointer (some ⟨g1, 0, none⟩)), (Value.pointer (some ⟨g12, 0, none⟩)), (Value.pointer (some ⟨g397, 0, none⟩)), (Value.pointer (some ⟨g9, 0, none⟩))])], blk g392 33 [v389], blk g12 22 [v136], blk g9 22 [v138], blk g5 26 [v1], blk g1 25 [v0]]
            obtain ⟨r404, h405, q406⟩ := ob q388; clear q388
            refine t_ef rfl (ef_callv tf33 rfl rfl (crew_match_1_ok h405 (hv1.to_callT (k := 0) hm403 rfl) (hm403.boxAt_callT 5 0 rfl rfl (by decide)) (hm403.boxAt_callT 2 0 rfl rfl (by decide)) (hv0.to_callT (k := 0) hm403 rfl) (hm403.boxAt_callT 6 0 rfl rfl (by decide)) (hm403.boxAt_callT 3 0 rfl rfl (by decide)) (hm403.boxAt_callT 1 0 rfl rfl (by decide)) (hm403.boxAt_callT 4 0 rfl rfl (by decide)) (hm403.get (k := 0) rfl))) ?_
            rintro _ w408 ⟨e_, hm407⟩
            obtain rfl := e_.symm
            have hm409 := hm403.callT (k := 0) rfl (fun _ h => h) hm407 (fun _ => Iff.rfl)
            have hm410 := hm409.unbundle [ownL 4 v389 (r404.1 : List Bool), ownL 3 v136 (r404.2.1 : List Int), ownL 3 v138 (r404.2.2.1 : List Int)] [blk g397 68 [(Value.func (.func 33) #[] #[(Value.pointer (some ⟨g5, 0, none⟩)), (Value.pointer (some ⟨g392, 0, none⟩)), (Value.pointer (some ⟨g1, 0, none⟩)), (Value.pointer (some ⟨g12, 0, none⟩)), (Value.pointer (some ⟨g397, 0, none⟩)), (Value.pointer (some ⟨g9, 0, none⟩))])], blk g392 33 [v389], blk g12 22 [v136], blk g9 22 [v138], blk g5 26 [v1], blk g1 25 [v0]]
            refine rwt_nil ?_
            refine qn_block (qn_then ?_)
            refine cw_region ?_
            obtain ⟨x411, h412, q413⟩ := ob q406; clear q406
            refine t_rd rfl (rd_add64 h412 rfl rfl) ?_
            refine t_rd rfl (rd_move rfl) ?_
            refine rwt_nil ?_
            refine qn_then ?_
            refine ⟨_, (os q413), (by repeat (first | exact Sub.nil _ | refine Sub.cons rfl ?_)), (hm410.pick [2, 1, 5, 6, 7, 8] (by decide) rfl)⟩
          · refine cw_f rfl hb384 ?_
            refine cw_exit ?_
            refine qx_then (qx_then ?_)
            obtain rfl := hr379 _ (os q385)
            exact ⟨rfl, (by repeat (first | exact Sub.nil _ | refine Sub.cons rfl ?_)), (hm383.pick [0, 1, 2, 3] (by decide) rfl)⟩
        · skip
          intro e env414 w415 hX416
          obtain ⟨rfl, hs417, hm418⟩ := hX416
          refine qx_same (qn_then ?_)
          refine cw_sub hs417 ?_
          refine cw_seq ?_
          obtain ⟨w420, he422⟩ : ∃ q, q = w415.drew := ⟨_, rfl⟩
          have hm421 := hm418.drew; rw [← he422] at hm421
          refine cw_region_s (fun q => (blk g9 22 [v138]).φ q ∧ (blk g12 22 [v136]).φ q) (cls [2] [3]) mixed ?_
          rintro _ rfl; rw [← he422]
          refine s_rd (i := 0) rfl (by kernel_rfl) rfl (fun w419 hS => (rd_ld1 tO22 rfl (cells_blk hS.1) (off := 0) rfl)) ⟨(hm421.get (k := 3) rfl), (hm421.get (k := 2) rfl)⟩ ?_
          refine s_rd (i := 1) rfl (by kernel_rfl) rfl (fun w419 hS => (rd_ld1 tO22 rfl (cells_blk hS.2) (off := 0) rfl)) ⟨(hm421.get (k := 3) rfl), (hm421.get (k := 2) rfl)⟩ ?_
          refine s_ef0 (i := 2) rfl (by kernel_rfl) (ef_st1 (k := 3) (off := 0) hm421 tO22 rfl rfl rfl (sl_one (hm421.sl 0 rfl)) rfl rfl) (by decide) ?_ ?_
          · intro _ w428 hm427
            intro _
            exact ⟨(hm427.get (k := 3) rfl), (hm427.get (k := 2) rfl)⟩
          intro _ w428 hm427
          refine s_ef0 (i := 3) rfl (by kernel_rfl) (ef_st1 (k := 2) (off := 0) hm427 tO22 rfl rfl rfl (sl_one (hm427.sl 1 rfl)) rfl rfl) (by decide) (fun _ _ _ q => absurd q (by decide)) ?_
          intro _ w430 hm429
          refine s_nil (by kernel_rfl) ?_
          refine qn_then ?_
          refine cw_ret ?_
          obtain rfl := os q382
          exact retLn (rs := [.cell 4 22, .cell 5 22]) rfl (.ro rfl tO22 (hm429.blk 3 rfl) rfl (.ro rfl tO22 (hm429.blk 2 rfl) rfl .rn)) rfl ⟨v138, v136, rfl, (hm429.pick [0, 1] (by decide) rfl)⟩

theorem crew_Assign_ok {N : Nat} {a0 : List T_Task} {a1 : List T_Crew} {res : List T_Pair × Int} (h : crew_Assign N a0 a1 = some res) {w : World} {v0 : Value} {v1 : Value} (hv0 : Sl (Old w No) w v0 a0) (hv1 : Sl (Old w No) w v1 a1) :
    CallsR Try.prog 9 [v0, v1] w (fun u w' => ∃ (y0 : Value), u = (Value.tuple #[y0, (Value.int .i64 res.2)]) ∧ Mem w No [ownL 41 y0 (res.1 : List T_Pair)] w') := by
  unfold crew_Assign at h
  refine fn_ok Try.func9 rfl rfl rfl ?_
  have hm0 := Mem.nil w
  refine cw_seq ?_
  refine cw_region ?_
  refine t_rd rfl (rd_assign rfl) ?_
  refine t_rd rfl (rd_assign rfl) ?_
  refine rwt_nil ?_
  refine qn_then ?_
  refine cw_seq ?_
  refine cw_seq ?_
  refine cw_region ?_
  refine t_rd rfl (rd_move rfl) ?_
  refine t_rd rfl (rd_move rfl) ?_
  obtain ⟨r1, h2, q3⟩ := ob h; clear h
  refine t_ef rfl (ef_call tf23 rfl (crew_check_ok h2 (hv0.to_call hm0) (hv1.to_call hm0))) ?_
  rintro _ w5 ⟨e_, hm4⟩
  obtain rfl := e_.symm
  have hm6 := hm0.call hm4
  refine t_rd rfl (rd_assign rfl) ?_
  refine rwt_nil ?_
  refine qn_then ?_
  refine cw_seq ?_
  refine cw_region ?_
  refine t_rd rfl (rd_move rfl) ?_
  refine t_rd rfl (rd_neq rfl rfl) ?_
  refine rwt_nil ?_
  refine qn_then ?_
  obtain ⟨hb7, q8⟩ | ⟨hb7, q8⟩ := oi q3 <;> clear q3
  · refine cw_t rfl hb7 ?_
    refine cw_seq ?_
    refine cw_region ?_
    refine t_rd rfl (rd_move rfl) ?_
    refine t_rd rfl (rd_assign rfl) ?_
    refine t_rd rfl (rd_assign rfl) ?_
    refine rwt_nil ?_
    refine qn_then ?_
    refine cw_ret ?_
    refine qr_then ?_
    obtain rfl := os q8
    have hm9 := hm6.addNil (α := T_Pair) 41
    exact ret2 rfl rfl rfl ⟨(Value.slice none 0 0), rfl, (hm9.pick [0] (by decide) rfl)⟩
  · refine cw_f rfl hb7 ?_
    refine cw_skip ?_
    refine qn_then ?_
    refine cw_seq ?_
    refine cw_region ?_
    refine t_rd rfl (rd_assign rfl) ?_
    refine rwt_nil ?_
    refine qn_then ?_
    refine cw_seq ?_
    refine cw_region ?_
    refine t_rd rfl (rd_move rfl) ?_
    refine t_rd rfl (rd_move rfl) ?_
    obtain ⟨r10, h11, q12⟩ := ob q8; clear q8
    refine t_ef rfl (ef_call tf24 rfl (crew_match_ok h11 (hv0.to_call hm6) (hv1.to_call hm6))) ?_
    rintro _ w16 ⟨v13, v14, e_, hm15⟩
    obtain rfl := e_.symm
    have hm17 := hm6.call hm15
    refine t_rd rfl (rd_move rfl) ?_
    refine t_rd rfl (rd_extract rfl rfl) ?_
    refine t_rd rfl (rd_extract rfl rfl) ?_
    refine t_rd rfl (rd_assign rfl) ?_
    refine t_rd rfl (rd_assign rfl) ?_
    refine rwt_nil ?_
    refine qn_then ?_
    refine cw_seq ?_
    refine cw_seq ?_
    refine cw_region ?_
    refine t_rd rfl (rd_move rfl) ?_
    refine t_rd rfl (rd_lenS tS22 rfl (hm17.sl 0 rfl)) ?_
    refine t_rd rfl (rd_move rfl) ?_
    refine rwt_nil ?_
    refine qn_then ?_
    refine cw_block ?_
    have hm41 := hm17.addNil (α := T_Pair) 41
    obtain ⟨r101, hit102, q103⟩ := ob q12; clear q12
    refine cw_loop2 (I := fun q envq wq => ∃ (v94 : Value), Sub [(7, v94), (24, v13), (25, (Value.int .i64 (List.length r10.1 : Int))), (26, (Value.int .i64 q.1))] envq ∧ Mem w No [ownL 41 v94 (q.2 : List T_Pair), ownL 3 v13 (r10.1 : List Int)] wq) (X := fun eq envq wq => eq = .exit 0 ∧ ∃ (v91 : Value), Sub [(7, v91)] envq ∧ Mem w No [ownL 41 v91 (r101 : List T_Pair)] wq) hit102 ⟨(Value.slice none 0 0), (by repeat (first | exact Sub.nil _ | refine Sub.cons rfl ?_)), (hm41.pick [0, 1] (by decide) rfl)⟩ ?_ ?_
    · rintro ⟨i92, l93⟩ x96 env97 w98 hf99 hr100 ⟨v94, hs_, hm_⟩
      have hs_ : Sub [(7, v94), (24, v13), (25, (Value.int .i64 (List.length r10.1 : Int))), (26, (Value.int .i64 i92))] env97 := hs_
      have hm104 : Mem w No [ownL 41 v94 (l93 : List T_Pair), ownL 3 v13 (r10.1 : List Int)] w98 := hm_
      refine cw_sub hs_ ?_
      clear hs_ hm_ q103
      have h : crew_Assign_l1 N r10 i92 l93 = some x96 := hf99
      clear hf99
      refine cw_seq ?_
      refine cw_region ?_
      refine t_rd rfl (rd_lss rfl rfl) ?_
      refine rwt_nil ?_
      refine qn_then ?_
      refine cw_seq ?_
      obtain ⟨hb105, q106⟩ | ⟨hb105, q106⟩ := oi h <;> clear h
      · refine cw_t rfl hb105 ?_
        refine cw_skip ?_
        refine qn_then ?_
        refine cw_seq ?_
        refine cw_block ?_
        refine cw_seq ?_
        refine cw_region ?_
        refine t_rd rfl (rd_move rfl) ?_
        obtain ⟨x107, h108, q109⟩ := ob q106; clear q106
        refine t_rd rfl (rd_index tS22 rfl rfl (hm104.sl 1 rfl) h108) ?_
        refine t_rd rfl (rd_ld1 tO3 rfl ((hm104.sl 1 rfl).cells h108) (off := 0) rfl) ?_
        refine t_rd rfl (rd_assign rfl) ?_
        refine t_rd rfl (rd_assign rfl) ?_
        refine rwt_nil ?_
        refine qn_then ?_
        refine cw_seq ?_
        refine cw_region ?_
        refine t_rd rfl (rd_move rfl) ?_
        refine t_rd rfl (rd_geq rfl rfl) ?_
        refine rwt_nil ?_
        refine qn_then ?_
        obtain ⟨hb110, q111⟩ | ⟨hb110, q111⟩ := oi q109 <;> clear q109
        · refine cw_t rfl hb110 ?_
          refine cw_region ?_
          refine t_rd rfl (rd_move rfl) ?_
          refine t_rd rfl (rd_move rfl) ?_
          refine t_rd rfl (rd_move rfl) ?_
          refine t_rd rfl (rd_build (cs := #[(Value.int .i64 i92), (Value.int .i64 x107)]) rfl (by kernel_rfl)) ?_
          refine t_ef rfl (ef_bslice (l := ([(T_Pair.mk i92 x107)] : List T_Pair)) hm104 tS29 rfl (cs := #[(Value.int .i64 i92), (Value.int .i64 x107)]) (by unfold bsl; kernel_rfl) rfl rfl) ?_
          intro v112 w114 hm113
          obtain ⟨l115, h116, q117⟩ := ob q111; clear q111
          refine t_ef rfl (ef_append (k := 1) hm113 tS29 tE41 rfl rfl rfl rfl (hm113.sl 0 rfl) h116) ?_
          intro v118 w120 hm119
          refine t_rd rfl (rd_assign rfl) ?_
          refine rwt_nil ?_
          refine qn_block (qn_then ?_)
          refine cw_region ?_
          obtain ⟨x121, h122, q123⟩ := ob q117; clear q117
          refine t_rd rfl (rd_add64 h122 rfl rfl) ?_
          refine t_rd rfl (rd_move rfl) ?_
          refine rwt_nil ?_
          refine qn_then ?_
          refine ⟨_, (os q123), v118, (by repeat (first | exact Sub.nil _ | refine Sub.cons rfl ?_)), (hm119.pick [1, 2] (by decide) rfl)⟩
        · refine cw_f rfl hb110 ?_
          refine cw_skip ?_
          refine qn_block (qn_then ?_)
          refine cw_region ?_
          obtain ⟨x124, h125, q126⟩ := ob q111; clear q111
          refine t_rd rfl (rd_add64 h125 rfl rfl) ?_
          refine t_rd rfl (rd_move rfl) ?_
          refine rwt_nil ?_
          refine qn_then ?_
          refine ⟨_, (os q126), v94, (by repeat (first | exact Sub.nil _ | refine Sub.cons rfl ?_)), (hm104.pick [0, 1] (by decide) rfl)⟩
      · refine cw_f rfl hb105 ?_
        refine cw_exit ?_
        refine qx_then (qx_then ?_)
        obtain rfl := hr100 _ (os q106)
        exact ⟨rfl, v94, (by repeat (first | exact Sub.nil _ | refine Sub.cons rfl ?_)), (hm104.pick [0] (by decide) rfl)⟩
    · skip
      intro e env127 w128 hX129
      obtain ⟨rfl, v91, hs130, hm131⟩ := hX129
      refine qx_same (qn_then ?_)
      refine cw_sub hs130 ?_
      refine cw_seq ?_
      refine cw_region ?_
      refine t_rd rfl (rd_move rfl) ?_
      refine t_rd rfl (rd_assign rfl) ?_
      refine t_rd rfl (rd_assign rfl) ?_
      refine rwt_nil ?_
      refine qn_then ?_
      refine cw_ret ?_
      obtain rfl := os q103
      exact ret2 rfl rfl rfl ⟨v91, rfl, (hm131.pick [0] (by decide) rfl)⟩

theorem r40_Fits_ok {N : Nat} {a0 : T_Task} {a1 : T_Crew} {res : Bool} (h : r40_Fits N a0 a1 = some res) {w : World}   :
    CallsR Try.prog 11 [(Value.agg (Flat.enc a0).toArray), (Value.agg (Flat.enc a1).toArray)] w (fun u w' => u = (Value.bool res) ∧ Mem w No [] w') := by
  unfold r40_Fits at h
  refine fn_ok Try.func11 rfl rfl rfl ?_
  have hm0 := Mem.nil w
  refine cw_seq ?_
  refine cw_region ?_
  refine t_ef rfl (ef_box hm0 rfl rfl) ?_
  rintro _ w3 ⟨g1, rfl, hm2⟩
  refine t_ef rfl (ef_box hm2 rfl rfl) ?_
  rintro _ w6 ⟨g4, rfl, hm5⟩
  refine t_rd rfl (rd_assign rfl) ?_
  refine rwt_nil ?_
  refine qn_then ?_
  refine cw_seq ?_
  refine cw_region ?_
  refine t_rd rfl (rd_fld tF39_0 rfl) ?_
  refine t_rd rfl (rd_ld1 tO3 rfl (hm5.blk 0 rfl) (off := 0) rfl) ?_
  refine t_rd rfl (rd_fld tF37_0 rfl) ?_
  refine t_rd rfl (rd_ld1 tO3 rfl (hm5.blk 1 rfl) (off := 0) rfl) ?_
  refine t_rd rfl (rd_leq rfl rfl) ?_
  refine t_rd rfl (rd_move rfl) ?_
  refine t_rdg rfl rfl rfl rfl (gv_t _) (fun hg7 => (rd_fld tF37_1 rfl)) ?_
  refine t_rdg rfl rfl rfl rfl (gv_t _) (fun hg8 => (rd_ld1 tO3 (gvx rfl hg8) (hm5.blk 1 rfl) (off := 1) rfl)) ?_
  refine t_rdg rfl rfl rfl rfl (gv_t _) (fun hg9 => (rd_fld tF39_1 rfl)) ?_
  refine t_rdg rfl rfl rfl rfl (gv_t _) (fun hg10 => (rd_ld1 tO3 (gvx rfl hg10) (hm5.blk 0 rfl) (off := 1) rfl)) ?_
  refine t_rdg rfl rfl rfl rfl (gv_t _) (fun hg11 => (rd_leq (gvx rfl hg11) (gvx rfl hg11))) ?_
  refine t_rd rfl (rd_and rfl (fun hc12 => (gvx rfl hc12))) ?_
  refine t_rd rfl (rd_move rfl) ?_
  refine t_rdg rfl rfl rfl rfl (gv_t _) (fun hg13 => (rd_fld tF37_1 rfl)) ?_
  refine t_rdg rfl rfl rfl rfl (gv_t _) (fun hg14 => (rd_ld1 tO3 (gvx rfl hg14) (hm5.blk 1 rfl) (off := 1) rfl)) ?_
  refine t_rdg rfl rfl rfl rfl (gv_t _) (fun hg15 => (rd_fld tF37_0 rfl)) ?_
  refine t_rdg rfl rfl rfl rfl (gv_t _) (fun hg16 => (rd_ld1 tO3 (gvx rfl hg16) (hm5.blk 1 rfl) (off := 0) rfl)) ?_
  obtain ⟨x18, h19, q20⟩ := ob h; clear h
  refine t_rdg rfl rfl rfl rfl (gv_t _) (fun hg17 => (rd_sub64 (gO_t h19 hg17) (gvx rfl hg17) (gvx rfl hg17))) ?_
  refine t_rdg rfl rfl rfl rfl (gv_t _) (fun hg21 => (rd_fld tF39_2 rfl)) ?_
  refine t_rdg rfl rfl rfl rfl (gv_t _) (fun hg22 => (rd_ld1 tO3 (gvx rfl hg22) (hm5.blk 0 rfl) (off := 2) rfl)) ?_
  refine t_rdg rfl rfl rfl rfl (gv_t _) (fun hg23 => (rd_leq (gvx rfl hg23) (gvx rfl hg23))) ?_
  refine t_rd rfl (rd_and rfl (fun hc24 => (gvx rfl hc24))) ?_
  refine t_rd rfl (rd_assign rfl) ?_
  refine rwt_nil ?_
  refine qn_then ?_
  refine cw_ret ?_
  obtain rfl := os q20
  exact ret1 rfl rfl ⟨rfl, (hm5.pick [] (by decide) rfl)⟩

theorem r40_Matching_ok {N : Nat} {a0 : List T_Task} {a1 : List T_Crew} {a2 : List T_Pair} {res : Bool} (h : r40_Matching N a0 a1 a2 = some res) {w : World} {v0 : Value} {v1 : Value} {v2 : Value} (hv0 : Sl (Old w No) w v0 a0) (hv1 : Sl (Old w No) w v1 a1) (hv2 : Sl (Old w No) w v2 a2) :
    CallsR Try.prog 12 [v0, v1, v2] w (fun u w' => u = (Value.bool res) ∧ Mem w No [] w') := by
  unfold r40_Matching at h
  refine fn_ok Try.func12 rfl rfl rfl ?_
  have hm0 := Mem.nil w
  refine cw_seq ?_
  refine cw_region ?_
  refine t_rd rfl (rd_assign rfl) ?_
  refine rwt_nil ?_
  refine qn_then ?_
  refine cw_seq ?_
  refine cw_seq ?_
  refine cw_region ?_
  refine t_rd rfl (rd_assign rfl) ?_
  refine rwt_nil ?_
  refine qn_then ?_
  refine cw_block ?_
  obtain ⟨r427, hit428, q429⟩ := ob h; clear h
  refine cw_loop2 (I := fun q envq wq => Sub [(0, v0), (1, v1), (2, v2), (7, (Value.int .i64 q))] envq ∧ Mem w No [] wq) (X := fun eq envq wq => (∃ p430, r427 = (Sum.inl p430) ∧ eq = .ret ∧ retQ Try.prog 84 Try.f12 (fun u w' => u = (Value.bool p430) ∧ Mem w No [] w') .ret envq wq) ∨ (∃ p431, r427 = (Sum.inr p431) ∧ eq = .exit 0 ∧ Sub [] envq ∧ Mem w No [] wq)) hit428 ⟨(by repeat (first | exact Sub.nil _ | refine Sub.cons rfl ?_)), (hm0.pick [] (by decide) rfl)⟩ ?_ ?_
  · rintro i420 x422 env423 w424 hf425 hr426 ⟨hs_, hm_⟩
    have hs_ : Sub [(0, v0), (1, v1), (2, v2), (7, (Value.int .i64 i420))] env423 := hs_
    have hm432 : Mem w No [] w424 := hm_
    refine cw_sub hs_ ?_
    clear hs_ hm_ q429
    have h : r40_Matching_l3 N a0 a1 a2 i420 = some x422 := hf425
    clear hf425
    refine cw_seq ?_
    refine cw_seq ?_
    refine cw_region ?_
    refine t_rd rfl (rd_move rfl) ?_
    refine t_rd rfl (rd_move rfl) ?_
    refine t_rd rfl (rd_lenS tS29 rfl (hv2.of_old hm432)) ?_
    refine t_rd rfl (rd_lss rfl rfl) ?_
    refine rwt_nil ?_
    refine qn_then ?_
    obtain ⟨hb433, q434⟩ | ⟨hb433, q434⟩ := oi h <;> clear h
    · refine cw_t rfl hb433 ?_
      refine cw_skip ?_
      refine qn_then ?_
      refine cw_seq ?_
      refine cw_block ?_
      refine cw_seq ?_
      refine cw_region ?_
      refine t_rd rfl (rd_move rfl) ?_
      refine t_rd rfl (rd_move rfl) ?_
      obtain ⟨x435, h436, q437⟩ := ob q434; clear q434
      refine t_rd rfl (rd_index tS29 rfl rfl (hv2.of_old hm432) h436) ?_
      refine t_rd rfl (rd_ld tA41 rfl ((hv2.of_old hm432).cells h436) rfl) ?_
      refine t_ef rfl (ef_alloc hm432 tZ41 rfl) ?_
      rintro _ w440 ⟨g438, rfl, hm439⟩
      refine t_ef0 (ef_stw (k := 0) hm439 tA41 rfl rfl (oc_cons rfl (oc_cons rfl oc_nil)) rfl rfl rfl) ?_
      intro _ w442 hm441
      refine rwt_nil ?_
      refine qn_then ?_
      refine cw_seq ?_
      refine cw_seq ?_
      obtain ⟨w444, he446⟩ : ∃ q, q = w442.drew := ⟨_, rfl⟩
      have hm445 := hm441.drew; rw [← he446] at hm445
      refine cw_region_s (fun q => (blk g438 41 [(Value.int .i64 x435.Duty), (Value.int .i64 x435.Crew)]).φ q ∧ Sl (Old w No) q v0 a0 ∧ Sl (Old w No) q v1 a1 ∧ Sl (Old w No) q v2 a2) (cls [33] []) mixed ?_
      rintro _ rfl; rw [← he446]
      refine s_rp (i := 0) rfl (by kernel_rfl) rfl (fun _ => (rd_fld tF41_0 rfl)) ?_
      refine s_rd (i := 1) rfl (by kernel_rfl) rfl (fun w443 hS => (rd_ld1 tO3 rfl (cells_blk hS.1) (off := 0) rfl)) ⟨(hm445.get (k := 0) rfl), (hv0.of_old hm445), (hv1.of_old hm445), (hv2.of_old hm445)⟩ ?_
      refine s_rp (i := 2) rfl (by kernel_rfl) rfl (fun _ => (rd_lss rfl rfl)) ?_
      refine s_rp (i := 3) rfl (by kernel_rfl) rfl (fun _ => (rd_move rfl)) ?_
      refine s_rpg (i := 4) rfl (by kernel_rfl) rfl rfl rfl rfl (gv_f _) (fun hg509 _ => (rd_fld tF41_0 rfl)) ?_
      refine s_rdg (i := 5) rfl (by kernel_rfl) rfl rfl rfl rfl (gv_f _) (fun hg510 => (fun w443 hS => (rd_ld1 tO3 (gvx rfl hg510) (cells_blk hS.1) (off := 0) rfl))) ⟨(hm445.get (k := 0) rfl), (hv0.of_old hm445), (hv1.of_old hm445), (hv2.of_old hm445)⟩ ?_
      refine s_rpg (i := 6) rfl (by kernel_rfl) rfl rfl rfl rfl (gv_f _) (fun hg511 _ => (rd_move rfl)) ?_
      refine s_rpg (i := 7) rfl (by kernel_rfl) rfl rfl rfl rfl (gv_f _) (fun hg512 _ => (rd_lenS tS25 (gvx rfl hg512) (hv0.of_old hm445))) ?_
      refine s_rpg (i := 8) rfl (by kernel_rfl) rfl rfl rfl rfl (gv_f _) (fun hg513 _ => (rd_geq (gvx rfl hg513) (gvx rfl hg513))) ?_
      refine s_rp (i := 9) rfl (by kernel_rfl) rfl (fun _ => (rd_or rfl (fun hc514 => (gvx rfl (bnotIt hc514))))) ?_
      refine s_rp (i := 10) rfl (by kernel_rfl) rfl (fun _ => (rd_move rfl)) ?_
      refine s_rpg (i := 11) rfl (by kernel_rfl) rfl rfl rfl rfl (gv_f _) (fun hg515 _ => (rd_fld tF41_1 rfl)) ?_
      refine s_rdg (i := 12) rfl (by kernel_rfl) rfl rfl rfl rfl (gv_f _) (fun hg516 => (fun w443 hS => (rd_ld1 tO3 (gvx rfl hg516) (cells_blk hS.1) (off := 1) rfl))) ⟨(hm445.get (k := 0) rfl), (hv0.of_old hm445), (hv1.of_old hm445), (hv2.of_old hm445)⟩ ?_
      refine s_rpg (i := 13) rfl (by kernel_rfl) rfl rfl rfl rfl (gv_f _) (fun hg517 _ => (rd_lss (gvx rfl hg517) rfl)) ?_
      refine s_rp (i := 14) rfl (by kernel_rfl) rfl (fun _ => (rd_or rfl (fun hc518 => (gvx rfl (bnotIt hc518))))) ?_
      refine s_rp (i := 15) rfl (by kernel_rfl) rfl (fun _ => (rd_move rfl)) ?_
      refine s_rpg (i := 16) rfl (by kernel_rfl) rfl rfl rfl rfl (gv_f _) (fun hg519 _ => (rd_fld tF41_1 rfl)) ?_
      refine s_rdg (i := 17) rfl (by kernel_rfl) rfl rfl rfl rfl (gv_f _) (fun hg520 => (fun w443 hS => (rd_ld1 tO3 (gvx rfl hg520) (cells_blk hS.1) (off := 1) rfl))) ⟨(hm445.get (k := 0) rfl), (hv0.of_old hm445), (hv1.of_old hm445), (hv2.of_old hm445)⟩ ?_
      refine s_rpg (i := 18) rfl (by kernel_rfl) rfl rfl rfl rfl (gv_f _) (fun hg521 _ => (rd_move rfl)) ?_
      refine s_rpg (i := 19) rfl (by kernel_rfl) rfl rfl rfl rfl (gv_f _) (fun hg522 _ => (rd_lenS tS26 (gvx rfl hg522) (hv1.of_old hm445))) ?_
      refine s_rpg (i := 20) rfl (by kernel_rfl) rfl rfl rfl rfl (gv_f _) (fun hg523 _ => (rd_geq (gvx rfl hg523) (gvx rfl hg523))) ?_
      refine s_rp (i := 21) rfl (by kernel_rfl) rfl (fun _ => (rd_or rfl (fun hc524 => (gvx rfl (bnotIt hc524))))) ?_
      refine s_rp (i := 22) rfl (by kernel_rfl) rfl (fun _ => (rd_move rfl)) ?_
      refine s_rpg (i := 23) rfl (by kernel_rfl) rfl rfl rfl rfl (gv_f _) (fun hg525 _ => (rd_move rfl)) ?_
      refine s_rpg (i := 24) rfl (by kernel_rfl) rfl rfl rfl rfl (gv_f _) (fun hg526 _ => (rd_fld tF41_0 rfl)) ?_
      refine s_rdg (i := 25) rfl (by kernel_rfl) rfl rfl rfl rfl (gv_f _) (fun hg527 => (fun w443 hS => (rd_ld1 tO3 (gvx rfl hg527) (cells_blk hS.1) (off := 0) rfl))) ⟨(hm445.get (k := 0) rfl), (hv0.of_old hm445), (hv1.of_old hm445), (hv2.of_old hm445)⟩ ?_
      obtain ⟨x529, h530, q531⟩ := ob q437; clear q437
      refine s_rpg (i := 26) rfl (by kernel_rfl) rfl rfl rfl rfl (gv_f _) (fun hg528 _ => (rd_index tS25 (gvx rfl hg528) (gvx rfl hg528) (hv0.of_old hm445) (gO_t h530 hg528))) ?_
      refine s_rdg (i := 27) rfl (by kernel_rfl) rfl rfl rfl rfl (gv_f _) (fun hg532 => (fun w443 hS => (rd_ld tA37 (gvx rfl hg532) (hS.2.1.cells (gO_t h530 hg532)) rfl))) ⟨(hm445.get (k := 0) rfl), (hv0.of_old hm445), (hv1.of_old hm445), (hv2.of_old hm445)⟩ ?_
      refine s_rpg (i := 28) rfl (by kernel_rfl) rfl rfl rfl rfl (gv_f _) (fun hg533 _ => (rd_move rfl)) ?_
      refine s_rpg (i := 29) rfl (by kernel_rfl) rfl rfl rfl rfl (gv_f _) (fun hg534 _ => (rd_fld tF41_1 rfl)) ?_
      refine s_rdg (i := 30) rfl (by kernel_rfl) rfl rfl rfl rfl (gv_f _) (fun hg535 => (fun w443 hS => (rd_ld1 tO3 (gvx rfl hg535) (cells_blk hS.1) (off := 1) rfl))) ⟨(hm445.get (k := 0) rfl), (hv0.of_old hm445), (hv1.of_old hm445), (hv2.of_old hm445)⟩ ?_
      obtain ⟨x537, h538, q539⟩ := ob q531; clear q531
      refine s_rpg (i := 31) rfl (by kernel_rfl) rfl rfl rfl rfl (gv_f _) (fun hg536 _ => (rd_index tS26 (gvx rfl hg536) (gvx rfl hg536) (hv1.of_old hm445) (gO_t h538 hg536))) ?_
      refine s_rdg (i := 32) rfl (by kernel_rfl) rfl rfl rfl rfl (gv_f _) (fun hg540 => (fun w443 hS => (rd_ld tA39 (gvx rfl hg540) (hS.2.2.1.cells (gO_t h538 hg540)) rfl))) ⟨(hm445.get (k := 0) rfl), (hv0.of_old hm445), (hv1.of_old hm445), (hv2.of_old hm445)⟩ ?_
      obtain ⟨r542, h543, q544⟩ := ob q539; clear q539
      refine s_efg (i := 33) rfl (by kernel_rfl) rfl rfl rfl rfl (R := (fun v w' => v = gV (!(((decide (x435.Duty < 0) || decide ((List.length a0 : Int) ≤ x435.Duty)) || decide (x435.Crew < 0)) || decide ((List.length a1 : Int) ≤ x435.Crew))) (Value.bool r542) ∧ Mem w444 No [] w')) (gv_f _) (fun hg541 => (ef_call tf11 (evc (gvx rfl hg541) (evc (gvx rfl hg541) evn)) (r40_Fits_ok (gO_t h543 hg541))).mono (by rintro _ _ ⟨rfl, q⟩; exact ⟨(gV_t hg541).symm, q⟩)) (fun q => ⟨(gV_f q).symm, Mem.nil _⟩) (by decide) ?_ ?_
      · rintro _ w546 ⟨rfl, hm545⟩
        have hm547 := hm445.call hm545
        intro _
        exact ⟨(hm547.get (k := 0) rfl), (hv0.of_old hm547), (hv1.of_old hm547), (hv2.of_old hm547)⟩
      rintro _ w546 ⟨rfl, hm545⟩
      have hm547 := hm445.call hm545
      refine s_rpg (i := 34) rfl (by kernel_rfl) rfl rfl rfl rfl (gv_f _) (fun hg548 _ => (rd_not (gvx rfl hg548))) ?_
      refine s_rp (i := 35) rfl (by kernel_rfl) rfl (fun _ => (rd_or rfl (fun hc549 => (gvx rfl (bnotIt hc549))))) ?_
      refine s_rp (i := 36) rfl (by kernel_rfl) rfl (fun _ => (rd_move rfl)) ?_
      refine s_rpg (i := 37) rfl (by kernel_rfl) rfl rfl rfl rfl (gv_f _) (fun hg550 _ => (rd_move rfl)) ?_
      refine s_rpg (i := 38) rfl (by kernel_rfl) rfl rfl rfl rfl (gv_f _) (fun hg551 _ => (rd_gtr (gvx rfl hg551) rfl)) ?_
      refine s_rpg (i := 39) rfl (by kernel_rfl) rfl rfl rfl rfl (gv_f _) (fun hg552 _ => (rd_move (gvx rfl hg552))) ?_
      refine s_rpg (i := 40) rfl (by kernel_rfl) rfl rfl rfl rfl (gv_nt _ _) (fun hg553 _ => (rd_fld tF41_0 rfl)) ?_
      refine s_rdg (i := 41) rfl (by kernel_rfl) rfl rfl rfl rfl (gv_nt _ _) (fun hg554 => (fun w443 hS => (rd_ld1 tO3 (gvx rfl hg554) (cells_blk hS.1) (off := 0) rfl))) ⟨(hm547.get (k := 0) rfl), (hv0.of_old hm547), (hv1.of_old hm547), (hv2.of_old hm547)⟩ ?_
      refine s_rpg (i := 42) rfl (by kernel_rfl) rfl rfl rfl rfl (gv_nt _ _) (fun hg555 _ => (rd_move rfl)) ?_
      refine s_rpg (i := 43) rfl (by kernel_rfl) rfl rfl rfl rfl (gv_nt _ _) (fun hg556 _ => (rd_move rfl)) ?_
      obtain ⟨x558, h559, q560⟩ := ob q544; clear q544
      refine s_rpg (i := 44) rfl (by kernel_rfl) rfl rfl rfl rfl (gv_nt _ _) (fun hg557 _ => (rd_sub64 (gO_t h559 hg557) (gvx rfl hg557) rfl)) ?_
      obtain ⟨x562, h563, q564⟩ := ob q560; clear q560
      refine s_rpg (i := 45) rfl (by kernel_rfl) rfl rfl rfl rfl (gv_nt _ _) (fun hg561 _ => (rd_index tS29 (gvx rfl hg561) (gvx rfl hg561) (hv2.of_old hm547) (gO_t h563 hg561))) ?_
      refine s_rpg (i := 46) rfl (by kernel_rfl) rfl rfl rfl rfl (gv_nt _ _) (fun hg565 _ => (rd_fld tF41_0 (gvx rfl hg565))) ?_
      refine s_rdg (i := 47) rfl (by kernel_rfl) rfl rfl rfl rfl (gv_nt _ _) (fun hg566 => (fun w443 hS => (rd_ld1 tO3 (gvx rfl hg566) (hS.2.2.2.cells (gO_t h563 hg566)) (off := 0) rfl))) ⟨(hm547.get (k := 0) rfl), (hv0.of_old hm547), (hv1.of_old hm547), (hv2.of_old hm547)⟩ ?_
      refine s_rpg (i := 48) rfl (by kernel_rfl) rfl rfl rfl rfl (gv_nt _ _) (fun hg567 _ => (rd_leq (gvx rfl hg567) (gvx rfl hg567))) ?_
      refine s_rpg (i := 49) rfl (by kernel_rfl) rfl rfl rfl rfl (gv_f _) (fun hg568 _ => (rd_and (gvx rfl hg568) (fun hc569 => (gvx rfl (band hg568 hc569))))) ?_
      refine s_rp (i := 50) rfl (by kernel_rfl) rfl (fun _ => (rd_or rfl (fun hc570 => (gvx rfl (bnotIt hc570))))) ?_
      refine s_nil (by kernel_rfl) ?_
      refine qn_then ?_
      obtain ⟨hb571, q572⟩ | ⟨hb571, q572⟩ := oi q564 <;> clear q564
      · refine cw_t rfl hb571 ?_
        refine cw_seq ?_
        refine cw_region ?_
        refine t_rd rfl (rd_assign rfl) ?_
        refine rwt_nil ?_
        refine qn_then ?_
        refine cw_ret ?_
        refine qr_then (qr_block (qr_then (qr_then ?_)))
        obtain rfl := hr426 _ (os q572)
        refine .inl (⟨_, rfl, ⟨rfl, ?_⟩⟩)
        exact ret1 rfl rfl ⟨rfl, (hm547.pick [] (by decide) rfl)⟩
      · refine cw_f rfl hb571 ?_
        refine cw_skip ?_
        refine qn_then ?_
        refine cw_seq ?_
        refine cw_region ?_
        refine t_rd rfl (rd_assign rfl) ?_
        refine rwt_nil ?_
        refine qn_then ?_
        refine cw_block ?_
        obtain ⟨r609, hit610, q611⟩ := ob q572; clear q572
        refine cw_loop2 (I := fun q envq wq => Sub [(0, v0), (1, v1), (2, v2), (7, (Value.int .i64 i420)), (8, (Value.pointer (some ⟨g438, 0, none⟩))), (9, (Value.int .i64 q))] envq ∧ Mem w No [blk g438 41 [(Value.int .i64 x435.Duty), (Value.int .i64 x435.Crew)]] wq) (X := fun eq envq wq => (∃ p612, r609 = (Sum.inl p612) ∧ eq = .ret ∧ retQ Try.prog 84 Try.f12 (fun u w' => u = (Value.bool p612) ∧ Mem w No [] w') .ret envq wq) ∨ (∃ p613, r609 = (Sum.inr p613) ∧ eq = .exit 2 ∧ Sub [(0, v0), (1, v1), (2, v2), (7, (Value.int .i64 i420))] envq ∧ Mem w No [] wq)) hit610 ⟨(by repeat (first | exact Sub.nil _ | refine Sub.cons rfl ?_)), (hm547.pick [0] (by decide) rfl)⟩ ?_ ?_
        · rintro i602 x604 env605 w606 hf607 hr608 ⟨hs_, hm_⟩
          have hs_ : Sub [(0, v0), (1, v1), (2, v2), (7, (Value.int .i64 i420)), (8, (Value.pointer (some ⟨g438, 0, none⟩))), (9, (Value.int .i64 i602))] env605 := hs_
          have hm614 : Mem w No [blk g438 41 [(Value.int .i64 x435.Duty), (Value.int .i64 x435.Crew)]] w606 := hm_
          refine cw_sub hs_ ?_
          clear hs_ hm_ q611
          have h : r40_Matching_l4 N a2 i420 x435 i602 = some x604 := hf607
          clear hf607
          refine cw_seq ?_
          refine cw_seq ?_
          refine cw_region ?_
          refine t_rd rfl (rd_move rfl) ?_
          refine t_rd rfl (rd_move rfl) ?_
          refine t_rd rfl (rd_lss rfl rfl) ?_
          refine rwt_nil ?_
          refine qn_then ?_
          obtain ⟨hb615, q616⟩ | ⟨hb615, q616⟩ := oi h <;> clear h
          · refine cw_t rfl hb615 ?_
            refine cw_skip ?_
            refine qn_then ?_
            refine cw_seq ?_
            refine cw_block ?_
            refine cw_seq ?_
            obtain ⟨w618, he620⟩ : ∃ q, q = w606.drew := ⟨_, rfl⟩
            have hm619 := hm614.drew; rw [← he620] at hm619
            refine cw_region_s (fun q => q = w618) (cls [] []) mixed ?_
            rintro _ rfl; rw [← he620]
            refine s_rp (i := 0) rfl (by kernel_rfl) rfl (fun _ => (rd_move rfl)) ?_
            refine s_rp (i := 1) rfl (by kernel_rfl) rfl (fun _ => (rd_move rfl)) ?_
            obtain ⟨x621, h622, q623⟩ := ob q616; clear q616
            refine s_rp (i := 2) rfl (by kernel_rfl) rfl (fun _ => (rd_index tS29 rfl rfl (hv2.of_old hm619) h622)) ?_
            refine s_rp (i := 3) rfl (by kernel_rfl) rfl (fun _ => (rd_fld tF41_1 rfl)) ?_
            refine s_rd (i := 4) rfl (by kernel_rfl) rfl (fun _ hS => by rw [hS]; exact (rd_ld1 tO3 rfl ((hv2.of_old hm619).cells h622) (off := 1) rfl)) rfl ?_
            refine s_rp (i := 5) rfl (by kernel_rfl) rfl (fun _ => (rd_fld tF41_1 rfl)) ?_
            refine s_rd (i := 6) rfl (by kernel_rfl) rfl (fun _ hS => by rw [hS]; exact (rd_ld1 tO3 rfl (hm619.blk 0 rfl) (off := 1) rfl)) rfl ?_
            refine s_rp (i := 7) rfl (by kernel_rfl) rfl (fun _ => (rd_eql rfl rfl)) ?_
            refine s_nil (by kernel_rfl) ?_
            refine qn_then ?_
            obtain ⟨hb624, q625⟩ | ⟨hb624, q625⟩ := oi q623 <;> clear q623
            · refine cw_t rfl hb624 ?_
              refine cw_seq ?_
              refine cw_region ?_
              refine t_rd rfl (rd_assign rfl) ?_
              refine rwt_nil ?_
              refine qn_then ?_
              refine cw_ret ?_
              refine qr_block (qr_then (qr_then ?_))
              obtain rfl := hr608 _ (os q625)
              refine .inl (⟨_, rfl, ⟨rfl, ?_⟩⟩)
              exact ret1 rfl rfl ⟨rfl, (hm619.pick [] (by decide) rfl)⟩
            · refine cw_f rfl hb624 ?_
              refine cw_skip ?_
              refine qn_block (qn_then ?_)
              refine cw_region ?_
              refine t_rd rfl (rd_move rfl) ?_
              obtain ⟨x626, h627, q628⟩ := ob q625; clear q625
              refine t_rd rfl (rd_add64 h627 rfl rfl) ?_
              refine t_rd rfl (rd_assign rfl) ?_
              refine rwt_nil ?_
              refine qn_then ?_
              refine ⟨_, (os q628), (by repeat (first | exact Sub.nil _ | refine Sub.cons rfl ?_)), (hm619.pick [0] (by decide) rfl)⟩
          · refine cw_f rfl hb615 ?_
            refine cw_exit ?_
            refine qx_then (qx_then ?_)
            obtain rfl := hr608 _ (os q616)
            exact .inr (⟨_, rfl, ⟨rfl, (by repeat (first | exact Sub.nil _ | refine Sub.cons rfl ?_)), (hm614.pick [] (by decide) rfl)⟩⟩)
        · skip
          intro e env629 w630 hX631
          rcases hX631 with hX631 | hX631
          · obtain ⟨p633, rfl, hX631⟩ := hX631
            obtain ⟨rfl, hq635⟩ := hX631
            obtain rfl := hr426 _ (os q611)
            exact qr_block (qr_block (qr_then (qr_then (.inl (⟨_, rfl, ⟨rfl, hq635⟩⟩)))))
          · obtain ⟨p636, rfl, hX631⟩ := hX631
            obtain ⟨rfl, hs637, hm638⟩ := hX631
            refine qx_same (qn_block (qn_then ?_))
            refine cw_sub hs637 ?_
            refine cw_region ?_
            refine t_rd rfl (rd_move rfl) ?_
            obtain ⟨x639, h640, q641⟩ := ob q611; clear q611
            refine t_rd rfl (rd_add64 h640 rfl rfl) ?_
            refine t_rd rfl (rd_assign rfl) ?_
            refine rwt_nil ?_
            refine qn_then ?_
            refine ⟨_, (os q641), (by repeat (first | exact Sub.nil _ | refine Sub.cons rfl ?_)), (hm638.pick [] (by decide) rfl)⟩
    · refine cw_f rfl hb433 ?_
      refine cw_exit ?_
      refine qx_then (qx_then ?_)
      obtain rfl := hr426 _ (os q434)
      exact .inr (⟨_, rfl, ⟨rfl, (by repeat (first | exact Sub.nil _ | refine Sub.cons rfl ?_)), (hm432.pick [] (by decide) rfl)⟩⟩)
  · skip
    intro e env642 w643 hX644
    rcases hX644 with hX644 | hX644
    · obtain ⟨p646, rfl, hX644⟩ := hX644
      obtain ⟨rfl, hq648⟩ := hX644
      exact qr_block (qr_then ((by have e := os q429; subst e; exact hq648)))
    · obtain ⟨p649, rfl, hX644⟩ := hX644
      obtain ⟨rfl, hs650, hm651⟩ := hX644
      refine qx_same (qn_then ?_)
      refine cw_sub hs650 ?_
      refine cw_seq ?_
      refine cw_region ?_
      refine t_rd rfl (rd_assign rfl) ?_
      refine rwt_nil ?_
      refine qn_then ?_
      refine cw_ret ?_
      obtain rfl := os q429
      exact ret1 rfl rfl ⟨rfl, (hm651.pick [] (by decide) rfl)⟩

theorem crew_Cover_1_r_ok {N : Nat} (M : Nat) : ∀ {a0 : Int} {a1 : List Bool} {a2 : List T_Crew} {a3 : List Bool} {a4 : List T_Task} {a5 : List Int} {res : List Bool × List Bool} (h : crew_Cover_1_r N M a0 a1 a2 a3 a4 a5 = some res) {w : World} {gb1 : Nat} {v1 : Value} {gb2 : Nat} {v2 : Value} {gb3 : Nat} {v3 : Value} {gb4 : Nat} {v4 : Value} {gb5 : Nat} {v5 : Value} {gb6 : Nat} (hb1 : BoxAt (Old w (bunC [ownL 4 v1 (a1 : List Bool), ownL 4 v3 (a3 : List Bool)]).D) w gb1 v1) (hv2 : Sl (Old w (bunC [ownL 4 v1 (a1 : List Bool), ownL 4 v3 (a3 : List Bool)]).D) w v2 a2) (hb2 : BoxAt (Old w (bunC [ownL 4 v1 (a1 : List Bool), ownL 4 v3 (a3 : List Bool)]).D) w gb2 v2) (hb3 : BoxAt (Old w (bunC [ownL 4 v1 (a1 : List Bool), ownL 4 v3 (a3 : List Bool)]).D) w gb3 v3) (hv4 : Sl (Old w (bunC [ownL 4 v1 (a1 : List Bool), ownL 4 v3 (a3 : List Bool)]).D) w v4 a4) (hb4 : BoxAt (Old w (bunC [ownL 4 v1 (a1 : List Bool), ownL 4 v3 (a3 : List Bool)]).D) w gb4 v4) (hv5 : Sl (Old w (bunC [ownL 4 v1 (a1 : List Bool), ownL 4 v3 (a3 : List Bool)]).D) w v5 a5) (hb5 : BoxAt (Old w (bunC [ownL 4 v1 (a1 : List Bool), ownL 4 v3 (a3 : List Bool)]).D) w gb5 v5) (hb6 : BoxAt (Old w (bunC [ownL 4 v1 (a1 : List Bool), ownL 4 v3 (a3 : List Bool)]).D) w gb6 (Value.func (.func 26) #[] #[(Value.pointer (some ⟨gb1, 0, none⟩)), (Value.pointer (some ⟨gb2, 0, none⟩)), (Value.pointer (some ⟨gb3, 0, none⟩)), (Value.pointer (some ⟨gb4, 0, none⟩)), (Value.pointer (some ⟨gb5, 0, none⟩)), (Value.pointer (some ⟨gb6, 0, none⟩))])) (hkb : (bunC [ownL 4 v1 (a1 : List Bool), ownL 4 v3 (a3 : List Bool)]).φ w),
    CallsR Try.prog 26 [(Value.int .i64 a0), (Value.pointer (some ⟨gb1, 0, none⟩)), (Value.pointer (some ⟨gb2, 0, none⟩)), (Value.pointer (some ⟨gb3, 0, none⟩)), (Value.pointer (some ⟨gb4, 0, none⟩)), (Value.pointer (some ⟨gb5, 0, none⟩)), (Value.pointer (some ⟨gb6, 0, none⟩))] w (fun u w' => u = (Value.tuple #[]) ∧ Mem w (bunC [ownL 4 v1 (a1 : List Bool), ownL 4 v3 (a3 : List Bool)]).D [bunC [ownL 4 v1 (res.1 : List Bool), ownL 4 v3 (res.2 : List Bool)]] w') := by
  induction M with
  | zero =>
    intro a0 a1 a2 a3 a4 a5 res h
    rw [crew_Cover_1_r] at h
    cases h
  | succ M ih =>
  intro a0 a1 a2 a3 a4 a5 res h w gb1 v1 gb2 v2 gb3 v3 gb4 v4 gb5 v5 gb6 hb1 hv2 hb2 hb3 hv4 hb4 hv5 hb5 hb6 hkb
  rw [crew_Cover_1_r] at h
  refine fn_ok Try.func26 rfl rfl rfl ?_
  have hm0 := Mem.opened hkb
  refine cw_seq ?_
  refine cw_region ?_
  refine t_rd rfl (rd_ld1 tO33 rfl (hb1.of_old hm0).2 (off := 0) rfl) ?_
  refine t_rd rfl (rd_move rfl) ?_
  obtain ⟨x1, h2, q3⟩ := ob h; clear h
  refine t_rd rfl (rd_index tS33 rfl rfl (hm0.sl 0 rfl) h2) ?_
  refine t_ef0 (ef_stl (k := 0) (off := 0) (x' := true) hm0 tO4 rfl rfl rfl rfl h2 rfl rfl) ?_
  intro _ w5 hm4
  refine rwt_nil ?_
  refine qn_then ?_
  refine cw_seq ?_
  refine cw_region ?_
  refine t_rd rfl (rd_ld1 tO26 rfl (hb2.of_old hm4).2 (off := 0) rfl) ?_
  refine t_rd rfl (rd_lenS tS26 rfl (hv2.of_old hm4)) ?_
  refine t_rd rfl (rd_move rfl) ?_
  refine rwt_nil ?_
  refine qn_then ?_
  refine cw_block ?_
  obtain ⟨r166, hit167, q168⟩ := ob q3; clear q3
  refine cw_loop2 (I := fun q envq wq => Sub [(0, (Value.int .i64 a0)), (1, (Value.pointer (some ⟨gb1, 0, none⟩))), (3, (Value.pointer (some ⟨gb3, 0, none⟩))), (4, (Value.pointer (some ⟨gb4, 0, none⟩))), (5, (Value.pointer (some ⟨gb5, 0, none⟩))), (6, (Value.pointer (some ⟨gb6, 0, none⟩))), (14, v2), (15, (Value.int .i64 (List.length a2 : Int))), (16, (Value.int .i64 q.1))] envq ∧ Mem w (bunC [ownL 4 v1 (a1 : List Bool), ownL 4 v3 (a3 : List Bool)]).D [ownL 4 v1 (q.2.1 : List Bool), ownL 4 v3 (q.2.2 : List Bool)] wq) (X := fun eq envq wq => eq = .exit 0 ∧ Sub [] envq ∧ Mem w (bunC [ownL 4 v1 (a1 : List Bool), ownL 4 v3 (a3 : List Bool)]).D [ownL 4 v1 (r166.1 : List Bool), ownL 4 v3 (r166.2 : List Bool)] wq) hit167 ⟨(by repeat (first | exact Sub.nil _ | refine Sub.cons rfl ?_)), (hm4.pick [0, 1] (by decide) rfl)⟩ ?_ ?_
  · rintro ⟨i157, l158, l159⟩ x161 env162 w163 hf164 hr165 ⟨hs_, hm_⟩
    have hs_ : Sub [(0, (Value.int .i64 a0)), (1, (Value.pointer (some ⟨gb1, 0, none⟩))), (3, (Value.pointer (some ⟨gb3, 0, none⟩))), (4, (Value.pointer (some ⟨gb4, 0, none⟩))), (5, (Value.pointer (some ⟨gb5, 0, none⟩))), (6, (Value.pointer (some ⟨gb6, 0, none⟩))), (14, v2), (15, (Value.int .i64 (List.length a2 : Int))), (16, (Value.int .i64 i157))] env162 := hs_
    have hm169 : Mem w (bunC [ownL 4 v1 (a1 : List Bool), ownL 4 v3 (a3 : List Bool)]).D [ownL 4 v1 (l158 : List Bool), ownL 4 v3 (l159 : List Bool)] w163 := hm_
    refine cw_sub hs_ ?_
    clear hs_ hm_ q168
    have h : crew_Cover_1_l1 N (crew_Cover_1_r N M) a0 a2 a4 a5 i157 l158 l159 = some x161 := hf164
    clear hf164
    refine cw_seq ?_
    refine cw_region ?_
    refine t_rd rfl (rd_lss rfl rfl) ?_
    refine rwt_nil ?_
    refine qn_then ?_
    refine cw_seq ?_
    obtain ⟨hb170, q171⟩ | ⟨hb170, q171⟩ := oi h <;> clear h
    · refine cw_t rfl hb170 ?_
      refine cw_skip ?_
      refine qn_then ?_
      refine cw_seq ?_
      refine cw_block ?_
      refine cw_seq ?_
      refine cw_region ?_
      refine t_rd rfl (rd_move rfl) ?_
      obtain ⟨x172, h173, q174⟩ := ob q171; clear q171
      refine t_rd rfl (rd_index tS26 rfl rfl (hv2.of_old hm169) h173) ?_
      refine t_rd rfl (rd_ld tA39 rfl ((hv2.of_old hm169).cells h173) rfl) ?_
      refine t_ef rfl (ef_alloc hm169 tZ39 rfl) ?_
      rintro _ w177 ⟨g175, rfl, hm176⟩
      refine t_rd rfl (rd_assign rfl) ?_
      refine t_ef0 (ef_stw (k := 0) hm176 tA39 rfl rfl (oc_cons rfl (oc_cons rfl (oc_cons rfl oc_nil))) rfl rfl rfl) ?_
      intro _ w179 hm178
      refine rwt_nil ?_
      refine qn_then ?_
      refine cw_seq ?_
      refine cw_seq ?_
      obtain ⟨w181, he183⟩ : ∃ q, q = w179.drew := ⟨_, rfl⟩
      have hm182 := hm178.drew; rw [← he183] at hm182
      refine cw_region_s (fun q => q = w181) (cls [] [10]) mixed ?_
      rintro _ rfl; rw [← he183]
      refine s_rd (i := 0) rfl (by kernel_rfl) rfl (fun _ hS => by rw [hS]; exact (rd_ld1 tO33 rfl (hb3.of_old hm182).2 (off := 0) rfl)) rfl ?_
      refine s_rp (i := 1) rfl (by kernel_rfl) rfl (fun _ => (rd_move rfl)) ?_
      obtain ⟨x184, h185, q186⟩ := ob q174; clear q174
      refine s_rp (i := 2) rfl (by kernel_rfl) rfl (fun _ => (rd_index tS33 rfl rfl (hm182.sl 2 rfl) h185)) ?_
      refine s_rd (i := 3) rfl (by kernel_rfl) rfl (fun _ hS => by rw [hS]; exact (rd_ld1 tO4 rfl ((hm182.sl 2 rfl).cells h185) (off := 0) rfl)) rfl ?_
      refine s_rp (i := 4) rfl (by kernel_rfl) rfl (fun _ => (rd_move rfl)) ?_
      refine s_rdg (i := 5) rfl (by kernel_rfl) rfl rfl rfl rfl (gv_f _) (fun hg187 => (fun _ hS => by rw [hS]; exact (rd_ld1 tO25 rfl (hb4.of_old hm182).2 (off := 0) rfl))) rfl ?_
      refine s_rpg (i := 6) rfl (by kernel_rfl) rfl rfl rfl rfl (gv_f _) (fun hg188 _ => (rd_move rfl)) ?_
      obtain ⟨x190, h191, q192⟩ := ob q186; clear q186
      refine s_rpg (i := 7) rfl (by kernel_rfl) rfl rfl rfl rfl (gv_f _) (fun hg189 _ => (rd_index tS25 (gvx rfl hg189) (gvx rfl hg189) (hv4.of_old hm182) (gO_t h191 hg189))) ?_
      refine s_rdg (i := 8) rfl (by kernel_rfl) rfl rfl rfl rfl (gv_f _) (fun hg193 => (fun _ hS => by rw [hS]; exact (rd_ld tA37 (gvx rfl hg193) ((hv4.of_old hm182).cells (gO_t h191 hg193)) rfl))) rfl ?_
      refine s_rdg (i := 9) rfl (by kernel_rfl) rfl rfl rfl rfl (gv_f _) (fun hg194 => (fun _ hS => by rw [hS]; exact (rd_ld tA39 rfl (hm182.blk 0 rfl) rfl))) rfl ?_
      obtain ⟨r196, h197, q198⟩ := ob q192; clear q192
      refine s_efg (i := 10) rfl (by kernel_rfl) rfl rfl rfl rfl (R := (fun v w' => v = gV (!x184) (Value.bool r196) ∧ Mem w181 No [] w')) (gv_f _) (fun hg195 => (ef_call tf19 (evc (gvx rfl hg195) (evc (gvx rfl hg195) evn)) (crew_Fits_ok (gO_t h197 hg195))).mono (by rintro _ _ ⟨rfl, q⟩; exact ⟨(gV_t hg195).symm, q⟩)) (fun q => ⟨(gV_f q).symm, Mem.nil _⟩) (by decide) (fun _ _ _ q => absurd q (by decide)) ?_
      rintro _ w200 ⟨rfl, hm199⟩
      have hm201 := hm182.call hm199
      refine s_rpg (i := 11) rfl (by kernel_rfl) rfl rfl rfl rfl (gv_f _) (fun hg202 _ => (rd_not (gvx rfl hg202))) ?_
      refine s_rp (i := 12) rfl (by kernel_rfl) rfl (fun _ => (rd_or rfl (fun hc203 => (gvx rfl (bnotIt hc203))))) ?_
      refine s_nil (by kernel_rfl) ?_
      refine qn_then ?_
      obtain ⟨hb204, q205⟩ | ⟨hb204, q205⟩ := oi q198 <;> clear q198
      · refine cw_t rfl hb204 ?_
        refine cw_exit ?_
        refine qx_then (qx_same (qn_then ?_))
        refine cw_region ?_
        obtain ⟨x206, h207, q208⟩ := ob q205; clear q205
        refine t_rd rfl (rd_add64 h207 rfl rfl) ?_
        refine t_rd rfl (rd_move rfl) ?_
        refine rwt_nil ?_
        refine qn_then ?_
        refine ⟨_, (os q208), (by repeat (first | exact Sub.nil _ | refine Sub.cons rfl ?_)), (hm201.pick [1, 2] (by decide) rfl)⟩
      · refine cw_f rfl hb204 ?_
        refine cw_skip ?_
        refine qn_then ?_
        refine cw_seq ?_
        refine cw_region ?_
        refine t_rd rfl (rd_ld1 tO33 rfl (hb3.of_old hm201).2 (off := 0) rfl) ?_
        refine t_rd rfl (rd_move rfl) ?_
        obtain ⟨x209, h210, q211⟩ := ob q205; clear q205
        refine t_rd rfl (rd_index tS33 rfl rfl (hm201.sl 2 rfl) h210) ?_
        refine t_ef0 (ef_stl (k := 2) (off := 0) (x' := true) hm201 tO4 rfl rfl rfl rfl h210 rfl rfl) ?_
        intro _ w213 hm212
        refine rwt_nil ?_
        refine qn_then ?_
        refine cw_seq ?_
        refine cw_region ?_
        refine t_rd rfl (rd_ld1 tO22 rfl (hb5.of_old hm212).2 (off := 0) rfl) ?_
        refine t_rd rfl (rd_move rfl) ?_
        obtain ⟨x214, h215, q216⟩ := ob q211; clear q211
        refine t_rd rfl (rd_index tS22 rfl rfl (hv5.of_old hm212) h215) ?_
        refine t_rd rfl (rd_ld1 tO3 rfl ((hv5.of_old hm212).cells h215) (off := 0) rfl) ?_
        refine t_rd rfl (rd_assign rfl) ?_
        refine rwt_nil ?_
        refine qn_then ?_
        refine cw_seq ?_
        refine cw_region ?_
        refine t_rd rfl (rd_move rfl) ?_
        refine t_rd rfl (rd_geq rfl rfl) ?_
        refine t_rd rfl (rd_move rfl) ?_
        refine t_rdg rfl rfl rfl rfl (gv_t _) (fun hg217 => (rd_ld1 tO33 rfl (hb1.of_old hm212).2 (off := 0) rfl)) ?_
        refine t_rdg rfl rfl rfl rfl (gv_t _) (fun hg218 => (rd_move rfl)) ?_
        obtain ⟨x220, h221, q222⟩ := ob q216; clear q216
        refine t_rdg rfl rfl rfl rfl (gv_t _) (fun hg219 => (rd_index tS33 (gvx rfl hg219) (gvx rfl hg219) (hm212.sl 1 rfl) (gO_t h221 hg219))) ?_
        refine t_rdg rfl rfl rfl rfl (gv_t _) (fun hg223 => (rd_ld1 tO4 (gvx rfl hg223) ((hm212.sl 1 rfl).cells (gO_t h221 hg223)) (off := 0) rfl)) ?_
        refine t_rdg rfl rfl rfl rfl (gv_t _) (fun hg224 => (rd_not (gvx rfl hg224))) ?_
        refine t_rd rfl (rd_and rfl (fun hc225 => (gvx rfl hc225))) ?_
        refine rwt_nil ?_
        refine qn_then ?_
        obtain ⟨hb226, q227⟩ | ⟨hb226, q227⟩ := oi q222 <;> clear q222
        · refine cw_t rfl hb226 ?_
          refine cw_region ?_
          refine t_rd rfl (rd_ld1 tO62 rfl (hb6.of_old hm212).2 (off := 0) rfl) ?_
          refine t_rd rfl (rd_move rfl) ?_
          have hm228 := hm212.pick [1, 2, 0] (L' := [ownL 4 v1 (l158 : List Bool), ownL 4 v3 ((List.set l159 (Int.toNat i157) true) : List Bool), blk g175 39 [(Value.int .i64 x172.From), (Value.int .i64 x172.To), (Value.int .i64 x172.Most)]]) (by decide) rfl
          have hm229 := hm228.bundle [ownL 4 v1 (l158 : List Bool), ownL 4 v3 ((List.set l159 (Int.toNat i157) true) : List Bool)] [blk g175 39 [(Value.int .i64 x172.From), (Value.int .i64 x172.To), (Value.int .i64 x172.Most)]]
          obtain ⟨r230, h231, q232⟩ := ob q227; clear q227
          refine t_ef rfl (ef_callv tf26 rfl rfl (ih h231 (hb1.to_callT (k := 0) hm229 rfl) (hv2.to_callT (k := 0) hm229 rfl) (hb2.to_callT (k := 0) hm229 rfl) (hb3.to_callT (k := 0) hm229 rfl) (hv4.to_callT (k := 0) hm229 rfl) (hb4.to_callT (k := 0) hm229 rfl) (hv5.to_callT (k := 0) hm229 rfl) (hb5.to_callT (k := 0) hm229 rfl) (hb6.to_callT (k := 0) hm229 rfl) (hm229.get (k := 0) rfl))) ?_
          rintro _ w234 ⟨e_, hm233⟩
          obtain rfl := e_.symm
          have hm235 := hm229.callT (k := 0) rfl (fun _ h => h) hm233 (fun _ => Iff.rfl)
          have hm236 := hm235.unbundle [ownL 4 v1 (r230.1 : List Bool), ownL 4 v3 (r230.2 : List Bool)] [blk g175 39 [(Value.int .i64 x172.From), (Value.int .i64 x172.To), (Value.int .i64 x172.Most)]]
          refine rwt_nil ?_
          refine qn_block (qn_then ?_)
          refine cw_region ?_
          obtain ⟨x237, h238, q239⟩ := ob q232; clear q232
          refine t_rd rfl (rd_add64 h238 rfl rfl) ?_
          refine t_rd rfl (rd_move rfl) ?_
          refine rwt_nil ?_
          refine qn_then ?_
          refine ⟨_, (os q239), (by repeat (first | exact Sub.nil _ | refine Sub.cons rfl ?_)), (hm236.pick [0, 1] (by decide) rfl)⟩
        · refine cw_f rfl hb226 ?_
          refine cw_skip ?_
          refine qn_block (qn_then ?_)
          refine cw_region ?_
          obtain ⟨x240, h241, q242⟩ := ob q227; clear q227
          refine t_rd rfl (rd_add64 h241 rfl rfl) ?_
          refine t_rd rfl (rd_move rfl) ?_
          refine rwt_nil ?_
          refine qn_then ?_
          refine ⟨_, (os q242), (by repeat (first | exact Sub.nil _ | refine Sub.cons rfl ?_)), (hm212.pick [1, 2] (by decide) rfl)⟩
    · refine cw_f rfl hb170 ?_
      refine cw_exit ?_
      refine qx_then (qx_then ?_)
      obtain rfl := hr165 _ (os q171)
      exact ⟨rfl, (by repeat (first | exact Sub.nil _ | refine Sub.cons rfl ?_)), (hm169.pick [0, 1] (by decide) rfl)⟩
  · skip
    intro e env243 w244 hX245
    obtain ⟨rfl, hs246, hm247⟩ := hX245
    refine qx_same ?_
    obtain rfl := os q168
    refine retn ?_
    refine ret_sub hs246 ?_
    exact ret0 rfl ⟨rfl, (Mem.bundle [ownL 4 v1 (r166.1 : List Bool), ownL 4 v3 (r166.2 : List Bool)] [] (hm247.pick (L' := [ownL 4 v1 (r166.1 : List Bool), ownL 4 v3 (r166.2 : List Bool)]) [0, 1] (by decide) rfl))⟩

theorem crew_Cover_1_ok {N : Nat} {a0 : Int} {a1 : List Bool} {a2 : List T_Crew} {a3 : List Bool} {a4 : List T_Task} {a5 : List Int} {res : List Bool × List Bool} (h : crew_Cover_1 N a0 a1 a2 a3 a4 a5 = some res) {w : World} {gb1 : Nat} {v1 : Value} {gb2 : Nat} {v2 : Value} {gb3 : Nat} {v3 : Value} {gb4 : Nat} {v4 : Value} {gb5 : Nat} {v5 : Value} {gb6 : Nat} (hb1 : BoxAt (Old w (bunC [ownL 4 v1 (a1 : List Bool), ownL 4 v3 (a3 : List Bool)]).D) w gb1 v1) (hv2 : Sl (Old w (bunC [ownL 4 v1 (a1 : List Bool), ownL 4 v3 (a3 : List Bool)]).D) w v2 a2) (hb2 : BoxAt (Old w (bunC [ownL 4 v1 (a1 : List Bool), ownL 4 v3 (a3 : List Bool)]).D) w gb2 v2) (hb3 : BoxAt (Old w (bunC [ownL 4 v1 (a1 : List Bool), ownL 4 v3 (a3 : List Bool)]).D) w gb3 v3) (hv4 : Sl (Old w (bunC [ownL 4 v1 (a1 : List Bool), ownL 4 v3 (a3 : List Bool)]).D) w v4 a4) (hb4 : BoxAt (Old w (bunC [ownL 4 v1 (a1 : List Bool), ownL 4 v3 (a3 : List Bool)]).D) w gb4 v4) (hv5 : Sl (Old w (bunC [ownL 4 v1 (a1 : List Bool), ownL 4 v3 (a3 : List Bool)]).D) w v5 a5) (hb5 : BoxAt (Old w (bunC [ownL 4 v1 (a1 : List Bool), ownL 4 v3 (a3 : List Bool)]).D) w gb5 v5) (hb6 : BoxAt (Old w (bunC [ownL 4 v1 (a1 : List Bool), ownL 4 v3 (a3 : List Bool)]).D) w gb6 (Value.func (.func 26) #[] #[(Value.pointer (some ⟨gb1, 0, none⟩)), (Value.pointer (some ⟨gb2, 0, none⟩)), (Value.pointer (some ⟨gb3, 0, none⟩)), (Value.pointer (some ⟨gb4, 0, none⟩)), (Value.pointer (some ⟨gb5, 0, none⟩)), (Value.pointer (some ⟨gb6, 0, none⟩))])) (hkb : (bunC [ownL 4 v1 (a1 : List Bool), ownL 4 v3 (a3 : List Bool)]).φ w) :
    CallsR Try.prog 26 [(Value.int .i64 a0), (Value.pointer (some ⟨gb1, 0, none⟩)), (Value.pointer (some ⟨gb2, 0, none⟩)), (Value.pointer (some ⟨gb3, 0, none⟩)), (Value.pointer (some ⟨gb4, 0, none⟩)), (Value.pointer (some ⟨gb5, 0, none⟩)), (Value.pointer (some ⟨gb6, 0, none⟩))] w (fun u w' => u = (Value.tuple #[]) ∧ Mem w (bunC [ownL 4 v1 (a1 : List Bool), ownL 4 v3 (a3 : List Bool)]).D [bunC [ownL 4 v1 (res.1 : List Bool), ownL 4 v3 (res.2 : List Bool)]] w') := crew_Cover_1_r_ok N h hb1 hv2 hb2 hb3 hv4 hb4 hv5 hb5 hb6 hkb

end Go.Proofs.Ythoabchofjcigaa
