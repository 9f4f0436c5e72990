/- Each call computes what its mirror does; written by a program of mine (gowalk.py). -/
import Derived.Test.YtfomgakgjgkjlaaTy
namespace Go.Proofs.Ytfomgakgjgkjlaa
open Go.Gv Go.RowKit
set_option linter.unusedVariables false
set_option maxRecDepth 100000

theorem humpgen_New_ok {N : Nat} {a0 : List Int} {res : Int} (h : humpgen_New N a0 = some res) {w : World} {v0 : Value} (hv0 : Sl (Old w No) w v0 a0) :
    CallsR Try.prog 7 [v0] w (fun u w' => ∃ gr : Nat, u = (Value.pointer (some ⟨gr, 0, none⟩)) ∧ Mem w No [blk gr 46 [v0, (Value.int .i64 res)]] w') := by
  unfold humpgen_New at h
  refine fn_ok Try.func7 rfl rfl rfl ?_
  have hm0 := Mem.nil w
  refine cw_seq ?_
  refine cw_region ?_
  refine t_rd rfl (rd_assign rfl) ?_
  refine rwt_nil ?_
  refine qn_then ?_
  refine cw_seq ?_
  refine cw_region ?_
  refine t_rd rfl (rd_move rfl) ?_
  refine t_rd rfl (rd_build (cs := #[v0, (Value.int .i64 0)]) rfl (by obtain ⟨_, _, e⟩ := ((hv0.of_old hm0)).val; rw [e]; clear e; kernel_rfl)) ?_
  refine t_ef rfl (ef_box hm0 rfl rfl) ?_
  rintro _ w6 ⟨g4, rfl, hm5⟩
  refine t_rd rfl (rd_assign rfl) ?_
  refine rwt_nil ?_
  refine qn_then ?_
  refine cw_ret ?_
  obtain rfl := os h
  exact ret1 rfl rfl ⟨g4, rfl, (hm5.pick [0] (by decide) rfl)⟩

theorem Maker_Next_ok {N : Nat} {a0_l : List Int} {a0_n : Int} {a1 : Int} {res : Int × Int} (h : Maker_Next N a0_l a0_n a1 = some res) {w : World} {v0_l : Value} {g0 : Nat} (hv0_l : Sl (Old w (fun k => k = g0)) w v0_l a0_l) (hk0 : (blk g0 46 [v0_l, (Value.int .i64 a0_n)]).φ w) :
    CallsR Try.prog 12 [(Value.pointer (some ⟨g0, 0, none⟩)), (Value.int .i64 a1)] w (fun u w' => u = (Value.int .i64 res.2) ∧ Mem w (fun k => k = g0) [blk g0 46 [v0_l, (Value.int .i64 res.1)]] w') := by
  unfold Maker_Next at h
  refine fn_ok Try.func12 rfl rfl rfl ?_
  have hm0 := Mem.one hk0
  refine cw_seq ?_
  refine cw_region ?_
  refine t_rd rfl (rd_assign rfl) ?_
  refine rwt_nil ?_
  refine qn_then ?_
  refine cw_seq ?_
  refine cw_region ?_
  refine t_rd rfl (rd_assign rfl) ?_
  refine rwt_nil ?_
  refine qn_then ?_
  refine cw_seq ?_
  refine cw_seq ?_
  refine cw_region ?_
  refine t_rd rfl (rd_move rfl) ?_
  refine t_rd rfl (rd_nilCheck rfl) ?_
  refine t_rd rfl (rd_fld tF46_0 rfl) ?_
  refine t_rd rfl (rd_ld1 tO22 rfl (hm0.blk 0 rfl) (off := 0) rfl) ?_
  refine t_rd rfl (rd_lenS tS22 rfl (hv0_l.of_old hm0)) ?_
  refine t_rd rfl (rd_gtr rfl rfl) ?_
  refine rwt_nil ?_
  refine qn_then ?_
  obtain ⟨j69, hit70, q71⟩ := ob h; clear h
  refine cw_join (X := fun eq envq wq => eq = .normal ∧ Sub [(0, (Value.pointer (some ⟨g0, 0, none⟩))), (1, (Value.int .i64 a1)), (5, (Value.int .i64 j69))] envq ∧ Mem w (fun k => k = g0) [blk g0 46 [v0_l, (Value.int .i64 a0_n)]] wq) ?_ ?_
  · clear q71
    obtain ⟨hb72, q73⟩ | ⟨hb72, q73⟩ := oi hit70 <;> clear hit70
    · refine cw_t rfl hb72 ?_
      obtain ⟨w75, he77⟩ : ∃ q, q = w.drew := ⟨_, rfl⟩
      have hm76 := hm0.drew; rw [← he77] at hm76
      refine cw_region_s (fun q => q = w75) (cls [] []) mixed ?_
      rintro _ rfl; rw [← he77]
      refine s_rp (i := 0) rfl (by kernel_rfl) rfl (fun _ => (rd_move rfl)) ?_
      refine s_rp (i := 1) rfl (by kernel_rfl) rfl (fun _ => (rd_nilCheck rfl)) ?_
      refine s_rp (i := 2) rfl (by kernel_rfl) rfl (fun _ => (rd_fld tF46_0 rfl)) ?_
      refine s_rd (i := 3) rfl (by kernel_rfl) rfl (fun _ hS => by rw [hS]; exact (rd_ld1 tO22 rfl (hm76.blk 0 rfl) (off := 0) rfl)) rfl ?_
      refine s_rp (i := 4) rfl (by kernel_rfl) rfl (fun _ => (rd_move rfl)) ?_
      refine s_rp (i := 5) rfl (by kernel_rfl) rfl (fun _ => (rd_nilCheck rfl)) ?_
      refine s_rp (i := 6) rfl (by kernel_rfl) rfl (fun _ => (rd_fld tF46_1 rfl)) ?_
      refine s_rd (i := 7) rfl (by kernel_rfl) rfl (fun _ hS => by rw [hS]; exact (rd_ld1 tO3 rfl (hm76.blk 0 rfl) (off := 1) rfl)) rfl ?_
      refine s_rp (i := 8) rfl (by kernel_rfl) rfl (fun _ => (rd_move rfl)) ?_
      refine s_rp (i := 9) rfl (by kernel_rfl) rfl (fun _ => (rd_nilCheck rfl)) ?_
      refine s_rp (i := 10) rfl (by kernel_rfl) rfl (fun _ => (rd_fld tF46_0 rfl)) ?_
      refine s_rd (i := 11) rfl (by kernel_rfl) rfl (fun _ hS => by rw [hS]; exact (rd_ld1 tO22 rfl (hm76.blk 0 rfl) (off := 0) rfl)) rfl ?_
      refine s_rp (i := 12) rfl (by kernel_rfl) rfl (fun _ => (rd_lenS tS22 rfl (hv0_l.of_old hm76))) ?_
      obtain ⟨x78, h79, q80⟩ := ob q73; clear q73
      refine s_rp (i := 13) rfl (by kernel_rfl) rfl (fun _ => (rd_rem64 h79 rfl rfl)) ?_
      obtain ⟨x81, h82, q83⟩ := ob q80; clear q80
      refine s_rp (i := 14) rfl (by kernel_rfl) rfl (fun _ => (rd_index tS22 rfl rfl (hv0_l.of_old hm76) h82)) ?_
      refine s_rd (i := 15) rfl (by kernel_rfl) rfl (fun _ hS => by rw [hS]; exact (rd_ld1 tO3 rfl ((hv0_l.of_old hm76).cells h82) (off := 0) rfl)) rfl ?_
      refine s_rp (i := 16) rfl (by kernel_rfl) rfl (fun _ => (rd_move rfl)) ?_
      refine s_rp (i := 17) rfl (by kernel_rfl) rfl (fun _ => (rd_nilCheck rfl)) ?_
      refine s_rp (i := 18) rfl (by kernel_rfl) rfl (fun _ => (rd_fld tF46_1 rfl)) ?_
      refine s_rd (i := 19) rfl (by kernel_rfl) rfl (fun _ hS => by rw [hS]; exact (rd_ld1 tO3 rfl (hm76.blk 0 rfl) (off := 1) rfl)) rfl ?_
      refine s_rp (i := 20) rfl (by kernel_rfl) rfl (fun _ => (rd_move rfl)) ?_
      refine s_rp (i := 21) rfl (by kernel_rfl) rfl (fun _ => (rd_nilCheck rfl)) ?_
      refine s_rp (i := 22) rfl (by kernel_rfl) rfl (fun _ => (rd_fld tF46_0 rfl)) ?_
      refine s_rd (i := 23) rfl (by kernel_rfl) rfl (fun _ hS => by rw [hS]; exact (rd_ld1 tO22 rfl (hm76.blk 0 rfl) (off := 0) rfl)) rfl ?_
      refine s_rp (i := 24) rfl (by kernel_rfl) rfl (fun _ => (rd_lenS tS22 rfl (hv0_l.of_old hm76))) ?_
      obtain ⟨x84, h85, q86⟩ := ob q83; clear q83
      refine s_rp (i := 25) rfl (by kernel_rfl) rfl (fun _ => (rd_quo64 h85 rfl rfl)) ?_
      refine s_rp (i := 26) rfl (by kernel_rfl) rfl (fun _ => (rd_mulw rfl rfl)) ?_
      refine s_rp (i := 27) rfl (by kernel_rfl) rfl (fun _ => (rd_addw rfl rfl)) ?_
      refine s_rp (i := 28) rfl (by kernel_rfl) rfl (fun _ => (rd_assign rfl)) ?_
      refine s_nil (by kernel_rfl) ?_
      obtain rfl := os q86
      exact ⟨rfl, (by repeat (first | exact Sub.nil _ | refine Sub.cons rfl ?_)), (hm76.pick [0] (by decide) rfl)⟩
    · refine cw_f rfl hb72 ?_
      refine cw_skip ?_
      obtain rfl := os q73
      exact ⟨rfl, (by repeat (first | exact Sub.nil _ | refine Sub.cons rfl ?_)), (hm0.pick [0] (by decide) rfl)⟩
  · clear hit70
    intro e env87 w88 hX89
    obtain ⟨rfl, hs90, hm91⟩ := hX89
    refine qn_then ?_
    refine cw_sub hs90 ?_
    refine cw_seq ?_
    refine cw_region ?_
    refine t_rd rfl (rd_move rfl) ?_
    refine t_rd rfl (rd_nilCheck rfl) ?_
    refine t_rd rfl (rd_fld tF46_1 rfl) ?_
    refine t_rd rfl (rd_ld1 tO3 rfl (hm91.blk 0 rfl) (off := 1) rfl) ?_
    obtain ⟨x92, h93, q94⟩ := ob q71; clear q71
    refine t_rd rfl (rd_add64 h93 rfl rfl) ?_
    refine t_rd rfl (rd_nilCheck rfl) ?_
    refine t_rd rfl (rd_fld tF46_1 rfl) ?_
    refine t_ef0 (ef_st1 (k := 0) (off := 1) hm91 tO3 rfl rfl rfl rfl rfl rfl) ?_
    intro _ w96 hm95
    refine rwt_nil ?_
    refine qn_then ?_
    refine cw_seq ?_
    refine cw_region ?_
    refine t_rd rfl (rd_move rfl) ?_
    refine t_rd rfl (rd_move rfl) ?_
    obtain ⟨x97, h98, q99⟩ := ob q94; clear q94
    refine t_rd rfl (rd_rem64 h98 rfl rfl) ?_
    refine t_rd rfl (rd_assign rfl) ?_
    refine rwt_nil ?_
    refine qn_then ?_
    refine cw_seq ?_
    refine cw_seq ?_
    refine cw_region ?_
    refine t_rd rfl (rd_move rfl) ?_
    refine t_rd rfl (rd_lss rfl rfl) ?_
    refine rwt_nil ?_
    refine qn_then ?_
    obtain ⟨hb100, q101⟩ | ⟨hb100, q101⟩ := oi q99 <;> clear q99
    · refine cw_t rfl hb100 ?_
      refine cw_region ?_
      refine t_rd rfl (rd_move rfl) ?_
      refine t_rd rfl (rd_move rfl) ?_
      obtain ⟨x102, h103, q104⟩ := ob q101; clear q101
      refine t_rd rfl (rd_add64 h103 rfl rfl) ?_
      refine t_rd rfl (rd_assign rfl) ?_
      refine rwt_nil ?_
      refine qn_then ?_
      refine cw_seq ?_
      refine cw_region ?_
      refine t_rd rfl (rd_move rfl) ?_
      refine t_rd rfl (rd_assign rfl) ?_
      refine rwt_nil ?_
      refine qn_then ?_
      refine cw_ret ?_
      obtain rfl := os q104
      exact ret1 rfl rfl ⟨rfl, (hm95.pick [0] (by decide) rfl)⟩
    · refine cw_f rfl hb100 ?_
      refine cw_skip ?_
      refine qn_then ?_
      refine cw_seq ?_
      refine cw_region ?_
      refine t_rd rfl (rd_move rfl) ?_
      refine t_rd rfl (rd_assign rfl) ?_
      refine rwt_nil ?_
      refine qn_then ?_
      refine cw_ret ?_
      obtain rfl := os q101
      exact ret1 rfl rfl ⟨rfl, (hm95.pick [0] (by decide) rfl)⟩

theorem Maker_Pick_ok {N : Nat} {a0_l : List Int} {a0_n : Int} {a1 : List Int} {res : Int × Int} (h : Maker_Pick N a0_l a0_n a1 = some res) {w : World} {v0_l : Value} {g0 : Nat} {v1 : Value} (hv0_l : Sl (Old w (fun k => k = g0)) w v0_l a0_l) (hk0 : (blk g0 46 [v0_l, (Value.int .i64 a0_n)]).φ w) (hv1 : Sl (Old w (fun k => k = g0)) w v1 a1) :
    CallsR Try.prog 11 [(Value.pointer (some ⟨g0, 0, none⟩)), v1] w (fun u w' => u = (Value.int .i64 res.2) ∧ Mem w (fun k => k = g0) [blk g0 46 [v0_l, (Value.int .i64 res.1)]] w') := by
  unfold Maker_Pick at h
  refine fn_ok Try.func11 rfl rfl rfl ?_
  have hm0 := Mem.one hk0
  refine cw_seq ?_
  refine cw_region ?_
  refine t_rd rfl (rd_assign rfl) ?_
  refine rwt_nil ?_
  refine qn_then ?_
  refine cw_seq ?_
  refine cw_region ?_
  refine t_rd rfl (rd_move rfl) ?_
  refine t_rd rfl (rd_move rfl) ?_
  refine t_rd rfl (rd_move rfl) ?_
  refine t_rd rfl (rd_lenS tS22 rfl (hv1.of_old hm0)) ?_
  obtain ⟨r10, h11, q12⟩ := ob h; clear h
  refine t_ef rfl (ef_call tf12 rfl (Maker_Next_ok h11 (hv0_l.to_callT (k := 0) hm0 rfl) (hm0.get (k := 0) rfl))) ?_
  rintro _ w14 ⟨e_, hm13⟩
  obtain rfl := e_.symm
  have hm15 := hm0.callT (k := 0) rfl (fun _ h => h) hm13 (fun _ => Iff.rfl)
  obtain ⟨x16, h17, q18⟩ := ob q12; clear q12
  refine t_rd rfl (rd_index tS22 rfl rfl (hv1.of_old hm15) h17) ?_
  refine t_rd rfl (rd_ld1 tO3 rfl ((hv1.of_old hm15).cells h17) (off := 0) rfl) ?_
  refine t_rd rfl (rd_assign rfl) ?_
  refine rwt_nil ?_
  refine qn_then ?_
  refine cw_ret ?_
  obtain rfl := os q18
  exact ret1 rfl rfl ⟨rfl, (hm15.pick [0] (by decide) rfl)⟩

theorem law31_pair_ok {N : Nat} {a0_l : List Int} {a0_n : Int} {res : Int × List T_Span × List T_Span} (h : law31_pair N a0_l a0_n = some res) {w : World} {v0_l : Value} {g0 : Nat} (hv0_l : Sl (Old w (fun k => k = g0)) w v0_l a0_l) (hk0 : (blk g0 46 [v0_l, (Value.int .i64 a0_n)]).φ w) :
    CallsR Try.prog 8 [(Value.pointer (some ⟨g0, 0, none⟩))] w (fun u w' => ∃ (y0 : Value) (y1 : Value), u = (Value.tuple #[y0, y1]) ∧ Mem w (fun k => k = g0) [blk g0 46 [v0_l, (Value.int .i64 res.1)], ownL 42 y0 (res.2.1 : List T_Span), ownL 42 y1 (res.2.2 : List T_Span)] w') := by
  unfold law31_pair at h
  refine fn_ok Try.func8 rfl rfl rfl ?_
  have hm0 := Mem.one hk0
  refine cw_seq ?_
  refine cw_region ?_
  refine t_rd rfl (rd_assign rfl) ?_
  refine t_rd rfl (rd_assign rfl) ?_
  refine rwt_nil ?_
  refine qn_then ?_
  refine cw_seq ?_
  refine cw_region ?_
  refine t_rd rfl (rd_move rfl) ?_
  refine t_ef rfl (ef_bslice (l := ([0, 1000, 6000, 12000] : List Int)) hm0 tS22 rfl (cs := #[(Value.int .i64 0), (Value.int .i64 1000), (Value.int .i64 6000), (Value.int .i64 12000)]) (by unfold bsl; kernel_rfl) rfl rfl) ?_
  intro v1356 w1358 hm1357
  obtain ⟨r1359, h1360, q1361⟩ := ob h; clear h
  refine t_ef rfl (ef_call tf11 rfl (Maker_Pick_ok h1360 (hv0_l.to_callT (k := 1) hm1357 rfl) (hm1357.get (k := 1) rfl) (hm1357.sl_callT 0 1 rfl rfl (by decide)))) ?_
  rintro _ w1363 ⟨e_, hm1362⟩
  obtain rfl := e_.symm
  have hm1364 := hm1357.callT (k := 1) rfl (fun _ h => h) hm1362 (fun _ => Iff.rfl)
  refine t_rd rfl (rd_assign rfl) ?_
  refine rwt_nil ?_
  refine qn_then ?_
  refine cw_seq ?_
  refine cw_region ?_
  refine t_rd rfl (rd_move rfl) ?_
  obtain ⟨r1365, h1366, q1367⟩ := ob q1361; clear q1361
  refine t_ef rfl (ef_call tf12 rfl (Maker_Next_ok h1366 (hv0_l.to_callT (k := 1) hm1364 rfl) (hm1364.get (k := 1) rfl))) ?_
  rintro _ w1369 ⟨e_, hm1368⟩
  obtain rfl := e_.symm
  have hm1370 := hm1364.callT (k := 1) rfl (fun _ h => h) hm1368 (fun _ => Iff.rfl)
  refine t_rd rfl (rd_move rfl) ?_
  refine t_rd rfl (rd_move rfl) ?_
  obtain ⟨r1371, h1372, q1373⟩ := ob q1367; clear q1367
  refine t_ef rfl (ef_call tf12 rfl (Maker_Next_ok h1372 (hv0_l.to_callT (k := 1) hm1370 rfl) (hm1370.get (k := 1) rfl))) ?_
  rintro _ w1375 ⟨e_, hm1374⟩
  obtain rfl := e_.symm
  have hm1376 := hm1370.callT (k := 1) rfl (fun _ h => h) hm1374 (fun _ => Iff.rfl)
  obtain ⟨x1377, h1378, q1379⟩ := ob q1373; clear q1373
  refine t_rd rfl (rd_add64 h1378 rfl rfl) ?_
  refine t_rd rfl (rd_assign rfl) ?_
  refine t_rd rfl (rd_assign rfl) ?_
  refine rwt_nil ?_
  refine qn_then ?_
  refine cw_seq ?_
  refine cw_region ?_
  refine t_rd rfl (rd_move rfl) ?_
  obtain ⟨r1380, h1381, q1382⟩ := ob q1379; clear q1379
  refine t_ef rfl (ef_call tf12 rfl (Maker_Next_ok h1381 (hv0_l.to_callT (k := 1) hm1376 rfl) (hm1376.get (k := 1) rfl))) ?_
  rintro _ w1384 ⟨e_, hm1383⟩
  obtain rfl := e_.symm
  have hm1385 := hm1376.callT (k := 1) rfl (fun _ h => h) hm1383 (fun _ => Iff.rfl)
  refine t_rd rfl (rd_assign rfl) ?_
  refine rwt_nil ?_
  refine qn_then ?_
  refine cw_seq ?_
  refine cw_seq ?_
  refine cw_region ?_
  refine t_rd rfl (rd_assign rfl) ?_
  refine rwt_nil ?_
  refine qn_then ?_
  refine cw_block ?_
  have hm1769 := hm1385.addNil (α := T_Span) 42
  have hm1770 := hm1769.addNil (α := T_Span) 42
  obtain ⟨r2402, hit2403, q2404⟩ := ob q1382; clear q1382
  refine cw_loop2 (I := fun q envq wq => ∃ (v2395 : Value) (v2393 : Value), Sub [(0, (Value.pointer (some ⟨g0, 0, none⟩))), (2, v2393), (3, v2395), (5, (Value.int .i64 q.1)), (6, (Value.int .i64 q.2.1)), (7, (Value.int .i64 r1380.2)), (8, (Value.int .i64 q.2.2.1))] envq ∧ Mem w (fun k => k = g0) [ownL 42 v2395 (q.2.2.2.2.2 : List T_Span), ownL 42 v2393 (q.2.2.2.2.1 : List T_Span), blk g0 46 [v0_l, (Value.int .i64 q.2.2.2.1)]] wq) (X := fun eq envq wq => eq = .exit 0 ∧ ∃ (v2387 : Value) (v2385 : Value), Sub [(2, v2385), (3, v2387)] envq ∧ Mem w (fun k => k = g0) [ownL 42 v2387 (r2402.2.2 : List T_Span), ownL 42 v2385 (r2402.2.1 : List T_Span), blk g0 46 [v0_l, (Value.int .i64 r2402.1)]] wq) hit2403 ⟨(Value.slice none 0 0), (Value.slice none 0 0), (by repeat (first | exact Sub.nil _ | refine Sub.cons rfl ?_)), (hm1770.pick [0, 1, 3] (by decide) rfl)⟩ ?_ ?_
  · rintro ⟨i2388, i2389, i2390, i2391, l2392, l2394⟩ x2397 env2398 w2399 hf2400 hr2401 ⟨v2395, v2393, hs_, hm_⟩
    have hs_ : Sub [(0, (Value.pointer (some ⟨g0, 0, none⟩))), (2, v2393), (3, v2395), (5, (Value.int .i64 i2388)), (6, (Value.int .i64 i2389)), (7, (Value.int .i64 r1380.2)), (8, (Value.int .i64 i2390))] env2398 := hs_
    have hm2405 : Mem w (fun k => k = g0) [ownL 42 v2395 (l2394 : List T_Span), ownL 42 v2393 (l2392 : List T_Span), blk g0 46 [v0_l, (Value.int .i64 i2391)]] w2399 := hm_
    refine cw_sub hs_ ?_
    clear hs_ hm_ q2404
    have h : law31_pair_l1 N a0_l r1380 i2388 i2389 i2390 i2391 l2392 l2394 = some x2397 := hf2400
    clear hf2400
    refine cw_seq ?_
    refine cw_seq ?_
    refine cw_region ?_
    refine t_rd rfl (rd_move rfl) ?_
    refine t_rd rfl (rd_leq rfl rfl) ?_
    refine rwt_nil ?_
    refine qn_then ?_
    obtain ⟨hb2406, q2407⟩ | ⟨hb2406, q2407⟩ := oi h <;> clear h
    · refine cw_t rfl hb2406 ?_
      refine cw_skip ?_
      refine qn_then ?_
      refine cw_seq ?_
      refine cw_block ?_
      refine cw_seq ?_
      refine cw_region ?_
      refine t_rd rfl (rd_move rfl) ?_
      refine t_rd rfl (rd_move rfl) ?_
      refine t_rd rfl (rd_move rfl) ?_
      obtain ⟨x2408, h2409, q2410⟩ := ob q2407; clear q2407
      refine t_rd rfl (rd_add64 h2409 rfl rfl) ?_
      refine t_rd rfl (rd_move rfl) ?_
      obtain ⟨r2411, h2412, q2413⟩ := ob q2410; clear q2410
      refine t_ef rfl (ef_call tf12 rfl (Maker_Next_ok h2412 (hv0_l.to_callT (k := 2) hm2405 rfl) (hm2405.get (k := 2) rfl))) ?_
      rintro _ w2415 ⟨e_, hm2414⟩
      obtain rfl := e_.symm
      have hm2416 := hm2405.callT (k := 2) rfl (fun _ h => h) hm2414 (fun _ => Iff.rfl)
      obtain ⟨x2417, h2418, q2419⟩ := ob q2413; clear q2413
      refine t_rd rfl (rd_add64 h2418 rfl rfl) ?_
      refine t_rd rfl (rd_build (cs := #[(Value.int .i64 i2390), (Value.int .i64 0), (Value.int .i64 i2388), (Value.int .i64 x2417)]) rfl (by kernel_rfl)) ?_
      refine t_ef rfl (ef_alloc hm2416 tZ42 rfl) ?_
      rintro _ w2422 ⟨g2420, rfl, hm2421⟩
      refine t_ef0 (ef_stw (k := 0) hm2421 tA42 rfl rfl (oc_cons rfl (oc_cons rfl (oc_cons rfl (oc_cons rfl oc_nil)))) rfl rfl rfl) ?_
      intro _ w2424 hm2423
      refine rwt_nil ?_
      refine qn_then ?_
      refine cw_seq ?_
      refine cw_region ?_
      refine t_rd rfl (rd_move rfl) ?_
      refine t_rd rfl (rd_move rfl) ?_
      refine t_rd rfl (rd_move rfl) ?_
      obtain ⟨x2425, h2426, q2427⟩ := ob q2419; clear q2419
      refine t_rd rfl (rd_add64 h2426 rfl rfl) ?_
      refine t_rd rfl (rd_move rfl) ?_
      obtain ⟨r2428, h2429, q2430⟩ := ob q2427; clear q2427
      refine t_ef rfl (ef_call tf12 rfl (Maker_Next_ok h2429 (hv0_l.to_callT (k := 3) hm2423 rfl) (hm2423.get (k := 3) rfl))) ?_
      rintro _ w2432 ⟨e_, hm2431⟩
      obtain rfl := e_.symm
      have hm2433 := hm2423.callT (k := 3) rfl (fun _ h => h) hm2431 (fun _ => Iff.rfl)
      obtain ⟨x2434, h2435, q2436⟩ := ob q2430; clear q2430
      refine t_rd rfl (rd_add64 h2435 rfl rfl) ?_
      refine t_rd rfl (rd_build (cs := #[(Value.int .i64 i2390), (Value.int .i64 0), (Value.int .i64 i2389), (Value.int .i64 x2434)]) rfl (by kernel_rfl)) ?_
      refine t_ef rfl (ef_alloc hm2433 tZ42 rfl) ?_
      rintro _ w2439 ⟨g2437, rfl, hm2438⟩
      refine t_ef0 (ef_stw (k := 0) hm2438 tA42 rfl rfl (oc_cons rfl (oc_cons rfl (oc_cons rfl (oc_cons rfl oc_nil)))) rfl rfl rfl) ?_
      intro _ w2441 hm2440
      refine rwt_nil ?_
      refine qn_then ?_
      refine cw_seq ?_
      refine cw_seq ?_
      refine cw_region ?_
      refine t_rd rfl (rd_move rfl) ?_
      refine t_rd rfl (rd_rem rfl rfl (by decide)) ?_
      refine t_rd rfl (rd_eql rfl rfl) ?_
      refine rwt_nil ?_
      refine qn_then ?_
      obtain ⟨j2467, hit2468, q2469⟩ := ob q2436; clear q2436
      refine cw_join (X := fun eq envq wq => eq = .normal ∧ Sub [(0, (Value.pointer (some ⟨g0, 0, none⟩))), (2, v2393), (3, v2395), (5, (Value.int .i64 i2388)), (6, (Value.int .i64 i2389)), (7, (Value.int .i64 r1380.2)), (8, (Value.int .i64 i2390)), (9, (Value.pointer (some ⟨g2420, 0, none⟩))), (10, (Value.pointer (some ⟨g2437, 0, none⟩)))] envq ∧ Mem w (fun k => k = g0) [blk g2437 42 [(Value.int .i64 i2390), (Value.int .i64 j2467.2.2), (Value.int .i64 i2389), (Value.int .i64 x2434)], blk g2420 42 [(Value.int .i64 i2390), (Value.int .i64 j2467.2.1), (Value.int .i64 i2388), (Value.int .i64 x2417)], ownL 42 v2395 (l2394 : List T_Span), ownL 42 v2393 (l2392 : List T_Span), blk g0 46 [v0_l, (Value.int .i64 j2467.1)]] wq) ?_ ?_
      · clear q2469
        obtain ⟨hb2470, q2471⟩ | ⟨hb2470, q2471⟩ := oi hit2468 <;> clear hit2468
        · refine cw_t rfl hb2470 ?_
          refine cw_seq ?_
          refine cw_region ?_
          refine t_rd rfl (rd_move rfl) ?_
          refine t_ef rfl (ef_bslice (l := ([1, 2] : List Int)) hm2440 tS22 rfl (cs := #[(Value.int .i64 1), (Value.int .i64 2)]) (by unfold bsl; kernel_rfl) rfl rfl) ?_
          intro v2472 w2474 hm2473
          obtain ⟨r2475, h2476, q2477⟩ := ob q2471; clear q2471
          refine t_ef rfl (ef_call tf11 rfl (Maker_Pick_ok h2476 (hv0_l.to_callT (k := 5) hm2473 rfl) (hm2473.get (k := 5) rfl) (hm2473.sl_callT 0 5 rfl rfl (by decide)))) ?_
          rintro _ w2479 ⟨e_, hm2478⟩
          obtain rfl := e_.symm
          have hm2480 := hm2473.callT (k := 5) rfl (fun _ h => h) hm2478 (fun _ => Iff.rfl)
          refine t_rd rfl (rd_fld tF42_1 rfl) ?_
          refine t_ef0 (ef_st1 (k := 2) (off := 1) hm2480 tO3 rfl rfl rfl rfl rfl rfl) ?_
          intro _ w2482 hm2481
          refine rwt_nil ?_
          refine qn_then ?_
          refine cw_seq ?_
          refine cw_region ?_
          refine t_rd rfl (rd_fld tF42_1 rfl) ?_
          refine t_rd rfl (rd_ld1 tO3 rfl (hm2481.blk 2 rfl) (off := 1) rfl) ?_
          refine t_rd rfl (rd_fld tF42_1 rfl) ?_
          refine t_ef0 (ef_st1 (k := 1) (off := 1) hm2481 tO3 rfl rfl rfl rfl rfl rfl) ?_
          intro _ w2484 hm2483
          refine rwt_nil ?_
          refine qn_then ?_
          refine cw_seq ?_
          refine cw_region ?_
          refine t_rd rfl (rd_move rfl) ?_
          refine t_rd rfl (rd_move rfl) ?_
          refine t_rd rfl (rd_eql rfl rfl) ?_
          refine rwt_nil ?_
          refine qn_then ?_
          obtain ⟨hb2485, q2486⟩ | ⟨hb2485, q2486⟩ := oi q2477 <;> clear q2477
          · refine cw_t rfl hb2485 ?_
            refine cw_region ?_
            refine t_rd rfl (rd_fld tF42_1 rfl) ?_
            refine t_rd rfl (rd_ld1 tO3 rfl (hm2483.blk 2 rfl) (off := 1) rfl) ?_
            obtain ⟨x2487, h2488, q2489⟩ := ob q2486; clear q2486
            refine t_rd rfl (rd_sub64 h2488 rfl rfl) ?_
            refine t_rd rfl (rd_fld tF42_1 rfl) ?_
            refine t_ef0 (ef_st1 (k := 1) (off := 1) hm2483 tO3 rfl rfl rfl rfl rfl rfl) ?_
            intro _ w2491 hm2490
            refine rwt_nil ?_
            obtain rfl := os q2489
            exact ⟨rfl, (by repeat (first | exact Sub.nil _ | refine Sub.cons rfl ?_)), (hm2490.pick [1, 2, 3, 4, 5] (by decide) rfl)⟩
          · refine cw_f rfl hb2485 ?_
            refine cw_skip ?_
            obtain rfl := os q2486
            exact ⟨rfl, (by repeat (first | exact Sub.nil _ | refine Sub.cons rfl ?_)), (hm2483.pick [1, 2, 3, 4, 5] (by decide) rfl)⟩
        · refine cw_f rfl hb2470 ?_
          refine cw_skip ?_
          obtain rfl := os q2471
          exact ⟨rfl, (by repeat (first | exact Sub.nil _ | refine Sub.cons rfl ?_)), (hm2440.pick [0, 1, 2, 3, 4] (by decide) rfl)⟩
      · clear hit2468
        intro e env2492 w2493 hX2494
        obtain ⟨rfl, hs2495, hm2496⟩ := hX2494
        refine qn_then ?_
        refine cw_sub hs2495 ?_
        refine cw_seq ?_
        refine cw_seq ?_
        refine cw_region ?_
        refine t_rd rfl (rd_move rfl) ?_
        refine t_rd rfl (rd_move rfl) ?_
        refine t_rd rfl (rd_gtr rfl rfl) ?_
        refine t_rd rfl (rd_move rfl) ?_
        refine t_rdg rfl rfl rfl rfl (gv_t _) (fun hg2497 => (rd_move rfl)) ?_
        refine t_rdg rfl rfl rfl rfl (gv_t _) (fun hg2498 => (rd_rem (gvx rfl hg2498) rfl (by decide))) ?_
        refine t_rdg rfl rfl rfl rfl (gv_t _) (fun hg2499 => (rd_eql (gvx rfl hg2499) rfl)) ?_
        refine t_rd rfl (rd_and rfl (fun hc2500 => (gvx rfl hc2500))) ?_
        refine t_rd rfl (rd_move rfl) ?_
        refine t_rdg rfl rfl rfl rfl (gv_t _) (fun hg2501 => (rd_move rfl)) ?_
        refine t_rdg rfl rfl rfl rfl (gv_t _) (fun hg2502 => (rd_gtr (gvx rfl hg2502) rfl)) ?_
        refine t_rd rfl (rd_and rfl (fun hc2503 => (gvx rfl hc2503))) ?_
        refine rwt_nil ?_
        refine qn_then ?_
        obtain ⟨j2512, hit2513, q2514⟩ := ob q2469; clear q2469
        refine cw_join (X := fun eq envq wq => eq = .normal ∧ Sub [(0, (Value.pointer (some ⟨g0, 0, none⟩))), (2, v2393), (3, v2395), (5, (Value.int .i64 i2388)), (6, (Value.int .i64 i2389)), (7, (Value.int .i64 r1380.2)), (8, (Value.int .i64 i2390)), (9, (Value.pointer (some ⟨g2420, 0, none⟩))), (10, (Value.pointer (some ⟨g2437, 0, none⟩)))] envq ∧ Mem w (fun k => k = g0) [blk g2437 42 [(Value.int .i64 j2512), (Value.int .i64 j2467.2.2), (Value.int .i64 i2389), (Value.int .i64 x2434)], blk g2420 42 [(Value.int .i64 i2390), (Value.int .i64 j2467.2.1), (Value.int .i64 i2388), (Value.int .i64 x2417)], ownL 42 v2395 (l2394 : List T_Span), ownL 42 v2393 (l2392 : List T_Span), blk g0 46 [v0_l, (Value.int .i64 j2467.1)]] wq) ?_ ?_
        · clear q2514
          obtain ⟨hb2515, q2516⟩ | ⟨hb2515, q2516⟩ := oi hit2513 <;> clear hit2513
          · refine cw_t rfl hb2515 ?_
            refine cw_region ?_
            refine t_rd rfl (rd_fld tF42_0 rfl) ?_
            refine t_rd rfl (rd_ld1 tO3 rfl (hm2496.blk 0 rfl) (off := 0) rfl) ?_
            obtain ⟨x2517, h2518, q2519⟩ := ob q2516; clear q2516
            refine t_rd rfl (rd_add64 h2518 rfl rfl) ?_
            refine t_rd rfl (rd_fld tF42_0 rfl) ?_
            refine t_ef0 (ef_st1 (k := 0) (off := 0) hm2496 tO3 rfl rfl rfl rfl rfl rfl) ?_
            intro _ w2521 hm2520
            refine rwt_nil ?_
            obtain rfl := os q2519
            exact ⟨rfl, (by repeat (first | exact Sub.nil _ | refine Sub.cons rfl ?_)), (hm2520.pick [0, 1, 2, 3, 4] (by decide) rfl)⟩
          · refine cw_f rfl hb2515 ?_
            refine cw_skip ?_
            obtain rfl := os q2516
            exact ⟨rfl, (by repeat (first | exact Sub.nil _ | refine Sub.cons rfl ?_)), (hm2496.pick [0, 1, 2, 3, 4] (by decide) rfl)⟩
        · clear hit2513
          intro e env2522 w2523 hX2524
          obtain ⟨rfl, hs2525, hm2526⟩ := hX2524
          refine qn_then ?_
          refine cw_sub hs2525 ?_
          refine cw_seq ?_
          obtain ⟨j2604, hit2605, q2606⟩ := ob q2514; clear q2514
          refine cw_join (X := fun eq envq wq => eq = .normal ∧ ∃ (v2603 : Value) (v2601 : Value), Sub [(0, (Value.pointer (some ⟨g0, 0, none⟩))), (2, v2601), (3, v2603), (5, (Value.int .i64 i2388)), (6, (Value.int .i64 i2389)), (7, (Value.int .i64 r1380.2)), (8, (Value.int .i64 i2390))] envq ∧ Mem w (fun k => k = g0) [ownL 42 v2603 (j2604.2 : List T_Span), ownL 42 v2601 (j2604.1 : List T_Span), blk g0 46 [v0_l, (Value.int .i64 j2467.1)]] wq) ?_ ?_
          · clear q2606
            obtain ⟨w2608, he2610⟩ : ∃ q, q = w2523.drew := ⟨_, rfl⟩
            have hm2609 := hm2526.drew; rw [← he2610] at hm2609
            refine cw_region_s (fun q => (blk g2420 42 [(Value.int .i64 i2390), (Value.int .i64 j2467.2.1), (Value.int .i64 i2388), (Value.int .i64 x2417)]).φ q ∧ (blk g2437 42 [(Value.int .i64 j2512), (Value.int .i64 j2467.2.2), (Value.int .i64 i2389), (Value.int .i64 x2434)]).φ q) (cls [2, 3, 6] [7]) mixed ?_
            rintro _ rfl; rw [← he2610]
            refine s_rp (i := 0) rfl (by kernel_rfl) rfl (fun _ => (rd_move rfl)) ?_
            refine s_rd (i := 1) rfl (by kernel_rfl) rfl (fun w2607 hS => (rd_ld tA42 rfl (cells_blk hS.1) rfl)) ⟨(hm2609.get (k := 1) rfl), (hm2609.get (k := 0) rfl)⟩ ?_
            refine s_rp (i := 4) rfl (by kernel_rfl) rfl (fun _ => (rd_move rfl)) ?_
            refine s_rd (i := 5) rfl (by kernel_rfl) rfl (fun w2607 hS => (rd_ld tA42 rfl (cells_blk hS.2) rfl)) ⟨(hm2609.get (k := 1) rfl), (hm2609.get (k := 0) rfl)⟩ ?_
            refine s_br2 (i := 2) (j := 6) (by kernel_rfl) ?_ ?_
            · skip
              refine e_ef (i := 2) rfl rfl (ef_bslice (l := ([(T_Span.mk i2390 j2467.2.1 i2388 x2417)] : List T_Span)) hm2609 tS23 rfl (cs := #[(Value.int .i64 i2390), (Value.int .i64 j2467.2.1), (Value.int .i64 i2388), (Value.int .i64 x2417)]) (by unfold bsl; kernel_rfl) rfl rfl) (by decide) ?_ ?_
              · intro v2629 w2631 hm2630
                intro _
                exact ⟨(hm2630.get (k := 2) rfl), (hm2630.get (k := 1) rfl)⟩
              intro v2629 w2631 hm2630
              refine s_br2 (i := 3) (j := 6) (by kernel_rfl) ?_ ?_
              · skip
                obtain ⟨l2632, h2633, q2634⟩ := ob hit2605; clear hit2605
                refine e_ef (i := 3) rfl rfl (ef_append (k := 4) hm2630 tS23 tE42 rfl rfl rfl rfl (hm2630.sl 0 rfl) h2633) (by decide) ?_ ?_
                · intro v2635 w2637 hm2636
                  intro _
                  exact ⟨(hm2636.get (k := 2) rfl), (hm2636.get (k := 1) rfl)⟩
                intro v2635 w2637 hm2636
                refine s_ef (i := 6) rfl (by kernel_rfl) rfl (ef_bslice (l := ([(T_Span.mk j2512 j2467.2.2 i2389 x2434)] : List T_Span)) hm2636 tS23 rfl (cs := #[(Value.int .i64 j2512), (Value.int .i64 j2467.2.2), (Value.int .i64 i2389), (Value.int .i64 x2434)]) (by unfold bsl; kernel_rfl) rfl rfl) (by decide) ?_ ?_
                · intro v2638 w2640 hm2639
                  intro _
                  exact ⟨(hm2639.get (k := 3) rfl), (hm2639.get (k := 2) rfl)⟩
                intro v2638 w2640 hm2639
                obtain ⟨l2641, h2642, q2643⟩ := ob q2634; clear q2634
                refine s_ef (i := 7) rfl (by kernel_rfl) rfl (ef_append (k := 4) hm2639 tS23 tE42 rfl rfl rfl rfl (hm2639.sl 0 rfl) h2642) (by decide) (fun _ _ _ q => absurd q (by decide)) ?_
                intro v2644 w2646 hm2645
                refine s_rp (i := 8) rfl (by kernel_rfl) rfl (fun _ => (rd_assign rfl)) ?_
                refine s_rp (i := 9) rfl (by kernel_rfl) rfl (fun _ => (rd_assign rfl)) ?_
                refine s_nil (by kernel_rfl) ?_
                obtain rfl := os q2643
                exact ⟨rfl, v2644, v2635, (by repeat (first | exact Sub.nil _ | refine Sub.cons rfl ?_)), (hm2645.pick [4, 5, 6] (by decide) rfl)⟩
              · skip
                refine e_ef (i := 6) rfl rfl (ef_bslice (l := ([(T_Span.mk j2512 j2467.2.2 i2389 x2434)] : List T_Span)) hm2630 tS23 rfl (cs := #[(Value.int .i64 j2512), (Value.int .i64 j2467.2.2), (Value.int .i64 i2389), (Value.int .i64 x2434)]) (by unfold bsl; kernel_rfl) rfl rfl) (by decide) ?_ ?_
                · intro v2647 w2649 hm2648
                  intro _
                  exact ⟨(hm2648.get (k := 3) rfl), (hm2648.get (k := 2) rfl)⟩
                intro v2647 w2649 hm2648
                obtain ⟨l2650, h2651, q2652⟩ := ob hit2605; clear hit2605
                refine s_ef (i := 3) rfl (by kernel_rfl) rfl (ef_append (k := 5) hm2648 tS23 tE42 rfl rfl rfl rfl (hm2648.sl 1 rfl) h2651) (by decide) ?_ ?_
                · intro v2653 w2655 hm2654
                  intro _
                  exact ⟨(hm2654.get (k := 3) rfl), (hm2654.get (k := 2) rfl)⟩
                intro v2653 w2655 hm2654
                obtain ⟨l2656, h2657, q2658⟩ := ob q2652; clear q2652
                refine s_ef (i := 7) rfl (by kernel_rfl) rfl (ef_append (k := 4) hm2654 tS23 tE42 rfl rfl rfl rfl (hm2654.sl 0 rfl) h2657) (by decide) (fun _ _ _ q => absurd q (by decide)) ?_
                intro v2659 w2661 hm2660
                refine s_rp (i := 8) rfl (by kernel_rfl) rfl (fun _ => (rd_assign rfl)) ?_
                refine s_rp (i := 9) rfl (by kernel_rfl) rfl (fun _ => (rd_assign rfl)) ?_
                refine s_nil (by kernel_rfl) ?_
                obtain rfl := os q2658
                exact ⟨rfl, v2659, v2653, (by repeat (first | exact Sub.nil _ | refine Sub.cons rfl ?_)), (hm2660.pick [4, 5, 6] (by decide) rfl)⟩
            · skip
              refine e_ef (i := 6) rfl rfl (ef_bslice (l := ([(T_Span.mk j2512 j2467.2.2 i2389 x2434)] : List T_Span)) hm2609 tS23 rfl (cs := #[(Value.int .i64 j2512), (Value.int .i64 j2467.2.2), (Value.int .i64 i2389), (Value.int .i64 x2434)]) (by unfold bsl; kernel_rfl) rfl rfl) (by decide) ?_ ?_
              · intro v2662 w2664 hm2663
                intro _
                exact ⟨(hm2663.get (k := 2) rfl), (hm2663.get (k := 1) rfl)⟩
              intro v2662 w2664 hm2663
              refine s_ef (i := 2) rfl (by kernel_rfl) rfl (ef_bslice (l := ([(T_Span.mk i2390 j2467.2.1 i2388 x2417)] : List T_Span)) hm2663 tS23 rfl (cs := #[(Value.int .i64 i2390), (Value.int .i64 j2467.2.1), (Value.int .i64 i2388), (Value.int .i64 x2417)]) (by unfold bsl; kernel_rfl) rfl rfl) (by decide) ?_ ?_
              · intro v2665 w2667 hm2666
                intro _
                exact ⟨(hm2666.get (k := 3) rfl), (hm2666.get (k := 2) rfl)⟩
              intro v2665 w2667 hm2666
              obtain ⟨l2668, h2669, q2670⟩ := ob hit2605; clear hit2605
              refine s_ef (i := 3) rfl (by kernel_rfl) rfl (ef_append (k := 5) hm2666 tS23 tE42 rfl rfl rfl rfl (hm2666.sl 0 rfl) h2669) (by decide) ?_ ?_
              · intro v2671 w2673 hm2672
                intro _
                exact ⟨(hm2672.get (k := 3) rfl), (hm2672.get (k := 2) rfl)⟩
              intro v2671 w2673 hm2672
              obtain ⟨l2674, h2675, q2676⟩ := ob q2670; clear q2670
              refine s_ef (i := 7) rfl (by kernel_rfl) rfl (ef_append (k := 4) hm2672 tS23 tE42 rfl rfl rfl rfl (hm2672.sl 1 rfl) h2675) (by decide) (fun _ _ _ q => absurd q (by decide)) ?_
              intro v2677 w2679 hm2678
              refine s_rp (i := 8) rfl (by kernel_rfl) rfl (fun _ => (rd_assign rfl)) ?_
              refine s_rp (i := 9) rfl (by kernel_rfl) rfl (fun _ => (rd_assign rfl)) ?_
              refine s_nil (by kernel_rfl) ?_
              obtain rfl := os q2676
              exact ⟨rfl, v2677, v2671, (by repeat (first | exact Sub.nil _ | refine Sub.cons rfl ?_)), (hm2678.pick [4, 5, 6] (by decide) rfl)⟩
          · clear hit2605
            intro e env2680 w2681 hX2682
            obtain ⟨rfl, v2603, v2601, hs2683, hm2684⟩ := hX2682
            refine qn_then ?_
            refine cw_sub hs2683 ?_
            refine cw_region ?_
            refine t_rd rfl (rd_move rfl) ?_
            refine t_rd rfl (rd_move rfl) ?_
            obtain ⟨r2685, h2686, q2687⟩ := ob q2606; clear q2606
            refine t_ef rfl (ef_call tf12 rfl (Maker_Next_ok h2686 (hv0_l.to_callT (k := 2) hm2684 rfl) (hm2684.get (k := 2) rfl))) ?_
            rintro _ w2689 ⟨e_, hm2688⟩
            obtain rfl := e_.symm
            have hm2690 := hm2684.callT (k := 2) rfl (fun _ h => h) hm2688 (fun _ => Iff.rfl)
            obtain ⟨x2691, h2692, q2693⟩ := ob q2687; clear q2687
            refine t_rd rfl (rd_add64 h2692 rfl rfl) ?_
            refine t_rd rfl (rd_move rfl) ?_
            refine t_rd rfl (rd_move rfl) ?_
            obtain ⟨r2694, h2695, q2696⟩ := ob q2693; clear q2693
            refine t_ef rfl (ef_call tf12 rfl (Maker_Next_ok h2695 (hv0_l.to_callT (k := 2) hm2690 rfl) (hm2690.get (k := 2) rfl))) ?_
            rintro _ w2698 ⟨e_, hm2697⟩
            obtain rfl := e_.symm
            have hm2699 := hm2690.callT (k := 2) rfl (fun _ h => h) hm2697 (fun _ => Iff.rfl)
            obtain ⟨x2700, h2701, q2702⟩ := ob q2696; clear q2696
            refine t_rd rfl (rd_add64 h2701 rfl rfl) ?_
            refine t_rd rfl (rd_assign rfl) ?_
            refine t_rd rfl (rd_assign rfl) ?_
            refine rwt_nil ?_
            refine qn_block (qn_then ?_)
            refine cw_region ?_
            refine t_rd rfl (rd_move rfl) ?_
            obtain ⟨x2703, h2704, q2705⟩ := ob q2702; clear q2702
            refine t_rd rfl (rd_add64 h2704 rfl rfl) ?_
            refine t_rd rfl (rd_assign rfl) ?_
            refine rwt_nil ?_
            refine qn_then ?_
            refine ⟨_, (os q2705), v2603, v2601, (by repeat (first | exact Sub.nil _ | refine Sub.cons rfl ?_)), (hm2699.pick [0, 1, 2] (by decide) rfl)⟩
    · refine cw_f rfl hb2406 ?_
      refine cw_exit ?_
      refine qx_then (qx_then ?_)
      obtain rfl := hr2401 _ (os q2407)
      exact ⟨rfl, v2395, v2393, (by repeat (first | exact Sub.nil _ | refine Sub.cons rfl ?_)), (hm2405.pick [0, 1, 2] (by decide) rfl)⟩
  · skip
    intro e env2706 w2707 hX2708
    obtain ⟨rfl, v2387, v2385, hs2709, hm2710⟩ := hX2708
    refine qx_same (qn_then ?_)
    refine cw_sub hs2709 ?_
    refine cw_seq ?_
    refine cw_region ?_
    refine t_rd rfl (rd_move rfl) ?_
    refine t_rd rfl (rd_move rfl) ?_
    refine t_rd rfl (rd_assign rfl) ?_
    refine t_rd rfl (rd_assign rfl) ?_
    refine rwt_nil ?_
    refine qn_then ?_
    refine cw_ret ?_
    obtain rfl := os q2404
    exact ret2 rfl rfl rfl ⟨v2385, v2387, rfl, (hm2710.pick [2, 1, 0] (by decide) rfl)⟩

theorem yardgen_SpoilSpans_ok {N : Nat} {a0_l : List Int} {a0_n : Int} {a1 : List T_Span} {res : Int × List T_Span} (h : yardgen_SpoilSpans N a0_l a0_n a1 = some res) {w : World} {v0_l : Value} {g0 : Nat} {v1 : Value} (hv0_l : Sl (Old w (fun k => k = g0)) w v0_l a0_l) (hk0 : (blk g0 46 [v0_l, (Value.int .i64 a0_n)]).φ w) (hv1 : Sl (Old w (fun k => k = g0)) w v1 a1) :
    CallsR Try.prog 9 [(Value.pointer (some ⟨g0, 0, none⟩)), v1] w (fun u w' => ∃ (y0 : Value), u = y0 ∧ Mem w (fun k => k = g0) [blk g0 46 [v0_l, (Value.int .i64 res.1)], ownL 42 y0 (res.2 : List T_Span)] w') := by
  unfold yardgen_SpoilSpans at h
  refine fn_ok Try.func9 rfl rfl rfl ?_
  have hm0 := Mem.one hk0
  refine cw_seq ?_
  refine cw_region ?_
  refine t_rd rfl (rd_assign rfl) ?_
  refine rwt_nil ?_
  refine qn_then ?_
  refine cw_seq ?_
  refine cw_region ?_
  refine t_ef rfl (ef_bslice0 (α := T_Span) hm0 tS23) ?_
  intro v101 w103 hm102
  refine t_rd rfl (rd_move rfl) ?_
  obtain ⟨l104, h105, q106⟩ := ob h; clear h
  refine t_ef rfl (ef_append (k := 0) hm102 tS23 tE42 rfl rfl rfl rfl (hv1.of_old hm102) h105) ?_
  intro v107 w109 hm108
  refine t_rd rfl (rd_assign rfl) ?_
  refine rwt_nil ?_
  refine qn_then ?_
  refine cw_seq ?_
  refine cw_seq ?_
  refine cw_region ?_
  refine t_rd rfl (rd_move rfl) ?_
  refine t_rd rfl (rd_lenS tS23 rfl (hm108.sl 0 rfl)) ?_
  refine t_rd rfl (rd_eql rfl rfl) ?_
  refine rwt_nil ?_
  refine qn_then ?_
  obtain ⟨hb110, q111⟩ | ⟨hb110, q111⟩ := oi q106 <;> clear q106
  · refine cw_t rfl hb110 ?_
    refine cw_seq ?_
    refine cw_region ?_
    refine t_rd rfl (rd_move rfl) ?_
    refine t_ef rfl (ef_bslice (l := ([5, 6] : List Int)) hm108 tS22 rfl (cs := #[(Value.int .i64 5), (Value.int .i64 6)]) (by unfold bsl; kernel_rfl) rfl rfl) ?_
    intro v112 w114 hm113
    obtain ⟨r115, h116, q117⟩ := ob q111; clear q111
    refine t_ef rfl (ef_call tf11 rfl (Maker_Pick_ok h116 (hv0_l.to_callT (k := 2) hm113 rfl) (hm113.get (k := 2) rfl) (hm113.sl_callT 0 2 rfl rfl (by decide)))) ?_
    rintro _ w119 ⟨e_, hm118⟩
    obtain rfl := e_.symm
    have hm120 := hm113.callT (k := 2) rfl (fun _ h => h) hm118 (fun _ => Iff.rfl)
    refine t_rd rfl (rd_build (cs := #[(Value.int .i64 1), (Value.int .i64 0), (Value.int .i64 5), (Value.int .i64 r115.2)]) rfl (by kernel_rfl)) ?_
    refine t_ef rfl (ef_bslice (l := ([(T_Span.mk 1 0 5 r115.2)] : List T_Span)) hm120 tS23 rfl (cs := #[(Value.int .i64 1), (Value.int .i64 0), (Value.int .i64 5), (Value.int .i64 r115.2)]) (by unfold bsl; kernel_rfl) rfl rfl) ?_
    intro v121 w123 hm122
    refine t_rd rfl (rd_assign rfl) ?_
    refine rwt_nil ?_
    refine qn_then ?_
    refine cw_ret ?_
    refine qr_then ?_
    obtain rfl := os q117
    exact ret1 rfl rfl ⟨v121, rfl, (hm122.pick [3, 0] (by decide) rfl)⟩
  · refine cw_f rfl hb110 ?_
    refine cw_skip ?_
    refine qn_then ?_
    refine cw_seq ?_
    refine cw_region ?_
    refine t_rd rfl (rd_move rfl) ?_
    refine t_rd rfl (rd_move rfl) ?_
    refine t_rd rfl (rd_move rfl) ?_
    refine t_rd rfl (rd_lenS tS23 rfl (hm108.sl 0 rfl)) ?_
    obtain ⟨r124, h125, q126⟩ := ob q111; clear q111
    refine t_ef rfl (ef_call tf12 rfl (Maker_Next_ok h125 (hv0_l.to_callT (k := 1) hm108 rfl) (hm108.get (k := 1) rfl))) ?_
    rintro _ w128 ⟨e_, hm127⟩
    obtain rfl := e_.symm
    have hm129 := hm108.callT (k := 1) rfl (fun _ h => h) hm127 (fun _ => Iff.rfl)
    obtain ⟨x130, h131, q132⟩ := ob q126; clear q126
    refine t_rd rfl (rd_index tS23 rfl rfl (hm129.sl 0 rfl) h131) ?_
    refine t_rd rfl (rd_assign rfl) ?_
    refine rwt_nil ?_
    refine qn_then ?_
    refine cw_seq ?_
    refine cw_seq ?_
    refine cw_region ?_
    refine t_rd rfl (rd_move rfl) ?_
    obtain ⟨r133, h134, q135⟩ := ob q132; clear q132
    refine t_ef rfl (ef_call tf12 rfl (Maker_Next_ok h134 (hv0_l.to_callT (k := 1) hm129 rfl) (hm129.get (k := 1) rfl))) ?_
    rintro _ w137 ⟨e_, hm136⟩
    obtain rfl := e_.symm
    have hm138 := hm129.callT (k := 1) rfl (fun _ h => h) hm136 (fun _ => Iff.rfl)
    refine rwt_nil ?_
    refine qn_then ?_
    refine cw_block ?_
    refine cw_seq ?_
    refine cw_region ?_
    refine t_rd rfl (rd_eql rfl rfl) ?_
    refine t_rd rfl (rd_assign rfl) ?_
    refine rwt_nil ?_
    refine qn_then ?_
    obtain ⟨hb139, q140⟩ | ⟨hb139, q140⟩ := oi q135 <;> clear q135
    · refine cw_t rfl hb139 ?_
      refine cw_region ?_
      refine t_rd rfl (rd_move rfl) ?_
      refine t_rd rfl (rd_move rfl) ?_
      refine t_rd rfl (rd_move rfl) ?_
      obtain ⟨x141, h142, q143⟩ := ob q140; clear q140
      refine t_rd rfl (rd_index tS23 rfl rfl (hm138.sl 0 rfl) h142) ?_
      refine t_rd rfl (rd_fld tF42_0 rfl) ?_
      refine t_rd rfl (rd_ld1 tO3 rfl ((hm138.sl 0 rfl).cells h142) (off := 0) rfl) ?_
      refine t_ef rfl (ef_bslice (l := ([(-1), x141.Element, 127, 128] : List Int)) hm138 tS22 rfl (cs := #[(Value.int .i64 (-1)), (Value.int .i64 x141.Element), (Value.int .i64 127), (Value.int .i64 128)]) (by unfold bsl; kernel_rfl) rfl rfl) ?_
      intro v144 w146 hm145
      obtain ⟨r147, h148, q149⟩ := ob q143; clear q143
      refine t_ef rfl (ef_call tf11 rfl (Maker_Pick_ok h148 (hv0_l.to_callT (k := 2) hm145 rfl) (hm145.get (k := 2) rfl) (hm145.sl_callT 0 2 rfl rfl (by decide)))) ?_
      rintro _ w151 ⟨e_, hm150⟩
      obtain rfl := e_.symm
      have hm152 := hm145.callT (k := 2) rfl (fun _ h => h) hm150 (fun _ => Iff.rfl)
      refine t_rd rfl (rd_nilCheck rfl) ?_
      refine t_rd rfl (rd_fld tF42_0 rfl) ?_
      refine t_ef0 (ef_stl (k := 1) (off := 0) (x' := (T_Span.mk r147.2 x130.Side x130.From x130.To)) hm152 tO3 rfl rfl rfl rfl h131 rfl rfl) ?_
      intro _ w154 hm153
      refine rwt_nil ?_
      refine qn_block (qn_then ?_)
      refine cw_seq ?_
      refine cw_region ?_
      refine t_rd rfl (rd_move rfl) ?_
      refine t_rd rfl (rd_assign rfl) ?_
      refine rwt_nil ?_
      refine qn_then ?_
      refine cw_ret ?_
      obtain rfl := os q149
      exact ret1 rfl rfl ⟨v107, rfl, (hm153.pick [2, 1] (by decide) rfl)⟩
    · refine cw_f rfl hb139 ?_
      refine cw_seq ?_
      refine cw_region ?_
      refine t_rd rfl (rd_eql rfl rfl) ?_
      refine t_rd rfl (rd_assign rfl) ?_
      refine rwt_nil ?_
      refine qn_then ?_
      obtain ⟨hb155, q156⟩ | ⟨hb155, q156⟩ := oi q140 <;> clear q140
      · refine cw_t rfl hb155 ?_
        refine cw_region ?_
        refine t_rd rfl (rd_move rfl) ?_
        refine t_rd rfl (rd_move rfl) ?_
        refine t_ef rfl (ef_bslice (l := ([(-1), 3, 0] : List Int)) hm138 tS22 rfl (cs := #[(Value.int .i64 (-1)), (Value.int .i64 3), (Value.int .i64 0)]) (by unfold bsl; kernel_rfl) rfl rfl) ?_
        intro v157 w159 hm158
        obtain ⟨r160, h161, q162⟩ := ob q156; clear q156
        refine t_ef rfl (ef_call tf11 rfl (Maker_Pick_ok h161 (hv0_l.to_callT (k := 2) hm158 rfl) (hm158.get (k := 2) rfl) (hm158.sl_callT 0 2 rfl rfl (by decide)))) ?_
        rintro _ w164 ⟨e_, hm163⟩
        obtain rfl := e_.symm
        have hm165 := hm158.callT (k := 2) rfl (fun _ h => h) hm163 (fun _ => Iff.rfl)
        refine t_rd rfl (rd_nilCheck rfl) ?_
        refine t_rd rfl (rd_fld tF42_1 rfl) ?_
        refine t_ef0 (ef_stl (k := 1) (off := 1) (x' := (T_Span.mk x130.Element r160.2 x130.From x130.To)) hm165 tO3 rfl rfl rfl rfl h131 rfl rfl) ?_
        intro _ w167 hm166
        refine rwt_nil ?_
        refine qn_block (qn_then ?_)
        refine cw_seq ?_
        refine cw_region ?_
        refine t_rd rfl (rd_move rfl) ?_
        refine t_rd rfl (rd_assign rfl) ?_
        refine rwt_nil ?_
        refine qn_then ?_
        refine cw_ret ?_
        obtain rfl := os q162
        exact ret1 rfl rfl ⟨v107, rfl, (hm166.pick [2, 1] (by decide) rfl)⟩
      · refine cw_f rfl hb155 ?_
        refine cw_seq ?_
        refine cw_region ?_
        refine t_rd rfl (rd_eql rfl rfl) ?_
        refine t_rd rfl (rd_assign rfl) ?_
        refine rwt_nil ?_
        refine qn_then ?_
        obtain ⟨hb168, q169⟩ | ⟨hb168, q169⟩ := oi q156 <;> clear q156
        · refine cw_t rfl hb168 ?_
          obtain ⟨w171, he173⟩ : ∃ q, q = w137.drew := ⟨_, rfl⟩
          have hm172 := hm138.drew; rw [← he173] at hm172
          refine cw_region_s (fun q => q = w171) (cls [] [11, 12, 15]) mixed ?_
          rintro _ rfl; rw [← he173]
          refine s_rp (i := 0) rfl (by kernel_rfl) rfl (fun _ => (rd_move rfl)) ?_
          refine s_rp (i := 1) rfl (by kernel_rfl) rfl (fun _ => (rd_move rfl)) ?_
          refine s_rp (i := 2) rfl (by kernel_rfl) rfl (fun _ => (rd_move rfl)) ?_
          refine s_rp (i := 3) rfl (by kernel_rfl) rfl (fun _ => (rd_nilCheck rfl)) ?_
          refine s_rp (i := 4) rfl (by kernel_rfl) rfl (fun _ => (rd_fld tF42_3 rfl)) ?_
          refine s_rd (i := 5) rfl (by kernel_rfl) rfl (fun _ hS => by rw [hS]; exact (rd_ld1 tO3 rfl ((hm172.sl 0 rfl).cells h131) (off := 3) rfl)) rfl ?_
          refine s_rp (i := 6) rfl (by kernel_rfl) rfl (fun _ => (rd_move rfl)) ?_
          refine s_rp (i := 7) rfl (by kernel_rfl) rfl (fun _ => (rd_nilCheck rfl)) ?_
          refine s_rp (i := 8) rfl (by kernel_rfl) rfl (fun _ => (rd_fld tF42_3 rfl)) ?_
          refine s_rd (i := 9) rfl (by kernel_rfl) rfl (fun _ hS => by rw [hS]; exact (rd_ld1 tO3 rfl ((hm172.sl 0 rfl).cells h131) (off := 3) rfl)) rfl ?_
          obtain ⟨x174, h175, q176⟩ := ob q169; clear q169
          refine s_rp (i := 10) rfl (by kernel_rfl) rfl (fun _ => (rd_add64 h175 rfl rfl)) ?_
          refine s_ef (i := 11) rfl (by kernel_rfl) rfl (ef_bslice (l := ([(-1), x130.To, x174] : List Int)) hm172 tS22 rfl (cs := #[(Value.int .i64 (-1)), (Value.int .i64 x130.To), (Value.int .i64 x174)]) (by unfold bsl; kernel_rfl) rfl rfl) (by decide) (fun _ _ _ q => absurd q (by decide)) ?_
          intro v177 w179 hm178
          obtain ⟨r180, h181, q182⟩ := ob q176; clear q176
          refine s_ef (i := 12) rfl (by kernel_rfl) rfl (ef_call tf11 rfl (Maker_Pick_ok h181 (hv0_l.to_callT (k := 2) hm178 rfl) (hm178.get (k := 2) rfl) (hm178.sl_callT 0 2 rfl rfl (by decide)))) (by decide) (fun _ _ _ q => absurd q (by decide)) ?_
          rintro _ w184 ⟨e_, hm183⟩
          obtain rfl := e_.symm
          have hm185 := hm178.callT (k := 2) rfl (fun _ h => h) hm183 (fun _ => Iff.rfl)
          refine s_rp (i := 13) rfl (by kernel_rfl) rfl (fun _ => (rd_nilCheck rfl)) ?_
          refine s_rp (i := 14) rfl (by kernel_rfl) rfl (fun _ => (rd_fld tF42_2 rfl)) ?_
          refine s_ef0 (i := 15) rfl (by kernel_rfl) (ef_stl (k := 1) (off := 2) (x' := (T_Span.mk x130.Element x130.Side r180.2 x130.To)) hm185 tO3 rfl rfl rfl rfl h131 rfl rfl) (by decide) (fun _ _ _ q => absurd q (by decide)) ?_
          intro _ w187 hm186
          refine s_nil (by kernel_rfl) ?_
          refine qn_block (qn_then ?_)
          refine cw_seq ?_
          refine cw_region ?_
          refine t_rd rfl (rd_move rfl) ?_
          refine t_rd rfl (rd_assign rfl) ?_
          refine rwt_nil ?_
          refine qn_then ?_
          refine cw_ret ?_
          obtain rfl := os q182
          exact ret1 rfl rfl ⟨v107, rfl, (hm186.pick [2, 1] (by decide) rfl)⟩
        · refine cw_f rfl hb168 ?_
          refine cw_seq ?_
          refine cw_region ?_
          refine t_rd rfl (rd_eql rfl rfl) ?_
          refine t_rd rfl (rd_assign rfl) ?_
          refine rwt_nil ?_
          refine qn_then ?_
          obtain ⟨hb188, q189⟩ | ⟨hb188, q189⟩ := oi q169 <;> clear q169
          · refine cw_t rfl hb188 ?_
            refine cw_region ?_
            refine t_rd rfl (rd_move rfl) ?_
            refine t_rd rfl (rd_move rfl) ?_
            refine t_rd rfl (rd_move rfl) ?_
            refine t_rd rfl (rd_nilCheck rfl) ?_
            refine t_rd rfl (rd_fld tF42_2 rfl) ?_
            refine t_rd rfl (rd_ld1 tO3 rfl ((hm138.sl 0 rfl).cells h131) (off := 2) rfl) ?_
            refine t_ef rfl (ef_bslice (l := ([1000000000, 1000000001, x130.From] : List Int)) hm138 tS22 rfl (cs := #[(Value.int .i64 1000000000), (Value.int .i64 1000000001), (Value.int .i64 x130.From)]) (by unfold bsl; kernel_rfl) rfl rfl) ?_
            intro v190 w192 hm191
            obtain ⟨r193, h194, q195⟩ := ob q189; clear q189
            refine t_ef rfl (ef_call tf11 rfl (Maker_Pick_ok h194 (hv0_l.to_callT (k := 2) hm191 rfl) (hm191.get (k := 2) rfl) (hm191.sl_callT 0 2 rfl rfl (by decide)))) ?_
            rintro _ w197 ⟨e_, hm196⟩
            obtain rfl := e_.symm
            have hm198 := hm191.callT (k := 2) rfl (fun _ h => h) hm196 (fun _ => Iff.rfl)
            refine t_rd rfl (rd_nilCheck rfl) ?_
            refine t_rd rfl (rd_fld tF42_3 rfl) ?_
            refine t_ef0 (ef_stl (k := 1) (off := 3) (x' := (T_Span.mk x130.Element x130.Side x130.From r193.2)) hm198 tO3 rfl rfl rfl rfl h131 rfl rfl) ?_
            intro _ w200 hm199
            refine rwt_nil ?_
            refine qn_block (qn_then ?_)
            refine cw_seq ?_
            refine cw_region ?_
            refine t_rd rfl (rd_move rfl) ?_
            refine t_rd rfl (rd_assign rfl) ?_
            refine rwt_nil ?_
            refine qn_then ?_
            refine cw_ret ?_
            obtain rfl := os q195
            exact ret1 rfl rfl ⟨v107, rfl, (hm199.pick [2, 1] (by decide) rfl)⟩
          · refine cw_f rfl hb188 ?_
            refine cw_skip ?_
            refine qn_block (qn_then ?_)
            refine cw_seq ?_
            refine cw_region ?_
            refine t_rd rfl (rd_move rfl) ?_
            refine t_rd rfl (rd_assign rfl) ?_
            refine rwt_nil ?_
            refine qn_then ?_
            refine cw_ret ?_
            obtain rfl := os q189
            exact ret1 rfl rfl ⟨v107, rfl, (hm138.pick [1, 0] (by decide) rfl)⟩

theorem separation_valid_ok {N : Nat} {a0 : List T_Span} {res : Bool} (h : separation_valid N a0 = some res) {w : World} {v0 : Value} (hv0 : Sl (Old w No) w v0 a0) :
    CallsR Try.prog 37 [v0] w (fun u w' => u = (Value.bool res) ∧ Mem w No [] w') := by
  unfold separation_valid at h
  refine fn_ok Try.func37 rfl rfl rfl ?_
  have hm0 := Mem.nil w
  refine cw_seq ?_
  refine cw_region ?_
  refine t_rd rfl (rd_assign rfl) ?_
  refine rwt_nil ?_
  refine qn_then ?_
  refine cw_seq ?_
  refine cw_seq ?_
  refine cw_region ?_
  refine t_rd rfl (rd_move rfl) ?_
  refine t_rd rfl (rd_lenS tS23 rfl (hv0.of_old hm0)) ?_
  refine t_rd rfl (rd_gtr rfl rfl) ?_
  refine rwt_nil ?_
  refine qn_then ?_
  obtain ⟨hb1, q2⟩ | ⟨hb1, q2⟩ := oi h <;> clear h
  · refine cw_t rfl hb1 ?_
    refine cw_seq ?_
    refine cw_region ?_
    refine t_rd rfl (rd_assign rfl) ?_
    refine rwt_nil ?_
    refine qn_then ?_
    refine cw_ret ?_
    refine qr_then ?_
    obtain rfl := os q2
    exact ret1 rfl rfl ⟨rfl, (hm0.pick [] (by decide) rfl)⟩
  · refine cw_f rfl hb1 ?_
    refine cw_skip ?_
    refine qn_then ?_
    refine cw_seq ?_
    refine cw_region ?_
    refine t_ef rfl (ef_makeMap hm0 Bool) ?_
    rintro _ w5 ⟨g3, rfl, hm4⟩
    refine t_rd rfl (rd_assign rfl) ?_
    refine rwt_nil ?_
    refine qn_then ?_
    refine cw_seq ?_
    refine cw_seq ?_
    refine cw_region ?_
    refine t_rd rfl (rd_move rfl) ?_
    refine t_rd rfl (rd_lenS tS23 rfl (hv0.of_old hm4)) ?_
    refine t_rd rfl (rd_move rfl) ?_
    refine rwt_nil ?_
    refine qn_then ?_
    refine cw_block ?_
    obtain ⟨r104, hit105, q106⟩ := ob q2; clear q2
    refine cw_loop2 (I := fun q envq wq => Sub [(3, (Value.map (some g3))), (10, v0), (11, (Value.int .i64 (List.length a0 : Int))), (12, (Value.int .i64 q.1))] envq ∧ Mem w No [mapC g3 (q.2 : List (Int × Bool))] wq) (X := fun eq envq wq => (∃ p107, r104 = (Sum.inl p107) ∧ eq = .ret ∧ retQ Try.prog 56 Try.f37 (fun u w' => u = (Value.bool p107) ∧ Mem w No [] w') .ret envq wq) ∨ (∃ p108, r104 = (Sum.inr p108) ∧ eq = .exit 0 ∧ Sub [] envq ∧ Mem w No [] wq)) hit105 ⟨(by repeat (first | exact Sub.nil _ | refine Sub.cons rfl ?_)), (hm4.pick [0] (by decide) rfl)⟩ ?_ ?_
    · rintro ⟨i96, m97⟩ x99 env100 w101 hf102 hr103 ⟨hs_, hm_⟩
      have hs_ : Sub [(3, (Value.map (some g3))), (10, v0), (11, (Value.int .i64 (List.length a0 : Int))), (12, (Value.int .i64 i96))] env100 := hs_
      have hm109 : Mem w No [mapC g3 (m97 : List (Int × Bool))] w101 := hm_
      refine cw_sub hs_ ?_
      clear hs_ hm_ q106
      have h : separation_valid_l1 N a0 i96 m97 = some x99 := hf102
      clear hf102
      refine cw_seq ?_
      refine cw_region ?_
      refine t_rd rfl (rd_lss rfl rfl) ?_
      refine rwt_nil ?_
      refine qn_then ?_
      refine cw_seq ?_
      obtain ⟨hb110, q111⟩ | ⟨hb110, q111⟩ := oi h <;> clear h
      · refine cw_t rfl hb110 ?_
        refine cw_skip ?_
        refine qn_then ?_
        refine cw_seq ?_
        refine cw_block ?_
        refine cw_seq ?_
        refine cw_region ?_
        obtain ⟨x112, h113, q114⟩ := ob q111; clear q111
        refine t_rd rfl (rd_index tS23 rfl rfl (hv0.of_old hm109) h113) ?_
        refine t_rd rfl (rd_ld tA42 rfl ((hv0.of_old hm109).cells h113) rfl) ?_
        refine t_ef rfl (ef_alloc hm109 tZ42 rfl) ?_
        rintro _ w117 ⟨g115, rfl, hm116⟩
        refine t_ef0 (ef_stw (k := 0) hm116 tA42 rfl rfl (oc_cons rfl (oc_cons rfl (oc_cons rfl (oc_cons rfl oc_nil)))) rfl rfl rfl) ?_
        intro _ w119 hm118
        refine rwt_nil ?_
        refine qn_then ?_
        refine cw_seq ?_
        refine cw_seq ?_
        refine cw_region ?_
        refine t_rd rfl (rd_fld tF42_0 rfl) ?_
        refine t_rd rfl (rd_ld1 tO3 rfl (hm118.blk 0 rfl) (off := 0) rfl) ?_
        refine t_rd rfl (rd_lss rfl rfl) ?_
        refine t_rd rfl (rd_move rfl) ?_
        refine t_rdg rfl rfl rfl rfl (gv_f _) (fun hg120 => (rd_move rfl)) ?_
        refine t_rdg rfl rfl rfl rfl (gv_f _) (fun hg121 => (rd_fld tF42_0 rfl)) ?_
        refine t_rdg rfl rfl rfl rfl (gv_f _) (fun hg122 => (rd_ld1 tO3 (gvx rfl hg122) (hm118.blk 0 rfl) (off := 0) rfl)) ?_
        refine t_rdg rfl rfl rfl rfl (gv_f _) (fun hg123 => (mvB (o := (mget m97 x112.Element)) ▸ rd_lookup tM57 (hm118.get (k := 1) rfl) (gvx rfl hg123) (gvx rfl hg123))) ?_
        refine t_rd rfl (rd_or rfl (fun hc124 => (gvx rfl (bnotIt hc124)))) ?_
        refine t_rd rfl (rd_move rfl) ?_
        refine t_rdg rfl rfl rfl rfl (gv_f _) (fun hg125 => (rd_fld tF42_1 rfl)) ?_
        refine t_rdg rfl rfl rfl rfl (gv_f _) (fun hg126 => (rd_ld1 tO3 (gvx rfl hg126) (hm118.blk 0 rfl) (off := 1) rfl)) ?_
        refine t_rdg rfl rfl rfl rfl (gv_f _) (fun hg127 => (rd_lss (gvx rfl hg127) rfl)) ?_
        refine t_rd rfl (rd_or rfl (fun hc128 => (gvx rfl (bnotIt hc128)))) ?_
        refine t_rd rfl (rd_move rfl) ?_
        refine t_rdg rfl rfl rfl rfl (gv_f _) (fun hg129 => (rd_fld tF42_1 rfl)) ?_
        refine t_rdg rfl rfl rfl rfl (gv_f _) (fun hg130 => (rd_ld1 tO3 (gvx rfl hg130) (hm118.blk 0 rfl) (off := 1) rfl)) ?_
        refine t_rdg rfl rfl rfl rfl (gv_f _) (fun hg131 => (rd_gtr (gvx rfl hg131) rfl)) ?_
        refine t_rd rfl (rd_or rfl (fun hc132 => (gvx rfl (bnotIt hc132)))) ?_
        refine t_rd rfl (rd_move rfl) ?_
        refine t_rdg rfl rfl rfl rfl (gv_f _) (fun hg133 => (rd_fld tF42_2 rfl)) ?_
        refine t_rdg rfl rfl rfl rfl (gv_f _) (fun hg134 => (rd_ld1 tO3 (gvx rfl hg134) (hm118.blk 0 rfl) (off := 2) rfl)) ?_
        refine t_rdg rfl rfl rfl rfl (gv_f _) (fun hg135 => (rd_lss (gvx rfl hg135) rfl)) ?_
        refine t_rd rfl (rd_or rfl (fun hc136 => (gvx rfl (bnotIt hc136)))) ?_
        refine t_rd rfl (rd_move rfl) ?_
        refine t_rdg rfl rfl rfl rfl (gv_f _) (fun hg137 => (rd_fld tF42_2 rfl)) ?_
        refine t_rdg rfl rfl rfl rfl (gv_f _) (fun hg138 => (rd_ld1 tO3 (gvx rfl hg138) (hm118.blk 0 rfl) (off := 2) rfl)) ?_
        refine t_rdg rfl rfl rfl rfl (gv_f _) (fun hg139 => (rd_fld tF42_3 rfl)) ?_
        refine t_rdg rfl rfl rfl rfl (gv_f _) (fun hg140 => (rd_ld1 tO3 (gvx rfl hg140) (hm118.blk 0 rfl) (off := 3) rfl)) ?_
        refine t_rdg rfl rfl rfl rfl (gv_f _) (fun hg141 => (rd_geq (gvx rfl hg141) (gvx rfl hg141))) ?_
        refine t_rd rfl (rd_or rfl (fun hc142 => (gvx rfl (bnotIt hc142)))) ?_
        refine t_rd rfl (rd_move rfl) ?_
        refine t_rdg rfl rfl rfl rfl (gv_f _) (fun hg143 => (rd_fld tF42_3 rfl)) ?_
        refine t_rdg rfl rfl rfl rfl (gv_f _) (fun hg144 => (rd_ld1 tO3 (gvx rfl hg144) (hm118.blk 0 rfl) (off := 3) rfl)) ?_
        refine t_rdg rfl rfl rfl rfl (gv_f _) (fun hg145 => (rd_gtr (gvx rfl hg145) rfl)) ?_
        refine t_rd rfl (rd_or rfl (fun hc146 => (gvx rfl (bnotIt hc146)))) ?_
        refine rwt_nil ?_
        refine qn_then ?_
        obtain ⟨hb147, q148⟩ | ⟨hb147, q148⟩ := oi q114 <;> clear q114
        · refine cw_t rfl hb147 ?_
          refine cw_seq ?_
          refine cw_region ?_
          refine t_rd rfl (rd_assign rfl) ?_
          refine rwt_nil ?_
          refine qn_then ?_
          refine cw_ret ?_
          refine qr_then (qr_block (qr_then (qr_then ?_)))
          obtain rfl := hr103 _ (os q148)
          refine .inl (⟨_, rfl, ⟨rfl, ?_⟩⟩)
          exact ret1 rfl rfl ⟨rfl, (hm118.pick [] (by decide) rfl)⟩
        · refine cw_f rfl hb147 ?_
          refine cw_skip ?_
          refine qn_then ?_
          refine cw_region ?_
          refine t_rd rfl (rd_move rfl) ?_
          refine t_rd rfl (rd_fld tF42_0 rfl) ?_
          refine t_rd rfl (rd_ld1 tO3 rfl (hm118.blk 0 rfl) (off := 0) rfl) ?_
          refine t_ef0 (ef_mapUpdate (kq := 1) hm118 tM57 rfl (true : Bool) rfl rfl rfl) ?_
          intro _ w150 hm149
          refine rwt_nil ?_
          refine qn_block (qn_then ?_)
          refine cw_region ?_
          obtain ⟨x151, h152, q153⟩ := ob q148; clear q148
          refine t_rd rfl (rd_add64 h152 rfl rfl) ?_
          refine t_rd rfl (rd_move rfl) ?_
          refine rwt_nil ?_
          refine qn_then ?_
          refine ⟨_, (os q153), (by repeat (first | exact Sub.nil _ | refine Sub.cons rfl ?_)), (hm149.pick [1] (by decide) rfl)⟩
      · refine cw_f rfl hb110 ?_
        refine cw_exit ?_
        refine qx_then (qx_then ?_)
        obtain rfl := hr103 _ (os q111)
        exact .inr (⟨_, rfl, ⟨rfl, (by repeat (first | exact Sub.nil _ | refine Sub.cons rfl ?_)), (hm109.pick [] (by decide) rfl)⟩⟩)
    · skip
      intro e env154 w155 hX156
      rcases hX156 with hX156 | hX156
      · obtain ⟨p158, rfl, hX156⟩ := hX156
        obtain ⟨rfl, hq160⟩ := hX156
        exact qr_block (qr_then ((by have e := os q106; subst e; exact hq160)))
      · obtain ⟨p161, rfl, hX156⟩ := hX156
        obtain ⟨rfl, hs162, hm163⟩ := hX156
        refine qx_same (qn_then ?_)
        refine cw_sub hs162 ?_
        refine cw_seq ?_
        refine cw_region ?_
        refine t_rd rfl (rd_assign rfl) ?_
        refine rwt_nil ?_
        refine qn_then ?_
        refine cw_ret ?_
        obtain rfl := os q106
        exact ret1 rfl rfl ⟨rfl, (hm163.pick [] (by decide) rfl)⟩

theorem separation_sound_ok {N : Nat} {a0 : List (List T_Span)} {a1 : Int} {res : Bool} (h : separation_sound N a0 a1 = some res) {w : World} {v0 : Value} (hv0 : Sl (Old w No) w v0 a0) :
    CallsR Try.prog 35 [v0, (Value.int .i64 a1)] w (fun u w' => u = (Value.bool res) ∧ Mem w No [] w') := by
  unfold separation_sound at h
  refine fn_ok Try.func35 rfl rfl rfl ?_
  obtain ⟨zs_a0, hn0⟩ := hv0.nest
  have hm0 := Mem.nil w
  refine cw_seq ?_
  refine cw_region ?_
  refine t_rd rfl (rd_assign rfl) ?_
  refine rwt_nil ?_
  refine qn_then ?_
  refine cw_seq ?_
  refine cw_seq ?_
  refine cw_region ?_
  refine t_rd rfl (rd_move rfl) ?_
  refine t_rd rfl (rd_lenS tS56 rfl ((hn0.of_old hm0).sl)) ?_
  refine t_rd rfl (rd_move rfl) ?_
  refine rwt_nil ?_
  refine qn_then ?_
  refine cw_block ?_
  obtain ⟨r45, hit46, q47⟩ := ob h; clear h
  refine cw_loop2 (I := fun q envq wq => Sub [(1, (Value.int .i64 a1)), (7, v0), (8, (Value.int .i64 (List.length a0 : Int))), (9, (Value.int .i64 q))] envq ∧ Mem w No [] wq) (X := fun eq envq wq => (∃ p48, r45 = (Sum.inl p48) ∧ eq = .ret ∧ retQ Try.prog 23 Try.f35 (fun u w' => u = (Value.bool p48) ∧ Mem w No [] w') .ret envq wq) ∨ (∃ p49, r45 = (Sum.inr p49) ∧ eq = .exit 0 ∧ Sub [(1, (Value.int .i64 a1))] envq ∧ Mem w No [] wq)) hit46 ⟨(by repeat (first | exact Sub.nil _ | refine Sub.cons rfl ?_)), (hm0.pick [] (by decide) rfl)⟩ ?_ ?_
  · rintro i38 x40 env41 w42 hf43 hr44 ⟨hs_, hm_⟩
    have hs_ : Sub [(1, (Value.int .i64 a1)), (7, v0), (8, (Value.int .i64 (List.length a0 : Int))), (9, (Value.int .i64 i38))] env41 := hs_
    have hm50 : Mem w No [] w42 := hm_
    refine cw_sub hs_ ?_
    clear hs_ hm_ q47
    have h : separation_sound_l1 N a0 i38 = some x40 := hf43
    clear hf43
    refine cw_seq ?_
    refine cw_region ?_
    refine t_rd rfl (rd_lss rfl rfl) ?_
    refine rwt_nil ?_
    refine qn_then ?_
    refine cw_seq ?_
    obtain ⟨hb51, q52⟩ | ⟨hb51, q52⟩ := oi h <;> clear h
    · refine cw_t rfl hb51 ?_
      refine cw_skip ?_
      refine qn_then ?_
      refine cw_seq ?_
      refine cw_block ?_
      refine cw_seq ?_
      refine cw_region ?_
      obtain ⟨x53, h54, q55⟩ := ob q52; clear q52
      refine t_rd rfl (rd_index tS56 rfl rfl ((hn0.of_old hm50).sl) h54) ?_
      obtain ⟨zd56, hz57⟩ := (hn0.of_old hm50).row h54
      refine t_rd rfl (rd_ld1 tO23 rfl ((hn0.of_old hm50).cells hz57) (off := 0) rfl) ?_
      refine t_rd rfl (rd_assign rfl) ?_
      refine rwt_nil ?_
      refine qn_then ?_
      refine cw_seq ?_
      refine cw_region ?_
      refine t_rd rfl (rd_move rfl) ?_
      obtain ⟨r58, h59, q60⟩ := ob q55; clear q55
      refine t_ef rfl (ef_call tf37 rfl (separation_valid_ok h59 ((hn0.to_call hm50).get hz57 h54))) ?_
      rintro _ w62 ⟨e_, hm61⟩
      obtain rfl := e_.symm
      have hm63 := hm50.call hm61
      refine t_rd rfl (rd_not rfl) ?_
      refine rwt_nil ?_
      refine qn_then ?_
      obtain ⟨hb64, q65⟩ | ⟨hb64, q65⟩ := oi q60 <;> clear q60
      · refine cw_t rfl hb64 ?_
        refine cw_seq ?_
        refine cw_region ?_
        refine t_rd rfl (rd_assign rfl) ?_
        refine rwt_nil ?_
        refine qn_then ?_
        refine cw_ret ?_
        refine qr_block (qr_then (qr_then ?_))
        obtain rfl := hr44 _ (os q65)
        refine .inl (⟨_, rfl, ⟨rfl, ?_⟩⟩)
        exact ret1 rfl rfl ⟨rfl, (hm63.pick [] (by decide) rfl)⟩
      · refine cw_f rfl hb64 ?_
        refine cw_skip ?_
        refine qn_block (qn_then ?_)
        refine cw_region ?_
        obtain ⟨x66, h67, q68⟩ := ob q65; clear q65
        refine t_rd rfl (rd_add64 h67 rfl rfl) ?_
        refine t_rd rfl (rd_move rfl) ?_
        refine rwt_nil ?_
        refine qn_then ?_
        refine ⟨_, (os q68), (by repeat (first | exact Sub.nil _ | refine Sub.cons rfl ?_)), (hm63.pick [] (by decide) rfl)⟩
    · refine cw_f rfl hb51 ?_
      refine cw_exit ?_
      refine qx_then (qx_then ?_)
      obtain rfl := hr44 _ (os q52)
      exact .inr (⟨_, rfl, ⟨rfl, (by repeat (first | exact Sub.nil _ | refine Sub.cons rfl ?_)), (hm50.pick [] (by decide) rfl)⟩⟩)
  · skip
    intro e env69 w70 hX71
    rcases hX71 with hX71 | hX71
    · obtain ⟨p73, rfl, hX71⟩ := hX71
      obtain ⟨rfl, hq75⟩ := hX71
      exact qr_block (qr_then ((by have e := os q47; subst e; exact hq75)))
    · obtain ⟨p76, rfl, hX71⟩ := hX71
      obtain ⟨rfl, hs77, hm78⟩ := hX71
      refine qx_same (qn_then ?_)
      refine cw_sub hs77 ?_
      refine cw_seq ?_
      refine cw_region ?_
      refine t_rd rfl (rd_move rfl) ?_
      refine t_rd rfl (rd_geq rfl rfl) ?_
      refine t_rd rfl (rd_move rfl) ?_
      refine t_rdg rfl rfl rfl rfl (gv_t _) (fun hg79 => (rd_move rfl)) ?_
      refine t_rdg rfl rfl rfl rfl (gv_t _) (fun hg80 => (rd_leq (gvx rfl hg80) rfl)) ?_
      refine t_rd rfl (rd_and rfl (fun hc81 => (gvx rfl hc81))) ?_
      refine t_rd rfl (rd_assign rfl) ?_
      refine rwt_nil ?_
      refine qn_then ?_
      refine cw_ret ?_
      obtain rfl := os q47
      exact ret1 rfl rfl ⟨rfl, (hm78.pick [] (by decide) rfl)⟩

theorem separation_gap_ok {N : Nat} {a0 : List T_Span} {a1 : List T_Span} {a2 : Int} {res : Int × Int} (h : separation_gap N a0 a1 a2 = some res) {w : World} {v0 : Value} {v1 : Value} (hv0 : Sl (Old w No) w v0 a0) (hv1 : Sl (Old w No) w v1 a1) :
    CallsR Try.prog 36 [v0, v1, (Value.int .i64 a2)] w (fun u w' => u = (Value.tuple #[(Value.int .i64 res.1), (Value.int .i64 res.2)]) ∧ Mem w No [] w') := by
  unfold separation_gap at h
  refine fn_ok Try.func36 rfl rfl rfl ?_
  have hm0 := Mem.nil w
  refine cw_seq ?_
  refine cw_region ?_
  refine t_rd rfl (rd_assign rfl) ?_
  refine t_rd rfl (rd_assign rfl) ?_
  refine rwt_nil ?_
  refine qn_then ?_
  refine cw_seq ?_
  refine cw_region ?_
  refine t_rd rfl (rd_assign rfl) ?_
  refine rwt_nil ?_
  refine qn_then ?_
  refine cw_seq ?_
  refine cw_seq ?_
  refine cw_region ?_
  refine t_rd rfl (rd_move rfl) ?_
  refine t_rd rfl (rd_lenS tS23 rfl (hv0.of_old hm0)) ?_
  refine t_rd rfl (rd_move rfl) ?_
  refine rwt_nil ?_
  refine qn_then ?_
  refine cw_block ?_
  obtain ⟨r338, hit339, q340⟩ := ob h; clear h
  refine cw_loop2 (I := fun q envq wq => Sub [(1, v1), (2, (Value.int .i64 a2)), (8, (Value.int .i64 q.1)), (14, v0), (15, (Value.int .i64 (List.length a0 : Int))), (16, (Value.int .i64 q.2))] envq ∧ Mem w No [] wq) (X := fun eq envq wq => (∃ p341, r338 = (Sum.inl p341) ∧ eq = .ret ∧ retQ Try.prog 63 Try.f36 (fun u w' => u = (Value.tuple #[(Value.int .i64 p341.1), (Value.int .i64 p341.2)]) ∧ Mem w No [] w') .ret envq wq) ∨ (∃ p342, r338 = (Sum.inr p342) ∧ eq = .exit 0 ∧ Sub [(8, (Value.int .i64 p342))] envq ∧ Mem w No [] wq)) hit339 ⟨(by repeat (first | exact Sub.nil _ | refine Sub.cons rfl ?_)), (hm0.pick [] (by decide) rfl)⟩ ?_ ?_
  · rintro ⟨i330, i331⟩ x333 env334 w335 hf336 hr337 ⟨hs_, hm_⟩
    have hs_ : Sub [(1, v1), (2, (Value.int .i64 a2)), (8, (Value.int .i64 i330)), (14, v0), (15, (Value.int .i64 (List.length a0 : Int))), (16, (Value.int .i64 i331))] env334 := hs_
    have hm343 : Mem w No [] w335 := hm_
    refine cw_sub hs_ ?_
    clear hs_ hm_ q340
    have h : separation_gap_l3 N a0 a1 a2 i330 i331 = some x333 := hf336
    clear hf336
    refine cw_seq ?_
    refine cw_region ?_
    refine t_rd rfl (rd_lss rfl rfl) ?_
    refine rwt_nil ?_
    refine qn_then ?_
    refine cw_seq ?_
    obtain ⟨hb344, q345⟩ | ⟨hb344, q345⟩ := oi h <;> clear h
    · refine cw_t rfl hb344 ?_
      refine cw_skip ?_
      refine qn_then ?_
      refine cw_seq ?_
      refine cw_block ?_
      refine cw_seq ?_
      refine cw_region ?_
      obtain ⟨x346, h347, q348⟩ := ob q345; clear q345
      refine t_rd rfl (rd_index tS23 rfl rfl (hv0.of_old hm343) h347) ?_
      refine t_rd rfl (rd_ld tA42 rfl ((hv0.of_old hm343).cells h347) rfl) ?_
      refine t_ef rfl (ef_alloc hm343 tZ42 rfl) ?_
      rintro _ w351 ⟨g349, rfl, hm350⟩
      refine t_ef0 (ef_stw (k := 0) hm350 tA42 rfl rfl (oc_cons rfl (oc_cons rfl (oc_cons rfl (oc_cons rfl oc_nil)))) rfl rfl rfl) ?_
      intro _ w353 hm352
      refine rwt_nil ?_
      refine qn_then ?_
      refine cw_seq ?_
      refine cw_region ?_
      refine t_rd rfl (rd_move rfl) ?_
      refine t_rd rfl (rd_lenS tS23 rfl (hv1.of_old hm352)) ?_
      refine t_rd rfl (rd_move rfl) ?_
      refine rwt_nil ?_
      refine qn_then ?_
      refine cw_block ?_
      obtain ⟨r447, hit448, q449⟩ := ob q348; clear q348
      refine cw_loop2 (I := fun q envq wq => Sub [(1, v1), (2, (Value.int .i64 a2)), (8, (Value.int .i64 q.1)), (10, (Value.pointer (some ⟨g349, 0, none⟩))), (14, v0), (15, (Value.int .i64 (List.length a0 : Int))), (16, (Value.int .i64 i331)), (20, v1), (21, (Value.int .i64 (List.length a1 : Int))), (22, (Value.int .i64 q.2))] envq ∧ Mem w No [blk g349 42 [(Value.int .i64 x346.Element), (Value.int .i64 x346.Side), (Value.int .i64 x346.From), (Value.int .i64 x346.To)]] wq) (X := fun eq envq wq => (∃ p450, r447 = (Sum.inl p450) ∧ eq = .ret ∧ retQ Try.prog 63 Try.f36 (fun u w' => u = (Value.tuple #[(Value.int .i64 p450.1), (Value.int .i64 p450.2)]) ∧ Mem w No [] w') .ret envq wq) ∨ (∃ p451, r447 = (Sum.inr p451) ∧ eq = .exit 2 ∧ Sub [(1, v1), (2, (Value.int .i64 a2)), (8, (Value.int .i64 p451)), (14, v0), (15, (Value.int .i64 (List.length a0 : Int))), (16, (Value.int .i64 i331))] envq ∧ Mem w No [] wq)) hit448 ⟨(by repeat (first | exact Sub.nil _ | refine Sub.cons rfl ?_)), (hm352.pick [0] (by decide) rfl)⟩ ?_ ?_
      · rintro ⟨i439, i440⟩ x442 env443 w444 hf445 hr446 ⟨hs_, hm_⟩
        have hs_ : Sub [(1, v1), (2, (Value.int .i64 a2)), (8, (Value.int .i64 i439)), (10, (Value.pointer (some ⟨g349, 0, none⟩))), (14, v0), (15, (Value.int .i64 (List.length a0 : Int))), (16, (Value.int .i64 i331)), (20, v1), (21, (Value.int .i64 (List.length a1 : Int))), (22, (Value.int .i64 i440))] env443 := hs_
        have hm452 : Mem w No [blk g349 42 [(Value.int .i64 x346.Element), (Value.int .i64 x346.Side), (Value.int .i64 x346.From), (Value.int .i64 x346.To)]] w444 := hm_
        refine cw_sub hs_ ?_
        clear hs_ hm_ q449
        have h : separation_gap_l4 N a1 a2 x346 i439 i440 = some x442 := hf445
        clear hf445
        refine cw_seq ?_
        refine cw_region ?_
        refine t_rd rfl (rd_lss rfl rfl) ?_
        refine rwt_nil ?_
        refine qn_then ?_
        refine cw_seq ?_
        obtain ⟨hb453, q454⟩ | ⟨hb453, q454⟩ := oi h <;> clear h
        · refine cw_t rfl hb453 ?_
          refine cw_skip ?_
          refine qn_then ?_
          refine cw_seq ?_
          refine cw_block ?_
          refine cw_seq ?_
          refine cw_region ?_
          obtain ⟨x455, h456, q457⟩ := ob q454; clear q454
          refine t_rd rfl (rd_index tS23 rfl rfl (hv1.of_old hm452) h456) ?_
          refine t_rd rfl (rd_ld tA42 rfl ((hv1.of_old hm452).cells h456) rfl) ?_
          refine t_ef rfl (ef_alloc hm452 tZ42 rfl) ?_
          rintro _ w460 ⟨g458, rfl, hm459⟩
          refine t_ef0 (ef_stw (k := 0) hm459 tA42 rfl rfl (oc_cons rfl (oc_cons rfl (oc_cons rfl (oc_cons rfl oc_nil)))) rfl rfl rfl) ?_
          intro _ w462 hm461
          refine rwt_nil ?_
          refine qn_then ?_
          refine cw_seq ?_
          refine cw_seq ?_
          refine cw_region ?_
          refine t_rd rfl (rd_fld tF42_0 rfl) ?_
          refine t_rd rfl (rd_ld1 tO3 rfl (hm461.blk 1 rfl) (off := 0) rfl) ?_
          refine t_rd rfl (rd_fld tF42_0 rfl) ?_
          refine t_rd rfl (rd_ld1 tO3 rfl (hm461.blk 0 rfl) (off := 0) rfl) ?_
          refine t_rd rfl (rd_neq rfl rfl) ?_
          refine rwt_nil ?_
          refine qn_then ?_
          obtain ⟨hb463, q464⟩ | ⟨hb463, q464⟩ := oi q457 <;> clear q457
          · refine cw_t rfl hb463 ?_
            refine cw_exit ?_
            refine qx_then (qx_same (qn_then ?_))
            refine cw_region ?_
            obtain ⟨x465, h466, q467⟩ := ob q464; clear q464
            refine t_rd rfl (rd_add64 h466 rfl rfl) ?_
            refine t_rd rfl (rd_move rfl) ?_
            refine rwt_nil ?_
            refine qn_then ?_
            refine ⟨_, (os q467), (by repeat (first | exact Sub.nil _ | refine Sub.cons rfl ?_)), (hm461.pick [1] (by decide) rfl)⟩
          · refine cw_f rfl hb463 ?_
            refine cw_skip ?_
            refine qn_then ?_
            refine cw_seq ?_
            refine cw_seq ?_
            refine cw_region ?_
            refine t_rd rfl (rd_fld tF42_3 rfl) ?_
            refine t_rd rfl (rd_ld1 tO3 rfl (hm461.blk 1 rfl) (off := 3) rfl) ?_
            refine t_rd rfl (rd_eql rfl rfl) ?_
            refine rwt_nil ?_
            refine qn_then ?_
            obtain ⟨hb468, q469⟩ | ⟨hb468, q469⟩ := oi q464 <;> clear q464
            · refine cw_t rfl hb468 ?_
              refine cw_seq ?_
              refine cw_region ?_
              refine t_rd rfl (rd_assign rfl) ?_
              refine t_rd rfl (rd_assign rfl) ?_
              refine rwt_nil ?_
              refine qn_then ?_
              refine cw_ret ?_
              refine qr_then (qr_block (qr_then (qr_then ?_)))
              obtain rfl := hr446 _ (os q469)
              refine .inl (⟨_, rfl, ⟨rfl, ?_⟩⟩)
              exact ret2 rfl rfl rfl ⟨rfl, (hm461.pick [] (by decide) rfl)⟩
            · refine cw_f rfl hb468 ?_
              refine cw_skip ?_
              refine qn_then ?_
              refine cw_seq ?_
              refine cw_region ?_
              refine t_rd rfl (rd_fld tF42_3 rfl) ?_
              refine t_rd rfl (rd_ld1 tO3 rfl (hm461.blk 1 rfl) (off := 3) rfl) ?_
              refine t_rd rfl (rd_fld tF42_2 rfl) ?_
              refine t_rd rfl (rd_ld1 tO3 rfl (hm461.blk 0 rfl) (off := 2) rfl) ?_
              obtain ⟨x470, h471, q472⟩ := ob q469; clear q469
              refine t_rd rfl (rd_sub64 h471 rfl rfl) ?_
              refine t_rd rfl (rd_assign rfl) ?_
              refine rwt_nil ?_
              refine qn_then ?_
              refine cw_seq ?_
              refine cw_seq ?_
              refine cw_region ?_
              refine t_rd rfl (rd_fld tF42_1 rfl) ?_
              refine t_rd rfl (rd_ld1 tO3 rfl (hm461.blk 1 rfl) (off := 1) rfl) ?_
              refine t_rd rfl (rd_neq rfl rfl) ?_
              refine t_rd rfl (rd_move rfl) ?_
              refine t_rdg rfl rfl rfl rfl (gv_t _) (fun hg473 => (rd_fld tF42_1 rfl)) ?_
              refine t_rdg rfl rfl rfl rfl (gv_t _) (fun hg474 => (rd_ld1 tO3 (gvx rfl hg474) (hm461.blk 0 rfl) (off := 1) rfl)) ?_
              refine t_rdg rfl rfl rfl rfl (gv_t _) (fun hg475 => (rd_neq (gvx rfl hg475) rfl)) ?_
              refine t_rd rfl (rd_and rfl (fun hc476 => (gvx rfl hc476))) ?_
              refine t_rd rfl (rd_move rfl) ?_
              refine t_rdg rfl rfl rfl rfl (gv_t _) (fun hg477 => (rd_fld tF42_1 rfl)) ?_
              refine t_rdg rfl rfl rfl rfl (gv_t _) (fun hg478 => (rd_ld1 tO3 (gvx rfl hg478) (hm461.blk 1 rfl) (off := 1) rfl)) ?_
              refine t_rdg rfl rfl rfl rfl (gv_t _) (fun hg479 => (rd_fld tF42_1 rfl)) ?_
              refine t_rdg rfl rfl rfl rfl (gv_t _) (fun hg480 => (rd_ld1 tO3 (gvx rfl hg480) (hm461.blk 0 rfl) (off := 1) rfl)) ?_
              refine t_rdg rfl rfl rfl rfl (gv_t _) (fun hg481 => (rd_neq (gvx rfl hg481) (gvx rfl hg481))) ?_
              refine t_rd rfl (rd_and rfl (fun hc482 => (gvx rfl hc482))) ?_
              refine rwt_nil ?_
              refine qn_then ?_
              obtain ⟨hb483, q484⟩ | ⟨hb483, q484⟩ := oi q472 <;> clear q472
              · refine cw_t rfl hb483 ?_
                refine cw_region ?_
                refine t_rd rfl (rd_move rfl) ?_
                refine t_rd rfl (rd_move rfl) ?_
                obtain ⟨x485, h486, q487⟩ := ob q484; clear q484
                refine t_rd rfl (rd_add64 h486 rfl rfl) ?_
                refine t_rd rfl (rd_assign rfl) ?_
                refine rwt_nil ?_
                refine qn_then ?_
                refine cw_region ?_
                refine t_rd rfl (rd_move rfl) ?_
                refine t_rd rfl (rd_move rfl) ?_
                refine t_rd rfl (rd_max rfl rfl) ?_
                refine t_rd rfl (rd_assign rfl) ?_
                refine rwt_nil ?_
                refine qn_block (qn_then ?_)
                refine cw_region ?_
                obtain ⟨x488, h489, q490⟩ := ob q487; clear q487
                refine t_rd rfl (rd_add64 h489 rfl rfl) ?_
                refine t_rd rfl (rd_move rfl) ?_
                refine rwt_nil ?_
                refine qn_then ?_
                refine ⟨_, (os q490), (by repeat (first | exact Sub.nil _ | refine Sub.cons rfl ?_)), (hm461.pick [1] (by decide) rfl)⟩
              · refine cw_f rfl hb483 ?_
                refine cw_skip ?_
                refine qn_then ?_
                refine cw_region ?_
                refine t_rd rfl (rd_move rfl) ?_
                refine t_rd rfl (rd_move rfl) ?_
                refine t_rd rfl (rd_max rfl rfl) ?_
                refine t_rd rfl (rd_assign rfl) ?_
                refine rwt_nil ?_
                refine qn_block (qn_then ?_)
                refine cw_region ?_
                obtain ⟨x491, h492, q493⟩ := ob q484; clear q484
                refine t_rd rfl (rd_add64 h492 rfl rfl) ?_
                refine t_rd rfl (rd_move rfl) ?_
                refine rwt_nil ?_
                refine qn_then ?_
                refine ⟨_, (os q493), (by repeat (first | exact Sub.nil _ | refine Sub.cons rfl ?_)), (hm461.pick [1] (by decide) rfl)⟩
        · refine cw_f rfl hb453 ?_
          refine cw_exit ?_
          refine qx_then (qx_then ?_)
          obtain rfl := hr446 _ (os q454)
          exact .inr (⟨_, rfl, ⟨rfl, (by repeat (first | exact Sub.nil _ | refine Sub.cons rfl ?_)), (hm452.pick [] (by decide) rfl)⟩⟩)
      · skip
        intro e env494 w495 hX496
        rcases hX496 with hX496 | hX496
        · obtain ⟨p498, rfl, hX496⟩ := hX496
          obtain ⟨rfl, hq500⟩ := hX496
          obtain rfl := hr337 _ (os q449)
          exact qr_block (qr_block (qr_then (qr_then (.inl (⟨_, rfl, ⟨rfl, hq500⟩⟩)))))
        · obtain ⟨p501, rfl, hX496⟩ := hX496
          obtain ⟨rfl, hs502, hm503⟩ := hX496
          refine qx_same (qn_block (qn_then ?_))
          refine cw_sub hs502 ?_
          refine cw_region ?_
          obtain ⟨x504, h505, q506⟩ := ob q449; clear q449
          refine t_rd rfl (rd_add64 h505 rfl rfl) ?_
          refine t_rd rfl (rd_move rfl) ?_
          refine rwt_nil ?_
          refine qn_then ?_
          refine ⟨_, (os q506), (by repeat (first | exact Sub.nil _ | refine Sub.cons rfl ?_)), (hm503.pick [] (by decide) rfl)⟩
    · refine cw_f rfl hb344 ?_
      refine cw_exit ?_
      refine qx_then (qx_then ?_)
      obtain rfl := hr337 _ (os q345)
      exact .inr (⟨_, rfl, ⟨rfl, (by repeat (first | exact Sub.nil _ | refine Sub.cons rfl ?_)), (hm343.pick [] (by decide) rfl)⟩⟩)
  · skip
    intro e env507 w508 hX509
    rcases hX509 with hX509 | hX509
    · obtain ⟨p511, rfl, hX509⟩ := hX509
      obtain ⟨rfl, hq513⟩ := hX509
      exact qr_block (qr_then ((by have e := os q340; subst e; exact hq513)))
    · obtain ⟨p514, rfl, hX509⟩ := hX509
      obtain ⟨rfl, hs515, hm516⟩ := hX509
      refine qx_same (qn_then ?_)
      refine cw_sub hs515 ?_
      refine cw_seq ?_
      refine cw_region ?_
      refine t_rd rfl (rd_move rfl) ?_
      refine t_rd rfl (rd_assign rfl) ?_
      refine t_rd rfl (rd_assign rfl) ?_
      refine rwt_nil ?_
      refine qn_then ?_
      refine cw_ret ?_
      obtain rfl := os q340
      exact ret2 rfl rfl rfl ⟨rfl, (hm516.pick [] (by decide) rfl)⟩

theorem separation_Gap_ok {N : Nat} {a0 : List T_Span} {a1 : List T_Span} {a2 : Int} {res : Int × Int} (h : separation_Gap N a0 a1 a2 = some res) {w : World} {v0 : Value} {v1 : Value} (hv0 : Sl (Old w No) w v0 a0) (hv1 : Sl (Old w No) w v1 a1) :
    CallsR Try.prog 32 [v0, v1, (Value.int .i64 a2)] w (fun u w' => u = (Value.tuple #[(Value.int .i64 res.1), (Value.int .i64 res.2)]) ∧ Mem w No [] w') := by
  unfold separation_Gap at h
  refine fn_ok Try.func32 rfl rfl rfl ?_
  have hm0 := Mem.nil w
  refine cw_seq ?_
  refine cw_region ?_
  refine t_rd rfl (rd_assign rfl) ?_
  refine t_rd rfl (rd_assign rfl) ?_
  refine rwt_nil ?_
  refine qn_then ?_
  refine cw_seq ?_
  refine cw_seq ?_
  refine cw_region ?_
  refine t_rd rfl (rd_move rfl) ?_
  refine t_rd rfl (rd_move rfl) ?_
  obtain ⟨zd1, ez2⟩ : ∃ z : Hdr, z.1 = v0 := ⟨⟨v0, sl_one (hv0.of_old hm0)⟩, rfl⟩
  obtain ⟨zd3, ez4⟩ : ∃ z : Hdr, z.1 = v1 := ⟨⟨v1, sl_one (hv1.of_old hm0)⟩, rfl⟩
  refine t_ef rfl (ef_bslice (l := ([zd1, zd3] : List Hdr)) hm0 tS56 rfl (cs := #[v0, v1]) (by obtain ⟨_, _, e⟩ := ((hv0.of_old hm0)).val; rw [e]; clear e; obtain ⟨_, _, e⟩ := ((hv1.of_old hm0)).val; rw [e]; clear e; unfold bsl; kernel_rfl) (by show [zd1.1, zd3.1] = [v0, v1]; rw [ez2, ez4]) rfl) ?_
  intro v5 w7 hm6
  refine t_rd rfl (rd_move rfl) ?_
  obtain ⟨r8, h9, q10⟩ := ob h; clear h
  refine t_ef rfl (ef_call tf35 rfl (separation_sound_ok h9 ((Nl.mk (hm6.sl_call 0 rfl) (Rows.cons (hv0.to_call hm6) ez2 (Rows.cons (hv1.to_call hm6) ez4 Rows.nil))).sl))) ?_
  rintro _ w12 ⟨e_, hm11⟩
  obtain rfl := e_.symm
  have hm13 := hm6.call hm11
  refine t_rd rfl (rd_not rfl) ?_
  refine rwt_nil ?_
  refine qn_then ?_
  obtain ⟨hb14, q15⟩ | ⟨hb14, q15⟩ := oi q10 <;> clear q10
  · refine cw_t rfl hb14 ?_
    refine cw_seq ?_
    refine cw_region ?_
    refine t_rd rfl (rd_assign rfl) ?_
    refine t_rd rfl (rd_assign rfl) ?_
    refine rwt_nil ?_
    refine qn_then ?_
    refine cw_ret ?_
    refine qr_then ?_
    obtain rfl := os q15
    exact ret2 rfl rfl rfl ⟨rfl, (hm13.pick [] (by decide) rfl)⟩
  · refine cw_f rfl hb14 ?_
    refine cw_skip ?_
    refine qn_then ?_
    refine cw_seq ?_
    refine cw_region ?_
    refine t_rd rfl (rd_move rfl) ?_
    refine t_rd rfl (rd_move rfl) ?_
    refine t_rd rfl (rd_move rfl) ?_
    obtain ⟨r16, h17, q18⟩ := ob q15; clear q15
    refine t_ef rfl (ef_call tf36 rfl (separation_gap_ok h17 (hv0.to_call hm13) (hv1.to_call hm13))) ?_
    rintro _ w20 ⟨e_, hm19⟩
    obtain rfl := e_.symm
    have hm21 := hm13.call hm19
    refine t_rd rfl (rd_extract rfl rfl) ?_
    refine t_rd rfl (rd_extract rfl rfl) ?_
    refine t_rd rfl (rd_assign rfl) ?_
    refine t_rd rfl (rd_assign rfl) ?_
    refine rwt_nil ?_
    refine qn_then ?_
    refine cw_ret ?_
    obtain rfl := os q18
    exact ret2 rfl rfl rfl ⟨rfl, (hm21.pick [] (by decide) rfl)⟩

theorem divert_valid_ok {N : Nat} {a0 : List T_Span} {res : Bool} (h : divert_valid N a0 = some res) {w : World} {v0 : Value} (hv0 : Sl (Old w No) w v0 a0) :
    CallsR Try.prog 24 [v0] w (fun u w' => u = (Value.bool res) ∧ Mem w No [] w') := by
  unfold divert_valid at h
  refine fn_ok Try.func24 rfl rfl rfl ?_
  have hm0 := Mem.nil w
  refine cw_seq ?_
  refine cw_region ?_
  refine t_rd rfl (rd_assign rfl) ?_
  refine rwt_nil ?_
  refine qn_then ?_
  refine cw_seq ?_
  refine cw_region ?_
  refine t_rd rfl (rd_move rfl) ?_
  obtain ⟨r1, h2, q3⟩ := ob h; clear h
  refine t_ef rfl (ef_call tf32 rfl (separation_Gap_ok h2 (hv0.to_call hm0) (Sl.nil _ _))) ?_
  rintro _ w5 ⟨e_, hm4⟩
  obtain rfl := e_.symm
  have hm6 := hm0.call hm4
  refine t_rd rfl (rd_move rfl) ?_
  refine t_rd rfl (rd_extract rfl rfl) ?_
  refine t_rd rfl (rd_extract rfl rfl) ?_
  refine t_rd rfl (rd_assign rfl) ?_
  refine t_rd rfl (rd_assign rfl) ?_
  refine rwt_nil ?_
  refine qn_then ?_
  refine cw_seq ?_
  refine cw_region ?_
  refine t_rd rfl (rd_move rfl) ?_
  refine t_rd rfl (rd_eql rfl rfl) ?_
  refine t_rd rfl (rd_assign rfl) ?_
  refine rwt_nil ?_
  refine qn_then ?_
  refine cw_ret ?_
  obtain rfl := os q3
  exact ret1 rfl rfl ⟨rfl, (hm6.pick [] (by decide) rfl)⟩

theorem divert_in_ok {N : Nat} {a0 : Int} {res : Bool} (h : divert_in N a0 = some res) {w : World}   :
    CallsR Try.prog 25 [(Value.int .i64 a0)] w (fun u w' => u = (Value.bool res) ∧ Mem w No [] w') := by
  unfold divert_in at h
  refine fn_ok Try.func25 rfl rfl rfl ?_
  have hm0 := Mem.nil w
  refine cw_seq ?_
  refine cw_region ?_
  refine t_rd rfl (rd_assign rfl) ?_
  refine rwt_nil ?_
  refine qn_then ?_
  refine cw_seq ?_
  refine cw_region ?_
  refine t_rd rfl (rd_move rfl) ?_
  refine t_rd rfl (rd_geq rfl rfl) ?_
  refine t_rd rfl (rd_move rfl) ?_
  refine t_rdg rfl rfl rfl rfl (gv_t _) (fun hg1 => (rd_move rfl)) ?_
  refine t_rdg rfl rfl rfl rfl (gv_t _) (fun hg2 => (rd_leq (gvx rfl hg2) rfl)) ?_
  refine t_rd rfl (rd_and rfl (fun hc3 => (gvx rfl hc3))) ?_
  refine t_rd rfl (rd_assign rfl) ?_
  refine rwt_nil ?_
  refine qn_then ?_
  refine cw_ret ?_
  obtain rfl := os h
  exact ret1 rfl rfl ⟨rfl, (hm0.pick [] (by decide) rfl)⟩

theorem divert_ready_ok {N : Nat} {a0 : T_Span} {a1 : T_Span} {a2 : Int} {res : Int} (h : divert_ready N a0 a1 a2 = some res) {w : World}   :
    CallsR Try.prog 33 [(Value.agg (Flat.enc a0).toArray), (Value.agg (Flat.enc a1).toArray), (Value.int .i64 a2)] w (fun u w' => u = (Value.int .i64 res) ∧ Mem w No [] w') := by
  unfold divert_ready at h
  refine fn_ok Try.func33 rfl rfl rfl ?_
  have hm0 := Mem.nil w
  refine cw_seq ?_
  refine cw_region ?_
  refine t_ef rfl (ef_box hm0 rfl rfl) ?_
  rintro _ w3 ⟨g1, rfl, hm2⟩
  refine t_ef rfl (ef_box hm2 rfl rfl) ?_
  rintro _ w6 ⟨g4, rfl, hm5⟩
  refine t_rd rfl (rd_assign rfl) ?_
  refine rwt_nil ?_
  refine qn_then ?_
  refine cw_seq ?_
  refine cw_seq ?_
  refine cw_region ?_
  refine t_rd rfl (rd_fld tF42_1 rfl) ?_
  refine t_rd rfl (rd_ld1 tO3 rfl (hm5.blk 1 rfl) (off := 1) rfl) ?_
  refine t_rd rfl (rd_neq rfl rfl) ?_
  refine t_rd rfl (rd_move rfl) ?_
  refine t_rdg rfl rfl rfl rfl (gv_t _) (fun hg7 => (rd_fld tF42_1 rfl)) ?_
  refine t_rdg rfl rfl rfl rfl (gv_t _) (fun hg8 => (rd_ld1 tO3 (gvx rfl hg8) (hm5.blk 0 rfl) (off := 1) rfl)) ?_
  refine t_rdg rfl rfl rfl rfl (gv_t _) (fun hg9 => (rd_neq (gvx rfl hg9) rfl)) ?_
  refine t_rd rfl (rd_and rfl (fun hc10 => (gvx rfl hc10))) ?_
  refine t_rd rfl (rd_move rfl) ?_
  refine t_rdg rfl rfl rfl rfl (gv_t _) (fun hg11 => (rd_fld tF42_1 rfl)) ?_
  refine t_rdg rfl rfl rfl rfl (gv_t _) (fun hg12 => (rd_ld1 tO3 (gvx rfl hg12) (hm5.blk 1 rfl) (off := 1) rfl)) ?_
  refine t_rdg rfl rfl rfl rfl (gv_t _) (fun hg13 => (rd_fld tF42_1 rfl)) ?_
  refine t_rdg rfl rfl rfl rfl (gv_t _) (fun hg14 => (rd_ld1 tO3 (gvx rfl hg14) (hm5.blk 0 rfl) (off := 1) rfl)) ?_
  refine t_rdg rfl rfl rfl rfl (gv_t _) (fun hg15 => (rd_neq (gvx rfl hg15) (gvx rfl hg15))) ?_
  refine t_rd rfl (rd_and rfl (fun hc16 => (gvx rfl hc16))) ?_
  refine rwt_nil ?_
  refine qn_then ?_
  obtain ⟨hb17, q18⟩ | ⟨hb17, q18⟩ := oi h <;> clear h
  · refine cw_t rfl hb17 ?_
    refine cw_seq ?_
    refine cw_region ?_
    refine t_rd rfl (rd_fld tF42_3 rfl) ?_
    refine t_rd rfl (rd_ld1 tO3 rfl (hm5.blk 1 rfl) (off := 3) rfl) ?_
    refine t_rd rfl (rd_move rfl) ?_
    obtain ⟨x19, h20, q21⟩ := ob q18; clear q18
    refine t_rd rfl (rd_add64 h20 rfl rfl) ?_
    refine t_rd rfl (rd_assign rfl) ?_
    refine rwt_nil ?_
    refine qn_then ?_
    refine cw_ret ?_
    refine qr_then ?_
    obtain rfl := os q21
    exact ret1 rfl rfl ⟨rfl, (hm5.pick [] (by decide) rfl)⟩
  · refine cw_f rfl hb17 ?_
    refine cw_skip ?_
    refine qn_then ?_
    refine cw_seq ?_
    refine cw_region ?_
    refine t_rd rfl (rd_fld tF42_3 rfl) ?_
    refine t_rd rfl (rd_ld1 tO3 rfl (hm5.blk 1 rfl) (off := 3) rfl) ?_
    refine t_rd rfl (rd_assign rfl) ?_
    refine rwt_nil ?_
    refine qn_then ?_
    refine cw_ret ?_
    obtain rfl := os q18
    exact ret1 rfl rfl ⟨rfl, (hm5.pick [] (by decide) rfl)⟩

theorem divert_conflict_ok {N : Nat} {a0 : List T_Span} {a1 : List T_Span} {a2 : Int} {res : Int} (h : divert_conflict N a0 a1 a2 = some res) {w : World} {v0 : Value} {v1 : Value} (hv0 : Sl (Old w No) w v0 a0) (hv1 : Sl (Old w No) w v1 a1) :
    CallsR Try.prog 26 [v0, v1, (Value.int .i64 a2)] w (fun u w' => u = (Value.int .i64 res) ∧ Mem w No [] w') := by
  unfold divert_conflict at h
  refine fn_ok Try.func26 rfl rfl rfl ?_
  have hm0 := Mem.nil w
  refine cw_seq ?_
  refine cw_region ?_
  refine t_rd rfl (rd_assign rfl) ?_
  refine rwt_nil ?_
  refine qn_then ?_
  refine cw_seq ?_
  refine cw_seq ?_
  refine cw_region ?_
  refine t_rd rfl (rd_move rfl) ?_
  refine t_rd rfl (rd_lenS tS23 rfl (hv1.of_old hm0)) ?_
  refine t_rd rfl (rd_move rfl) ?_
  refine rwt_nil ?_
  refine qn_then ?_
  refine cw_block ?_
  obtain ⟨r365, hit366, q367⟩ := ob h; clear h
  refine cw_loop2 (I := fun q envq wq => Sub [(0, v0), (2, (Value.int .i64 a2)), (11, v1), (12, (Value.int .i64 (List.length a1 : Int))), (13, (Value.int .i64 q))] envq ∧ Mem w No [] wq) (X := fun eq envq wq => (∃ p368, r365 = (Sum.inl p368) ∧ eq = .ret ∧ retQ Try.prog 41 Try.f26 (fun u w' => u = (Value.int .i64 p368) ∧ Mem w No [] w') .ret envq wq) ∨ (∃ p369, r365 = (Sum.inr p369) ∧ eq = .exit 0 ∧ Sub [] envq ∧ Mem w No [] wq)) hit366 ⟨(by repeat (first | exact Sub.nil _ | refine Sub.cons rfl ?_)), (hm0.pick [] (by decide) rfl)⟩ ?_ ?_
  · rintro i358 x360 env361 w362 hf363 hr364 ⟨hs_, hm_⟩
    have hs_ : Sub [(0, v0), (2, (Value.int .i64 a2)), (11, v1), (12, (Value.int .i64 (List.length a1 : Int))), (13, (Value.int .i64 i358))] env361 := hs_
    have hm370 : Mem w No [] w362 := hm_
    refine cw_sub hs_ ?_
    clear hs_ hm_ q367
    have h : divert_conflict_l3 N a0 a1 a2 i358 = some x360 := hf363
    clear hf363
    refine cw_seq ?_
    refine cw_region ?_
    refine t_rd rfl (rd_lss rfl rfl) ?_
    refine rwt_nil ?_
    refine qn_then ?_
    refine cw_seq ?_
    obtain ⟨hb371, q372⟩ | ⟨hb371, q372⟩ := oi h <;> clear h
    · refine cw_t rfl hb371 ?_
      refine cw_skip ?_
      refine qn_then ?_
      refine cw_seq ?_
      refine cw_block ?_
      refine cw_seq ?_
      refine cw_region ?_
      refine t_rd rfl (rd_move rfl) ?_
      obtain ⟨x373, h374, q375⟩ := ob q372; clear q372
      refine t_rd rfl (rd_index tS23 rfl rfl (hv1.of_old hm370) h374) ?_
      refine t_rd rfl (rd_ld tA42 rfl ((hv1.of_old hm370).cells h374) rfl) ?_
      refine t_ef rfl (ef_alloc hm370 tZ42 rfl) ?_
      rintro _ w378 ⟨g376, rfl, hm377⟩
      refine t_rd rfl (rd_assign rfl) ?_
      refine t_ef0 (ef_stw (k := 0) hm377 tA42 rfl rfl (oc_cons rfl (oc_cons rfl (oc_cons rfl (oc_cons rfl oc_nil)))) rfl rfl rfl) ?_
      intro _ w380 hm379
      refine rwt_nil ?_
      refine qn_then ?_
      refine cw_seq ?_
      refine cw_region ?_
      refine t_rd rfl (rd_move rfl) ?_
      refine t_rd rfl (rd_lenS tS23 rfl (hv0.of_old hm379)) ?_
      refine t_rd rfl (rd_move rfl) ?_
      refine rwt_nil ?_
      refine qn_then ?_
      refine cw_block ?_
      obtain ⟨r483, hit484, q485⟩ := ob q375; clear q375
      refine cw_loop2 (I := fun q envq wq => Sub [(0, v0), (2, (Value.int .i64 a2)), (7, (Value.int .i64 i358)), (8, (Value.pointer (some ⟨g376, 0, none⟩))), (11, v1), (12, (Value.int .i64 (List.length a1 : Int))), (13, (Value.int .i64 i358)), (18, v0), (19, (Value.int .i64 (List.length a0 : Int))), (20, (Value.int .i64 q))] envq ∧ Mem w No [blk g376 42 [(Value.int .i64 x373.Element), (Value.int .i64 x373.Side), (Value.int .i64 x373.From), (Value.int .i64 x373.To)]] wq) (X := fun eq envq wq => (∃ p486, r483 = (Sum.inl p486) ∧ eq = .ret ∧ retQ Try.prog 41 Try.f26 (fun u w' => u = (Value.int .i64 p486) ∧ Mem w No [] w') .ret envq wq) ∨ (∃ p487, r483 = (Sum.inr p487) ∧ eq = .exit 2 ∧ Sub [(0, v0), (2, (Value.int .i64 a2)), (11, v1), (12, (Value.int .i64 (List.length a1 : Int))), (13, (Value.int .i64 i358))] envq ∧ Mem w No [] wq)) hit484 ⟨(by repeat (first | exact Sub.nil _ | refine Sub.cons rfl ?_)), (hm379.pick [0] (by decide) rfl)⟩ ?_ ?_
      · rintro i476 x478 env479 w480 hf481 hr482 ⟨hs_, hm_⟩
        have hs_ : Sub [(0, v0), (2, (Value.int .i64 a2)), (7, (Value.int .i64 i358)), (8, (Value.pointer (some ⟨g376, 0, none⟩))), (11, v1), (12, (Value.int .i64 (List.length a1 : Int))), (13, (Value.int .i64 i358)), (18, v0), (19, (Value.int .i64 (List.length a0 : Int))), (20, (Value.int .i64 i476))] env479 := hs_
        have hm488 : Mem w No [blk g376 42 [(Value.int .i64 x373.Element), (Value.int .i64 x373.Side), (Value.int .i64 x373.From), (Value.int .i64 x373.To)]] w480 := hm_
        refine cw_sub hs_ ?_
        clear hs_ hm_ q485
        have h : divert_conflict_l4 N a0 a2 i358 x373 i476 = some x478 := hf481
        clear hf481
        refine cw_seq ?_
        refine cw_region ?_
        refine t_rd rfl (rd_lss rfl rfl) ?_
        refine rwt_nil ?_
        refine qn_then ?_
        refine cw_seq ?_
        obtain ⟨hb489, q490⟩ | ⟨hb489, q490⟩ := oi h <;> clear h
        · refine cw_t rfl hb489 ?_
          refine cw_skip ?_
          refine qn_then ?_
          refine cw_seq ?_
          refine cw_block ?_
          refine cw_seq ?_
          refine cw_region ?_
          obtain ⟨x491, h492, q493⟩ := ob q490; clear q490
          refine t_rd rfl (rd_index tS23 rfl rfl (hv0.of_old hm488) h492) ?_
          refine t_rd rfl (rd_ld tA42 rfl ((hv0.of_old hm488).cells h492) rfl) ?_
          refine t_ef rfl (ef_alloc hm488 tZ42 rfl) ?_
          rintro _ w496 ⟨g494, rfl, hm495⟩
          refine t_ef0 (ef_stw (k := 0) hm495 tA42 rfl rfl (oc_cons rfl (oc_cons rfl (oc_cons rfl (oc_cons rfl oc_nil)))) rfl rfl rfl) ?_
          intro _ w498 hm497
          refine rwt_nil ?_
          refine qn_then ?_
          refine cw_seq ?_
          obtain ⟨w500, he502⟩ : ∃ q, q = w498.drew := ⟨_, rfl⟩
          have hm501 := hm497.drew; rw [← he502] at hm501
          refine cw_region_s (fun q => (blk g494 42 [(Value.int .i64 x491.Element), (Value.int .i64 x491.Side), (Value.int .i64 x491.From), (Value.int .i64 x491.To)]).φ q ∧ (blk g376 42 [(Value.int .i64 x373.Element), (Value.int .i64 x373.Side), (Value.int .i64 x373.From), (Value.int .i64 x373.To)]).φ q) (cls [9] []) mixed ?_
          rintro _ rfl; rw [← he502]
          refine s_rp (i := 0) rfl (by kernel_rfl) rfl (fun _ => (rd_fld tF42_0 rfl)) ?_
          refine s_rd (i := 1) rfl (by kernel_rfl) rfl (fun w499 hS => (rd_ld1 tO3 rfl (cells_blk hS.1) (off := 0) rfl)) ⟨(hm501.get (k := 0) rfl), (hm501.get (k := 1) rfl)⟩ ?_
          refine s_rp (i := 2) rfl (by kernel_rfl) rfl (fun _ => (rd_fld tF42_0 rfl)) ?_
          refine s_rd (i := 3) rfl (by kernel_rfl) rfl (fun w499 hS => (rd_ld1 tO3 rfl (cells_blk hS.2) (off := 0) rfl)) ⟨(hm501.get (k := 0) rfl), (hm501.get (k := 1) rfl)⟩ ?_
          refine s_rp (i := 4) rfl (by kernel_rfl) rfl (fun _ => (rd_eql rfl rfl)) ?_
          refine s_rp (i := 5) rfl (by kernel_rfl) rfl (fun _ => (rd_move rfl)) ?_
          refine s_rdg (i := 6) rfl (by kernel_rfl) rfl rfl rfl rfl (gv_t _) (fun hg517 => (fun w499 hS => (rd_ld tA42 rfl (cells_blk hS.1) rfl))) ⟨(hm501.get (k := 0) rfl), (hm501.get (k := 1) rfl)⟩ ?_
          refine s_rdg (i := 7) rfl (by kernel_rfl) rfl rfl rfl rfl (gv_t _) (fun hg518 => (fun w499 hS => (rd_ld tA42 rfl (cells_blk hS.2) rfl))) ⟨(hm501.get (k := 0) rfl), (hm501.get (k := 1) rfl)⟩ ?_
          refine s_rpg (i := 8) rfl (by kernel_rfl) rfl rfl rfl rfl (gv_t _) (fun hg519 _ => (rd_move rfl)) ?_
          refine s_rpg (i := 10) rfl (by kernel_rfl) rfl rfl rfl rfl (gv_t _) (fun hg520 _ => (rd_fld tF42_2 rfl)) ?_
          refine s_rdg (i := 11) rfl (by kernel_rfl) rfl rfl rfl rfl (gv_t _) (fun hg521 => (fun w499 hS => (rd_ld1 tO3 (gvx rfl hg521) (cells_blk hS.2) (off := 2) rfl))) ⟨(hm501.get (k := 0) rfl), (hm501.get (k := 1) rfl)⟩ ?_
          obtain ⟨r523, h524, q525⟩ := ob q493; clear q493
          refine s_efg (i := 9) rfl (by kernel_rfl) rfl rfl rfl rfl (R := (fun v w' => v = gV (decide (x491.Element = x373.Element)) (Value.int .i64 r523) ∧ Mem w500 No [] w')) (gv_t _) (fun hg522 => (ef_call tf33 (evc (gvx rfl hg522) (evc (gvx rfl hg522) (evc (gvx rfl hg522) evn))) (divert_ready_ok (gO_t h524 hg522))).mono (by rintro _ _ ⟨rfl, q⟩; exact ⟨(gV_t hg522).symm, q⟩)) (fun q => ⟨(gV_f q).symm, Mem.nil _⟩) (by decide) ?_ ?_
          · rintro _ w527 ⟨rfl, hm526⟩
            have hm528 := hm501.call hm526
            intro _
            exact ⟨(hm528.get (k := 0) rfl), (hm528.get (k := 1) rfl)⟩
          rintro _ w527 ⟨rfl, hm526⟩
          have hm528 := hm501.call hm526
          refine s_rpg (i := 12) rfl (by kernel_rfl) rfl rfl rfl rfl (gv_t _) (fun hg529 _ => (rd_gtr (gvx rfl hg529) (gvx rfl hg529))) ?_
          refine s_rp (i := 13) rfl (by kernel_rfl) rfl (fun _ => (rd_and rfl (fun hc530 => (gvx rfl hc530)))) ?_
          refine s_nil (by kernel_rfl) ?_
          refine qn_then ?_
          obtain ⟨hb531, q532⟩ | ⟨hb531, q532⟩ := oi q525 <;> clear q525
          · refine cw_t rfl hb531 ?_
            refine cw_seq ?_
            refine cw_region ?_
            refine t_rd rfl (rd_move rfl) ?_
            refine t_rd rfl (rd_assign rfl) ?_
            refine rwt_nil ?_
            refine qn_then ?_
            refine cw_ret ?_
            refine qr_block (qr_then (qr_then ?_))
            obtain rfl := hr482 _ (os q532)
            refine .inl (⟨_, rfl, ⟨rfl, ?_⟩⟩)
            exact ret1 rfl rfl ⟨rfl, (hm528.pick [] (by decide) rfl)⟩
          · refine cw_f rfl hb531 ?_
            refine cw_skip ?_
            refine qn_block (qn_then ?_)
            refine cw_region ?_
            obtain ⟨x533, h534, q535⟩ := ob q532; clear q532
            refine t_rd rfl (rd_add64 h534 rfl rfl) ?_
            refine t_rd rfl (rd_move rfl) ?_
            refine rwt_nil ?_
            refine qn_then ?_
            refine ⟨_, (os q535), (by repeat (first | exact Sub.nil _ | refine Sub.cons rfl ?_)), (hm528.pick [1] (by decide) rfl)⟩
        · refine cw_f rfl hb489 ?_
          refine cw_exit ?_
          refine qx_then (qx_then ?_)
          obtain rfl := hr482 _ (os q490)
          exact .inr (⟨_, rfl, ⟨rfl, (by repeat (first | exact Sub.nil _ | refine Sub.cons rfl ?_)), (hm488.pick [] (by decide) rfl)⟩⟩)
      · skip
        intro e env536 w537 hX538
        rcases hX538 with hX538 | hX538
        · obtain ⟨p540, rfl, hX538⟩ := hX538
          obtain ⟨rfl, hq542⟩ := hX538
          obtain rfl := hr364 _ (os q485)
          exact qr_block (qr_block (qr_then (qr_then (.inl (⟨_, rfl, ⟨rfl, hq542⟩⟩)))))
        · obtain ⟨p543, rfl, hX538⟩ := hX538
          obtain ⟨rfl, hs544, hm545⟩ := hX538
          refine qx_same (qn_block (qn_then ?_))
          refine cw_sub hs544 ?_
          refine cw_region ?_
          obtain ⟨x546, h547, q548⟩ := ob q485; clear q485
          refine t_rd rfl (rd_add64 h547 rfl rfl) ?_
          refine t_rd rfl (rd_move rfl) ?_
          refine rwt_nil ?_
          refine qn_then ?_
          refine ⟨_, (os q548), (by repeat (first | exact Sub.nil _ | refine Sub.cons rfl ?_)), (hm545.pick [] (by decide) rfl)⟩
    · refine cw_f rfl hb371 ?_
      refine cw_exit ?_
      refine qx_then (qx_then ?_)
      obtain rfl := hr364 _ (os q372)
      exact .inr (⟨_, rfl, ⟨rfl, (by repeat (first | exact Sub.nil _ | refine Sub.cons rfl ?_)), (hm370.pick [] (by decide) rfl)⟩⟩)
  · skip
    intro e env549 w550 hX551
    rcases hX551 with hX551 | hX551
    · obtain ⟨p553, rfl, hX551⟩ := hX551
      obtain ⟨rfl, hq555⟩ := hX551
      exact qr_block (qr_then ((by have e := os q367; subst e; exact hq555)))
    · obtain ⟨p556, rfl, hX551⟩ := hX551
      obtain ⟨rfl, hs557, hm558⟩ := hX551
      refine qx_same (qn_then ?_)
      refine cw_sub hs557 ?_
      refine cw_seq ?_
      refine cw_region ?_
      refine t_rd rfl (rd_assign rfl) ?_
      refine rwt_nil ?_
      refine qn_then ?_
      refine cw_ret ?_
      obtain rfl := os q367
      exact ret1 rfl rfl ⟨rfl, (hm558.pick [] (by decide) rfl)⟩

theorem divert_Conflict_ok {N : Nat} {a0 : List T_Span} {a1 : List T_Span} {a2 : Int} {res : Int × Int} (h : divert_Conflict N a0 a1 a2 = some res) {w : World} {v0 : Value} {v1 : Value} (hv0 : Sl (Old w No) w v0 a0) (hv1 : Sl (Old w No) w v1 a1) :
    CallsR Try.prog 17 [v0, v1, (Value.int .i64 a2)] w (fun u w' => u = (Value.tuple #[(Value.int .i64 res.1), (Value.int .i64 res.2)]) ∧ Mem w No [] w') := by
  unfold divert_Conflict at h
  refine fn_ok Try.func17 rfl rfl rfl ?_
  have hm0 := Mem.nil w
  refine cw_seq ?_
  refine cw_region ?_
  refine t_rd rfl (rd_assign rfl) ?_
  refine t_rd rfl (rd_assign rfl) ?_
  refine rwt_nil ?_
  refine qn_then ?_
  refine cw_seq ?_
  refine cw_seq ?_
  refine cw_region ?_
  refine t_rd rfl (rd_move rfl) ?_
  obtain ⟨r1, h2, q3⟩ := ob h; clear h
  refine t_ef rfl (ef_call tf24 rfl (divert_valid_ok h2 (hv0.to_call hm0))) ?_
  rintro _ w5 ⟨e_, hm4⟩
  obtain rfl := e_.symm
  have hm6 := hm0.call hm4
  refine t_rd rfl (rd_not rfl) ?_
  refine t_rd rfl (rd_move rfl) ?_
  refine t_rdg rfl rfl rfl rfl (gv_f _) (fun hg7 => (rd_move rfl)) ?_
  obtain ⟨r9, h10, q11⟩ := ob q3; clear q3
  refine t_efg rfl rfl rfl rfl (R := (fun v w' => v = gV (!(!r1)) (Value.bool r9) ∧ Mem w5 No [] w')) (gv_f _) (fun hg8 => (ef_call tf24 (evc (gvx rfl hg8) evn) (divert_valid_ok (gO_t h10 hg8) (hv1.to_call hm6))).mono (by rintro _ _ ⟨rfl, q⟩; exact ⟨(gV_t hg8).symm, q⟩)) (fun q => ⟨(gV_f q).symm, Mem.nil _⟩) ?_
  rintro _ w13 ⟨rfl, hm12⟩
  have hm14 := hm6.call hm12
  refine t_rdg rfl rfl rfl rfl (gv_f _) (fun hg15 => (rd_not (gvx rfl hg15))) ?_
  refine t_rd rfl (rd_or rfl (fun hc16 => (gvx rfl (bnotIt hc16)))) ?_
  refine t_rd rfl (rd_move rfl) ?_
  refine t_rdg rfl rfl rfl rfl (gv_f _) (fun hg17 => (rd_move rfl)) ?_
  obtain ⟨r19, h20, q21⟩ := ob q11; clear q11
  refine t_efg rfl rfl rfl rfl (R := (fun v w' => v = gV (!((!r1) || (!r9))) (Value.bool r19) ∧ Mem w13 No [] w')) (gv_f _) (fun hg18 => (ef_call tf25 (evc (gvx rfl hg18) evn) (divert_in_ok (gO_t h20 hg18))).mono (by rintro _ _ ⟨rfl, q⟩; exact ⟨(gV_t hg18).symm, q⟩)) (fun q => ⟨(gV_f q).symm, Mem.nil _⟩) ?_
  rintro _ w23 ⟨rfl, hm22⟩
  have hm24 := hm14.call hm22
  refine t_rdg rfl rfl rfl rfl (gv_f _) (fun hg25 => (rd_not (gvx rfl hg25))) ?_
  refine t_rd rfl (rd_or rfl (fun hc26 => (gvx rfl (bnotIt hc26)))) ?_
  refine rwt_nil ?_
  refine qn_then ?_
  obtain ⟨hb27, q28⟩ | ⟨hb27, q28⟩ := oi q21 <;> clear q21
  · refine cw_t rfl hb27 ?_
    refine cw_seq ?_
    refine cw_region ?_
    refine t_rd rfl (rd_assign rfl) ?_
    refine t_rd rfl (rd_assign rfl) ?_
    refine rwt_nil ?_
    refine qn_then ?_
    refine cw_ret ?_
    refine qr_then ?_
    obtain rfl := os q28
    exact ret2 rfl rfl rfl ⟨rfl, (hm24.pick [] (by decide) rfl)⟩
  · refine cw_f rfl hb27 ?_
    refine cw_skip ?_
    refine qn_then ?_
    refine cw_seq ?_
    refine cw_region ?_
    refine t_rd rfl (rd_move rfl) ?_
    refine t_rd rfl (rd_move rfl) ?_
    refine t_rd rfl (rd_move rfl) ?_
    obtain ⟨r29, h30, q31⟩ := ob q28; clear q28
    refine t_ef rfl (ef_call tf26 rfl (divert_conflict_ok h30 (hv0.to_call hm24) (hv1.to_call hm24))) ?_
    rintro _ w33 ⟨e_, hm32⟩
    obtain rfl := e_.symm
    have hm34 := hm24.call hm32
    refine t_rd rfl (rd_assign rfl) ?_
    refine t_rd rfl (rd_assign rfl) ?_
    refine rwt_nil ?_
    refine qn_then ?_
    refine cw_ret ?_
    obtain rfl := os q31
    exact ret2 rfl rfl rfl ⟨rfl, (hm34.pick [] (by decide) rfl)⟩

theorem r23_Valid_ok {N : Nat} {a0 : List T_Span} {res : Bool} (h : r23_Valid N a0 = some res) {w : World} {v0 : Value} (hv0 : Sl (Old w No) w v0 a0) :
    CallsR Try.prog 28 [v0] w (fun u w' => u = (Value.bool res) ∧ Mem w No [] w') := by
  unfold r23_Valid at h
  refine fn_ok Try.func28 rfl rfl rfl ?_
  have hm0 := Mem.nil w
  refine cw_seq ?_
  refine cw_region ?_
  refine t_rd rfl (rd_assign rfl) ?_
  refine rwt_nil ?_
  refine qn_then ?_
  refine cw_seq ?_
  refine cw_seq ?_
  refine cw_region ?_
  refine t_rd rfl (rd_move rfl) ?_
  refine t_rd rfl (rd_lenS tS23 rfl (hv0.of_old hm0)) ?_
  refine t_rd rfl (rd_gtr rfl rfl) ?_
  refine rwt_nil ?_
  refine qn_then ?_
  obtain ⟨hb1, q2⟩ | ⟨hb1, q2⟩ := oi h <;> clear h
  · refine cw_t rfl hb1 ?_
    refine cw_seq ?_
    refine cw_region ?_
    refine t_rd rfl (rd_assign rfl) ?_
    refine rwt_nil ?_
    refine qn_then ?_
    refine cw_ret ?_
    refine qr_then ?_
    obtain rfl := os q2
    exact ret1 rfl rfl ⟨rfl, (hm0.pick [] (by decide) rfl)⟩
  · refine cw_f rfl hb1 ?_
    refine cw_skip ?_
    refine qn_then ?_
    refine cw_seq ?_
    refine cw_seq ?_
    refine cw_region ?_
    refine t_rd rfl (rd_assign rfl) ?_
    refine rwt_nil ?_
    refine qn_then ?_
    refine cw_block ?_
    obtain ⟨r217, hit218, q219⟩ := ob q2; clear q2
    refine cw_loop2 (I := fun q envq wq => Sub [(0, v0), (3, (Value.int .i64 q))] envq ∧ Mem w No [] wq) (X := fun eq envq wq => (∃ p220, r217 = (Sum.inl p220) ∧ eq = .ret ∧ retQ Try.prog 62 Try.f28 (fun u w' => u = (Value.bool p220) ∧ Mem w No [] w') .ret envq wq) ∨ (∃ p221, r217 = (Sum.inr p221) ∧ eq = .exit 0 ∧ Sub [] envq ∧ Mem w No [] wq)) hit218 ⟨(by repeat (first | exact Sub.nil _ | refine Sub.cons rfl ?_)), (hm0.pick [] (by decide) rfl)⟩ ?_ ?_
    · rintro i210 x212 env213 w214 hf215 hr216 ⟨hs_, hm_⟩
      have hs_ : Sub [(0, v0), (3, (Value.int .i64 i210))] env213 := hs_
      have hm222 : Mem w No [] w214 := hm_
      refine cw_sub hs_ ?_
      clear hs_ hm_ q219
      have h : r23_Valid_l3 N a0 i210 = some x212 := hf215
      clear hf215
      refine cw_seq ?_
      refine cw_seq ?_
      refine cw_region ?_
      refine t_rd rfl (rd_move rfl) ?_
      refine t_rd rfl (rd_move rfl) ?_
      refine t_rd rfl (rd_lenS tS23 rfl (hv0.of_old hm222)) ?_
      refine t_rd rfl (rd_lss rfl rfl) ?_
      refine rwt_nil ?_
      refine qn_then ?_
      obtain ⟨hb223, q224⟩ | ⟨hb223, q224⟩ := oi h <;> clear h
      · refine cw_t rfl hb223 ?_
        refine cw_skip ?_
        refine qn_then ?_
        refine cw_seq ?_
        refine cw_block ?_
        refine cw_seq ?_
        refine cw_region ?_
        refine t_rd rfl (rd_move rfl) ?_
        refine t_rd rfl (rd_move rfl) ?_
        obtain ⟨x225, h226, q227⟩ := ob q224; clear q224
        refine t_rd rfl (rd_index tS23 rfl rfl (hv0.of_old hm222) h226) ?_
        refine t_rd rfl (rd_ld tA42 rfl ((hv0.of_old hm222).cells h226) rfl) ?_
        refine t_ef rfl (ef_alloc hm222 tZ42 rfl) ?_
        rintro _ w230 ⟨g228, rfl, hm229⟩
        refine t_ef0 (ef_stw (k := 0) hm229 tA42 rfl rfl (oc_cons rfl (oc_cons rfl (oc_cons rfl (oc_cons rfl oc_nil)))) rfl rfl rfl) ?_
        intro _ w232 hm231
        refine rwt_nil ?_
        refine qn_then ?_
        refine cw_seq ?_
        refine cw_seq ?_
        refine cw_region ?_
        refine t_rd rfl (rd_fld tF42_0 rfl) ?_
        refine t_rd rfl (rd_ld1 tO3 rfl (hm231.blk 0 rfl) (off := 0) rfl) ?_
        refine t_rd rfl (rd_lss rfl rfl) ?_
        refine t_rd rfl (rd_move rfl) ?_
        refine t_rdg rfl rfl rfl rfl (gv_f _) (fun hg233 => (rd_fld tF42_1 rfl)) ?_
        refine t_rdg rfl rfl rfl rfl (gv_f _) (fun hg234 => (rd_ld1 tO3 (gvx rfl hg234) (hm231.blk 0 rfl) (off := 1) rfl)) ?_
        refine t_rdg rfl rfl rfl rfl (gv_f _) (fun hg235 => (rd_lss (gvx rfl hg235) rfl)) ?_
        refine t_rd rfl (rd_or rfl (fun hc236 => (gvx rfl (bnotIt hc236)))) ?_
        refine t_rd rfl (rd_move rfl) ?_
        refine t_rdg rfl rfl rfl rfl (gv_f _) (fun hg237 => (rd_fld tF42_1 rfl)) ?_
        refine t_rdg rfl rfl rfl rfl (gv_f _) (fun hg238 => (rd_ld1 tO3 (gvx rfl hg238) (hm231.blk 0 rfl) (off := 1) rfl)) ?_
        refine t_rdg rfl rfl rfl rfl (gv_f _) (fun hg239 => (rd_gtr (gvx rfl hg239) rfl)) ?_
        refine t_rd rfl (rd_or rfl (fun hc240 => (gvx rfl (bnotIt hc240)))) ?_
        refine t_rd rfl (rd_move rfl) ?_
        refine t_rdg rfl rfl rfl rfl (gv_f _) (fun hg241 => (rd_fld tF42_2 rfl)) ?_
        refine t_rdg rfl rfl rfl rfl (gv_f _) (fun hg242 => (rd_ld1 tO3 (gvx rfl hg242) (hm231.blk 0 rfl) (off := 2) rfl)) ?_
        refine t_rdg rfl rfl rfl rfl (gv_f _) (fun hg243 => (rd_lss (gvx rfl hg243) rfl)) ?_
        refine t_rd rfl (rd_or rfl (fun hc244 => (gvx rfl (bnotIt hc244)))) ?_
        refine t_rd rfl (rd_move rfl) ?_
        refine t_rdg rfl rfl rfl rfl (gv_f _) (fun hg245 => (rd_fld tF42_2 rfl)) ?_
        refine t_rdg rfl rfl rfl rfl (gv_f _) (fun hg246 => (rd_ld1 tO3 (gvx rfl hg246) (hm231.blk 0 rfl) (off := 2) rfl)) ?_
        refine t_rdg rfl rfl rfl rfl (gv_f _) (fun hg247 => (rd_fld tF42_3 rfl)) ?_
        refine t_rdg rfl rfl rfl rfl (gv_f _) (fun hg248 => (rd_ld1 tO3 (gvx rfl hg248) (hm231.blk 0 rfl) (off := 3) rfl)) ?_
        refine t_rdg rfl rfl rfl rfl (gv_f _) (fun hg249 => (rd_geq (gvx rfl hg249) (gvx rfl hg249))) ?_
        refine t_rd rfl (rd_or rfl (fun hc250 => (gvx rfl (bnotIt hc250)))) ?_
        refine t_rd rfl (rd_move rfl) ?_
        refine t_rdg rfl rfl rfl rfl (gv_f _) (fun hg251 => (rd_fld tF42_3 rfl)) ?_
        refine t_rdg rfl rfl rfl rfl (gv_f _) (fun hg252 => (rd_ld1 tO3 (gvx rfl hg252) (hm231.blk 0 rfl) (off := 3) rfl)) ?_
        refine t_rdg rfl rfl rfl rfl (gv_f _) (fun hg253 => (rd_gtr (gvx rfl hg253) rfl)) ?_
        refine t_rd rfl (rd_or rfl (fun hc254 => (gvx rfl (bnotIt hc254)))) ?_
        refine rwt_nil ?_
        refine qn_then ?_
        obtain ⟨hb255, q256⟩ | ⟨hb255, q256⟩ := oi q227 <;> clear q227
        · refine cw_t rfl hb255 ?_
          refine cw_seq ?_
          refine cw_region ?_
          refine t_rd rfl (rd_assign rfl) ?_
          refine rwt_nil ?_
          refine qn_then ?_
          refine cw_ret ?_
          refine qr_then (qr_block (qr_then (qr_then ?_)))
          obtain rfl := hr216 _ (os q256)
          refine .inl (⟨_, rfl, ⟨rfl, ?_⟩⟩)
          exact ret1 rfl rfl ⟨rfl, (hm231.pick [] (by decide) rfl)⟩
        · refine cw_f rfl hb255 ?_
          refine cw_skip ?_
          refine qn_then ?_
          refine cw_seq ?_
          refine cw_region ?_
          refine t_rd rfl (rd_assign rfl) ?_
          refine rwt_nil ?_
          refine qn_then ?_
          refine cw_block ?_
          obtain ⟨r293, hit294, q295⟩ := ob q256; clear q256
          refine cw_loop2 (I := fun q envq wq => Sub [(0, v0), (3, (Value.int .i64 i210)), (4, (Value.pointer (some ⟨g228, 0, none⟩))), (5, (Value.int .i64 q))] envq ∧ Mem w No [blk g228 42 [(Value.int .i64 x225.Element), (Value.int .i64 x225.Side), (Value.int .i64 x225.From), (Value.int .i64 x225.To)]] wq) (X := fun eq envq wq => (∃ p296, r293 = (Sum.inl p296) ∧ eq = .ret ∧ retQ Try.prog 62 Try.f28 (fun u w' => u = (Value.bool p296) ∧ Mem w No [] w') .ret envq wq) ∨ (∃ p297, r293 = (Sum.inr p297) ∧ eq = .exit 2 ∧ Sub [(0, v0), (3, (Value.int .i64 i210))] envq ∧ Mem w No [] wq)) hit294 ⟨(by repeat (first | exact Sub.nil _ | refine Sub.cons rfl ?_)), (hm231.pick [0] (by decide) rfl)⟩ ?_ ?_
          · rintro i286 x288 env289 w290 hf291 hr292 ⟨hs_, hm_⟩
            have hs_ : Sub [(0, v0), (3, (Value.int .i64 i210)), (4, (Value.pointer (some ⟨g228, 0, none⟩))), (5, (Value.int .i64 i286))] env289 := hs_
            have hm298 : Mem w No [blk g228 42 [(Value.int .i64 x225.Element), (Value.int .i64 x225.Side), (Value.int .i64 x225.From), (Value.int .i64 x225.To)]] w290 := hm_
            refine cw_sub hs_ ?_
            clear hs_ hm_ q295
            have h : r23_Valid_l4 N a0 i210 x225 i286 = some x288 := hf291
            clear hf291
            refine cw_seq ?_
            refine cw_seq ?_
            refine cw_region ?_
            refine t_rd rfl (rd_move rfl) ?_
            refine t_rd rfl (rd_move rfl) ?_
            refine t_rd rfl (rd_lss rfl rfl) ?_
            refine rwt_nil ?_
            refine qn_then ?_
            obtain ⟨hb299, q300⟩ | ⟨hb299, q300⟩ := oi h <;> clear h
            · refine cw_t rfl hb299 ?_
              refine cw_skip ?_
              refine qn_then ?_
              refine cw_seq ?_
              refine cw_block ?_
              refine cw_seq ?_
              obtain ⟨w302, he304⟩ : ∃ q, q = w290.drew := ⟨_, rfl⟩
              have hm303 := hm298.drew; rw [← he304] at hm303
              refine cw_region_s (fun q => q = w302) (cls [] []) mixed ?_
              rintro _ rfl; rw [← he304]
              refine s_rp (i := 0) rfl (by kernel_rfl) rfl (fun _ => (rd_move rfl)) ?_
              refine s_rp (i := 1) rfl (by kernel_rfl) rfl (fun _ => (rd_move rfl)) ?_
              obtain ⟨x305, h306, q307⟩ := ob q300; clear q300
              refine s_rp (i := 2) rfl (by kernel_rfl) rfl (fun _ => (rd_index tS23 rfl rfl (hv0.of_old hm303) h306)) ?_
              refine s_rp (i := 3) rfl (by kernel_rfl) rfl (fun _ => (rd_fld tF42_0 rfl)) ?_
              refine s_rd (i := 4) rfl (by kernel_rfl) rfl (fun _ hS => by rw [hS]; exact (rd_ld1 tO3 rfl ((hv0.of_old hm303).cells h306) (off := 0) rfl)) rfl ?_
              refine s_rp (i := 5) rfl (by kernel_rfl) rfl (fun _ => (rd_fld tF42_0 rfl)) ?_
              refine s_rd (i := 6) rfl (by kernel_rfl) rfl (fun _ hS => by rw [hS]; exact (rd_ld1 tO3 rfl (hm303.blk 0 rfl) (off := 0) rfl)) rfl ?_
              refine s_rp (i := 7) rfl (by kernel_rfl) rfl (fun _ => (rd_eql rfl rfl)) ?_
              refine s_nil (by kernel_rfl) ?_
              refine qn_then ?_
              obtain ⟨hb308, q309⟩ | ⟨hb308, q309⟩ := oi q307 <;> clear q307
              · refine cw_t rfl hb308 ?_
                refine cw_seq ?_
                refine cw_region ?_
                refine t_rd rfl (rd_assign rfl) ?_
                refine rwt_nil ?_
                refine qn_then ?_
                refine cw_ret ?_
                refine qr_block (qr_then (qr_then ?_))
                obtain rfl := hr292 _ (os q309)
                refine .inl (⟨_, rfl, ⟨rfl, ?_⟩⟩)
                exact ret1 rfl rfl ⟨rfl, (hm303.pick [] (by decide) rfl)⟩
              · refine cw_f rfl hb308 ?_
                refine cw_skip ?_
                refine qn_block (qn_then ?_)
                refine cw_region ?_
                refine t_rd rfl (rd_move rfl) ?_
                obtain ⟨x310, h311, q312⟩ := ob q309; clear q309
                refine t_rd rfl (rd_add64 h311 rfl rfl) ?_
                refine t_rd rfl (rd_assign rfl) ?_
                refine rwt_nil ?_
                refine qn_then ?_
                refine ⟨_, (os q312), (by repeat (first | exact Sub.nil _ | refine Sub.cons rfl ?_)), (hm303.pick [0] (by decide) rfl)⟩
            · refine cw_f rfl hb299 ?_
              refine cw_exit ?_
              refine qx_then (qx_then ?_)
              obtain rfl := hr292 _ (os q300)
              exact .inr (⟨_, rfl, ⟨rfl, (by repeat (first | exact Sub.nil _ | refine Sub.cons rfl ?_)), (hm298.pick [] (by decide) rfl)⟩⟩)
          · skip
            intro e env313 w314 hX315
            rcases hX315 with hX315 | hX315
            · obtain ⟨p317, rfl, hX315⟩ := hX315
              obtain ⟨rfl, hq319⟩ := hX315
              obtain rfl := hr216 _ (os q295)
              exact qr_block (qr_block (qr_then (qr_then (.inl (⟨_, rfl, ⟨rfl, hq319⟩⟩)))))
            · obtain ⟨p320, rfl, hX315⟩ := hX315
              obtain ⟨rfl, hs321, hm322⟩ := hX315
              refine qx_same (qn_block (qn_then ?_))
              refine cw_sub hs321 ?_
              refine cw_region ?_
              refine t_rd rfl (rd_move rfl) ?_
              obtain ⟨x323, h324, q325⟩ := ob q295; clear q295
              refine t_rd rfl (rd_add64 h324 rfl rfl) ?_
              refine t_rd rfl (rd_assign rfl) ?_
              refine rwt_nil ?_
              refine qn_then ?_
              refine ⟨_, (os q325), (by repeat (first | exact Sub.nil _ | refine Sub.cons rfl ?_)), (hm322.pick [] (by decide) rfl)⟩
      · refine cw_f rfl hb223 ?_
        refine cw_exit ?_
        refine qx_then (qx_then ?_)
        obtain rfl := hr216 _ (os q224)
        exact .inr (⟨_, rfl, ⟨rfl, (by repeat (first | exact Sub.nil _ | refine Sub.cons rfl ?_)), (hm222.pick [] (by decide) rfl)⟩⟩)
    · skip
      intro e env326 w327 hX328
      rcases hX328 with hX328 | hX328
      · obtain ⟨p330, rfl, hX328⟩ := hX328
        obtain ⟨rfl, hq332⟩ := hX328
        exact qr_block (qr_then ((by have e := os q219; subst e; exact hq332)))
      · obtain ⟨p333, rfl, hX328⟩ := hX328
        obtain ⟨rfl, hs334, hm335⟩ := hX328
        refine qx_same (qn_then ?_)
        refine cw_sub hs334 ?_
        refine cw_seq ?_
        refine cw_region ?_
        refine t_rd rfl (rd_assign rfl) ?_
        refine rwt_nil ?_
        refine qn_then ?_
        refine cw_ret ?_
        obtain rfl := os q219
        exact ret1 rfl rfl ⟨rfl, (hm335.pick [] (by decide) rfl)⟩

theorem r31_check_ok {N : Nat} {a0 : List T_Span} {a1 : List T_Span} {a2 : Int} {a3 : Int} {res : Bool} (h : r31_check N a0 a1 a2 a3 = some res) {w : World} {v0 : Value} {v1 : Value} (hv0 : Sl (Old w No) w v0 a0) (hv1 : Sl (Old w No) w v1 a1) :
    CallsR Try.prog 30 [v0, v1, (Value.int .i64 a2), (Value.int .i64 a3)] w (fun u w' => u = (Value.bool res) ∧ Mem w No [] w') := by
  unfold r31_check at h
  refine fn_ok Try.func30 rfl rfl rfl ?_
  have hm0 := Mem.nil w
  refine cw_seq ?_
  refine cw_region ?_
  refine t_rd rfl (rd_assign rfl) ?_
  refine rwt_nil ?_
  refine qn_then ?_
  refine cw_seq ?_
  refine cw_region ?_
  refine t_rd rfl (rd_move rfl) ?_
  obtain ⟨r1, h2, q3⟩ := ob h; clear h
  refine t_ef rfl (ef_call tf28 rfl (r23_Valid_ok h2 (hv0.to_call hm0))) ?_
  rintro _ w5 ⟨e_, hm4⟩
  obtain rfl := e_.symm
  have hm6 := hm0.call hm4
  refine t_rd rfl (rd_move rfl) ?_
  refine t_rdg rfl rfl rfl rfl (gv_t _) (fun hg7 => (rd_move rfl)) ?_
  obtain ⟨r9, h10, q11⟩ := ob q3; clear q3
  refine t_efg rfl rfl rfl rfl (R := (fun v w' => v = gV r1 (Value.bool r9) ∧ Mem w5 No [] w')) (gv_t _) (fun hg8 => (ef_call tf28 (evc (gvx rfl hg8) evn) (r23_Valid_ok (gO_t h10 hg8) (hv1.to_call hm6))).mono (by rintro _ _ ⟨rfl, q⟩; exact ⟨(gV_t hg8).symm, q⟩)) (fun q => ⟨(gV_f q).symm, Mem.nil _⟩) ?_
  rintro _ w13 ⟨rfl, hm12⟩
  have hm14 := hm6.call hm12
  refine t_rd rfl (rd_and rfl (fun hc15 => (gvx rfl hc15))) ?_
  refine t_rd rfl (rd_move rfl) ?_
  refine t_rdg rfl rfl rfl rfl (gv_t _) (fun hg16 => (rd_move rfl)) ?_
  refine t_rdg rfl rfl rfl rfl (gv_t _) (fun hg17 => (rd_geq (gvx rfl hg17) rfl)) ?_
  refine t_rd rfl (rd_and rfl (fun hc18 => (gvx rfl hc18))) ?_
  refine t_rd rfl (rd_move rfl) ?_
  refine t_rdg rfl rfl rfl rfl (gv_t _) (fun hg19 => (rd_move rfl)) ?_
  refine t_rdg rfl rfl rfl rfl (gv_t _) (fun hg20 => (rd_leq (gvx rfl hg20) rfl)) ?_
  refine t_rd rfl (rd_and rfl (fun hc21 => (gvx rfl hc21))) ?_
  refine t_rd rfl (rd_move rfl) ?_
  refine t_rdg rfl rfl rfl rfl (gv_t _) (fun hg22 => (rd_move rfl)) ?_
  refine t_rdg rfl rfl rfl rfl (gv_t _) (fun hg23 => (rd_geq (gvx rfl hg23) rfl)) ?_
  refine t_rd rfl (rd_and rfl (fun hc24 => (gvx rfl hc24))) ?_
  refine t_rd rfl (rd_move rfl) ?_
  refine t_rdg rfl rfl rfl rfl (gv_t _) (fun hg25 => (rd_move rfl)) ?_
  refine t_rdg rfl rfl rfl rfl (gv_t _) (fun hg26 => (rd_leq (gvx rfl hg26) rfl)) ?_
  refine t_rd rfl (rd_and rfl (fun hc27 => (gvx rfl hc27))) ?_
  refine t_rd rfl (rd_assign rfl) ?_
  refine rwt_nil ?_
  refine qn_then ?_
  refine cw_ret ?_
  obtain rfl := os q11
  exact ret1 rfl rfl ⟨rfl, (hm14.pick [] (by decide) rfl)⟩

theorem r23_Find_ok {N : Nat} {a0 : List T_Span} {a1 : Int} {res : Int} (h : r23_Find N a0 a1 = some res) {w : World} {v0 : Value} (hv0 : Sl (Old w No) w v0 a0) :
    CallsR Try.prog 18 [v0, (Value.int .i64 a1)] w (fun u w' => u = (Value.int .i64 res) ∧ Mem w No [] w') := by
  unfold r23_Find at h
  refine fn_ok Try.func18 rfl rfl rfl ?_
  have hm0 := Mem.nil w
  refine cw_seq ?_
  refine cw_region ?_
  refine t_rd rfl (rd_assign rfl) ?_
  refine rwt_nil ?_
  refine qn_then ?_
  refine cw_seq ?_
  refine cw_seq ?_
  refine cw_region ?_
  refine t_rd rfl (rd_assign rfl) ?_
  refine rwt_nil ?_
  refine qn_then ?_
  refine cw_block ?_
  obtain ⟨r29, hit30, q31⟩ := ob h; clear h
  refine cw_loop2 (I := fun q envq wq => Sub [(0, v0), (1, (Value.int .i64 a1)), (5, (Value.int .i64 q))] envq ∧ Mem w No [] wq) (X := fun eq envq wq => (∃ p32, r29 = (Sum.inl p32) ∧ eq = .ret ∧ retQ Try.prog 20 Try.f18 (fun u w' => u = (Value.int .i64 p32) ∧ Mem w No [] w') .ret envq wq) ∨ (∃ p33, r29 = (Sum.inr p33) ∧ eq = .exit 0 ∧ Sub [] envq ∧ Mem w No [] wq)) hit30 ⟨(by repeat (first | exact Sub.nil _ | refine Sub.cons rfl ?_)), (hm0.pick [] (by decide) rfl)⟩ ?_ ?_
  · rintro i22 x24 env25 w26 hf27 hr28 ⟨hs_, hm_⟩
    have hs_ : Sub [(0, v0), (1, (Value.int .i64 a1)), (5, (Value.int .i64 i22))] env25 := hs_
    have hm34 : Mem w No [] w26 := hm_
    refine cw_sub hs_ ?_
    clear hs_ hm_ q31
    have h : r23_Find_l1 N a0 a1 i22 = some x24 := hf27
    clear hf27
    refine cw_seq ?_
    refine cw_seq ?_
    refine cw_region ?_
    refine t_rd rfl (rd_move rfl) ?_
    refine t_rd rfl (rd_move rfl) ?_
    refine t_rd rfl (rd_lenS tS23 rfl (hv0.of_old hm34)) ?_
    refine t_rd rfl (rd_lss rfl rfl) ?_
    refine rwt_nil ?_
    refine qn_then ?_
    obtain ⟨hb35, q36⟩ | ⟨hb35, q36⟩ := oi h <;> clear h
    · refine cw_t rfl hb35 ?_
      refine cw_skip ?_
      refine qn_then ?_
      refine cw_seq ?_
      refine cw_block ?_
      refine cw_seq ?_
      refine cw_region ?_
      refine t_rd rfl (rd_move rfl) ?_
      refine t_rd rfl (rd_move rfl) ?_
      obtain ⟨x37, h38, q39⟩ := ob q36; clear q36
      refine t_rd rfl (rd_index tS23 rfl rfl (hv0.of_old hm34) h38) ?_
      refine t_rd rfl (rd_fld tF42_0 rfl) ?_
      refine t_rd rfl (rd_ld1 tO3 rfl ((hv0.of_old hm34).cells h38) (off := 0) rfl) ?_
      refine t_rd rfl (rd_move rfl) ?_
      refine t_rd rfl (rd_eql rfl rfl) ?_
      refine rwt_nil ?_
      refine qn_then ?_
      obtain ⟨hb40, q41⟩ | ⟨hb40, q41⟩ := oi q39 <;> clear q39
      · refine cw_t rfl hb40 ?_
        refine cw_seq ?_
        refine cw_region ?_
        refine t_rd rfl (rd_move rfl) ?_
        refine t_rd rfl (rd_assign rfl) ?_
        refine rwt_nil ?_
        refine qn_then ?_
        refine cw_ret ?_
        refine qr_block (qr_then (qr_then ?_))
        obtain rfl := hr28 _ (os q41)
        refine .inl (⟨_, rfl, ⟨rfl, ?_⟩⟩)
        exact ret1 rfl rfl ⟨rfl, (hm34.pick [] (by decide) rfl)⟩
      · refine cw_f rfl hb40 ?_
        refine cw_skip ?_
        refine qn_block (qn_then ?_)
        refine cw_region ?_
        refine t_rd rfl (rd_move rfl) ?_
        obtain ⟨x42, h43, q44⟩ := ob q41; clear q41
        refine t_rd rfl (rd_add64 h43 rfl rfl) ?_
        refine t_rd rfl (rd_assign rfl) ?_
        refine rwt_nil ?_
        refine qn_then ?_
        refine ⟨_, (os q44), (by repeat (first | exact Sub.nil _ | refine Sub.cons rfl ?_)), (hm34.pick [] (by decide) rfl)⟩
    · refine cw_f rfl hb35 ?_
      refine cw_exit ?_
      refine qx_then (qx_then ?_)
      obtain rfl := hr28 _ (os q36)
      exact .inr (⟨_, rfl, ⟨rfl, (by repeat (first | exact Sub.nil _ | refine Sub.cons rfl ?_)), (hm34.pick [] (by decide) rfl)⟩⟩)
  · skip
    intro e env45 w46 hX47
    rcases hX47 with hX47 | hX47
    · obtain ⟨p49, rfl, hX47⟩ := hX47
      obtain ⟨rfl, hq51⟩ := hX47
      exact qr_block (qr_then ((by have e := os q31; subst e; exact hq51)))
    · obtain ⟨p52, rfl, hX47⟩ := hX47
      obtain ⟨rfl, hs53, hm54⟩ := hX47
      refine qx_same (qn_then ?_)
      refine cw_sub hs53 ?_
      refine cw_seq ?_
      refine cw_region ?_
      refine t_rd rfl (rd_assign rfl) ?_
      refine rwt_nil ?_
      refine qn_then ?_
      refine cw_ret ?_
      obtain rfl := os q31
      exact ret1 rfl rfl ⟨rfl, (hm54.pick [] (by decide) rfl)⟩

theorem r23_After_ok {N : Nat} {a0 : T_Span} {a1 : T_Span} {a2 : Int} {res : Int} (h : r23_After N a0 a1 a2 = some res) {w : World}   :
    CallsR Try.prog 34 [(Value.agg (Flat.enc a0).toArray), (Value.agg (Flat.enc a1).toArray), (Value.int .i64 a2)] w (fun u w' => u = (Value.int .i64 res) ∧ Mem w No [] w') := by
  unfold r23_After at h
  refine fn_ok Try.func34 rfl rfl rfl ?_
  have hm0 := Mem.nil w
  refine cw_seq ?_
  refine cw_region ?_
  refine t_ef rfl (ef_box hm0 rfl rfl) ?_
  rintro _ w3 ⟨g1, rfl, hm2⟩
  refine t_ef rfl (ef_box hm2 rfl rfl) ?_
  rintro _ w6 ⟨g4, rfl, hm5⟩
  refine t_rd rfl (rd_assign rfl) ?_
  refine rwt_nil ?_
  refine qn_then ?_
  refine cw_seq ?_
  refine cw_seq ?_
  refine cw_region ?_
  refine t_rd rfl (rd_fld tF42_1 rfl) ?_
  refine t_rd rfl (rd_ld1 tO3 rfl (hm5.blk 1 rfl) (off := 1) rfl) ?_
  refine t_rd rfl (rd_neq rfl rfl) ?_
  refine t_rd rfl (rd_move rfl) ?_
  refine t_rdg rfl rfl rfl rfl (gv_t _) (fun hg7 => (rd_fld tF42_1 rfl)) ?_
  refine t_rdg rfl rfl rfl rfl (gv_t _) (fun hg8 => (rd_ld1 tO3 (gvx rfl hg8) (hm5.blk 0 rfl) (off := 1) rfl)) ?_
  refine t_rdg rfl rfl rfl rfl (gv_t _) (fun hg9 => (rd_neq (gvx rfl hg9) rfl)) ?_
  refine t_rd rfl (rd_and rfl (fun hc10 => (gvx rfl hc10))) ?_
  refine t_rd rfl (rd_move rfl) ?_
  refine t_rdg rfl rfl rfl rfl (gv_t _) (fun hg11 => (rd_fld tF42_1 rfl)) ?_
  refine t_rdg rfl rfl rfl rfl (gv_t _) (fun hg12 => (rd_ld1 tO3 (gvx rfl hg12) (hm5.blk 1 rfl) (off := 1) rfl)) ?_
  refine t_rdg rfl rfl rfl rfl (gv_t _) (fun hg13 => (rd_fld tF42_1 rfl)) ?_
  refine t_rdg rfl rfl rfl rfl (gv_t _) (fun hg14 => (rd_ld1 tO3 (gvx rfl hg14) (hm5.blk 0 rfl) (off := 1) rfl)) ?_
  refine t_rdg rfl rfl rfl rfl (gv_t _) (fun hg15 => (rd_neq (gvx rfl hg15) (gvx rfl hg15))) ?_
  refine t_rd rfl (rd_and rfl (fun hc16 => (gvx rfl hc16))) ?_
  refine rwt_nil ?_
  refine qn_then ?_
  obtain ⟨hb17, q18⟩ | ⟨hb17, q18⟩ := oi h <;> clear h
  · refine cw_t rfl hb17 ?_
    refine cw_seq ?_
    refine cw_region ?_
    refine t_rd rfl (rd_fld tF42_3 rfl) ?_
    refine t_rd rfl (rd_ld1 tO3 rfl (hm5.blk 1 rfl) (off := 3) rfl) ?_
    refine t_rd rfl (rd_move rfl) ?_
    obtain ⟨x19, h20, q21⟩ := ob q18; clear q18
    refine t_rd rfl (rd_add64 h20 rfl rfl) ?_
    refine t_rd rfl (rd_assign rfl) ?_
    refine rwt_nil ?_
    refine qn_then ?_
    refine cw_ret ?_
    refine qr_then ?_
    obtain rfl := os q21
    exact ret1 rfl rfl ⟨rfl, (hm5.pick [] (by decide) rfl)⟩
  · refine cw_f rfl hb17 ?_
    refine cw_skip ?_
    refine qn_then ?_
    refine cw_seq ?_
    refine cw_region ?_
    refine t_rd rfl (rd_fld tF42_3 rfl) ?_
    refine t_rd rfl (rd_ld1 tO3 rfl (hm5.blk 1 rfl) (off := 3) rfl) ?_
    refine t_rd rfl (rd_assign rfl) ?_
    refine rwt_nil ?_
    refine qn_then ?_
    refine cw_ret ?_
    obtain rfl := os q18
    exact ret1 rfl rfl ⟨rfl, (hm5.pick [] (by decide) rfl)⟩

theorem r31_conflict_ok {N : Nat} {a0 : List T_Span} {a1 : List T_Span} {a2 : Int} {res : Int} (h : r31_conflict N a0 a1 a2 = some res) {w : World} {v0 : Value} {v1 : Value} (hv0 : Sl (Old w No) w v0 a0) (hv1 : Sl (Old w No) w v1 a1) :
    CallsR Try.prog 31 [v0, v1, (Value.int .i64 a2)] w (fun u w' => u = (Value.int .i64 res) ∧ Mem w No [] w') := by
  unfold r31_conflict at h
  refine fn_ok Try.func31 rfl rfl rfl ?_
  have hm0 := Mem.nil w
  refine cw_seq ?_
  refine cw_region ?_
  refine t_rd rfl (rd_assign rfl) ?_
  refine rwt_nil ?_
  refine qn_then ?_
  refine cw_seq ?_
  refine cw_seq ?_
  refine cw_region ?_
  refine t_rd rfl (rd_assign rfl) ?_
  refine rwt_nil ?_
  refine qn_then ?_
  refine cw_block ?_
  obtain ⟨r177, hit178, q179⟩ := ob h; clear h
  refine cw_loop2 (I := fun q envq wq => Sub [(0, v0), (1, v1), (2, (Value.int .i64 a2)), (7, (Value.int .i64 q))] envq ∧ Mem w No [] wq) (X := fun eq envq wq => (∃ p180, r177 = (Sum.inl p180) ∧ eq = .ret ∧ retQ Try.prog 43 Try.f31 (fun u w' => u = (Value.int .i64 p180) ∧ Mem w No [] w') .ret envq wq) ∨ (∃ p181, r177 = (Sum.inr p181) ∧ eq = .exit 0 ∧ Sub [] envq ∧ Mem w No [] wq)) hit178 ⟨(by repeat (first | exact Sub.nil _ | refine Sub.cons rfl ?_)), (hm0.pick [] (by decide) rfl)⟩ ?_ ?_
  · rintro i170 x172 env173 w174 hf175 hr176 ⟨hs_, hm_⟩
    have hs_ : Sub [(0, v0), (1, v1), (2, (Value.int .i64 a2)), (7, (Value.int .i64 i170))] env173 := hs_
    have hm182 : Mem w No [] w174 := hm_
    refine cw_sub hs_ ?_
    clear hs_ hm_ q179
    have h : r31_conflict_l1 N a0 a1 a2 i170 = some x172 := hf175
    clear hf175
    refine cw_seq ?_
    refine cw_seq ?_
    refine cw_region ?_
    refine t_rd rfl (rd_move rfl) ?_
    refine t_rd rfl (rd_move rfl) ?_
    refine t_rd rfl (rd_lenS tS23 rfl (hv1.of_old hm182)) ?_
    refine t_rd rfl (rd_lss rfl rfl) ?_
    refine rwt_nil ?_
    refine qn_then ?_
    obtain ⟨hb183, q184⟩ | ⟨hb183, q184⟩ := oi h <;> clear h
    · refine cw_t rfl hb183 ?_
      refine cw_skip ?_
      refine qn_then ?_
      refine cw_seq ?_
      refine cw_block ?_
      refine cw_seq ?_
      refine cw_region ?_
      refine t_rd rfl (rd_move rfl) ?_
      refine t_rd rfl (rd_move rfl) ?_
      refine t_rd rfl (rd_move rfl) ?_
      obtain ⟨x185, h186, q187⟩ := ob q184; clear q184
      refine t_rd rfl (rd_index tS23 rfl rfl (hv1.of_old hm182) h186) ?_
      refine t_rd rfl (rd_fld tF42_0 rfl) ?_
      refine t_rd rfl (rd_ld1 tO3 rfl ((hv1.of_old hm182).cells h186) (off := 0) rfl) ?_
      obtain ⟨r188, h189, q190⟩ := ob q187; clear q187
      refine t_ef rfl (ef_call tf18 rfl (r23_Find_ok h189 (hv0.to_call hm182))) ?_
      rintro _ w192 ⟨e_, hm191⟩
      obtain rfl := e_.symm
      have hm193 := hm182.call hm191
      refine t_rd rfl (rd_assign rfl) ?_
      refine rwt_nil ?_
      refine qn_then ?_
      refine cw_seq ?_
      obtain ⟨w195, he197⟩ : ∃ q, q = w192.drew := ⟨_, rfl⟩
      have hm196 := hm193.drew; rw [← he197] at hm196
      refine cw_region_s (fun q => Sl (Old w No) q v0 a0 ∧ Sl (Old w No) q v1 a1) (cls [12] []) mixed ?_
      rintro _ rfl; rw [← he197]
      refine s_rp (i := 0) rfl (by kernel_rfl) rfl (fun _ => (rd_move rfl)) ?_
      refine s_rp (i := 1) rfl (by kernel_rfl) rfl (fun _ => (rd_geq rfl rfl)) ?_
      refine s_rp (i := 2) rfl (by kernel_rfl) rfl (fun _ => (rd_move rfl)) ?_
      refine s_rpg (i := 3) rfl (by kernel_rfl) rfl rfl rfl rfl (gv_t _) (fun hg230 _ => (rd_move rfl)) ?_
      refine s_rpg (i := 4) rfl (by kernel_rfl) rfl rfl rfl rfl (gv_t _) (fun hg231 _ => (rd_move rfl)) ?_
      obtain ⟨x233, h234, q235⟩ := ob q190; clear q190
      refine s_rpg (i := 5) rfl (by kernel_rfl) rfl rfl rfl rfl (gv_t _) (fun hg232 _ => (rd_index tS23 (gvx rfl hg232) (gvx rfl hg232) (hv0.of_old hm196) (gO_t h234 hg232))) ?_
      refine s_rdg (i := 6) rfl (by kernel_rfl) rfl rfl rfl rfl (gv_t _) (fun hg236 => (fun w194 hS => (rd_ld tA42 (gvx rfl hg236) (hS.1.cells (gO_t h234 hg236)) rfl))) ⟨(hv0.of_old hm196), (hv1.of_old hm196)⟩ ?_
      refine s_rpg (i := 7) rfl (by kernel_rfl) rfl rfl rfl rfl (gv_t _) (fun hg237 _ => (rd_move rfl)) ?_
      refine s_rpg (i := 8) rfl (by kernel_rfl) rfl rfl rfl rfl (gv_t _) (fun hg238 _ => (rd_move rfl)) ?_
      obtain ⟨x240, h241, q242⟩ := ob q235; clear q235
      refine s_rpg (i := 9) rfl (by kernel_rfl) rfl rfl rfl rfl (gv_t _) (fun hg239 _ => (rd_index tS23 (gvx rfl hg239) (gvx rfl hg239) (hv1.of_old hm196) (gO_t h241 hg239))) ?_
      refine s_rdg (i := 10) rfl (by kernel_rfl) rfl rfl rfl rfl (gv_t _) (fun hg243 => (fun w194 hS => (rd_ld tA42 (gvx rfl hg243) (hS.2.cells (gO_t h241 hg243)) rfl))) ⟨(hv0.of_old hm196), (hv1.of_old hm196)⟩ ?_
      refine s_rpg (i := 11) rfl (by kernel_rfl) rfl rfl rfl rfl (gv_t _) (fun hg244 _ => (rd_move rfl)) ?_
      refine s_rpg (i := 13) rfl (by kernel_rfl) rfl rfl rfl rfl (gv_t _) (fun hg245 _ => (rd_move rfl)) ?_
      refine s_rpg (i := 14) rfl (by kernel_rfl) rfl rfl rfl rfl (gv_t _) (fun hg246 _ => (rd_move rfl)) ?_
      obtain ⟨x248, h249, q250⟩ := ob q242; clear q242
      refine s_rpg (i := 15) rfl (by kernel_rfl) rfl rfl rfl rfl (gv_t _) (fun hg247 _ => (rd_index tS23 (gvx rfl hg247) (gvx rfl hg247) (hv1.of_old hm196) (gO_t h249 hg247))) ?_
      refine s_rpg (i := 16) rfl (by kernel_rfl) rfl rfl rfl rfl (gv_t _) (fun hg251 _ => (rd_fld tF42_2 (gvx rfl hg251))) ?_
      refine s_rdg (i := 17) rfl (by kernel_rfl) rfl rfl rfl rfl (gv_t _) (fun hg252 => (fun w194 hS => (rd_ld1 tO3 (gvx rfl hg252) (hS.2.cells (gO_t h249 hg252)) (off := 2) rfl))) ⟨(hv0.of_old hm196), (hv1.of_old hm196)⟩ ?_
      obtain ⟨r254, h255, q256⟩ := ob q250; clear q250
      refine s_efg (i := 12) rfl (by kernel_rfl) rfl rfl rfl rfl (R := (fun v w' => v = gV (decide (0 ≤ r188)) (Value.int .i64 r254) ∧ Mem w195 No [] w')) (gv_t _) (fun hg253 => (ef_call tf34 (evc (gvx rfl hg253) (evc (gvx rfl hg253) (evc (gvx rfl hg253) evn))) (r23_After_ok (gO_t h255 hg253))).mono (by rintro _ _ ⟨rfl, q⟩; exact ⟨(gV_t hg253).symm, q⟩)) (fun q => ⟨(gV_f q).symm, Mem.nil _⟩) (by decide) ?_ ?_
      · rintro _ w258 ⟨rfl, hm257⟩
        have hm259 := hm196.call hm257
        intro _
        exact ⟨(hv0.of_old hm259), (hv1.of_old hm259)⟩
      rintro _ w258 ⟨rfl, hm257⟩
      have hm259 := hm196.call hm257
      refine s_rpg (i := 18) rfl (by kernel_rfl) rfl rfl rfl rfl (gv_t _) (fun hg260 _ => (rd_gtr (gvx rfl hg260) (gvx rfl hg260))) ?_
      refine s_rp (i := 19) rfl (by kernel_rfl) rfl (fun _ => (rd_and rfl (fun hc261 => (gvx rfl hc261)))) ?_
      refine s_nil (by kernel_rfl) ?_
      refine qn_then ?_
      obtain ⟨hb262, q263⟩ | ⟨hb262, q263⟩ := oi q256 <;> clear q256
      · refine cw_t rfl hb262 ?_
        refine cw_seq ?_
        refine cw_region ?_
        refine t_rd rfl (rd_move rfl) ?_
        refine t_rd rfl (rd_assign rfl) ?_
        refine rwt_nil ?_
        refine qn_then ?_
        refine cw_ret ?_
        refine qr_block (qr_then (qr_then ?_))
        obtain rfl := hr176 _ (os q263)
        refine .inl (⟨_, rfl, ⟨rfl, ?_⟩⟩)
        exact ret1 rfl rfl ⟨rfl, (hm259.pick [] (by decide) rfl)⟩
      · refine cw_f rfl hb262 ?_
        refine cw_skip ?_
        refine qn_block (qn_then ?_)
        refine cw_region ?_
        refine t_rd rfl (rd_move rfl) ?_
        obtain ⟨x264, h265, q266⟩ := ob q263; clear q263
        refine t_rd rfl (rd_add64 h265 rfl rfl) ?_
        refine t_rd rfl (rd_assign rfl) ?_
        refine rwt_nil ?_
        refine qn_then ?_
        refine ⟨_, (os q266), (by repeat (first | exact Sub.nil _ | refine Sub.cons rfl ?_)), (hm259.pick [] (by decide) rfl)⟩
    · refine cw_f rfl hb183 ?_
      refine cw_exit ?_
      refine qx_then (qx_then ?_)
      obtain rfl := hr176 _ (os q184)
      exact .inr (⟨_, rfl, ⟨rfl, (by repeat (first | exact Sub.nil _ | refine Sub.cons rfl ?_)), (hm182.pick [] (by decide) rfl)⟩⟩)
  · skip
    intro e env267 w268 hX269
    rcases hX269 with hX269 | hX269
    · obtain ⟨p271, rfl, hX269⟩ := hX269
      obtain ⟨rfl, hq273⟩ := hX269
      exact qr_block (qr_then ((by have e := os q179; subst e; exact hq273)))
    · obtain ⟨p274, rfl, hX269⟩ := hX269
      obtain ⟨rfl, hs275, hm276⟩ := hX269
      refine qx_same (qn_then ?_)
      refine cw_sub hs275 ?_
      refine cw_seq ?_
      refine cw_region ?_
      refine t_rd rfl (rd_assign rfl) ?_
      refine rwt_nil ?_
      refine qn_then ?_
      refine cw_ret ?_
      obtain rfl := os q179
      exact ret1 rfl rfl ⟨rfl, (hm276.pick [] (by decide) rfl)⟩

theorem r31_Conflict_ok {N : Nat} {a0 : List T_Span} {a1 : List T_Span} {a2 : Int} {res : Int × Int} (h : r31_Conflict N a0 a1 a2 = some res) {w : World} {v0 : Value} {v1 : Value} (hv0 : Sl (Old w No) w v0 a0) (hv1 : Sl (Old w No) w v1 a1) :
    CallsR Try.prog 20 [v0, v1, (Value.int .i64 a2)] w (fun u w' => u = (Value.tuple #[(Value.int .i64 res.1), (Value.int .i64 res.2)]) ∧ Mem w No [] w') := by
  unfold r31_Conflict at h
  refine fn_ok Try.func20 rfl rfl rfl ?_
  have hm0 := Mem.nil w
  refine cw_seq ?_
  refine cw_region ?_
  refine t_rd rfl (rd_assign rfl) ?_
  refine t_rd rfl (rd_assign rfl) ?_
  refine rwt_nil ?_
  refine qn_then ?_
  refine cw_seq ?_
  refine cw_seq ?_
  refine cw_region ?_
  refine t_rd rfl (rd_move rfl) ?_
  refine t_rd rfl (rd_move rfl) ?_
  refine t_rd rfl (rd_move rfl) ?_
  obtain ⟨r1, h2, q3⟩ := ob h; clear h
  refine t_ef rfl (ef_call tf30 rfl (r31_check_ok h2 (hv0.to_call hm0) (hv1.to_call hm0))) ?_
  rintro _ w5 ⟨e_, hm4⟩
  obtain rfl := e_.symm
  have hm6 := hm0.call hm4
  refine t_rd rfl (rd_not rfl) ?_
  refine rwt_nil ?_
  refine qn_then ?_
  obtain ⟨hb7, q8⟩ | ⟨hb7, q8⟩ := oi q3 <;> clear q3
  · refine cw_t rfl hb7 ?_
    refine cw_seq ?_
    refine cw_region ?_
    refine t_rd rfl (rd_assign rfl) ?_
    refine t_rd rfl (rd_assign rfl) ?_
    refine rwt_nil ?_
    refine qn_then ?_
    refine cw_ret ?_
    refine qr_then ?_
    obtain rfl := os q8
    exact ret2 rfl rfl rfl ⟨rfl, (hm6.pick [] (by decide) rfl)⟩
  · refine cw_f rfl hb7 ?_
    refine cw_skip ?_
    refine qn_then ?_
    refine cw_seq ?_
    refine cw_region ?_
    refine t_rd rfl (rd_move rfl) ?_
    refine t_rd rfl (rd_move rfl) ?_
    refine t_rd rfl (rd_move rfl) ?_
    obtain ⟨r9, h10, q11⟩ := ob q8; clear q8
    refine t_ef rfl (ef_call tf31 rfl (r31_conflict_ok h10 (hv0.to_call hm6) (hv1.to_call hm6))) ?_
    rintro _ w13 ⟨e_, hm12⟩
    obtain rfl := e_.symm
    have hm14 := hm6.call hm12
    refine t_rd rfl (rd_assign rfl) ?_
    refine t_rd rfl (rd_assign rfl) ?_
    refine rwt_nil ?_
    refine qn_then ?_
    refine cw_ret ?_
    obtain rfl := os q11
    exact ret2 rfl rfl rfl ⟨rfl, (hm14.pick [] (by decide) rfl)⟩

theorem divert_thrown_ok {N : Nat} {a0 : List T_Span} {a1 : T_Span} {a2 : Int} {a3 : Int} {res : Bool} (h : divert_thrown N a0 a1 a2 a3 = some res) {w : World} {v0 : Value} (hv0 : Sl (Old w No) w v0 a0) :
    CallsR Try.prog 27 [v0, (Value.agg (Flat.enc a1).toArray), (Value.int .i64 a2), (Value.int .i64 a3)] w (fun u w' => u = (Value.bool res) ∧ Mem w No [] w') := by
  unfold divert_thrown at h
  refine fn_ok Try.func27 rfl rfl rfl ?_
  have hm0 := Mem.nil w
  refine cw_seq ?_
  refine cw_region ?_
  refine t_ef rfl (ef_box hm0 rfl rfl) ?_
  rintro _ w3 ⟨g1, rfl, hm2⟩
  refine t_rd rfl (rd_assign rfl) ?_
  refine rwt_nil ?_
  refine qn_then ?_
  refine cw_seq ?_
  refine cw_seq ?_
  refine cw_region ?_
  refine t_rd rfl (rd_fld tF42_1 rfl) ?_
  refine t_rd rfl (rd_ld1 tO3 rfl (hm2.blk 0 rfl) (off := 1) rfl) ?_
  refine t_rd rfl (rd_eql rfl rfl) ?_
  refine t_rd rfl (rd_move rfl) ?_
  refine t_rdg rfl rfl rfl rfl (gv_f _) (fun hg4 => (rd_fld tF42_2 rfl)) ?_
  refine t_rdg rfl rfl rfl rfl (gv_f _) (fun hg5 => (rd_ld1 tO3 (gvx rfl hg5) (hm2.blk 0 rfl) (off := 2) rfl)) ?_
  refine t_rdg rfl rfl rfl rfl (gv_f _) (fun hg6 => (rd_move rfl)) ?_
  refine t_rdg rfl rfl rfl rfl (gv_f _) (fun hg7 => (rd_move rfl)) ?_
  obtain ⟨x9, h10, q11⟩ := ob h; clear h
  refine t_rdg rfl rfl rfl rfl (gv_f _) (fun hg8 => (rd_add64 (gO_t h10 hg8) (gvx rfl hg8) (gvx rfl hg8))) ?_
  refine t_rdg rfl rfl rfl rfl (gv_f _) (fun hg12 => (rd_lss (gvx rfl hg12) (gvx rfl hg12))) ?_
  refine t_rd rfl (rd_or rfl (fun hc13 => (gvx rfl (bnotIt hc13)))) ?_
  refine rwt_nil ?_
  refine qn_then ?_
  obtain ⟨hb14, q15⟩ | ⟨hb14, q15⟩ := oi q11 <;> clear q11
  · refine cw_t rfl hb14 ?_
    refine cw_seq ?_
    refine cw_region ?_
    refine t_rd rfl (rd_assign rfl) ?_
    refine rwt_nil ?_
    refine qn_then ?_
    refine cw_ret ?_
    refine qr_then ?_
    obtain rfl := os q15
    exact ret1 rfl rfl ⟨rfl, (hm2.pick [] (by decide) rfl)⟩
  · refine cw_f rfl hb14 ?_
    refine cw_skip ?_
    refine qn_then ?_
    refine cw_seq ?_
    refine cw_seq ?_
    refine cw_region ?_
    refine t_rd rfl (rd_move rfl) ?_
    refine t_rd rfl (rd_lenS tS23 rfl (hv0.of_old hm2)) ?_
    refine t_rd rfl (rd_move rfl) ?_
    refine rwt_nil ?_
    refine qn_then ?_
    refine cw_block ?_
    obtain ⟨r76, hit77, q78⟩ := ob q15; clear q15
    refine cw_loop2 (I := fun q envq wq => Sub [(2, (Value.int .i64 a2)), (5, (Value.pointer (some ⟨g1, 0, none⟩))), (22, v0), (23, (Value.int .i64 (List.length a0 : Int))), (24, (Value.int .i64 q))] envq ∧ Mem w No [blk g1 42 [(Value.int .i64 a1.Element), (Value.int .i64 a1.Side), (Value.int .i64 a1.From), (Value.int .i64 a1.To)]] wq) (X := fun eq envq wq => (∃ p79, r76 = (Sum.inl p79) ∧ eq = .ret ∧ retQ Try.prog 43 Try.f27 (fun u w' => u = (Value.bool p79) ∧ Mem w No [] w') .ret envq wq) ∨ (∃ p80, r76 = (Sum.inr p80) ∧ eq = .exit 0 ∧ Sub [] envq ∧ Mem w No [] wq)) hit77 ⟨(by repeat (first | exact Sub.nil _ | refine Sub.cons rfl ?_)), (hm2.pick [0] (by decide) rfl)⟩ ?_ ?_
    · rintro i69 x71 env72 w73 hf74 hr75 ⟨hs_, hm_⟩
      have hs_ : Sub [(2, (Value.int .i64 a2)), (5, (Value.pointer (some ⟨g1, 0, none⟩))), (22, v0), (23, (Value.int .i64 (List.length a0 : Int))), (24, (Value.int .i64 i69))] env72 := hs_
      have hm81 : Mem w No [blk g1 42 [(Value.int .i64 a1.Element), (Value.int .i64 a1.Side), (Value.int .i64 a1.From), (Value.int .i64 a1.To)]] w73 := hm_
      refine cw_sub hs_ ?_
      clear hs_ hm_ q78
      have h : divert_thrown_l1 N a0 a1 a2 i69 = some x71 := hf74
      clear hf74
      refine cw_seq ?_
      refine cw_region ?_
      refine t_rd rfl (rd_lss rfl rfl) ?_
      refine rwt_nil ?_
      refine qn_then ?_
      refine cw_seq ?_
      obtain ⟨hb82, q83⟩ | ⟨hb82, q83⟩ := oi h <;> clear h
      · refine cw_t rfl hb82 ?_
        refine cw_skip ?_
        refine qn_then ?_
        refine cw_seq ?_
        refine cw_block ?_
        refine cw_seq ?_
        refine cw_region ?_
        obtain ⟨x84, h85, q86⟩ := ob q83; clear q83
        refine t_rd rfl (rd_index tS23 rfl rfl (hv0.of_old hm81) h85) ?_
        refine t_rd rfl (rd_ld tA42 rfl ((hv0.of_old hm81).cells h85) rfl) ?_
        refine t_ef rfl (ef_alloc hm81 tZ42 rfl) ?_
        rintro _ w89 ⟨g87, rfl, hm88⟩
        refine t_ef0 (ef_stw (k := 0) hm88 tA42 rfl rfl (oc_cons rfl (oc_cons rfl (oc_cons rfl (oc_cons rfl oc_nil)))) rfl rfl rfl) ?_
        intro _ w91 hm90
        refine rwt_nil ?_
        refine qn_then ?_
        refine cw_seq ?_
        refine cw_region ?_
        refine t_rd rfl (rd_fld tF42_0 rfl) ?_
        refine t_rd rfl (rd_ld1 tO3 rfl (hm90.blk 0 rfl) (off := 0) rfl) ?_
        refine t_rd rfl (rd_fld tF42_0 rfl) ?_
        refine t_rd rfl (rd_ld1 tO3 rfl (hm90.blk 1 rfl) (off := 0) rfl) ?_
        refine t_rd rfl (rd_eql rfl rfl) ?_
        refine t_rd rfl (rd_move rfl) ?_
        refine t_rdg rfl rfl rfl rfl (gv_t _) (fun hg92 => (rd_fld tF42_2 rfl)) ?_
        refine t_rdg rfl rfl rfl rfl (gv_t _) (fun hg93 => (rd_ld1 tO3 (gvx rfl hg93) (hm90.blk 1 rfl) (off := 2) rfl)) ?_
        refine t_rdg rfl rfl rfl rfl (gv_t _) (fun hg94 => (rd_fld tF42_3 rfl)) ?_
        refine t_rdg rfl rfl rfl rfl (gv_t _) (fun hg95 => (rd_ld1 tO3 (gvx rfl hg95) (hm90.blk 0 rfl) (off := 3) rfl)) ?_
        refine t_rdg rfl rfl rfl rfl (gv_t _) (fun hg96 => (rd_move rfl)) ?_
        obtain ⟨x98, h99, q100⟩ := ob q86; clear q86
        refine t_rdg rfl rfl rfl rfl (gv_t _) (fun hg97 => (rd_add64 (gO_t h99 hg97) (gvx rfl hg97) (gvx rfl hg97))) ?_
        refine t_rdg rfl rfl rfl rfl (gv_t _) (fun hg101 => (rd_lss (gvx rfl hg101) (gvx rfl hg101))) ?_
        refine t_rd rfl (rd_and rfl (fun hc102 => (gvx rfl hc102))) ?_
        refine rwt_nil ?_
        refine qn_then ?_
        obtain ⟨hb103, q104⟩ | ⟨hb103, q104⟩ := oi q100 <;> clear q100
        · refine cw_t rfl hb103 ?_
          refine cw_seq ?_
          refine cw_region ?_
          refine t_rd rfl (rd_assign rfl) ?_
          refine rwt_nil ?_
          refine qn_then ?_
          refine cw_ret ?_
          refine qr_block (qr_then (qr_then ?_))
          obtain rfl := hr75 _ (os q104)
          refine .inl (⟨_, rfl, ⟨rfl, ?_⟩⟩)
          exact ret1 rfl rfl ⟨rfl, (hm90.pick [] (by decide) rfl)⟩
        · refine cw_f rfl hb103 ?_
          refine cw_skip ?_
          refine qn_block (qn_then ?_)
          refine cw_region ?_
          obtain ⟨x105, h106, q107⟩ := ob q104; clear q104
          refine t_rd rfl (rd_add64 h106 rfl rfl) ?_
          refine t_rd rfl (rd_move rfl) ?_
          refine rwt_nil ?_
          refine qn_then ?_
          refine ⟨_, (os q107), (by repeat (first | exact Sub.nil _ | refine Sub.cons rfl ?_)), (hm90.pick [1] (by decide) rfl)⟩
      · refine cw_f rfl hb82 ?_
        refine cw_exit ?_
        refine qx_then (qx_then ?_)
        obtain rfl := hr75 _ (os q83)
        exact .inr (⟨_, rfl, ⟨rfl, (by repeat (first | exact Sub.nil _ | refine Sub.cons rfl ?_)), (hm81.pick [] (by decide) rfl)⟩⟩)
    · skip
      intro e env108 w109 hX110
      rcases hX110 with hX110 | hX110
      · obtain ⟨p112, rfl, hX110⟩ := hX110
        obtain ⟨rfl, hq114⟩ := hX110
        exact qr_block (qr_then ((by have e := os q78; subst e; exact hq114)))
      · obtain ⟨p115, rfl, hX110⟩ := hX110
        obtain ⟨rfl, hs116, hm117⟩ := hX110
        refine qx_same (qn_then ?_)
        refine cw_sub hs116 ?_
        refine cw_seq ?_
        refine cw_region ?_
        refine t_rd rfl (rd_assign rfl) ?_
        refine rwt_nil ?_
        refine qn_then ?_
        refine cw_ret ?_
        obtain rfl := os q78
        exact ret1 rfl rfl ⟨rfl, (hm117.pick [] (by decide) rfl)⟩

theorem divert_Choose_ok {N : Nat} {a0 : List T_Span} {a1 : List T_Span} {a2 : Int} {a3 : Int} {res : Int × Int} (h : divert_Choose N a0 a1 a2 a3 = some res) {w : World} {v0 : Value} {v1 : Value} (hv0 : Sl (Old w No) w v0 a0) (hv1 : Sl (Old w No) w v1 a1) :
    CallsR Try.prog 15 [v0, v1, (Value.int .i64 a2), (Value.int .i64 a3)] w (fun u w' => u = (Value.tuple #[(Value.int .i64 res.1), (Value.int .i64 res.2)]) ∧ Mem w No [] w') := by
  unfold divert_Choose at h
  refine fn_ok Try.func15 rfl rfl rfl ?_
  have hm0 := Mem.nil w
  refine cw_seq ?_
  refine cw_region ?_
  refine t_rd rfl (rd_assign rfl) ?_
  refine t_rd rfl (rd_assign rfl) ?_
  refine rwt_nil ?_
  refine qn_then ?_
  refine cw_seq ?_
  refine cw_seq ?_
  refine cw_region ?_
  refine t_rd rfl (rd_move rfl) ?_
  obtain ⟨r1, h2, q3⟩ := ob h; clear h
  refine t_ef rfl (ef_call tf24 rfl (divert_valid_ok h2 (hv0.to_call hm0))) ?_
  rintro _ w5 ⟨e_, hm4⟩
  obtain rfl := e_.symm
  have hm6 := hm0.call hm4
  refine t_rd rfl (rd_not rfl) ?_
  refine t_rd rfl (rd_move rfl) ?_
  refine t_rdg rfl rfl rfl rfl (gv_f _) (fun hg7 => (rd_move rfl)) ?_
  obtain ⟨r9, h10, q11⟩ := ob q3; clear q3
  refine t_efg rfl rfl rfl rfl (R := (fun v w' => v = gV (!(!r1)) (Value.bool r9) ∧ Mem w5 No [] w')) (gv_f _) (fun hg8 => (ef_call tf24 (evc (gvx rfl hg8) evn) (divert_valid_ok (gO_t h10 hg8) (hv1.to_call hm6))).mono (by rintro _ _ ⟨rfl, q⟩; exact ⟨(gV_t hg8).symm, q⟩)) (fun q => ⟨(gV_f q).symm, Mem.nil _⟩) ?_
  rintro _ w13 ⟨rfl, hm12⟩
  have hm14 := hm6.call hm12
  refine t_rdg rfl rfl rfl rfl (gv_f _) (fun hg15 => (rd_not (gvx rfl hg15))) ?_
  refine t_rd rfl (rd_or rfl (fun hc16 => (gvx rfl (bnotIt hc16)))) ?_
  refine t_rd rfl (rd_move rfl) ?_
  refine t_rdg rfl rfl rfl rfl (gv_f _) (fun hg17 => (rd_move rfl)) ?_
  obtain ⟨r19, h20, q21⟩ := ob q11; clear q11
  refine t_efg rfl rfl rfl rfl (R := (fun v w' => v = gV (!((!r1) || (!r9))) (Value.bool r19) ∧ Mem w13 No [] w')) (gv_f _) (fun hg18 => (ef_call tf25 (evc (gvx rfl hg18) evn) (divert_in_ok (gO_t h20 hg18))).mono (by rintro _ _ ⟨rfl, q⟩; exact ⟨(gV_t hg18).symm, q⟩)) (fun q => ⟨(gV_f q).symm, Mem.nil _⟩) ?_
  rintro _ w23 ⟨rfl, hm22⟩
  have hm24 := hm14.call hm22
  refine t_rdg rfl rfl rfl rfl (gv_f _) (fun hg25 => (rd_not (gvx rfl hg25))) ?_
  refine t_rd rfl (rd_or rfl (fun hc26 => (gvx rfl (bnotIt hc26)))) ?_
  refine t_rd rfl (rd_move rfl) ?_
  refine t_rdg rfl rfl rfl rfl (gv_f _) (fun hg27 => (rd_move rfl)) ?_
  obtain ⟨r29, h30, q31⟩ := ob q21; clear q21
  refine t_efg rfl rfl rfl rfl (R := (fun v w' => v = gV (!(((!r1) || (!r9)) || (!r19))) (Value.bool r29) ∧ Mem w23 No [] w')) (gv_f _) (fun hg28 => (ef_call tf25 (evc (gvx rfl hg28) evn) (divert_in_ok (gO_t h30 hg28))).mono (by rintro _ _ ⟨rfl, q⟩; exact ⟨(gV_t hg28).symm, q⟩)) (fun q => ⟨(gV_f q).symm, Mem.nil _⟩) ?_
  rintro _ w33 ⟨rfl, hm32⟩
  have hm34 := hm24.call hm32
  refine t_rdg rfl rfl rfl rfl (gv_f _) (fun hg35 => (rd_not (gvx rfl hg35))) ?_
  refine t_rd rfl (rd_or rfl (fun hc36 => (gvx rfl (bnotIt hc36)))) ?_
  refine rwt_nil ?_
  refine qn_then ?_
  obtain ⟨hb37, q38⟩ | ⟨hb37, q38⟩ := oi q31 <;> clear q31
  · refine cw_t rfl hb37 ?_
    refine cw_seq ?_
    refine cw_region ?_
    refine t_rd rfl (rd_assign rfl) ?_
    refine t_rd rfl (rd_assign rfl) ?_
    refine rwt_nil ?_
    refine qn_then ?_
    refine cw_ret ?_
    refine qr_then ?_
    obtain rfl := os q38
    exact ret2 rfl rfl rfl ⟨rfl, (hm34.pick [] (by decide) rfl)⟩
  · refine cw_f rfl hb37 ?_
    refine cw_skip ?_
    refine qn_then ?_
    refine cw_seq ?_
    refine cw_region ?_
    refine t_rd rfl (rd_move rfl) ?_
    refine t_rd rfl (rd_move rfl) ?_
    refine t_rd rfl (rd_move rfl) ?_
    obtain ⟨r39, h40, q41⟩ := ob q38; clear q38
    refine t_ef rfl (ef_call tf26 rfl (divert_conflict_ok h40 (hv0.to_call hm34) (hv1.to_call hm34))) ?_
    rintro _ w43 ⟨e_, hm42⟩
    obtain rfl := e_.symm
    have hm44 := hm34.call hm42
    refine t_rd rfl (rd_assign rfl) ?_
    refine rwt_nil ?_
    refine qn_then ?_
    refine cw_seq ?_
    refine cw_seq ?_
    refine cw_region ?_
    refine t_rd rfl (rd_move rfl) ?_
    refine t_rd rfl (rd_lss rfl rfl) ?_
    refine rwt_nil ?_
    refine qn_then ?_
    obtain ⟨hb45, q46⟩ | ⟨hb45, q46⟩ := oi q41 <;> clear q41
    · refine cw_t rfl hb45 ?_
      refine cw_seq ?_
      refine cw_region ?_
      refine t_rd rfl (rd_assign rfl) ?_
      refine t_rd rfl (rd_assign rfl) ?_
      refine rwt_nil ?_
      refine qn_then ?_
      refine cw_ret ?_
      refine qr_then ?_
      obtain rfl := os q46
      exact ret2 rfl rfl rfl ⟨rfl, (hm44.pick [] (by decide) rfl)⟩
    · refine cw_f rfl hb45 ?_
      refine cw_skip ?_
      refine qn_then ?_
      refine cw_seq ?_
      refine cw_seq ?_
      refine cw_region ?_
      refine t_rd rfl (rd_move rfl) ?_
      obtain ⟨x47, h48, q49⟩ := ob q46; clear q46
      refine t_rd rfl (rd_sub64 h48 rfl rfl) ?_
      refine t_rd rfl (rd_assign rfl) ?_
      refine rwt_nil ?_
      refine qn_then ?_
      refine cw_block ?_
      obtain ⟨r90, hit91, q92⟩ := ob q49; clear q49
      refine cw_loop2 (I := fun q envq wq => Sub [(0, v0), (1, v1), (2, (Value.int .i64 a2)), (3, (Value.int .i64 a3)), (11, (Value.int .i64 q))] envq ∧ Mem w No [] wq) (X := fun eq envq wq => (∃ p93, r90 = (Sum.inl p93) ∧ eq = .ret ∧ retQ Try.prog 51 Try.f15 (fun u w' => u = (Value.tuple #[(Value.int .i64 p93.1), (Value.int .i64 p93.2)]) ∧ Mem w No [] w') .ret envq wq) ∨ (∃ p94, r90 = (Sum.inr p94) ∧ eq = .exit 0 ∧ Sub [] envq ∧ Mem w No [] wq)) hit91 ⟨(by repeat (first | exact Sub.nil _ | refine Sub.cons rfl ?_)), (hm44.pick [] (by decide) rfl)⟩ ?_ ?_
      · rintro i83 x85 env86 w87 hf88 hr89 ⟨hs_, hm_⟩
        have hs_ : Sub [(0, v0), (1, v1), (2, (Value.int .i64 a2)), (3, (Value.int .i64 a3)), (11, (Value.int .i64 i83))] env86 := hs_
        have hm95 : Mem w No [] w87 := hm_
        refine cw_sub hs_ ?_
        clear hs_ hm_ q92
        have h : divert_Choose_l1 N a0 a1 a2 a3 i83 = some x85 := hf88
        clear hf88
        refine cw_seq ?_
        refine cw_seq ?_
        refine cw_region ?_
        refine t_rd rfl (rd_move rfl) ?_
        refine t_rd rfl (rd_geq rfl rfl) ?_
        refine rwt_nil ?_
        refine qn_then ?_
        obtain ⟨hb96, q97⟩ | ⟨hb96, q97⟩ := oi h <;> clear h
        · refine cw_t rfl hb96 ?_
          refine cw_skip ?_
          refine qn_then ?_
          refine cw_seq ?_
          refine cw_block ?_
          refine cw_seq ?_
          refine cw_region ?_
          refine t_rd rfl (rd_move rfl) ?_
          refine t_rd rfl (rd_move rfl) ?_
          refine t_rd rfl (rd_move rfl) ?_
          obtain ⟨x98, h99, q100⟩ := ob q97; clear q97
          refine t_rd rfl (rd_index tS23 rfl rfl (hv1.of_old hm95) h99) ?_
          refine t_rd rfl (rd_ld tA42 rfl ((hv1.of_old hm95).cells h99) rfl) ?_
          refine t_rd rfl (rd_move rfl) ?_
          refine t_rd rfl (rd_move rfl) ?_
          obtain ⟨r101, h102, q103⟩ := ob q100; clear q100
          refine t_ef rfl (ef_call tf27 rfl (divert_thrown_ok h102 (hv0.to_call hm95))) ?_
          rintro _ w105 ⟨e_, hm104⟩
          obtain rfl := e_.symm
          have hm106 := hm95.call hm104
          refine rwt_nil ?_
          refine qn_then ?_
          obtain ⟨hb107, q108⟩ | ⟨hb107, q108⟩ := oi q103 <;> clear q103
          · refine cw_t rfl hb107 ?_
            refine cw_seq ?_
            refine cw_region ?_
            refine t_rd rfl (rd_move rfl) ?_
            refine t_rd rfl (rd_assign rfl) ?_
            refine t_rd rfl (rd_assign rfl) ?_
            refine rwt_nil ?_
            refine qn_then ?_
            refine cw_ret ?_
            refine qr_block (qr_then (qr_then ?_))
            obtain rfl := hr89 _ (os q108)
            refine .inl (⟨_, rfl, ⟨rfl, ?_⟩⟩)
            exact ret2 rfl rfl rfl ⟨rfl, (hm106.pick [] (by decide) rfl)⟩
          · refine cw_f rfl hb107 ?_
            refine cw_skip ?_
            refine qn_block (qn_then ?_)
            refine cw_region ?_
            refine t_rd rfl (rd_move rfl) ?_
            obtain ⟨x109, h110, q111⟩ := ob q108; clear q108
            refine t_rd rfl (rd_sub64 h110 rfl rfl) ?_
            refine t_rd rfl (rd_assign rfl) ?_
            refine rwt_nil ?_
            refine qn_then ?_
            refine ⟨_, (os q111), (by repeat (first | exact Sub.nil _ | refine Sub.cons rfl ?_)), (hm106.pick [] (by decide) rfl)⟩
        · refine cw_f rfl hb96 ?_
          refine cw_exit ?_
          refine qx_then (qx_then ?_)
          obtain rfl := hr89 _ (os q97)
          exact .inr (⟨_, rfl, ⟨rfl, (by repeat (first | exact Sub.nil _ | refine Sub.cons rfl ?_)), (hm95.pick [] (by decide) rfl)⟩⟩)
      · skip
        intro e env112 w113 hX114
        rcases hX114 with hX114 | hX114
        · obtain ⟨p116, rfl, hX114⟩ := hX114
          obtain ⟨rfl, hq118⟩ := hX114
          exact qr_block (qr_then ((by have e := os q92; subst e; exact hq118)))
        · obtain ⟨p119, rfl, hX114⟩ := hX114
          obtain ⟨rfl, hs120, hm121⟩ := hX114
          refine qx_same (qn_then ?_)
          refine cw_sub hs120 ?_
          refine cw_seq ?_
          refine cw_region ?_
          refine t_rd rfl (rd_assign rfl) ?_
          refine t_rd rfl (rd_assign rfl) ?_
          refine rwt_nil ?_
          refine qn_then ?_
          refine cw_ret ?_
          obtain rfl := os q92
          exact ret2 rfl rfl rfl ⟨rfl, (hm121.pick [] (by decide) rfl)⟩

theorem r31_Choose_ok {N : Nat} {a0 : List T_Span} {a1 : List T_Span} {a2 : Int} {a3 : Int} {res : Int × Int} (h : r31_Choose N a0 a1 a2 a3 = some res) {w : World} {v0 : Value} {v1 : Value} (hv0 : Sl (Old w No) w v0 a0) (hv1 : Sl (Old w No) w v1 a1) :
    CallsR Try.prog 21 [v0, v1, (Value.int .i64 a2), (Value.int .i64 a3)] w (fun u w' => u = (Value.tuple #[(Value.int .i64 res.1), (Value.int .i64 res.2)]) ∧ Mem w No [] w') := by
  unfold r31_Choose at h
  refine fn_ok Try.func21 rfl rfl rfl ?_
  have hm0 := Mem.nil w
  refine cw_seq ?_
  refine cw_region ?_
  refine t_rd rfl (rd_assign rfl) ?_
  refine t_rd rfl (rd_assign rfl) ?_
  refine rwt_nil ?_
  refine qn_then ?_
  refine cw_seq ?_
  refine cw_seq ?_
  refine cw_region ?_
  refine t_rd rfl (rd_move rfl) ?_
  refine t_rd rfl (rd_move rfl) ?_
  refine t_rd rfl (rd_move rfl) ?_
  refine t_rd rfl (rd_move rfl) ?_
  obtain ⟨r1, h2, q3⟩ := ob h; clear h
  refine t_ef rfl (ef_call tf30 rfl (r31_check_ok h2 (hv0.to_call hm0) (hv1.to_call hm0))) ?_
  rintro _ w5 ⟨e_, hm4⟩
  obtain rfl := e_.symm
  have hm6 := hm0.call hm4
  refine t_rd rfl (rd_not rfl) ?_
  refine rwt_nil ?_
  refine qn_then ?_
  obtain ⟨hb7, q8⟩ | ⟨hb7, q8⟩ := oi q3 <;> clear q3
  · refine cw_t rfl hb7 ?_
    refine cw_seq ?_
    refine cw_region ?_
    refine t_rd rfl (rd_assign rfl) ?_
    refine t_rd rfl (rd_assign rfl) ?_
    refine rwt_nil ?_
    refine qn_then ?_
    refine cw_ret ?_
    refine qr_then ?_
    obtain rfl := os q8
    exact ret2 rfl rfl rfl ⟨rfl, (hm6.pick [] (by decide) rfl)⟩
  · refine cw_f rfl hb7 ?_
    refine cw_skip ?_
    refine qn_then ?_
    refine cw_seq ?_
    refine cw_region ?_
    refine t_rd rfl (rd_move rfl) ?_
    refine t_rd rfl (rd_move rfl) ?_
    refine t_rd rfl (rd_move rfl) ?_
    obtain ⟨r9, h10, q11⟩ := ob q8; clear q8
    refine t_ef rfl (ef_call tf31 rfl (r31_conflict_ok h10 (hv0.to_call hm6) (hv1.to_call hm6))) ?_
    rintro _ w13 ⟨e_, hm12⟩
    obtain rfl := e_.symm
    have hm14 := hm6.call hm12
    refine t_rd rfl (rd_assign rfl) ?_
    refine rwt_nil ?_
    refine qn_then ?_
    refine cw_seq ?_
    refine cw_seq ?_
    refine cw_region ?_
    refine t_rd rfl (rd_move rfl) ?_
    refine t_rd rfl (rd_lss rfl rfl) ?_
    refine rwt_nil ?_
    refine qn_then ?_
    obtain ⟨hb15, q16⟩ | ⟨hb15, q16⟩ := oi q11 <;> clear q11
    · refine cw_t rfl hb15 ?_
      refine cw_seq ?_
      refine cw_region ?_
      refine t_rd rfl (rd_assign rfl) ?_
      refine t_rd rfl (rd_assign rfl) ?_
      refine rwt_nil ?_
      refine qn_then ?_
      refine cw_ret ?_
      refine qr_then ?_
      obtain rfl := os q16
      exact ret2 rfl rfl rfl ⟨rfl, (hm14.pick [] (by decide) rfl)⟩
    · refine cw_f rfl hb15 ?_
      refine cw_skip ?_
      refine qn_then ?_
      refine cw_seq ?_
      refine cw_seq ?_
      refine cw_region ?_
      refine t_rd rfl (rd_move rfl) ?_
      obtain ⟨x17, h18, q19⟩ := ob q16; clear q16
      refine t_rd rfl (rd_sub64 h18 rfl rfl) ?_
      refine t_rd rfl (rd_assign rfl) ?_
      refine rwt_nil ?_
      refine qn_then ?_
      refine cw_block ?_
      obtain ⟨r162, hit163, q164⟩ := ob q19; clear q19
      refine cw_loop2 (I := fun q envq wq => Sub [(0, v0), (1, v1), (2, (Value.int .i64 a2)), (3, (Value.int .i64 a3)), (11, (Value.int .i64 q))] envq ∧ Mem w No [] wq) (X := fun eq envq wq => (∃ p165, r162 = (Sum.inl p165) ∧ eq = .ret ∧ retQ Try.prog 75 Try.f21 (fun u w' => u = (Value.tuple #[(Value.int .i64 p165.1), (Value.int .i64 p165.2)]) ∧ Mem w No [] w') .ret envq wq) ∨ (∃ p166, r162 = (Sum.inr p166) ∧ eq = .exit 0 ∧ Sub [] envq ∧ Mem w No [] wq)) hit163 ⟨(by repeat (first | exact Sub.nil _ | refine Sub.cons rfl ?_)), (hm14.pick [] (by decide) rfl)⟩ ?_ ?_
      · rintro i155 x157 env158 w159 hf160 hr161 ⟨hs_, hm_⟩
        have hs_ : Sub [(0, v0), (1, v1), (2, (Value.int .i64 a2)), (3, (Value.int .i64 a3)), (11, (Value.int .i64 i155))] env158 := hs_
        have hm167 : Mem w No [] w159 := hm_
        refine cw_sub hs_ ?_
        clear hs_ hm_ q164
        have h : r31_Choose_l1 N a0 a1 a2 a3 i155 = some x157 := hf160
        clear hf160
        refine cw_seq ?_
        refine cw_seq ?_
        refine cw_region ?_
        refine t_rd rfl (rd_move rfl) ?_
        refine t_rd rfl (rd_geq rfl rfl) ?_
        refine rwt_nil ?_
        refine qn_then ?_
        obtain ⟨hb168, q169⟩ | ⟨hb168, q169⟩ := oi h <;> clear h
        · refine cw_t rfl hb168 ?_
          refine cw_skip ?_
          refine qn_then ?_
          refine cw_seq ?_
          refine cw_block ?_
          refine cw_seq ?_
          refine cw_region ?_
          refine t_rd rfl (rd_move rfl) ?_
          refine t_rd rfl (rd_move rfl) ?_
          refine t_rd rfl (rd_move rfl) ?_
          obtain ⟨x170, h171, q172⟩ := ob q169; clear q169
          refine t_rd rfl (rd_index tS23 rfl rfl (hv1.of_old hm167) h171) ?_
          refine t_rd rfl (rd_fld tF42_0 rfl) ?_
          refine t_rd rfl (rd_ld1 tO3 rfl ((hv1.of_old hm167).cells h171) (off := 0) rfl) ?_
          obtain ⟨r173, h174, q175⟩ := ob q172; clear q172
          refine t_ef rfl (ef_call tf18 rfl (r23_Find_ok h174 (hv0.to_call hm167))) ?_
          rintro _ w177 ⟨e_, hm176⟩
          obtain rfl := e_.symm
          have hm178 := hm167.call hm176
          refine t_rd rfl (rd_assign rfl) ?_
          refine rwt_nil ?_
          refine qn_then ?_
          refine cw_seq ?_
          obtain ⟨w180, he182⟩ : ∃ q, q = w177.drew := ⟨_, rfl⟩
          have hm181 := hm178.drew; rw [← he182] at hm181
          refine cw_region_s (fun q => q = w180) (cls [] []) mixed ?_
          rintro _ rfl; rw [← he182]
          refine s_rp (i := 0) rfl (by kernel_rfl) rfl (fun _ => (rd_move rfl)) ?_
          refine s_rp (i := 1) rfl (by kernel_rfl) rfl (fun _ => (rd_move rfl)) ?_
          obtain ⟨x183, h184, q185⟩ := ob q175; clear q175
          refine s_rp (i := 2) rfl (by kernel_rfl) rfl (fun _ => (rd_index tS23 rfl rfl (hv1.of_old hm181) h184)) ?_
          refine s_rp (i := 3) rfl (by kernel_rfl) rfl (fun _ => (rd_fld tF42_1 rfl)) ?_
          refine s_rd (i := 4) rfl (by kernel_rfl) rfl (fun _ hS => by rw [hS]; exact (rd_ld1 tO3 rfl ((hv1.of_old hm181).cells h184) (off := 1) rfl)) rfl ?_
          refine s_rp (i := 5) rfl (by kernel_rfl) rfl (fun _ => (rd_neq rfl rfl)) ?_
          refine s_rp (i := 6) rfl (by kernel_rfl) rfl (fun _ => (rd_move rfl)) ?_
          refine s_rpg (i := 7) rfl (by kernel_rfl) rfl rfl rfl rfl (gv_t _) (fun hg186 _ => (rd_move rfl)) ?_
          refine s_rpg (i := 8) rfl (by kernel_rfl) rfl rfl rfl rfl (gv_t _) (fun hg187 _ => (rd_move rfl)) ?_
          obtain ⟨x189, h190, q191⟩ := ob q185; clear q185
          refine s_rpg (i := 9) rfl (by kernel_rfl) rfl rfl rfl rfl (gv_t _) (fun hg188 _ => (rd_add64 (gO_t h190 hg188) (gvx rfl hg188) (gvx rfl hg188))) ?_
          refine s_rpg (i := 10) rfl (by kernel_rfl) rfl rfl rfl rfl (gv_t _) (fun hg192 _ => (rd_move rfl)) ?_
          refine s_rpg (i := 11) rfl (by kernel_rfl) rfl rfl rfl rfl (gv_t _) (fun hg193 _ => (rd_move rfl)) ?_
          obtain ⟨x195, h196, q197⟩ := ob q191; clear q191
          refine s_rpg (i := 12) rfl (by kernel_rfl) rfl rfl rfl rfl (gv_t _) (fun hg194 _ => (rd_index tS23 (gvx rfl hg194) (gvx rfl hg194) (hv1.of_old hm181) (gO_t h196 hg194))) ?_
          refine s_rpg (i := 13) rfl (by kernel_rfl) rfl rfl rfl rfl (gv_t _) (fun hg198 _ => (rd_fld tF42_2 (gvx rfl hg198))) ?_
          refine s_rdg (i := 14) rfl (by kernel_rfl) rfl rfl rfl rfl (gv_t _) (fun hg199 => (fun _ hS => by rw [hS]; exact (rd_ld1 tO3 (gvx rfl hg199) ((hv1.of_old hm181).cells (gO_t h196 hg199)) (off := 2) rfl))) rfl ?_
          refine s_rpg (i := 15) rfl (by kernel_rfl) rfl rfl rfl rfl (gv_t _) (fun hg200 _ => (rd_leq (gvx rfl hg200) (gvx rfl hg200))) ?_
          refine s_rp (i := 16) rfl (by kernel_rfl) rfl (fun _ => (rd_and rfl (fun hc201 => (gvx rfl hc201)))) ?_
          refine s_rp (i := 17) rfl (by kernel_rfl) rfl (fun _ => (rd_move rfl)) ?_
          refine s_rpg (i := 18) rfl (by kernel_rfl) rfl rfl rfl rfl (gv_t _) (fun hg202 _ => (rd_move rfl)) ?_
          refine s_rpg (i := 19) rfl (by kernel_rfl) rfl rfl rfl rfl (gv_t _) (fun hg203 _ => (rd_lss (gvx rfl hg203) rfl)) ?_
          refine s_rpg (i := 20) rfl (by kernel_rfl) rfl rfl rfl rfl (gv_t _) (fun hg204 _ => (rd_move (gvx rfl hg204))) ?_
          refine s_rpg (i := 21) rfl (by kernel_rfl) rfl rfl rfl rfl (gv_nf _ _) (fun hg205 _ => (rd_move rfl)) ?_
          refine s_rpg (i := 22) rfl (by kernel_rfl) rfl rfl rfl rfl (gv_nf _ _) (fun hg206 _ => (rd_move rfl)) ?_
          obtain ⟨x208, h209, q210⟩ := ob q197; clear q197
          refine s_rpg (i := 23) rfl (by kernel_rfl) rfl rfl rfl rfl (gv_nf _ _) (fun hg207 _ => (rd_index tS23 (gvx rfl hg207) (gvx rfl hg207) (hv0.of_old hm181) (gO_t h209 hg207))) ?_
          refine s_rpg (i := 24) rfl (by kernel_rfl) rfl rfl rfl rfl (gv_nf _ _) (fun hg211 _ => (rd_fld tF42_3 (gvx rfl hg211))) ?_
          refine s_rdg (i := 25) rfl (by kernel_rfl) rfl rfl rfl rfl (gv_nf _ _) (fun hg212 => (fun _ hS => by rw [hS]; exact (rd_ld1 tO3 (gvx rfl hg212) ((hv0.of_old hm181).cells (gO_t h209 hg212)) (off := 3) rfl))) rfl ?_
          refine s_rpg (i := 26) rfl (by kernel_rfl) rfl rfl rfl rfl (gv_nf _ _) (fun hg213 _ => (rd_move rfl)) ?_
          obtain ⟨x215, h216, q217⟩ := ob q210; clear q210
          refine s_rpg (i := 27) rfl (by kernel_rfl) rfl rfl rfl rfl (gv_nf _ _) (fun hg214 _ => (rd_add64 (gO_t h216 hg214) (gvx rfl hg214) (gvx rfl hg214))) ?_
          refine s_rpg (i := 28) rfl (by kernel_rfl) rfl rfl rfl rfl (gv_nf _ _) (fun hg218 _ => (rd_move rfl)) ?_
          refine s_rpg (i := 29) rfl (by kernel_rfl) rfl rfl rfl rfl (gv_nf _ _) (fun hg219 _ => (rd_move rfl)) ?_
          obtain ⟨x221, h222, q223⟩ := ob q217; clear q217
          refine s_rpg (i := 30) rfl (by kernel_rfl) rfl rfl rfl rfl (gv_nf _ _) (fun hg220 _ => (rd_index tS23 (gvx rfl hg220) (gvx rfl hg220) (hv1.of_old hm181) (gO_t h222 hg220))) ?_
          refine s_rpg (i := 31) rfl (by kernel_rfl) rfl rfl rfl rfl (gv_nf _ _) (fun hg224 _ => (rd_fld tF42_2 (gvx rfl hg224))) ?_
          refine s_rdg (i := 32) rfl (by kernel_rfl) rfl rfl rfl rfl (gv_nf _ _) (fun hg225 => (fun _ hS => by rw [hS]; exact (rd_ld1 tO3 (gvx rfl hg225) ((hv1.of_old hm181).cells (gO_t h222 hg225)) (off := 2) rfl))) rfl ?_
          refine s_rpg (i := 33) rfl (by kernel_rfl) rfl rfl rfl rfl (gv_nf _ _) (fun hg226 _ => (rd_leq (gvx rfl hg226) (gvx rfl hg226))) ?_
          refine s_rpg (i := 34) rfl (by kernel_rfl) rfl rfl rfl rfl (gv_t _) (fun hg227 _ => (rd_or (gvx rfl hg227) (fun hc228 => (gvx rfl (band hg227 (bnotIt hc228)))))) ?_
          refine s_rp (i := 35) rfl (by kernel_rfl) rfl (fun _ => (rd_and rfl (fun hc229 => (gvx rfl hc229)))) ?_
          refine s_nil (by kernel_rfl) ?_
          refine qn_then ?_
          obtain ⟨hb230, q231⟩ | ⟨hb230, q231⟩ := oi q223 <;> clear q223
          · refine cw_t rfl hb230 ?_
            refine cw_seq ?_
            refine cw_region ?_
            refine t_rd rfl (rd_move rfl) ?_
            refine t_rd rfl (rd_assign rfl) ?_
            refine t_rd rfl (rd_assign rfl) ?_
            refine rwt_nil ?_
            refine qn_then ?_
            refine cw_ret ?_
            refine qr_block (qr_then (qr_then ?_))
            obtain rfl := hr161 _ (os q231)
            refine .inl (⟨_, rfl, ⟨rfl, ?_⟩⟩)
            exact ret2 rfl rfl rfl ⟨rfl, (hm181.pick [] (by decide) rfl)⟩
          · refine cw_f rfl hb230 ?_
            refine cw_skip ?_
            refine qn_block (qn_then ?_)
            refine cw_region ?_
            refine t_rd rfl (rd_move rfl) ?_
            obtain ⟨x232, h233, q234⟩ := ob q231; clear q231
            refine t_rd rfl (rd_sub64 h233 rfl rfl) ?_
            refine t_rd rfl (rd_assign rfl) ?_
            refine rwt_nil ?_
            refine qn_then ?_
            refine ⟨_, (os q234), (by repeat (first | exact Sub.nil _ | refine Sub.cons rfl ?_)), (hm181.pick [] (by decide) rfl)⟩
        · refine cw_f rfl hb168 ?_
          refine cw_exit ?_
          refine qx_then (qx_then ?_)
          obtain rfl := hr161 _ (os q169)
          exact .inr (⟨_, rfl, ⟨rfl, (by repeat (first | exact Sub.nil _ | refine Sub.cons rfl ?_)), (hm167.pick [] (by decide) rfl)⟩⟩)
      · skip
        intro e env235 w236 hX237
        rcases hX237 with hX237 | hX237
        · obtain ⟨p239, rfl, hX237⟩ := hX237
          obtain ⟨rfl, hq241⟩ := hX237
          exact qr_block (qr_then ((by have e := os q164; subst e; exact hq241)))
        · obtain ⟨p242, rfl, hX237⟩ := hX237
          obtain ⟨rfl, hs243, hm244⟩ := hX237
          refine qx_same (qn_then ?_)
          refine cw_sub hs243 ?_
          refine cw_seq ?_
          refine cw_region ?_
          refine t_rd rfl (rd_assign rfl) ?_
          refine t_rd rfl (rd_assign rfl) ?_
          refine rwt_nil ?_
          refine qn_then ?_
          refine cw_ret ?_
          obtain rfl := os q164
          exact ret2 rfl rfl rfl ⟨rfl, (hm244.pick [] (by decide) rfl)⟩

theorem divert_Diverted_ok {N : Nat} {a0 : List T_Span} {a1 : Int} {res : List T_Span × Int} (h : divert_Diverted N a0 a1 = some res) {w : World} {v0 : Value} (hv0 : Sl (Old w No) w v0 a0) :
    CallsR Try.prog 16 [v0, (Value.int .i64 a1)] w (fun u w' => ∃ (y0 : Value), u = (Value.tuple #[y0, (Value.int .i64 res.2)]) ∧ Mem w No [ownL 42 y0 (res.1 : List T_Span)] w') := by
  unfold divert_Diverted at h
  refine fn_ok Try.func16 rfl rfl rfl ?_
  have hm0 := Mem.nil w
  refine cw_seq ?_
  refine cw_region ?_
  refine t_rd rfl (rd_assign rfl) ?_
  refine t_rd rfl (rd_assign rfl) ?_
  refine rwt_nil ?_
  refine qn_then ?_
  refine cw_seq ?_
  refine cw_seq ?_
  refine cw_region ?_
  refine t_rd rfl (rd_move rfl) ?_
  obtain ⟨r1, h2, q3⟩ := ob h; clear h
  refine t_ef rfl (ef_call tf24 rfl (divert_valid_ok h2 (hv0.to_call hm0))) ?_
  rintro _ w5 ⟨e_, hm4⟩
  obtain rfl := e_.symm
  have hm6 := hm0.call hm4
  refine t_rd rfl (rd_not rfl) ?_
  refine rwt_nil ?_
  refine qn_then ?_
  obtain ⟨hb7, q8⟩ | ⟨hb7, q8⟩ := oi q3 <;> clear q3
  · refine cw_t rfl hb7 ?_
    refine cw_seq ?_
    refine cw_region ?_
    refine t_rd rfl (rd_assign rfl) ?_
    refine t_rd rfl (rd_assign rfl) ?_
    refine rwt_nil ?_
    refine qn_then ?_
    refine cw_ret ?_
    refine qr_then ?_
    obtain rfl := os q8
    have hm9 := hm6.addNil (α := T_Span) 42
    exact ret2 rfl rfl rfl ⟨(Value.slice none 0 0), rfl, (hm9.pick [0] (by decide) rfl)⟩
  · refine cw_f rfl hb7 ?_
    refine cw_skip ?_
    refine qn_then ?_
    refine cw_seq ?_
    refine cw_seq ?_
    refine cw_region ?_
    refine t_rd rfl (rd_move rfl) ?_
    refine t_rd rfl (rd_lss rfl rfl) ?_
    refine t_rd rfl (rd_move rfl) ?_
    refine t_rdg rfl rfl rfl rfl (gv_f _) (fun hg10 => (rd_move rfl)) ?_
    refine t_rdg rfl rfl rfl rfl (gv_f _) (fun hg11 => (rd_move rfl)) ?_
    refine t_rdg rfl rfl rfl rfl (gv_f _) (fun hg12 => (rd_lenS tS23 (gvx rfl hg12) (hv0.of_old hm6))) ?_
    refine t_rdg rfl rfl rfl rfl (gv_f _) (fun hg13 => (rd_geq (gvx rfl hg13) (gvx rfl hg13))) ?_
    refine t_rd rfl (rd_or rfl (fun hc14 => (gvx rfl (bnotIt hc14)))) ?_
    refine rwt_nil ?_
    refine qn_then ?_
    obtain ⟨hb15, q16⟩ | ⟨hb15, q16⟩ := oi q8 <;> clear q8
    · refine cw_t rfl hb15 ?_
      refine cw_seq ?_
      refine cw_region ?_
      refine t_rd rfl (rd_assign rfl) ?_
      refine t_rd rfl (rd_assign rfl) ?_
      refine rwt_nil ?_
      refine qn_then ?_
      refine cw_ret ?_
      refine qr_then ?_
      obtain rfl := os q16
      have hm17 := hm6.addNil (α := T_Span) 42
      exact ret2 rfl rfl rfl ⟨(Value.slice none 0 0), rfl, (hm17.pick [0] (by decide) rfl)⟩
    · refine cw_f rfl hb15 ?_
      refine cw_skip ?_
      refine qn_then ?_
      refine cw_seq ?_
      refine cw_region ?_
      refine t_rd rfl (rd_move rfl) ?_
      refine t_rd rfl (rd_move rfl) ?_
      obtain ⟨x18, h19, q20⟩ := ob q16; clear q16
      refine t_rd rfl (rd_add64 h19 rfl rfl) ?_
      obtain ⟨l21, h22, q23⟩ := ob q20; clear q20
      refine t_rd rfl (rd_slcH tS23 rfl rfl (hv0.of_old hm6) h22) ?_
      have hm24 := hm6.addNil (α := T_Span) 42
      obtain ⟨l25, h26, q27⟩ := ob q23; clear q23
      refine t_ef rfl (ef_append (k := 0) hm24 tS23 tE42 rfl rfl rfl rfl ((hv0.of_old hm24).sub h22) h26) ?_
      intro v28 w30 hm29
      refine t_rd rfl (rd_assign rfl) ?_
      refine rwt_nil ?_
      refine qn_then ?_
      refine cw_seq ?_
      refine cw_seq ?_
      refine cw_region ?_
      refine t_rd rfl (rd_move rfl) ?_
      refine t_rd rfl (rd_move rfl) ?_
      obtain ⟨x31, h32, q33⟩ := ob q27; clear q27
      refine t_rd rfl (rd_index tS23 rfl rfl (hm29.sl 0 rfl) h32) ?_
      refine t_rd rfl (rd_fld tF42_1 rfl) ?_
      refine t_rd rfl (rd_ld1 tO3 rfl ((hm29.sl 0 rfl).cells h32) (off := 1) rfl) ?_
      refine rwt_nil ?_
      refine qn_then ?_
      refine cw_block ?_
      refine cw_seq ?_
      refine cw_region ?_
      refine t_rd rfl (rd_eql rfl rfl) ?_
      refine t_rd rfl (rd_assign rfl) ?_
      refine rwt_nil ?_
      refine qn_then ?_
      obtain ⟨hb34, q35⟩ | ⟨hb34, q35⟩ := oi q33 <;> clear q33
      · refine cw_t rfl hb34 ?_
        refine cw_region ?_
        refine t_rd rfl (rd_move rfl) ?_
        refine t_rd rfl (rd_move rfl) ?_
        obtain ⟨x36, h37, q38⟩ := ob q35; clear q35
        refine t_rd rfl (rd_index tS23 rfl rfl (hm29.sl 0 rfl) h37) ?_
        refine t_rd rfl (rd_fld tF42_1 rfl) ?_
        refine t_ef0 (ef_stl (k := 0) (off := 1) (x' := (T_Span.mk x36.Element 2 x36.From x36.To)) hm29 tO3 rfl rfl rfl rfl h37 rfl rfl) ?_
        intro _ w40 hm39
        refine rwt_nil ?_
        refine qn_block (qn_then ?_)
        refine cw_seq ?_
        refine cw_region ?_
        refine t_rd rfl (rd_move rfl) ?_
        refine t_rd rfl (rd_assign rfl) ?_
        refine t_rd rfl (rd_assign rfl) ?_
        refine rwt_nil ?_
        refine qn_then ?_
        refine cw_ret ?_
        obtain rfl := os q38
        exact ret2 rfl rfl rfl ⟨v28, rfl, (hm39.pick [0] (by decide) rfl)⟩
      · refine cw_f rfl hb34 ?_
        refine cw_seq ?_
        refine cw_region ?_
        refine t_rd rfl (rd_eql rfl rfl) ?_
        refine t_rd rfl (rd_assign rfl) ?_
        refine rwt_nil ?_
        refine qn_then ?_
        obtain ⟨hb41, q42⟩ | ⟨hb41, q42⟩ := oi q35 <;> clear q35
        · refine cw_t rfl hb41 ?_
          refine cw_region ?_
          refine t_rd rfl (rd_move rfl) ?_
          refine t_rd rfl (rd_move rfl) ?_
          obtain ⟨x43, h44, q45⟩ := ob q42; clear q42
          refine t_rd rfl (rd_index tS23 rfl rfl (hm29.sl 0 rfl) h44) ?_
          refine t_rd rfl (rd_fld tF42_1 rfl) ?_
          refine t_ef0 (ef_stl (k := 0) (off := 1) (x' := (T_Span.mk x43.Element 1 x43.From x43.To)) hm29 tO3 rfl rfl rfl rfl h44 rfl rfl) ?_
          intro _ w47 hm46
          refine rwt_nil ?_
          refine qn_block (qn_then ?_)
          refine cw_seq ?_
          refine cw_region ?_
          refine t_rd rfl (rd_move rfl) ?_
          refine t_rd rfl (rd_assign rfl) ?_
          refine t_rd rfl (rd_assign rfl) ?_
          refine rwt_nil ?_
          refine qn_then ?_
          refine cw_ret ?_
          obtain rfl := os q45
          exact ret2 rfl rfl rfl ⟨v28, rfl, (hm46.pick [0] (by decide) rfl)⟩
        · refine cw_f rfl hb41 ?_
          refine cw_seq ?_
          refine cw_region ?_
          refine t_rd rfl (rd_assign rfl) ?_
          refine t_rd rfl (rd_assign rfl) ?_
          refine rwt_nil ?_
          refine qn_then ?_
          refine cw_ret ?_
          refine qr_block (qr_then ?_)
          obtain rfl := os q42
          have hm48 := hm29.addNil (α := T_Span) 42
          exact ret2 rfl rfl rfl ⟨(Value.slice none 0 0), rfl, (hm48.pick [0] (by decide) rfl)⟩

theorem r31_Diverted_ok {N : Nat} {a0 : List T_Span} {a1 : Int} {res : List T_Span × Int} (h : r31_Diverted N a0 a1 = some res) {w : World} {v0 : Value} (hv0 : Sl (Old w No) w v0 a0) :
    CallsR Try.prog 22 [v0, (Value.int .i64 a1)] w (fun u w' => ∃ (y0 : Value), u = (Value.tuple #[y0, (Value.int .i64 res.2)]) ∧ Mem w No [ownL 42 y0 (res.1 : List T_Span)] w') := by
  unfold r31_Diverted at h
  refine fn_ok Try.func22 rfl rfl rfl ?_
  have hm0 := Mem.nil w
  refine cw_seq ?_
  refine cw_region ?_
  refine t_rd rfl (rd_assign rfl) ?_
  refine t_rd rfl (rd_assign rfl) ?_
  refine rwt_nil ?_
  refine qn_then ?_
  refine cw_seq ?_
  refine cw_block ?_
  refine cw_seq ?_
  refine cw_region ?_
  refine t_rd rfl (rd_move rfl) ?_
  obtain ⟨r1, h2, q3⟩ := ob h; clear h
  refine t_ef rfl (ef_call tf28 rfl (r23_Valid_ok h2 (hv0.to_call hm0))) ?_
  rintro _ w5 ⟨e_, hm4⟩
  obtain rfl := e_.symm
  have hm6 := hm0.call hm4
  refine t_rd rfl (rd_not rfl) ?_
  refine t_rd rfl (rd_assign rfl) ?_
  refine rwt_nil ?_
  refine qn_then ?_
  obtain ⟨hb7, q8⟩ | ⟨hb7, q8⟩ := oi q3 <;> clear q3
  · refine cw_t rfl hb7 ?_
    refine cw_seq ?_
    refine cw_region ?_
    refine t_rd rfl (rd_assign rfl) ?_
    refine t_rd rfl (rd_assign rfl) ?_
    refine rwt_nil ?_
    refine qn_then ?_
    refine cw_ret ?_
    refine qr_block (qr_then ?_)
    obtain rfl := os q8
    have hm9 := hm6.addNil (α := T_Span) 42
    exact ret2 rfl rfl rfl ⟨(Value.slice none 0 0), rfl, (hm9.pick [0] (by decide) rfl)⟩
  · refine cw_f rfl hb7 ?_
    refine cw_seq ?_
    refine cw_region ?_
    refine t_rd rfl (rd_move rfl) ?_
    refine t_rd rfl (rd_lss rfl rfl) ?_
    refine t_rd rfl (rd_move rfl) ?_
    refine t_rdg rfl rfl rfl rfl (gv_f _) (fun hg10 => (rd_move rfl)) ?_
    refine t_rdg rfl rfl rfl rfl (gv_f _) (fun hg11 => (rd_move rfl)) ?_
    refine t_rdg rfl rfl rfl rfl (gv_f _) (fun hg12 => (rd_lenS tS23 (gvx rfl hg12) (hv0.of_old hm6))) ?_
    refine t_rdg rfl rfl rfl rfl (gv_f _) (fun hg13 => (rd_geq (gvx rfl hg13) (gvx rfl hg13))) ?_
    refine t_rd rfl (rd_or rfl (fun hc14 => (gvx rfl (bnotIt hc14)))) ?_
    refine t_rd rfl (rd_assign rfl) ?_
    refine rwt_nil ?_
    refine qn_then ?_
    obtain ⟨hb15, q16⟩ | ⟨hb15, q16⟩ := oi q8 <;> clear q8
    · refine cw_t rfl hb15 ?_
      refine cw_seq ?_
      refine cw_region ?_
      refine t_rd rfl (rd_assign rfl) ?_
      refine t_rd rfl (rd_assign rfl) ?_
      refine rwt_nil ?_
      refine qn_then ?_
      refine cw_ret ?_
      refine qr_block (qr_then ?_)
      obtain rfl := os q16
      have hm17 := hm6.addNil (α := T_Span) 42
      exact ret2 rfl rfl rfl ⟨(Value.slice none 0 0), rfl, (hm17.pick [0] (by decide) rfl)⟩
    · refine cw_f rfl hb15 ?_
      refine cw_seq ?_
      refine cw_region ?_
      refine t_rd rfl (rd_move rfl) ?_
      refine t_rd rfl (rd_move rfl) ?_
      obtain ⟨x18, h19, q20⟩ := ob q16; clear q16
      refine t_rd rfl (rd_index tS23 rfl rfl (hv0.of_old hm6) h19) ?_
      refine t_rd rfl (rd_fld tF42_1 rfl) ?_
      refine t_rd rfl (rd_ld1 tO3 rfl ((hv0.of_old hm6).cells h19) (off := 1) rfl) ?_
      refine t_rd rfl (rd_eql rfl rfl) ?_
      refine t_rd rfl (rd_assign rfl) ?_
      refine rwt_nil ?_
      refine qn_then ?_
      obtain ⟨hb21, q22⟩ | ⟨hb21, q22⟩ := oi q20 <;> clear q20
      · refine cw_t rfl hb21 ?_
        refine cw_seq ?_
        refine cw_region ?_
        refine t_rd rfl (rd_assign rfl) ?_
        refine t_rd rfl (rd_assign rfl) ?_
        refine rwt_nil ?_
        refine qn_then ?_
        refine cw_ret ?_
        refine qr_block (qr_then ?_)
        obtain rfl := os q22
        have hm23 := hm6.addNil (α := T_Span) 42
        exact ret2 rfl rfl rfl ⟨(Value.slice none 0 0), rfl, (hm23.pick [0] (by decide) rfl)⟩
      · refine cw_f rfl hb21 ?_
        refine cw_skip ?_
        refine qn_block (qn_then ?_)
        refine cw_seq ?_
        refine cw_region ?_
        refine t_ef rfl (ef_bslice0 (α := T_Span) hm6 tS23) ?_
        intro v24 w26 hm25
        refine t_rd rfl (rd_move rfl) ?_
        refine t_rd rfl (rd_move rfl) ?_
        obtain ⟨x27, h28, q29⟩ := ob q22; clear q22
        refine t_rd rfl (rd_add64 h28 rfl rfl) ?_
        obtain ⟨l30, h31, q32⟩ := ob q29; clear q29
        refine t_rd rfl (rd_slcH tS23 rfl rfl (hv0.of_old hm25) h31) ?_
        obtain ⟨l33, h34, q35⟩ := ob q32; clear q32
        refine t_ef rfl (ef_append (k := 0) hm25 tS23 tE42 rfl rfl rfl rfl ((hv0.of_old hm25).sub h31) h34) ?_
        intro v36 w38 hm37
        refine t_rd rfl (rd_assign rfl) ?_
        refine rwt_nil ?_
        refine qn_then ?_
        refine cw_seq ?_
        refine cw_region ?_
        refine t_rd rfl (rd_move rfl) ?_
        refine t_rd rfl (rd_move rfl) ?_
        refine t_rd rfl (rd_move rfl) ?_
        refine t_rd rfl (rd_move rfl) ?_
        obtain ⟨x39, h40, q41⟩ := ob q35; clear q35
        refine t_rd rfl (rd_index tS23 rfl rfl (hv0.of_old hm37) h40) ?_
        refine t_rd rfl (rd_fld tF42_1 rfl) ?_
        refine t_rd rfl (rd_ld1 tO3 rfl ((hv0.of_old hm37).cells h40) (off := 1) rfl) ?_
        obtain ⟨x42, h43, q44⟩ := ob q41; clear q41
        refine t_rd rfl (rd_sub64 h43 rfl rfl) ?_
        obtain ⟨x45, h46, q47⟩ := ob q44; clear q44
        refine t_rd rfl (rd_index tS23 rfl rfl (hm37.sl 0 rfl) h46) ?_
        refine t_rd rfl (rd_fld tF42_1 rfl) ?_
        refine t_ef0 (ef_stl (k := 0) (off := 1) (x' := (T_Span.mk x45.Element x42 x45.From x45.To)) hm37 tO3 rfl rfl rfl rfl h46 rfl rfl) ?_
        intro _ w49 hm48
        refine rwt_nil ?_
        refine qn_then ?_
        refine cw_seq ?_
        refine cw_region ?_
        refine t_rd rfl (rd_move rfl) ?_
        refine t_rd rfl (rd_assign rfl) ?_
        refine t_rd rfl (rd_assign rfl) ?_
        refine rwt_nil ?_
        refine qn_then ?_
        refine cw_ret ?_
        obtain rfl := os q47
        exact ret2 rfl rfl rfl ⟨v36, rfl, (hm48.pick [0] (by decide) rfl)⟩

theorem yardgen_SameSpans_ok {N : Nat} {a0 : List T_Span} {a1 : List T_Span} {res : Bool} (h : yardgen_SameSpans N a0 a1 = some res) {w : World} {v0 : Value} {v1 : Value} (hv0 : Sl (Old w No) w v0 a0) (hv1 : Sl (Old w No) w v1 a1) :
    CallsR Try.prog 23 [v0, v1] w (fun u w' => u = (Value.bool res) ∧ Mem w No [] w') := by
  unfold yardgen_SameSpans at h
  refine fn_ok Try.func23 rfl rfl rfl ?_
  have hm0 := Mem.nil w
  refine cw_seq ?_
  refine cw_region ?_
  refine t_rd rfl (rd_assign rfl) ?_
  refine rwt_nil ?_
  refine qn_then ?_
  refine cw_seq ?_
  refine cw_seq ?_
  refine cw_region ?_
  refine t_rd rfl (rd_move rfl) ?_
  refine t_rd rfl (rd_lenS tS23 rfl (hv0.of_old hm0)) ?_
  refine t_rd rfl (rd_move rfl) ?_
  refine t_rd rfl (rd_lenS tS23 rfl (hv1.of_old hm0)) ?_
  refine t_rd rfl (rd_neq rfl rfl) ?_
  refine rwt_nil ?_
  refine qn_then ?_
  obtain ⟨hb1, q2⟩ | ⟨hb1, q2⟩ := oi h <;> clear h
  · refine cw_t rfl hb1 ?_
    refine cw_seq ?_
    refine cw_region ?_
    refine t_rd rfl (rd_assign rfl) ?_
    refine rwt_nil ?_
    refine qn_then ?_
    refine cw_ret ?_
    refine qr_then ?_
    obtain rfl := os q2
    exact ret1 rfl rfl ⟨rfl, (hm0.pick [] (by decide) rfl)⟩
  · refine cw_f rfl hb1 ?_
    refine cw_skip ?_
    refine qn_then ?_
    refine cw_seq ?_
    refine cw_seq ?_
    refine cw_region ?_
    refine t_rd rfl (rd_assign rfl) ?_
    refine rwt_nil ?_
    refine qn_then ?_
    refine cw_block ?_
    obtain ⟨r45, hit46, q47⟩ := ob q2; clear q2
    refine cw_loop2 (I := fun q envq wq => Sub [(0, v0), (1, v1), (5, (Value.int .i64 q))] envq ∧ Mem w No [] wq) (X := fun eq envq wq => (∃ p48, r45 = (Sum.inl p48) ∧ eq = .ret ∧ retQ Try.prog 26 Try.f23 (fun u w' => u = (Value.bool p48) ∧ Mem w No [] w') .ret envq wq) ∨ (∃ p49, r45 = (Sum.inr p49) ∧ eq = .exit 0 ∧ Sub [] envq ∧ Mem w No [] wq)) hit46 ⟨(by repeat (first | exact Sub.nil _ | refine Sub.cons rfl ?_)), (hm0.pick [] (by decide) rfl)⟩ ?_ ?_
    · rintro i38 x40 env41 w42 hf43 hr44 ⟨hs_, hm_⟩
      have hs_ : Sub [(0, v0), (1, v1), (5, (Value.int .i64 i38))] env41 := hs_
      have hm50 : Mem w No [] w42 := hm_
      refine cw_sub hs_ ?_
      clear hs_ hm_ q47
      have h : yardgen_SameSpans_l1 N a0 a1 i38 = some x40 := hf43
      clear hf43
      refine cw_seq ?_
      refine cw_seq ?_
      refine cw_region ?_
      refine t_rd rfl (rd_move rfl) ?_
      refine t_rd rfl (rd_move rfl) ?_
      refine t_rd rfl (rd_lenS tS23 rfl (hv0.of_old hm50)) ?_
      refine t_rd rfl (rd_lss rfl rfl) ?_
      refine rwt_nil ?_
      refine qn_then ?_
      obtain ⟨hb51, q52⟩ | ⟨hb51, q52⟩ := oi h <;> clear h
      · refine cw_t rfl hb51 ?_
        refine cw_skip ?_
        refine qn_then ?_
        refine cw_seq ?_
        refine cw_block ?_
        refine cw_seq ?_
        obtain ⟨w54, he56⟩ : ∃ q, q = w42.drew := ⟨_, rfl⟩
        have hm55 := hm50.drew; rw [← he56] at hm55
        refine cw_region_s (fun q => q = w54) (cls [] []) mixed ?_
        rintro _ rfl; rw [← he56]
        refine s_rp (i := 0) rfl (by kernel_rfl) rfl (fun _ => (rd_move rfl)) ?_
        refine s_rp (i := 1) rfl (by kernel_rfl) rfl (fun _ => (rd_move rfl)) ?_
        obtain ⟨x57, h58, q59⟩ := ob q52; clear q52
        refine s_rp (i := 2) rfl (by kernel_rfl) rfl (fun _ => (rd_index tS23 rfl rfl (hv0.of_old hm55) h58)) ?_
        refine s_rd (i := 3) rfl (by kernel_rfl) rfl (fun _ hS => by rw [hS]; exact (rd_ld tA42 rfl ((hv0.of_old hm55).cells h58) rfl)) rfl ?_
        refine s_rp (i := 4) rfl (by kernel_rfl) rfl (fun _ => (rd_move rfl)) ?_
        refine s_rp (i := 5) rfl (by kernel_rfl) rfl (fun _ => (rd_move rfl)) ?_
        obtain ⟨x60, h61, q62⟩ := ob q59; clear q59
        refine s_rp (i := 6) rfl (by kernel_rfl) rfl (fun _ => (rd_index tS23 rfl rfl (hv1.of_old hm55) h61)) ?_
        refine s_rd (i := 7) rfl (by kernel_rfl) rfl (fun _ hS => by rw [hS]; exact (rd_ld tA42 rfl ((hv1.of_old hm55).cells h61) rfl)) rfl ?_
        refine s_rp (i := 8) rfl (by kernel_rfl) rfl (fun _ => (rd_neqs eqs42 (a := x57) (b := x60) rfl rfl)) ?_
        refine s_nil (by kernel_rfl) ?_
        refine qn_then ?_
        obtain ⟨hb63, q64⟩ | ⟨hb63, q64⟩ := oi q62 <;> clear q62
        · refine cw_t rfl hb63 ?_
          refine cw_seq ?_
          refine cw_region ?_
          refine t_rd rfl (rd_assign rfl) ?_
          refine rwt_nil ?_
          refine qn_then ?_
          refine cw_ret ?_
          refine qr_block (qr_then (qr_then ?_))
          obtain rfl := hr44 _ (os q64)
          refine .inl (⟨_, rfl, ⟨rfl, ?_⟩⟩)
          exact ret1 rfl rfl ⟨rfl, (hm55.pick [] (by decide) rfl)⟩
        · refine cw_f rfl hb63 ?_
          refine cw_skip ?_
          refine qn_block (qn_then ?_)
          refine cw_region ?_
          refine t_rd rfl (rd_move rfl) ?_
          obtain ⟨x65, h66, q67⟩ := ob q64; clear q64
          refine t_rd rfl (rd_add64 h66 rfl rfl) ?_
          refine t_rd rfl (rd_assign rfl) ?_
          refine rwt_nil ?_
          refine qn_then ?_
          refine ⟨_, (os q67), (by repeat (first | exact Sub.nil _ | refine Sub.cons rfl ?_)), (hm55.pick [] (by decide) rfl)⟩
      · refine cw_f rfl hb51 ?_
        refine cw_exit ?_
        refine qx_then (qx_then ?_)
        obtain rfl := hr44 _ (os q52)
        exact .inr (⟨_, rfl, ⟨rfl, (by repeat (first | exact Sub.nil _ | refine Sub.cons rfl ?_)), (hm50.pick [] (by decide) rfl)⟩⟩)
    · skip
      intro e env68 w69 hX70
      rcases hX70 with hX70 | hX70
      · obtain ⟨p72, rfl, hX70⟩ := hX70
        obtain ⟨rfl, hq74⟩ := hX70
        exact qr_block (qr_then ((by have e := os q47; subst e; exact hq74)))
      · obtain ⟨p75, rfl, hX70⟩ := hX70
        obtain ⟨rfl, hs76, hm77⟩ := hX70
        refine qx_same (qn_then ?_)
        refine cw_sub hs76 ?_
        refine cw_seq ?_
        refine cw_region ?_
        refine t_rd rfl (rd_assign rfl) ?_
        refine rwt_nil ?_
        refine qn_then ?_
        refine cw_ret ?_
        obtain rfl := os q47
        exact ret1 rfl rfl ⟨rfl, (hm77.pick [] (by decide) rfl)⟩

theorem law31_exact_ok {N : Nat} {a0 : List T_Span} {a1 : List T_Span} {a2 : Int} {a3 : Int} {a4 : Int} {res : Bool} (h : law31_exact N a0 a1 a2 a3 a4 = some res) {w : World} {v0 : Value} {v1 : Value} (hv0 : Sl (Old w No) w v0 a0) (hv1 : Sl (Old w No) w v1 a1) :
    CallsR Try.prog 10 [v0, v1, (Value.int .i64 a2), (Value.int .i64 a3), (Value.int .i64 a4)] w (fun u w' => u = (Value.bool res) ∧ Mem w No [] w') := by
  unfold law31_exact at h
  refine fn_ok Try.func10 rfl rfl rfl ?_
  have hm0 := Mem.nil w
  refine cw_seq ?_
  refine cw_region ?_
  refine t_rd rfl (rd_assign rfl) ?_
  refine rwt_nil ?_
  refine qn_then ?_
  refine cw_seq ?_
  refine cw_region ?_
  refine t_rd rfl (rd_move rfl) ?_
  refine t_rd rfl (rd_move rfl) ?_
  refine t_rd rfl (rd_move rfl) ?_
  obtain ⟨r1, h2, q3⟩ := ob h; clear h
  refine t_ef rfl (ef_call tf17 rfl (divert_Conflict_ok h2 (hv0.to_call hm0) (hv1.to_call hm0))) ?_
  rintro _ w5 ⟨e_, hm4⟩
  obtain rfl := e_.symm
  have hm6 := hm0.call hm4
  refine t_rd rfl (rd_move rfl) ?_
  refine t_rd rfl (rd_extract rfl rfl) ?_
  refine t_rd rfl (rd_extract rfl rfl) ?_
  refine t_rd rfl (rd_assign rfl) ?_
  refine t_rd rfl (rd_assign rfl) ?_
  refine rwt_nil ?_
  refine qn_then ?_
  refine cw_seq ?_
  refine cw_region ?_
  refine t_rd rfl (rd_move rfl) ?_
  refine t_rd rfl (rd_move rfl) ?_
  refine t_rd rfl (rd_move rfl) ?_
  obtain ⟨r7, h8, q9⟩ := ob q3; clear q3
  refine t_ef rfl (ef_call tf20 rfl (r31_Conflict_ok h8 (hv0.to_call hm6) (hv1.to_call hm6))) ?_
  rintro _ w11 ⟨e_, hm10⟩
  obtain rfl := e_.symm
  have hm12 := hm6.call hm10
  refine t_rd rfl (rd_move rfl) ?_
  refine t_rd rfl (rd_extract rfl rfl) ?_
  refine t_rd rfl (rd_extract rfl rfl) ?_
  refine t_rd rfl (rd_assign rfl) ?_
  refine t_rd rfl (rd_assign rfl) ?_
  refine rwt_nil ?_
  refine qn_then ?_
  refine cw_seq ?_
  refine cw_region ?_
  refine t_rd rfl (rd_move rfl) ?_
  refine t_rd rfl (rd_move rfl) ?_
  refine t_rd rfl (rd_move rfl) ?_
  refine t_rd rfl (rd_move rfl) ?_
  obtain ⟨r13, h14, q15⟩ := ob q9; clear q9
  refine t_ef rfl (ef_call tf15 rfl (divert_Choose_ok h14 (hv0.to_call hm12) (hv1.to_call hm12))) ?_
  rintro _ w17 ⟨e_, hm16⟩
  obtain rfl := e_.symm
  have hm18 := hm12.call hm16
  refine t_rd rfl (rd_move rfl) ?_
  refine t_rd rfl (rd_extract rfl rfl) ?_
  refine t_rd rfl (rd_extract rfl rfl) ?_
  refine t_rd rfl (rd_assign rfl) ?_
  refine t_rd rfl (rd_assign rfl) ?_
  refine rwt_nil ?_
  refine qn_then ?_
  refine cw_seq ?_
  refine cw_region ?_
  refine t_rd rfl (rd_move rfl) ?_
  refine t_rd rfl (rd_move rfl) ?_
  refine t_rd rfl (rd_move rfl) ?_
  refine t_rd rfl (rd_move rfl) ?_
  obtain ⟨r19, h20, q21⟩ := ob q15; clear q15
  refine t_ef rfl (ef_call tf21 rfl (r31_Choose_ok h20 (hv0.to_call hm18) (hv1.to_call hm18))) ?_
  rintro _ w23 ⟨e_, hm22⟩
  obtain rfl := e_.symm
  have hm24 := hm18.call hm22
  refine t_rd rfl (rd_move rfl) ?_
  refine t_rd rfl (rd_extract rfl rfl) ?_
  refine t_rd rfl (rd_extract rfl rfl) ?_
  refine t_rd rfl (rd_assign rfl) ?_
  refine t_rd rfl (rd_assign rfl) ?_
  refine rwt_nil ?_
  refine qn_then ?_
  refine cw_seq ?_
  refine cw_region ?_
  refine t_rd rfl (rd_move rfl) ?_
  refine t_rd rfl (rd_move rfl) ?_
  obtain ⟨r25, h26, q27⟩ := ob q21; clear q21
  refine t_ef rfl (ef_call tf16 rfl (divert_Diverted_ok h26 (hv1.to_call hm24))) ?_
  rintro _ w30 ⟨v28, e_, hm29⟩
  obtain rfl := e_.symm
  have hm31 := hm24.call hm29
  refine t_rd rfl (rd_move rfl) ?_
  refine t_rd rfl (rd_extract rfl rfl) ?_
  refine t_rd rfl (rd_extract rfl rfl) ?_
  refine t_rd rfl (rd_assign rfl) ?_
  refine t_rd rfl (rd_assign rfl) ?_
  refine rwt_nil ?_
  refine qn_then ?_
  refine cw_seq ?_
  refine cw_region ?_
  refine t_rd rfl (rd_move rfl) ?_
  refine t_rd rfl (rd_move rfl) ?_
  obtain ⟨r32, h33, q34⟩ := ob q27; clear q27
  refine t_ef rfl (ef_call tf22 rfl (r31_Diverted_ok h33 (hv1.to_call hm31))) ?_
  rintro _ w37 ⟨v35, e_, hm36⟩
  obtain rfl := e_.symm
  have hm38 := hm31.call hm36
  refine t_rd rfl (rd_move rfl) ?_
  refine t_rd rfl (rd_extract rfl rfl) ?_
  refine t_rd rfl (rd_extract rfl rfl) ?_
  refine t_rd rfl (rd_assign rfl) ?_
  refine t_rd rfl (rd_assign rfl) ?_
  refine rwt_nil ?_
  refine qn_then ?_
  refine cw_seq ?_
  refine cw_region ?_
  refine t_rd rfl (rd_move rfl) ?_
  refine t_rd rfl (rd_move rfl) ?_
  refine t_rd rfl (rd_eql rfl rfl) ?_
  refine t_rd rfl (rd_move rfl) ?_
  refine t_rdg rfl rfl rfl rfl (gv_t _) (fun hg39 => (rd_move rfl)) ?_
  refine t_rdg rfl rfl rfl rfl (gv_t _) (fun hg40 => (rd_move rfl)) ?_
  refine t_rdg rfl rfl rfl rfl (gv_t _) (fun hg41 => (rd_eql (gvx rfl hg41) (gvx rfl hg41))) ?_
  refine t_rd rfl (rd_and rfl (fun hc42 => (gvx rfl hc42))) ?_
  refine t_rd rfl (rd_move rfl) ?_
  refine t_rdg rfl rfl rfl rfl (gv_t _) (fun hg43 => (rd_move rfl)) ?_
  refine t_rdg rfl rfl rfl rfl (gv_t _) (fun hg44 => (rd_move rfl)) ?_
  refine t_rdg rfl rfl rfl rfl (gv_t _) (fun hg45 => (rd_eql (gvx rfl hg45) (gvx rfl hg45))) ?_
  refine t_rd rfl (rd_and rfl (fun hc46 => (gvx rfl hc46))) ?_
  refine t_rd rfl (rd_move rfl) ?_
  refine t_rdg rfl rfl rfl rfl (gv_t _) (fun hg47 => (rd_move rfl)) ?_
  refine t_rdg rfl rfl rfl rfl (gv_t _) (fun hg48 => (rd_move rfl)) ?_
  refine t_rdg rfl rfl rfl rfl (gv_t _) (fun hg49 => (rd_eql (gvx rfl hg49) (gvx rfl hg49))) ?_
  refine t_rd rfl (rd_and rfl (fun hc50 => (gvx rfl hc50))) ?_
  refine t_rd rfl (rd_move rfl) ?_
  refine t_rdg rfl rfl rfl rfl (gv_t _) (fun hg51 => (rd_move rfl)) ?_
  refine t_rdg rfl rfl rfl rfl (gv_t _) (fun hg52 => (rd_move rfl)) ?_
  obtain ⟨r54, h55, q56⟩ := ob q34; clear q34
  refine t_efg rfl rfl rfl rfl (R := (fun v w' => v = gV (((decide (r1.1 = r7.1) && decide (r1.2 = r7.2)) && decide (r13.1 = r19.1)) && decide (r13.2 = r19.2)) (Value.bool r54) ∧ Mem w37 No [] w')) (gv_t _) (fun hg53 => (ef_call tf23 (evc (gvx rfl hg53) (evc (gvx rfl hg53) evn)) (yardgen_SameSpans_ok (gO_t h55 hg53) (hm38.sl_call 1 rfl) (hm38.sl_call 0 rfl))).mono (by rintro _ _ ⟨rfl, q⟩; exact ⟨(gV_t hg53).symm, q⟩)) (fun q => ⟨(gV_f q).symm, Mem.nil _⟩) ?_
  rintro _ w58 ⟨rfl, hm57⟩
  have hm59 := hm38.call hm57
  refine t_rd rfl (rd_and rfl (fun hc60 => (gvx rfl hc60))) ?_
  refine t_rd rfl (rd_move rfl) ?_
  refine t_rdg rfl rfl rfl rfl (gv_t _) (fun hg61 => (rd_move rfl)) ?_
  refine t_rdg rfl rfl rfl rfl (gv_t _) (fun hg62 => (rd_move rfl)) ?_
  refine t_rdg rfl rfl rfl rfl (gv_t _) (fun hg63 => (rd_eql (gvx rfl hg63) (gvx rfl hg63))) ?_
  refine t_rd rfl (rd_and rfl (fun hc64 => (gvx rfl hc64))) ?_
  refine t_rd rfl (rd_assign rfl) ?_
  refine rwt_nil ?_
  refine qn_then ?_
  refine cw_ret ?_
  obtain rfl := os q56
  exact ret1 rfl rfl ⟨rfl, (hm59.pick [] (by decide) rfl)⟩

end Go.Proofs.Ytfomgakgjgkjlaa
