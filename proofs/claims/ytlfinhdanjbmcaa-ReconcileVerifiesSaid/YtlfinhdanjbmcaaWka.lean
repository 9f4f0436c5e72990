/- Each call computes what its mirror does; written by a program of mine (gowalk.py). -/
import Derived.Test.YtlfinhdanjbmcaaTy
namespace Go.Proofs.Ytlfinhdanjbmcaa
open Go.Gv Go.RowKit
set_option linter.unusedVariables false
set_option maxRecDepth 100000

theorem humpgen_New_ok {N : Nat} {a0 : List Int} {res : Int} (h : humpgen_New N a0 = some res) {w : World} {v0 : Value} (hv0 : Sl (Old w No) w v0 a0) :
    CallsR Try.prog 9 [v0] w (fun u w' => ∃ gr : Nat, u = (Value.pointer (some ⟨gr, 0, none⟩)) ∧ Mem w No [blk gr 48 [v0, (Value.int .i64 res)]] w') := by
  unfold humpgen_New at h
  refine fn_ok Try.func9 rfl rfl rfl ?_
  have hm0 := Mem.nil w
  refine cw_seq ?_
  refine cw_region ?_
  refine t_rd rfl (rd_assign rfl) ?_
  refine rwt_nil ?_
  refine qn_then ?_
  refine cw_seq ?_
  refine cw_region ?_
  refine t_rd rfl (rd_move rfl) ?_
  refine t_rd rfl (rd_build (cs := #[v0, (Value.int .i64 0)]) rfl (by obtain ⟨_, _, e⟩ := ((hv0.of_old hm0)).val; rw [e]; clear e; kernel_rfl)) ?_
  refine t_ef rfl (ef_box hm0 rfl rfl) ?_
  rintro _ w6 ⟨g4, rfl, hm5⟩
  refine t_rd rfl (rd_assign rfl) ?_
  refine rwt_nil ?_
  refine qn_then ?_
  refine cw_ret ?_
  obtain rfl := os h
  exact ret1 rfl rfl ⟨g4, rfl, (hm5.pick [0] (by decide) rfl)⟩

theorem Maker_Next_ok {N : Nat} {a0_l : List Int} {a0_n : Int} {a1 : Int} {res : Int × Int} (h : Maker_Next N a0_l a0_n a1 = some res) {w : World} {v0_l : Value} {g0 : Nat} (hv0_l : Sl (Old w (fun k => k = g0)) w v0_l a0_l) (hk0 : (blk g0 48 [v0_l, (Value.int .i64 a0_n)]).φ w) :
    CallsR Try.prog 16 [(Value.pointer (some ⟨g0, 0, none⟩)), (Value.int .i64 a1)] w (fun u w' => u = (Value.int .i64 res.2) ∧ Mem w (fun k => k = g0) [blk g0 48 [v0_l, (Value.int .i64 res.1)]] w') := by
  unfold Maker_Next at h
  refine fn_ok Try.func16 rfl rfl rfl ?_
  have hm0 := Mem.one hk0
  refine cw_seq ?_
  refine cw_region ?_
  refine t_rd rfl (rd_assign rfl) ?_
  refine rwt_nil ?_
  refine qn_then ?_
  refine cw_seq ?_
  refine cw_region ?_
  refine t_rd rfl (rd_assign rfl) ?_
  refine rwt_nil ?_
  refine qn_then ?_
  refine cw_seq ?_
  refine cw_seq ?_
  refine cw_region ?_
  refine t_rd rfl (rd_move rfl) ?_
  refine t_rd rfl (rd_nilCheck rfl) ?_
  refine t_rd rfl (rd_fld tF48_0 rfl) ?_
  refine t_rd rfl (rd_ld1 tO22 rfl (hm0.blk 0 rfl) (off := 0) rfl) ?_
  refine t_rd rfl (rd_lenS tS22 rfl (hv0_l.of_old hm0)) ?_
  refine t_rd rfl (rd_gtr rfl rfl) ?_
  refine rwt_nil ?_
  refine qn_then ?_
  obtain ⟨j69, hit70, q71⟩ := ob h; clear h
  refine cw_join (X := fun eq envq wq => eq = .normal ∧ Sub [(0, (Value.pointer (some ⟨g0, 0, none⟩))), (1, (Value.int .i64 a1)), (5, (Value.int .i64 j69))] envq ∧ Mem w (fun k => k = g0) [blk g0 48 [v0_l, (Value.int .i64 a0_n)]] wq) ?_ ?_
  · clear q71
    obtain ⟨hb72, q73⟩ | ⟨hb72, q73⟩ := oi hit70 <;> clear hit70
    · refine cw_t rfl hb72 ?_
      obtain ⟨w75, he77⟩ : ∃ q, q = w.drew := ⟨_, rfl⟩
      have hm76 := hm0.drew; rw [← he77] at hm76
      refine cw_region_s (fun q => q = w75) (cls [] []) mixed ?_
      rintro _ rfl; rw [← he77]
      refine s_rp (i := 0) rfl (by kernel_rfl) rfl (fun _ => (rd_move rfl)) ?_
      refine s_rp (i := 1) rfl (by kernel_rfl) rfl (fun _ => (rd_nilCheck rfl)) ?_
      refine s_rp (i := 2) rfl (by kernel_rfl) rfl (fun _ => (rd_fld tF48_0 rfl)) ?_
      refine s_rd (i := 3) rfl (by kernel_rfl) rfl (fun _ hS => by rw [hS]; exact (rd_ld1 tO22 rfl (hm76.blk 0 rfl) (off := 0) rfl)) rfl ?_
      refine s_rp (i := 4) rfl (by kernel_rfl) rfl (fun _ => (rd_move rfl)) ?_
      refine s_rp (i := 5) rfl (by kernel_rfl) rfl (fun _ => (rd_nilCheck rfl)) ?_
      refine s_rp (i := 6) rfl (by kernel_rfl) rfl (fun _ => (rd_fld tF48_1 rfl)) ?_
      refine s_rd (i := 7) rfl (by kernel_rfl) rfl (fun _ hS => by rw [hS]; exact (rd_ld1 tO3 rfl (hm76.blk 0 rfl) (off := 1) rfl)) rfl ?_
      refine s_rp (i := 8) rfl (by kernel_rfl) rfl (fun _ => (rd_move rfl)) ?_
      refine s_rp (i := 9) rfl (by kernel_rfl) rfl (fun _ => (rd_nilCheck rfl)) ?_
      refine s_rp (i := 10) rfl (by kernel_rfl) rfl (fun _ => (rd_fld tF48_0 rfl)) ?_
      refine s_rd (i := 11) rfl (by kernel_rfl) rfl (fun _ hS => by rw [hS]; exact (rd_ld1 tO22 rfl (hm76.blk 0 rfl) (off := 0) rfl)) rfl ?_
      refine s_rp (i := 12) rfl (by kernel_rfl) rfl (fun _ => (rd_lenS tS22 rfl (hv0_l.of_old hm76))) ?_
      obtain ⟨x78, h79, q80⟩ := ob q73; clear q73
      refine s_rp (i := 13) rfl (by kernel_rfl) rfl (fun _ => (rd_rem64 h79 rfl rfl)) ?_
      obtain ⟨x81, h82, q83⟩ := ob q80; clear q80
      refine s_rp (i := 14) rfl (by kernel_rfl) rfl (fun _ => (rd_index tS22 rfl rfl (hv0_l.of_old hm76) h82)) ?_
      refine s_rd (i := 15) rfl (by kernel_rfl) rfl (fun _ hS => by rw [hS]; exact (rd_ld1 tO3 rfl ((hv0_l.of_old hm76).cells h82) (off := 0) rfl)) rfl ?_
      refine s_rp (i := 16) rfl (by kernel_rfl) rfl (fun _ => (rd_move rfl)) ?_
      refine s_rp (i := 17) rfl (by kernel_rfl) rfl (fun _ => (rd_nilCheck rfl)) ?_
      refine s_rp (i := 18) rfl (by kernel_rfl) rfl (fun _ => (rd_fld tF48_1 rfl)) ?_
      refine s_rd (i := 19) rfl (by kernel_rfl) rfl (fun _ hS => by rw [hS]; exact (rd_ld1 tO3 rfl (hm76.blk 0 rfl) (off := 1) rfl)) rfl ?_
      refine s_rp (i := 20) rfl (by kernel_rfl) rfl (fun _ => (rd_move rfl)) ?_
      refine s_rp (i := 21) rfl (by kernel_rfl) rfl (fun _ => (rd_nilCheck rfl)) ?_
      refine s_rp (i := 22) rfl (by kernel_rfl) rfl (fun _ => (rd_fld tF48_0 rfl)) ?_
      refine s_rd (i := 23) rfl (by kernel_rfl) rfl (fun _ hS => by rw [hS]; exact (rd_ld1 tO22 rfl (hm76.blk 0 rfl) (off := 0) rfl)) rfl ?_
      refine s_rp (i := 24) rfl (by kernel_rfl) rfl (fun _ => (rd_lenS tS22 rfl (hv0_l.of_old hm76))) ?_
      obtain ⟨x84, h85, q86⟩ := ob q83; clear q83
      refine s_rp (i := 25) rfl (by kernel_rfl) rfl (fun _ => (rd_quo64 h85 rfl rfl)) ?_
      refine s_rp (i := 26) rfl (by kernel_rfl) rfl (fun _ => (rd_mulw rfl rfl)) ?_
      refine s_rp (i := 27) rfl (by kernel_rfl) rfl (fun _ => (rd_addw rfl rfl)) ?_
      refine s_rp (i := 28) rfl (by kernel_rfl) rfl (fun _ => (rd_assign rfl)) ?_
      refine s_nil (by kernel_rfl) ?_
      obtain rfl := os q86
      exact ⟨rfl, (by repeat (first | exact Sub.nil _ | refine Sub.cons rfl ?_)), (hm76.pick [0] (by decide) rfl)⟩
    · refine cw_f rfl hb72 ?_
      refine cw_skip ?_
      obtain rfl := os q73
      exact ⟨rfl, (by repeat (first | exact Sub.nil _ | refine Sub.cons rfl ?_)), (hm0.pick [0] (by decide) rfl)⟩
  · clear hit70
    intro e env87 w88 hX89
    obtain ⟨rfl, hs90, hm91⟩ := hX89
    refine qn_then ?_
    refine cw_sub hs90 ?_
    refine cw_seq ?_
    refine cw_region ?_
    refine t_rd rfl (rd_move rfl) ?_
    refine t_rd rfl (rd_nilCheck rfl) ?_
    refine t_rd rfl (rd_fld tF48_1 rfl) ?_
    refine t_rd rfl (rd_ld1 tO3 rfl (hm91.blk 0 rfl) (off := 1) rfl) ?_
    obtain ⟨x92, h93, q94⟩ := ob q71; clear q71
    refine t_rd rfl (rd_add64 h93 rfl rfl) ?_
    refine t_rd rfl (rd_nilCheck rfl) ?_
    refine t_rd rfl (rd_fld tF48_1 rfl) ?_
    refine t_ef0 (ef_st1 (k := 0) (off := 1) hm91 tO3 rfl rfl rfl rfl rfl rfl) ?_
    intro _ w96 hm95
    refine rwt_nil ?_
    refine qn_then ?_
    refine cw_seq ?_
    refine cw_region ?_
    refine t_rd rfl (rd_move rfl) ?_
    refine t_rd rfl (rd_move rfl) ?_
    obtain ⟨x97, h98, q99⟩ := ob q94; clear q94
    refine t_rd rfl (rd_rem64 h98 rfl rfl) ?_
    refine t_rd rfl (rd_assign rfl) ?_
    refine rwt_nil ?_
    refine qn_then ?_
    refine cw_seq ?_
    refine cw_seq ?_
    refine cw_region ?_
    refine t_rd rfl (rd_move rfl) ?_
    refine t_rd rfl (rd_lss rfl rfl) ?_
    refine rwt_nil ?_
    refine qn_then ?_
    obtain ⟨hb100, q101⟩ | ⟨hb100, q101⟩ := oi q99 <;> clear q99
    · refine cw_t rfl hb100 ?_
      refine cw_region ?_
      refine t_rd rfl (rd_move rfl) ?_
      refine t_rd rfl (rd_move rfl) ?_
      obtain ⟨x102, h103, q104⟩ := ob q101; clear q101
      refine t_rd rfl (rd_add64 h103 rfl rfl) ?_
      refine t_rd rfl (rd_assign rfl) ?_
      refine rwt_nil ?_
      refine qn_then ?_
      refine cw_seq ?_
      refine cw_region ?_
      refine t_rd rfl (rd_move rfl) ?_
      refine t_rd rfl (rd_assign rfl) ?_
      refine rwt_nil ?_
      refine qn_then ?_
      refine cw_ret ?_
      obtain rfl := os q104
      exact ret1 rfl rfl ⟨rfl, (hm95.pick [0] (by decide) rfl)⟩
    · refine cw_f rfl hb100 ?_
      refine cw_skip ?_
      refine qn_then ?_
      refine cw_seq ?_
      refine cw_region ?_
      refine t_rd rfl (rd_move rfl) ?_
      refine t_rd rfl (rd_assign rfl) ?_
      refine rwt_nil ?_
      refine qn_then ?_
      refine cw_ret ?_
      obtain rfl := os q101
      exact ret1 rfl rfl ⟨rfl, (hm95.pick [0] (by decide) rfl)⟩

theorem law08_lists_ok {N : Nat} {a0_l : List Int} {a0_n : Int} {a1 : Int} {res : Int × List Int × List Int} (h : law08_lists N a0_l a0_n a1 = some res) {w : World} {v0_l : Value} {g0 : Nat} (hv0_l : Sl (Old w (fun k => k = g0)) w v0_l a0_l) (hk0 : (blk g0 48 [v0_l, (Value.int .i64 a0_n)]).φ w) :
    CallsR Try.prog 10 [(Value.pointer (some ⟨g0, 0, none⟩)), (Value.int .i64 a1)] w (fun u w' => ∃ (y0 : Value) (y1 : Value), u = (Value.tuple #[y0, y1]) ∧ Mem w (fun k => k = g0) [blk g0 48 [v0_l, (Value.int .i64 res.1)], ownL 3 y0 (res.2.1 : List Int), ownL 3 y1 (res.2.2 : List Int)] w') := by
  unfold law08_lists at h
  refine fn_ok Try.func10 rfl rfl rfl ?_
  have hm0 := Mem.one hk0
  refine cw_seq ?_
  refine cw_region ?_
  refine t_rd rfl (rd_assign rfl) ?_
  refine t_rd rfl (rd_assign rfl) ?_
  refine rwt_nil ?_
  refine qn_then ?_
  refine cw_seq ?_
  refine cw_region ?_
  refine t_rd rfl (rd_assign rfl) ?_
  refine t_rd rfl (rd_assign rfl) ?_
  refine rwt_nil ?_
  refine qn_then ?_
  refine cw_seq ?_
  refine cw_seq ?_
  refine cw_region ?_
  refine t_rd rfl (rd_move rfl) ?_
  refine t_rd rfl (rd_move rfl) ?_
  obtain ⟨x678, h679, q680⟩ := ob h; clear h
  refine t_rd rfl (rd_add64 h679 rfl rfl) ?_
  obtain ⟨r681, h682, q683⟩ := ob q680; clear q680
  refine t_ef rfl (ef_call tf16 rfl (Maker_Next_ok h682 (hv0_l.to_callT (k := 0) hm0 rfl) (hm0.get (k := 0) rfl))) ?_
  rintro _ w685 ⟨e_, hm684⟩
  obtain rfl := e_.symm
  have hm686 := hm0.callT (k := 0) rfl (fun _ h => h) hm684 (fun _ => Iff.rfl)
  refine t_rd rfl (rd_assign rfl) ?_
  refine rwt_nil ?_
  refine qn_then ?_
  refine cw_block ?_
  have hm708 := hm686.addNil (α := Int) 3
  obtain ⟨r768, hit769, q770⟩ := ob q683; clear q683
  refine cw_loop2 (I := fun q envq wq => ∃ (v761 : Value), Sub [(0, (Value.pointer (some ⟨g0, 0, none⟩))), (6, v761), (7, (Value.slice none 0 0)), (8, (Value.int .i64 q.1))] envq ∧ Mem w (fun k => k = g0) [ownL 3 v761 (q.2.2 : List Int), blk g0 48 [v0_l, (Value.int .i64 q.2.1)]] wq) (X := fun eq envq wq => eq = .exit 0 ∧ ∃ (v757 : Value), Sub [(0, (Value.pointer (some ⟨g0, 0, none⟩))), (6, v757), (7, (Value.slice none 0 0))] envq ∧ Mem w (fun k => k = g0) [ownL 3 v757 (r768.2 : List Int), blk g0 48 [v0_l, (Value.int .i64 r768.1)]] wq) hit769 ⟨(Value.slice none 0 0), (by repeat (first | exact Sub.nil _ | refine Sub.cons rfl ?_)), (hm708.pick [0, 1] (by decide) rfl)⟩ ?_ ?_
  · rintro ⟨i758, i759, l760⟩ x763 env764 w765 hf766 hr767 ⟨v761, hs_, hm_⟩
    have hs_ : Sub [(0, (Value.pointer (some ⟨g0, 0, none⟩))), (6, v761), (7, (Value.slice none 0 0)), (8, (Value.int .i64 i758))] env764 := hs_
    have hm771 : Mem w (fun k => k = g0) [ownL 3 v761 (l760 : List Int), blk g0 48 [v0_l, (Value.int .i64 i759)]] w765 := hm_
    refine cw_sub hs_ ?_
    clear hs_ hm_ q770
    have h : law08_lists_l1 N a0_l i758 i759 l760 = some x763 := hf766
    clear hf766
    refine cw_seq ?_
    refine cw_seq ?_
    refine cw_region ?_
    refine t_rd rfl (rd_move rfl) ?_
    refine t_rd rfl (rd_gtr rfl rfl) ?_
    refine rwt_nil ?_
    refine qn_then ?_
    obtain ⟨hb772, q773⟩ | ⟨hb772, q773⟩ := oi h <;> clear h
    · refine cw_t rfl hb772 ?_
      refine cw_skip ?_
      refine qn_then ?_
      refine cw_seq ?_
      refine cw_block ?_
      refine cw_region ?_
      refine t_rd rfl (rd_move rfl) ?_
      refine t_rd rfl (rd_move rfl) ?_
      obtain ⟨r774, h775, q776⟩ := ob q773; clear q773
      refine t_ef rfl (ef_call tf16 rfl (Maker_Next_ok h775 (hv0_l.to_callT (k := 1) hm771 rfl) (hm771.get (k := 1) rfl))) ?_
      rintro _ w778 ⟨e_, hm777⟩
      obtain rfl := e_.symm
      have hm779 := hm771.callT (k := 1) rfl (fun _ h => h) hm777 (fun _ => Iff.rfl)
      refine t_ef rfl (ef_bslice (l := ([r774.2] : List Int)) hm779 tS22 rfl (cs := #[(Value.int .i64 r774.2)]) (by unfold bsl; kernel_rfl) rfl rfl) ?_
      intro v780 w782 hm781
      obtain ⟨l783, h784, q785⟩ := ob q776; clear q776
      refine t_ef rfl (ef_append (k := 1) hm781 tS22 tE3 rfl rfl rfl rfl (hm781.sl 0 rfl) h784) ?_
      intro v786 w788 hm787
      refine t_rd rfl (rd_assign rfl) ?_
      refine rwt_nil ?_
      refine qn_block (qn_then ?_)
      refine cw_region ?_
      refine t_rd rfl (rd_move rfl) ?_
      obtain ⟨x789, h790, q791⟩ := ob q785; clear q785
      refine t_rd rfl (rd_sub64 h790 rfl rfl) ?_
      refine t_rd rfl (rd_assign rfl) ?_
      refine rwt_nil ?_
      refine qn_then ?_
      refine ⟨_, (os q791), v786, (by repeat (first | exact Sub.nil _ | refine Sub.cons rfl ?_)), (hm787.pick [1, 2] (by decide) rfl)⟩
    · refine cw_f rfl hb772 ?_
      refine cw_exit ?_
      refine qx_then (qx_then ?_)
      obtain rfl := hr767 _ (os q773)
      exact ⟨rfl, v761, (by repeat (first | exact Sub.nil _ | refine Sub.cons rfl ?_)), (hm771.pick [0, 1] (by decide) rfl)⟩
  · skip
    intro e env792 w793 hX794
    obtain ⟨rfl, v757, hs795, hm796⟩ := hX794
    refine qx_same (qn_then ?_)
    refine cw_sub hs795 ?_
    refine cw_seq ?_
    refine cw_seq ?_
    refine cw_region ?_
    refine t_rd rfl (rd_assign rfl) ?_
    refine rwt_nil ?_
    refine qn_then ?_
    refine cw_block ?_
    have hm933 := hm796.addNil (α := Int) 3
    obtain ⟨r1215, hit1216, q1217⟩ := ob q770; clear q770
    refine cw_loop2 (I := fun q envq wq => ∃ (v1208 : Value), Sub [(0, (Value.pointer (some ⟨g0, 0, none⟩))), (6, v757), (7, v1208), (9, (Value.int .i64 q.1))] envq ∧ Mem w (fun k => k = g0) [ownL 3 v1208 (q.2.2 : List Int), ownL 3 v757 (r768.2 : List Int), blk g0 48 [v0_l, (Value.int .i64 q.2.1)]] wq) (X := fun eq envq wq => eq = .exit 2 ∧ ∃ (v1204 : Value), Sub [(6, v757), (7, v1204)] envq ∧ Mem w (fun k => k = g0) [ownL 3 v1204 (r1215.2 : List Int), ownL 3 v757 (r768.2 : List Int), blk g0 48 [v0_l, (Value.int .i64 r1215.1)]] wq) hit1216 ⟨(Value.slice none 0 0), (by repeat (first | exact Sub.nil _ | refine Sub.cons rfl ?_)), (hm933.pick [0, 1, 2] (by decide) rfl)⟩ ?_ ?_
    · rintro ⟨i1205, i1206, l1207⟩ x1210 env1211 w1212 hf1213 hr1214 ⟨v1208, hs_, hm_⟩
      have hs_ : Sub [(0, (Value.pointer (some ⟨g0, 0, none⟩))), (6, v757), (7, v1208), (9, (Value.int .i64 i1205))] env1211 := hs_
      have hm1218 : Mem w (fun k => k = g0) [ownL 3 v1208 (l1207 : List Int), ownL 3 v757 (r768.2 : List Int), blk g0 48 [v0_l, (Value.int .i64 i1206)]] w1212 := hm_
      refine cw_sub hs_ ?_
      clear hs_ hm_ q1217
      have h : law08_lists_l2 N a0_l r768 i1205 i1206 l1207 = some x1210 := hf1213
      clear hf1213
      refine cw_seq ?_
      refine cw_seq ?_
      refine cw_region ?_
      refine t_rd rfl (rd_move rfl) ?_
      refine t_rd rfl (rd_move rfl) ?_
      refine t_rd rfl (rd_lenS tS22 rfl (hm1218.sl 1 rfl)) ?_
      refine t_rd rfl (rd_lss rfl rfl) ?_
      refine rwt_nil ?_
      refine qn_then ?_
      obtain ⟨hb1219, q1220⟩ | ⟨hb1219, q1220⟩ := oi h <;> clear h
      · refine cw_t rfl hb1219 ?_
        refine cw_skip ?_
        refine qn_then ?_
        refine cw_seq ?_
        refine cw_block ?_
        refine cw_seq ?_
        refine cw_region ?_
        refine t_rd rfl (rd_move rfl) ?_
        obtain ⟨r1221, h1222, q1223⟩ := ob q1220; clear q1220
        refine t_ef rfl (ef_call tf16 rfl (Maker_Next_ok h1222 (hv0_l.to_callT (k := 2) hm1218 rfl) (hm1218.get (k := 2) rfl))) ?_
        rintro _ w1225 ⟨e_, hm1224⟩
        obtain rfl := e_.symm
        have hm1226 := hm1218.callT (k := 2) rfl (fun _ h => h) hm1224 (fun _ => Iff.rfl)
        refine rwt_nil ?_
        refine qn_then ?_
        refine cw_block ?_
        refine cw_seq ?_
        refine cw_region ?_
        refine t_rd rfl (rd_eql rfl rfl) ?_
        refine t_rd rfl (rd_assign rfl) ?_
        refine rwt_nil ?_
        refine qn_then ?_
        obtain ⟨hb1227, q1228⟩ | ⟨hb1227, q1228⟩ := oi q1223 <;> clear q1223
        · refine cw_t rfl hb1227 ?_
          refine cw_skip ?_
          refine qn_block (qn_block (qn_then ?_))
          refine cw_region ?_
          refine t_rd rfl (rd_move rfl) ?_
          obtain ⟨x1229, h1230, q1231⟩ := ob q1228; clear q1228
          refine t_rd rfl (rd_add64 h1230 rfl rfl) ?_
          refine t_rd rfl (rd_assign rfl) ?_
          refine rwt_nil ?_
          refine qn_then ?_
          refine ⟨_, (os q1231), v1208, (by repeat (first | exact Sub.nil _ | refine Sub.cons rfl ?_)), (hm1226.pick [0, 1, 2] (by decide) rfl)⟩
        · refine cw_f rfl hb1227 ?_
          refine cw_seq ?_
          refine cw_region ?_
          refine t_rd rfl (rd_eql rfl rfl) ?_
          refine t_rd rfl (rd_assign rfl) ?_
          refine rwt_nil ?_
          refine qn_then ?_
          obtain ⟨hb1232, q1233⟩ | ⟨hb1232, q1233⟩ := oi q1228 <;> clear q1228
          · refine cw_t rfl hb1232 ?_
            obtain ⟨w1235, he1237⟩ : ∃ q, q = w1225.drew := ⟨_, rfl⟩
            have hm1236 := hm1226.drew; rw [← he1237] at hm1236
            refine cw_region_s (fun q => (ownL 3 v757 (r768.2 : List Int)).φ q) (cls [6] [7, 8]) mixed ?_
            rintro _ rfl; rw [← he1237]
            refine s_rp (i := 0) rfl (by kernel_rfl) rfl (fun _ => (rd_move rfl)) ?_
            refine s_rp (i := 1) rfl (by kernel_rfl) rfl (fun _ => (rd_move rfl)) ?_
            refine s_rp (i := 2) rfl (by kernel_rfl) rfl (fun _ => (rd_move rfl)) ?_
            obtain ⟨x1256, h1257, q1258⟩ := ob q1233; clear q1233
            refine s_rp (i := 3) rfl (by kernel_rfl) rfl (fun _ => (rd_index tS22 rfl rfl (hm1236.sl 1 rfl) h1257)) ?_
            refine s_rd (i := 4) rfl (by kernel_rfl) rfl (fun w1234 hS => (rd_ld1 tO3 rfl ((sl_of_own hS).cells h1257) (off := 0) rfl)) (hm1236.get (k := 1) rfl) ?_
            refine s_rp (i := 5) rfl (by kernel_rfl) rfl (fun _ => (rd_move rfl)) ?_
            obtain ⟨r1259, h1260, q1261⟩ := ob q1258; clear q1258
            refine s_ef (i := 6) rfl (by kernel_rfl) rfl (ef_call tf16 rfl (Maker_Next_ok h1260 (hv0_l.to_callT (k := 2) hm1236 rfl) (hm1236.get (k := 2) rfl))) (by decide) ?_ ?_
            · rintro _ w1263 ⟨e_, hm1262⟩
              obtain rfl := e_.symm
              have hm1264 := hm1236.callT (k := 2) rfl (fun _ h => h) hm1262 (fun _ => Iff.rfl)
              intro _
              exact (hm1264.get (k := 1) rfl)
            rintro _ w1263 ⟨e_, hm1262⟩
            obtain rfl := e_.symm
            have hm1264 := hm1236.callT (k := 2) rfl (fun _ h => h) hm1262 (fun _ => Iff.rfl)
            refine s_ef (i := 7) rfl (by kernel_rfl) rfl (ef_bslice (l := ([x1256, r1259.2] : List Int)) hm1264 tS22 rfl (cs := #[(Value.int .i64 x1256), (Value.int .i64 r1259.2)]) (by unfold bsl; kernel_rfl) rfl rfl) (by decide) (fun _ _ _ q => absurd q (by decide)) ?_
            intro v1265 w1267 hm1266
            obtain ⟨l1268, h1269, q1270⟩ := ob q1261; clear q1261
            refine s_ef (i := 8) rfl (by kernel_rfl) rfl (ef_append (k := 1) hm1266 tS22 tE3 rfl rfl rfl rfl (hm1266.sl 0 rfl) h1269) (by decide) (fun _ _ _ q => absurd q (by decide)) ?_
            intro v1271 w1273 hm1272
            refine s_rp (i := 9) rfl (by kernel_rfl) rfl (fun _ => (rd_assign rfl)) ?_
            refine s_nil (by kernel_rfl) ?_
            refine qn_block (qn_block (qn_then ?_))
            refine cw_region ?_
            refine t_rd rfl (rd_move rfl) ?_
            obtain ⟨x1274, h1275, q1276⟩ := ob q1270; clear q1270
            refine t_rd rfl (rd_add64 h1275 rfl rfl) ?_
            refine t_rd rfl (rd_assign rfl) ?_
            refine rwt_nil ?_
            refine qn_then ?_
            refine ⟨_, (os q1276), v1271, (by repeat (first | exact Sub.nil _ | refine Sub.cons rfl ?_)), (hm1272.pick [1, 2, 3] (by decide) rfl)⟩
          · refine cw_f rfl hb1232 ?_
            refine cw_seq ?_
            refine cw_region ?_
            refine t_rd rfl (rd_eql rfl rfl) ?_
            refine t_rd rfl (rd_assign rfl) ?_
            refine rwt_nil ?_
            refine qn_then ?_
            obtain ⟨hb1277, q1278⟩ | ⟨hb1277, q1278⟩ := oi q1233 <;> clear q1233
            · refine cw_t rfl hb1277 ?_
              refine cw_region ?_
              refine t_rd rfl (rd_move rfl) ?_
              refine t_rd rfl (rd_move rfl) ?_
              obtain ⟨r1279, h1280, q1281⟩ := ob q1278; clear q1278
              refine t_ef rfl (ef_call tf16 rfl (Maker_Next_ok h1280 (hv0_l.to_callT (k := 2) hm1226 rfl) (hm1226.get (k := 2) rfl))) ?_
              rintro _ w1283 ⟨e_, hm1282⟩
              obtain rfl := e_.symm
              have hm1284 := hm1226.callT (k := 2) rfl (fun _ h => h) hm1282 (fun _ => Iff.rfl)
              refine t_ef rfl (ef_bslice (l := ([r1279.2] : List Int)) hm1284 tS22 rfl (cs := #[(Value.int .i64 r1279.2)]) (by unfold bsl; kernel_rfl) rfl rfl) ?_
              intro v1285 w1287 hm1286
              obtain ⟨l1288, h1289, q1290⟩ := ob q1281; clear q1281
              refine t_ef rfl (ef_append (k := 1) hm1286 tS22 tE3 rfl rfl rfl rfl (hm1286.sl 0 rfl) h1289) ?_
              intro v1291 w1293 hm1292
              refine t_rd rfl (rd_assign rfl) ?_
              refine rwt_nil ?_
              refine qn_block (qn_block (qn_then ?_))
              refine cw_region ?_
              refine t_rd rfl (rd_move rfl) ?_
              obtain ⟨x1294, h1295, q1296⟩ := ob q1290; clear q1290
              refine t_rd rfl (rd_add64 h1295 rfl rfl) ?_
              refine t_rd rfl (rd_assign rfl) ?_
              refine rwt_nil ?_
              refine qn_then ?_
              refine ⟨_, (os q1296), v1291, (by repeat (first | exact Sub.nil _ | refine Sub.cons rfl ?_)), (hm1292.pick [1, 2, 3] (by decide) rfl)⟩
            · refine cw_f rfl hb1277 ?_
              refine cw_seq ?_
              refine cw_region ?_
              refine t_rd rfl (rd_eql rfl rfl) ?_
              refine t_rd rfl (rd_assign rfl) ?_
              refine rwt_nil ?_
              refine qn_then ?_
              obtain ⟨hb1297, q1298⟩ | ⟨hb1297, q1298⟩ := oi q1278 <;> clear q1278
              · refine cw_t rfl hb1297 ?_
                refine cw_seq ?_
                refine cw_region ?_
                refine t_rd rfl (rd_move rfl) ?_
                obtain ⟨x1299, h1300, q1301⟩ := ob q1298; clear q1298
                refine t_rd rfl (rd_add64 h1300 rfl rfl) ?_
                refine t_rd rfl (rd_move rfl) ?_
                refine t_rd rfl (rd_lenS tS22 rfl (hm1226.sl 1 rfl)) ?_
                refine t_rd rfl (rd_lss rfl rfl) ?_
                refine rwt_nil ?_
                refine qn_then ?_
                obtain ⟨hb1302, q1303⟩ | ⟨hb1302, q1303⟩ := oi q1301 <;> clear q1301
                · refine cw_t rfl hb1302 ?_
                  refine cw_seq ?_
                  obtain ⟨w1305, he1307⟩ : ∃ q, q = w1225.drew := ⟨_, rfl⟩
                  have hm1306 := hm1226.drew; rw [← he1307] at hm1306
                  refine cw_region_s (fun q => q = w1305) (cls [] [10, 11]) mixed ?_
                  rintro _ rfl; rw [← he1307]
                  refine s_rp (i := 0) rfl (by kernel_rfl) rfl (fun _ => (rd_move rfl)) ?_
                  refine s_rp (i := 1) rfl (by kernel_rfl) rfl (fun _ => (rd_move rfl)) ?_
                  refine s_rp (i := 2) rfl (by kernel_rfl) rfl (fun _ => (rd_move rfl)) ?_
                  obtain ⟨x1308, h1309, q1310⟩ := ob q1303; clear q1303
                  refine s_rp (i := 3) rfl (by kernel_rfl) rfl (fun _ => (rd_add64 h1309 rfl rfl)) ?_
                  obtain ⟨x1311, h1312, q1313⟩ := ob q1310; clear q1310
                  refine s_rp (i := 4) rfl (by kernel_rfl) rfl (fun _ => (rd_index tS22 rfl rfl (hm1306.sl 1 rfl) h1312)) ?_
                  refine s_rd (i := 5) rfl (by kernel_rfl) rfl (fun _ hS => by rw [hS]; exact (rd_ld1 tO3 rfl ((hm1306.sl 1 rfl).cells h1312) (off := 0) rfl)) rfl ?_
                  refine s_rp (i := 6) rfl (by kernel_rfl) rfl (fun _ => (rd_move rfl)) ?_
                  refine s_rp (i := 7) rfl (by kernel_rfl) rfl (fun _ => (rd_move rfl)) ?_
                  obtain ⟨x1314, h1315, q1316⟩ := ob q1313; clear q1313
                  refine s_rp (i := 8) rfl (by kernel_rfl) rfl (fun _ => (rd_index tS22 rfl rfl (hm1306.sl 1 rfl) h1315)) ?_
                  refine s_rd (i := 9) rfl (by kernel_rfl) rfl (fun _ hS => by rw [hS]; exact (rd_ld1 tO3 rfl ((hm1306.sl 1 rfl).cells h1315) (off := 0) rfl)) rfl ?_
                  refine s_ef (i := 10) rfl (by kernel_rfl) rfl (ef_bslice (l := ([x1311, x1314] : List Int)) hm1306 tS22 rfl (cs := #[(Value.int .i64 x1311), (Value.int .i64 x1314)]) (by unfold bsl; kernel_rfl) rfl rfl) (by decide) (fun _ _ _ q => absurd q (by decide)) ?_
                  intro v1317 w1319 hm1318
                  obtain ⟨l1320, h1321, q1322⟩ := ob q1316; clear q1316
                  refine s_ef (i := 11) rfl (by kernel_rfl) rfl (ef_append (k := 1) hm1318 tS22 tE3 rfl rfl rfl rfl (hm1318.sl 0 rfl) h1321) (by decide) (fun _ _ _ q => absurd q (by decide)) ?_
                  intro v1323 w1325 hm1324
                  refine s_rp (i := 12) rfl (by kernel_rfl) rfl (fun _ => (rd_assign rfl)) ?_
                  refine s_nil (by kernel_rfl) ?_
                  refine qn_then ?_
                  refine cw_region ?_
                  refine t_rd rfl (rd_move rfl) ?_
                  obtain ⟨x1326, h1327, q1328⟩ := ob q1322; clear q1322
                  refine t_rd rfl (rd_add64 h1327 rfl rfl) ?_
                  refine t_rd rfl (rd_assign rfl) ?_
                  refine rwt_nil ?_
                  refine qn_block (qn_block (qn_then ?_))
                  refine cw_region ?_
                  refine t_rd rfl (rd_move rfl) ?_
                  obtain ⟨x1329, h1330, q1331⟩ := ob q1328; clear q1328
                  refine t_rd rfl (rd_add64 h1330 rfl rfl) ?_
                  refine t_rd rfl (rd_assign rfl) ?_
                  refine rwt_nil ?_
                  refine qn_then ?_
                  refine ⟨_, (os q1331), v1323, (by repeat (first | exact Sub.nil _ | refine Sub.cons rfl ?_)), (hm1324.pick [1, 2, 3] (by decide) rfl)⟩
                · refine cw_f rfl hb1302 ?_
                  refine cw_skip ?_
                  refine qn_block (qn_block (qn_then ?_))
                  refine cw_region ?_
                  refine t_rd rfl (rd_move rfl) ?_
                  obtain ⟨x1332, h1333, q1334⟩ := ob q1303; clear q1303
                  refine t_rd rfl (rd_add64 h1333 rfl rfl) ?_
                  refine t_rd rfl (rd_assign rfl) ?_
                  refine rwt_nil ?_
                  refine qn_then ?_
                  refine ⟨_, (os q1334), v1208, (by repeat (first | exact Sub.nil _ | refine Sub.cons rfl ?_)), (hm1226.pick [0, 1, 2] (by decide) rfl)⟩
              · refine cw_f rfl hb1297 ?_
                refine cw_region ?_
                refine t_rd rfl (rd_move rfl) ?_
                refine t_rd rfl (rd_move rfl) ?_
                refine t_rd rfl (rd_move rfl) ?_
                obtain ⟨x1335, h1336, q1337⟩ := ob q1298; clear q1298
                refine t_rd rfl (rd_index tS22 rfl rfl (hm1226.sl 1 rfl) h1336) ?_
                refine t_rd rfl (rd_ld1 tO3 rfl ((hm1226.sl 1 rfl).cells h1336) (off := 0) rfl) ?_
                refine t_ef rfl (ef_bslice (l := ([x1335] : List Int)) hm1226 tS22 rfl (cs := #[(Value.int .i64 x1335)]) (by unfold bsl; kernel_rfl) rfl rfl) ?_
                intro v1338 w1340 hm1339
                obtain ⟨l1341, h1342, q1343⟩ := ob q1337; clear q1337
                refine t_ef rfl (ef_append (k := 1) hm1339 tS22 tE3 rfl rfl rfl rfl (hm1339.sl 0 rfl) h1342) ?_
                intro v1344 w1346 hm1345
                refine t_rd rfl (rd_assign rfl) ?_
                refine rwt_nil ?_
                refine qn_block (qn_block (qn_then ?_))
                refine cw_region ?_
                refine t_rd rfl (rd_move rfl) ?_
                obtain ⟨x1347, h1348, q1349⟩ := ob q1343; clear q1343
                refine t_rd rfl (rd_add64 h1348 rfl rfl) ?_
                refine t_rd rfl (rd_assign rfl) ?_
                refine rwt_nil ?_
                refine qn_then ?_
                refine ⟨_, (os q1349), v1344, (by repeat (first | exact Sub.nil _ | refine Sub.cons rfl ?_)), (hm1345.pick [1, 2, 3] (by decide) rfl)⟩
      · refine cw_f rfl hb1219 ?_
        refine cw_exit ?_
        refine qx_then (qx_then ?_)
        obtain rfl := hr1214 _ (os q1220)
        exact ⟨rfl, v1208, (by repeat (first | exact Sub.nil _ | refine Sub.cons rfl ?_)), (hm1218.pick [0, 1, 2] (by decide) rfl)⟩
    · skip
      intro e env1350 w1351 hX1352
      obtain ⟨rfl, v1204, hs1353, hm1354⟩ := hX1352
      refine qx_same (qn_then ?_)
      refine cw_sub hs1353 ?_
      refine cw_seq ?_
      refine cw_region ?_
      refine t_rd rfl (rd_move rfl) ?_
      refine t_rd rfl (rd_move rfl) ?_
      refine t_rd rfl (rd_assign rfl) ?_
      refine t_rd rfl (rd_assign rfl) ?_
      refine rwt_nil ?_
      refine qn_then ?_
      refine cw_ret ?_
      obtain rfl := os q1217
      exact ret2 rfl rfl rfl ⟨v757, v1204, rfl, (hm1354.pick [2, 1, 0] (by decide) rfl)⟩

theorem reconcile_long_ok {N : Nat} {a0 : List Int} {a1 : List Int} {res : Bool} (h : reconcile_long N a0 a1 = some res) {w : World} {v0 : Value} {v1 : Value} (hv0 : Sl (Old w No) w v0 a0) (hv1 : Sl (Old w No) w v1 a1) :
    CallsR Try.prog 24 [v0, v1] w (fun u w' => u = (Value.bool res) ∧ Mem w No [] w') := by
  unfold reconcile_long at h
  refine fn_ok Try.func24 rfl rfl rfl ?_
  have hm0 := Mem.nil w
  refine cw_seq ?_
  refine cw_region ?_
  refine t_rd rfl (rd_assign rfl) ?_
  refine rwt_nil ?_
  refine qn_then ?_
  refine cw_seq ?_
  refine cw_region ?_
  refine t_rd rfl (rd_move rfl) ?_
  refine t_rd rfl (rd_lenS tS22 rfl (hv0.of_old hm0)) ?_
  refine t_rd rfl (rd_gtr rfl rfl) ?_
  refine t_rd rfl (rd_move rfl) ?_
  refine t_rdg rfl rfl rfl rfl (gv_f _) (fun hg1 => (rd_move rfl)) ?_
  refine t_rdg rfl rfl rfl rfl (gv_f _) (fun hg2 => (rd_lenS tS22 (gvx rfl hg2) (hv1.of_old hm0))) ?_
  refine t_rdg rfl rfl rfl rfl (gv_f _) (fun hg3 => (rd_gtr (gvx rfl hg3) rfl)) ?_
  refine t_rd rfl (rd_or rfl (fun hc4 => (gvx rfl (bnotIt hc4)))) ?_
  refine t_rd rfl (rd_assign rfl) ?_
  refine rwt_nil ?_
  refine qn_then ?_
  refine cw_ret ?_
  obtain rfl := os h
  exact ret1 rfl rfl ⟨rfl, (hm0.pick [] (by decide) rfl)⟩

theorem reconcile_table_ok {N : Nat} {a0 : List Int} {a1 : List Int} {a2 : Int} {res : List (List Int)} (h : reconcile_table N a0 a1 a2 = some res) {w : World} {v0 : Value} {v1 : Value} (hv0 : Sl (Old w No) w v0 a0) (hv1 : Sl (Old w No) w v1 a1) :
    CallsR Try.prog 25 [v0, v1, (Value.int .i64 a2)] w (fun u w' => ∃ (zy0 : List Hdr) (y1 : Value), u = y1 ∧ Mem w No [ownL 22 y1 (zy0 : List Hdr), rowsC 3 zy0 (res : List (List Int)) none] w') := by
  unfold reconcile_table at h
  refine fn_ok Try.func25 rfl rfl rfl ?_
  have hm0 := Mem.nil w
  refine cw_seq ?_
  refine cw_region ?_
  refine t_rd rfl (rd_assign rfl) ?_
  refine rwt_nil ?_
  refine qn_then ?_
  refine cw_seq ?_
  refine cw_region ?_
  refine t_rd rfl (rd_move rfl) ?_
  refine t_rd rfl (rd_lenS tS22 rfl (hv0.of_old hm0)) ?_
  obtain ⟨x1, h2, q3⟩ := ob h; clear h
  refine t_rd rfl (rd_add64 h2 rfl rfl) ?_
  obtain ⟨l4, h5, q6⟩ := ob q3; clear q3
  refine t_ef rfl (ef_make (z := nilH) hm0 tS33 tE22 rfl rfl rfl (mkL_h h5)) ?_
  intro v7 w9 hm8
  have hm10 := hm8.rowsRep (α := Int) 3 h5
  refine t_rd rfl (rd_assign rfl) ?_
  refine rwt_nil ?_
  refine qn_then ?_
  refine cw_seq ?_
  refine cw_seq ?_
  refine cw_region ?_
  refine t_rd rfl (rd_move rfl) ?_
  refine t_rd rfl (rd_lenS tS33 rfl ((Nl.mk (hm10.sl_call 1 rfl) (hm10.rows_call 0 rfl)).sl)) ?_
  refine t_rd rfl (rd_move rfl) ?_
  refine rwt_nil ?_
  refine qn_then ?_
  refine cw_block ?_
  obtain ⟨r232, hit233, q234⟩ := ob q6; clear q6
  refine cw_loop2 (I := fun q envq wq => ∃ (v224 : Value) (zs225 : List Hdr), Sub [(1, v1), (2, (Value.int .i64 a2)), (7, v224), (15, (Value.int .i64 (List.length l4 : Int))), (16, (Value.int .i64 q.1))] envq ∧ Mem w No [rowsC 3 zs225 (q.2 : List (List Int)) none, ownL 22 v224 (zs225 : List Hdr)] wq) (X := fun eq envq wq => eq = .exit 0 ∧ ∃ (v220 : Value) (zs221 : List Hdr), Sub [(7, v220)] envq ∧ Mem w No [rowsC 3 zs221 (r232 : List (List Int)) none, ownL 22 v220 (zs221 : List Hdr)] wq) hit233 ⟨v7, (List.replicate (Int.toNat x1) nilH), (by repeat (first | exact Sub.nil _ | refine Sub.cons rfl ?_)), (hm10.pick [0, 1] (by decide) rfl)⟩ ?_ ?_
  · rintro ⟨i222, l223⟩ x227 env228 w229 hf230 hr231 ⟨v224, zs225, hs_, hm_⟩
    have hs_ : Sub [(1, v1), (2, (Value.int .i64 a2)), (7, v224), (15, (Value.int .i64 (List.length l4 : Int))), (16, (Value.int .i64 i222))] env228 := hs_
    have hm235 : Mem w No [rowsC 3 zs225 (l223 : List (List Int)) none, ownL 22 v224 (zs225 : List Hdr)] w229 := hm_
    refine cw_sub hs_ ?_
    clear hs_ hm_ q234
    have h : reconcile_table_l3 N a1 a2 l4 i222 l223 = some x227 := hf230
    clear hf230
    refine cw_seq ?_
    refine cw_region ?_
    refine t_rd rfl (rd_lss rfl rfl) ?_
    refine rwt_nil ?_
    refine qn_then ?_
    refine cw_seq ?_
    obtain ⟨hb236, q237⟩ | ⟨hb236, q237⟩ := oi h <;> clear h
    · refine cw_t rfl hb236 ?_
      refine cw_skip ?_
      refine qn_then ?_
      refine cw_seq ?_
      refine cw_block ?_
      refine cw_seq ?_
      refine cw_region ?_
      refine t_rd rfl (rd_move rfl) ?_
      refine t_rd rfl (rd_assign rfl) ?_
      refine rwt_nil ?_
      refine qn_then ?_
      refine cw_seq ?_
      refine cw_region ?_
      refine t_rd rfl (rd_move rfl) ?_
      refine t_rd rfl (rd_move rfl) ?_
      refine t_rd rfl (rd_move rfl) ?_
      refine t_rd rfl (rd_lenS tS22 rfl (hv1.of_old hm235)) ?_
      obtain ⟨x238, h239, q240⟩ := ob q237; clear q237
      refine t_rd rfl (rd_add64 h239 rfl rfl) ?_
      obtain ⟨l241, h242, q243⟩ := ob q240; clear q240
      refine t_ef rfl (ef_make hm235 tS22 tE3 rfl rfl rfl h242) ?_
      intro v244 w246 hm245
      obtain ⟨x247, h248, q249⟩ := ob q243; clear q243
      refine t_rd rfl (rd_index tS33 rfl rfl ((Nl.mk (hm245.sl_call 2 rfl) (hm245.rows_call 1 rfl)).sl) h248) ?_
      obtain ⟨zd250, ez251⟩ : ∃ z : Hdr, z.1 = v244 := ⟨⟨v244, sl_one (hm245.sl 0 rfl)⟩, rfl⟩
      obtain ⟨zd252, hz253⟩ := (Nl.mk (hm245.sl_call 2 rfl) (hm245.rows_call 1 rfl)).row h248
      have hm254 := hm245.pick [1, 0, 2] (L' := [rowsC 3 zs225 (l223 : List (List Int)) none, ownL 3 v244 (l241 : List Int), ownL 22 v224 (zs225 : List Hdr)]) (by decide) rfl
      have hm255 := hm254.hole (Int.toNat i222)
      refine t_ef0 (ef_stl (k := 2) (off := 0) (x' := zd250) hm255 tO22 rfl rfl (sl_one (hm255.sl 1 rfl)) rfl hz253 (by show [v244] = [zd250.1]; rw [ez251]) rfl) ?_
      intro _ w257 hm256
      have hm258 := hm256.fill ez251
      refine rwt_nil ?_
      refine qn_then ?_
      refine cw_seq ?_
      refine cw_region ?_
      refine t_rd rfl (rd_move rfl) ?_
      refine t_rd rfl (rd_move rfl) ?_
      obtain ⟨x259, h260, q261⟩ := ob q249; clear q249
      refine t_rd rfl (rd_index tS33 rfl rfl ((Nl.mk (hm258.sl_call 1 rfl) (hm258.rows_call 0 rfl)).sl) h260) ?_
      obtain ⟨zd262, hz263⟩ := (Nl.mk (hm258.sl_call 1 rfl) (hm258.rows_call 0 rfl)).row h260
      refine t_rd rfl (rd_ld1 tO22 rfl ((Nl.mk (hm258.sl_call 1 rfl) (hm258.rows_call 0 rfl)).cells hz263) (off := 0) rfl) ?_
      refine t_rd rfl (rd_lenS tS22 rfl ((Nl.mk (hm258.sl_call 1 rfl) (hm258.rows_call 0 rfl)).get hz263 h260)) ?_
      refine t_rd rfl (rd_move rfl) ?_
      refine rwt_nil ?_
      refine qn_then ?_
      refine cw_block ?_
      obtain ⟨r311, hit312, q313⟩ := ob q261; clear q261
      refine cw_loop2 (I := fun q envq wq => ∃ (v303 : Value) (zs304 : List Hdr), Sub [(1, v1), (2, (Value.int .i64 a2)), (7, v303), (8, (Value.int .i64 i222)), (15, (Value.int .i64 (List.length l4 : Int))), (16, (Value.int .i64 i222)), (30, (Value.int .i64 (List.length x259 : Int))), (31, (Value.int .i64 q.1))] envq ∧ Mem w No [rowsC 3 zs304 (q.2 : List (List Int)) none, ownL 22 v303 (zs304 : List Hdr)] wq) (X := fun eq envq wq => eq = .exit 2 ∧ ∃ (v299 : Value) (zs300 : List Hdr), Sub [(1, v1), (2, (Value.int .i64 a2)), (7, v299), (15, (Value.int .i64 (List.length l4 : Int))), (16, (Value.int .i64 i222))] envq ∧ Mem w No [rowsC 3 zs300 (r311 : List (List Int)) none, ownL 22 v299 (zs300 : List Hdr)] wq) hit312 ⟨v224, (List.set zs225 (Int.toNat i222) zd250), (by repeat (first | exact Sub.nil _ | refine Sub.cons rfl ?_)), (hm258.pick [0, 1] (by decide) rfl)⟩ ?_ ?_
      · rintro ⟨i301, l302⟩ x306 env307 w308 hf309 hr310 ⟨v303, zs304, hs_, hm_⟩
        have hs_ : Sub [(1, v1), (2, (Value.int .i64 a2)), (7, v303), (8, (Value.int .i64 i222)), (15, (Value.int .i64 (List.length l4 : Int))), (16, (Value.int .i64 i222)), (30, (Value.int .i64 (List.length x259 : Int))), (31, (Value.int .i64 i301))] env307 := hs_
        have hm314 : Mem w No [rowsC 3 zs304 (l302 : List (List Int)) none, ownL 22 v303 (zs304 : List Hdr)] w308 := hm_
        refine cw_sub hs_ ?_
        clear hs_ hm_ q313
        have h : reconcile_table_l4 N a2 i222 x259 i301 l302 = some x306 := hf309
        clear hf309
        refine cw_seq ?_
        refine cw_region ?_
        refine t_rd rfl (rd_lss rfl rfl) ?_
        refine rwt_nil ?_
        refine qn_then ?_
        refine cw_seq ?_
        obtain ⟨hb315, q316⟩ | ⟨hb315, q316⟩ := oi h <;> clear h
        · refine cw_t rfl hb315 ?_
          refine cw_skip ?_
          refine qn_then ?_
          refine cw_seq ?_
          refine cw_block ?_
          refine cw_seq ?_
          refine cw_region ?_
          refine t_rd rfl (rd_move rfl) ?_
          refine t_rd rfl (rd_assign rfl) ?_
          refine rwt_nil ?_
          refine qn_then ?_
          refine cw_region ?_
          refine t_rd rfl (rd_move rfl) ?_
          refine t_rd rfl (rd_move rfl) ?_
          obtain ⟨x317, h318, q319⟩ := ob q316; clear q316
          refine t_rd rfl (rd_index tS33 rfl rfl ((Nl.mk (hm314.sl_call 1 rfl) (hm314.rows_call 0 rfl)).sl) h318) ?_
          obtain ⟨zd320, hz321⟩ := (Nl.mk (hm314.sl_call 1 rfl) (hm314.rows_call 0 rfl)).row h318
          refine t_rd rfl (rd_ld1 tO22 rfl ((Nl.mk (hm314.sl_call 1 rfl) (hm314.rows_call 0 rfl)).cells hz321) (off := 0) rfl) ?_
          refine t_rd rfl (rd_move rfl) ?_
          refine t_rd rfl (rd_move rfl) ?_
          obtain ⟨x322, h323, q324⟩ := ob q319; clear q319
          refine t_rd rfl (rd_index tS22 rfl rfl ((Nl.mk (hm314.sl_call 1 rfl) (hm314.rows_call 0 rfl)).get hz321 h318) h323) ?_
          refine t_ef0 (ef_strow (off := 0) (x' := a2) hm314 tO3 hz321 h318 rfl rfl rfl h323 rfl rfl) ?_
          intro _ w326 hm325
          refine rwt_nil ?_
          refine qn_block (qn_then ?_)
          refine cw_region ?_
          obtain ⟨x327, h328, q329⟩ := ob q324; clear q324
          refine t_rd rfl (rd_add64 h328 rfl rfl) ?_
          refine t_rd rfl (rd_move rfl) ?_
          refine rwt_nil ?_
          refine qn_then ?_
          refine ⟨_, (os q329), v303, zs304, (by repeat (first | exact Sub.nil _ | refine Sub.cons rfl ?_)), (hm325.pick [0, 1] (by decide) rfl)⟩
        · refine cw_f rfl hb315 ?_
          refine cw_exit ?_
          refine qx_then (qx_then ?_)
          obtain rfl := hr310 _ (os q316)
          exact ⟨rfl, v303, zs304, (by repeat (first | exact Sub.nil _ | refine Sub.cons rfl ?_)), (hm314.pick [0, 1] (by decide) rfl)⟩
      · skip
        intro e env330 w331 hX332
        obtain ⟨rfl, v299, zs300, hs333, hm334⟩ := hX332
        refine qx_same (qn_block (qn_then ?_))
        refine cw_sub hs333 ?_
        refine cw_region ?_
        obtain ⟨x335, h336, q337⟩ := ob q313; clear q313
        refine t_rd rfl (rd_add64 h336 rfl rfl) ?_
        refine t_rd rfl (rd_move rfl) ?_
        refine rwt_nil ?_
        refine qn_then ?_
        refine ⟨_, (os q337), v299, zs300, (by repeat (first | exact Sub.nil _ | refine Sub.cons rfl ?_)), (hm334.pick [0, 1] (by decide) rfl)⟩
    · refine cw_f rfl hb236 ?_
      refine cw_exit ?_
      refine qx_then (qx_then ?_)
      obtain rfl := hr231 _ (os q237)
      exact ⟨rfl, v224, zs225, (by repeat (first | exact Sub.nil _ | refine Sub.cons rfl ?_)), (hm235.pick [0, 1] (by decide) rfl)⟩
  · skip
    intro e env338 w339 hX340
    obtain ⟨rfl, v220, zs221, hs341, hm342⟩ := hX340
    refine qx_same (qn_then ?_)
    refine cw_sub hs341 ?_
    refine cw_seq ?_
    refine cw_region ?_
    refine t_rd rfl (rd_move rfl) ?_
    refine t_rd rfl (rd_assign rfl) ?_
    refine rwt_nil ?_
    refine qn_then ?_
    refine cw_ret ?_
    obtain rfl := os q234
    exact ret1 rfl rfl ⟨zs221, v220, rfl, (hm342.pick [1, 0] (by decide) rfl)⟩

theorem reconcile_step_ok {N : Nat} {a0 : List Int} {a1 : List Int} {a2 : Int} {a3 : Int} {a4 : Int} {res : Int × Int × Bool} (h : reconcile_step N a0 a1 a2 a3 a4 = some res) {w : World} {v0 : Value} {v1 : Value} (hv0 : Sl (Old w No) w v0 a0) (hv1 : Sl (Old w No) w v1 a1) :
    CallsR Try.prog 26 [v0, v1, (Value.int .i64 a2), (Value.int .i64 a3), (Value.int .i64 a4)] w (fun u w' => u = (Value.tuple #[(Value.int .i64 res.1), (Value.int .i64 res.2.1), (Value.bool res.2.2)]) ∧ Mem w No [] w') := by
  unfold reconcile_step at h
  refine fn_ok Try.func26 rfl rfl rfl ?_
  have hm0 := Mem.nil w
  refine cw_seq ?_
  refine cw_region ?_
  refine t_rd rfl (rd_assign rfl) ?_
  refine t_rd rfl (rd_assign rfl) ?_
  refine t_rd rfl (rd_assign rfl) ?_
  refine rwt_nil ?_
  refine qn_then ?_
  refine cw_seq ?_
  refine cw_region ?_
  refine t_rd rfl (rd_move rfl) ?_
  refine t_rd rfl (rd_move rfl) ?_
  refine t_rd rfl (rd_lenS tS22 rfl (hv0.of_old hm0)) ?_
  refine t_rd rfl (rd_lss rfl rfl) ?_
  refine t_rd rfl (rd_move rfl) ?_
  refine t_rdg rfl rfl rfl rfl (gv_t _) (fun hg1 => (rd_move rfl)) ?_
  refine t_rdg rfl rfl rfl rfl (gv_t _) (fun hg2 => (rd_move rfl)) ?_
  refine t_rdg rfl rfl rfl rfl (gv_t _) (fun hg3 => (rd_lenS tS22 (gvx rfl hg3) (hv1.of_old hm0))) ?_
  refine t_rdg rfl rfl rfl rfl (gv_t _) (fun hg4 => (rd_lss (gvx rfl hg4) (gvx rfl hg4))) ?_
  refine t_rd rfl (rd_and rfl (fun hc5 => (gvx rfl hc5))) ?_
  refine t_rd rfl (rd_assign rfl) ?_
  refine rwt_nil ?_
  refine qn_then ?_
  refine cw_seq ?_
  refine cw_seq ?_
  refine cw_region ?_
  refine t_rd rfl (rd_move rfl) ?_
  refine rwt_nil ?_
  refine qn_then ?_
  refine cw_block ?_
  refine cw_seq ?_
  refine cw_region ?_
  refine t_rd rfl (rd_eql rfl rfl) ?_
  refine t_rd rfl (rd_assign rfl) ?_
  refine rwt_nil ?_
  refine qn_then ?_
  obtain ⟨hb6, q7⟩ | ⟨hb6, q7⟩ := oi h <;> clear h
  · refine cw_t rfl hb6 ?_
    refine cw_seq ?_
    obtain ⟨w9, he11⟩ : ∃ q, q = w.drew := ⟨_, rfl⟩
    have hm10 := hm0.drew; rw [← he11] at hm10
    refine cw_region_s (fun q => q = w9) (cls [] []) mixed ?_
    rintro _ rfl; rw [← he11]
    refine s_rp (i := 0) rfl (by kernel_rfl) rfl (fun _ => (rd_move rfl)) ?_
    obtain ⟨x12, h13, q14⟩ := ob q7; clear q7
    refine s_rp (i := 1) rfl (by kernel_rfl) rfl (fun _ => (rd_add64 h13 rfl rfl)) ?_
    refine s_rp (i := 2) rfl (by kernel_rfl) rfl (fun _ => (rd_move rfl)) ?_
    obtain ⟨x15, h16, q17⟩ := ob q14; clear q14
    refine s_rp (i := 3) rfl (by kernel_rfl) rfl (fun _ => (rd_add64 h16 rfl rfl)) ?_
    refine s_rp (i := 4) rfl (by kernel_rfl) rfl (fun _ => (rd_move rfl)) ?_
    refine s_rp (i := 5) rfl (by kernel_rfl) rfl (fun _ => (rd_move rfl)) ?_
    refine s_rpg (i := 6) rfl (by kernel_rfl) rfl rfl rfl rfl (gv_t _) (fun hg18 _ => (rd_move rfl)) ?_
    refine s_rpg (i := 7) rfl (by kernel_rfl) rfl rfl rfl rfl (gv_t _) (fun hg19 _ => (rd_move rfl)) ?_
    obtain ⟨x21, h22, q23⟩ := ob q17; clear q17
    refine s_rpg (i := 8) rfl (by kernel_rfl) rfl rfl rfl rfl (gv_t _) (fun hg20 _ => (rd_index tS22 (gvx rfl hg20) (gvx rfl hg20) (hv0.of_old hm10) (gO_t h22 hg20))) ?_
    refine s_rdg (i := 9) rfl (by kernel_rfl) rfl rfl rfl rfl (gv_t _) (fun hg24 => (fun _ hS => by rw [hS]; exact (rd_ld1 tO3 (gvx rfl hg24) ((hv0.of_old hm10).cells (gO_t h22 hg24)) (off := 0) rfl))) rfl ?_
    refine s_rpg (i := 10) rfl (by kernel_rfl) rfl rfl rfl rfl (gv_t _) (fun hg25 _ => (rd_move rfl)) ?_
    refine s_rpg (i := 11) rfl (by kernel_rfl) rfl rfl rfl rfl (gv_t _) (fun hg26 _ => (rd_move rfl)) ?_
    obtain ⟨x28, h29, q30⟩ := ob q23; clear q23
    refine s_rpg (i := 12) rfl (by kernel_rfl) rfl rfl rfl rfl (gv_t _) (fun hg27 _ => (rd_index tS22 (gvx rfl hg27) (gvx rfl hg27) (hv1.of_old hm10) (gO_t h29 hg27))) ?_
    refine s_rdg (i := 13) rfl (by kernel_rfl) rfl rfl rfl rfl (gv_t _) (fun hg31 => (fun _ hS => by rw [hS]; exact (rd_ld1 tO3 (gvx rfl hg31) ((hv1.of_old hm10).cells (gO_t h29 hg31)) (off := 0) rfl))) rfl ?_
    refine s_rpg (i := 14) rfl (by kernel_rfl) rfl rfl rfl rfl (gv_t _) (fun hg32 _ => (rd_eql (gvx rfl hg32) (gvx rfl hg32))) ?_
    refine s_rp (i := 15) rfl (by kernel_rfl) rfl (fun _ => (rd_and rfl (fun hc33 => (gvx rfl hc33)))) ?_
    refine s_rp (i := 16) rfl (by kernel_rfl) rfl (fun _ => (rd_assign rfl)) ?_
    refine s_rp (i := 17) rfl (by kernel_rfl) rfl (fun _ => (rd_assign rfl)) ?_
    refine s_rp (i := 18) rfl (by kernel_rfl) rfl (fun _ => (rd_assign rfl)) ?_
    refine s_nil (by kernel_rfl) ?_
    refine qn_then ?_
    refine cw_ret ?_
    refine qr_block (qr_then ?_)
    obtain rfl := os q30
    exact ret3 rfl rfl rfl rfl ⟨rfl, (hm10.pick [] (by decide) rfl)⟩
  · refine cw_f rfl hb6 ?_
    refine cw_seq ?_
    refine cw_region ?_
    refine t_rd rfl (rd_eql rfl rfl) ?_
    refine t_rd rfl (rd_assign rfl) ?_
    refine rwt_nil ?_
    refine qn_then ?_
    obtain ⟨hb34, q35⟩ | ⟨hb34, q35⟩ := oi q7 <;> clear q7
    · refine cw_t rfl hb34 ?_
      refine cw_seq ?_
      obtain ⟨w37, he39⟩ : ∃ q, q = w.drew := ⟨_, rfl⟩
      have hm38 := hm0.drew; rw [← he39] at hm38
      refine cw_region_s (fun q => q = w37) (cls [] []) mixed ?_
      rintro _ rfl; rw [← he39]
      refine s_rp (i := 0) rfl (by kernel_rfl) rfl (fun _ => (rd_move rfl)) ?_
      obtain ⟨x40, h41, q42⟩ := ob q35; clear q35
      refine s_rp (i := 1) rfl (by kernel_rfl) rfl (fun _ => (rd_add64 h41 rfl rfl)) ?_
      refine s_rp (i := 2) rfl (by kernel_rfl) rfl (fun _ => (rd_move rfl)) ?_
      obtain ⟨x43, h44, q45⟩ := ob q42; clear q42
      refine s_rp (i := 3) rfl (by kernel_rfl) rfl (fun _ => (rd_add64 h44 rfl rfl)) ?_
      refine s_rp (i := 4) rfl (by kernel_rfl) rfl (fun _ => (rd_move rfl)) ?_
      refine s_rp (i := 5) rfl (by kernel_rfl) rfl (fun _ => (rd_move rfl)) ?_
      refine s_rpg (i := 6) rfl (by kernel_rfl) rfl rfl rfl rfl (gv_t _) (fun hg46 _ => (rd_move rfl)) ?_
      refine s_rpg (i := 7) rfl (by kernel_rfl) rfl rfl rfl rfl (gv_t _) (fun hg47 _ => (rd_move rfl)) ?_
      obtain ⟨x49, h50, q51⟩ := ob q45; clear q45
      refine s_rpg (i := 8) rfl (by kernel_rfl) rfl rfl rfl rfl (gv_t _) (fun hg48 _ => (rd_index tS22 (gvx rfl hg48) (gvx rfl hg48) (hv0.of_old hm38) (gO_t h50 hg48))) ?_
      refine s_rdg (i := 9) rfl (by kernel_rfl) rfl rfl rfl rfl (gv_t _) (fun hg52 => (fun _ hS => by rw [hS]; exact (rd_ld1 tO3 (gvx rfl hg52) ((hv0.of_old hm38).cells (gO_t h50 hg52)) (off := 0) rfl))) rfl ?_
      refine s_rpg (i := 10) rfl (by kernel_rfl) rfl rfl rfl rfl (gv_t _) (fun hg53 _ => (rd_move rfl)) ?_
      refine s_rpg (i := 11) rfl (by kernel_rfl) rfl rfl rfl rfl (gv_t _) (fun hg54 _ => (rd_move rfl)) ?_
      obtain ⟨x56, h57, q58⟩ := ob q51; clear q51
      refine s_rpg (i := 12) rfl (by kernel_rfl) rfl rfl rfl rfl (gv_t _) (fun hg55 _ => (rd_index tS22 (gvx rfl hg55) (gvx rfl hg55) (hv1.of_old hm38) (gO_t h57 hg55))) ?_
      refine s_rdg (i := 13) rfl (by kernel_rfl) rfl rfl rfl rfl (gv_t _) (fun hg59 => (fun _ hS => by rw [hS]; exact (rd_ld1 tO3 (gvx rfl hg59) ((hv1.of_old hm38).cells (gO_t h57 hg59)) (off := 0) rfl))) rfl ?_
      refine s_rpg (i := 14) rfl (by kernel_rfl) rfl rfl rfl rfl (gv_t _) (fun hg60 _ => (rd_neq (gvx rfl hg60) (gvx rfl hg60))) ?_
      refine s_rp (i := 15) rfl (by kernel_rfl) rfl (fun _ => (rd_and rfl (fun hc61 => (gvx rfl hc61)))) ?_
      refine s_rp (i := 16) rfl (by kernel_rfl) rfl (fun _ => (rd_assign rfl)) ?_
      refine s_rp (i := 17) rfl (by kernel_rfl) rfl (fun _ => (rd_assign rfl)) ?_
      refine s_rp (i := 18) rfl (by kernel_rfl) rfl (fun _ => (rd_assign rfl)) ?_
      refine s_nil (by kernel_rfl) ?_
      refine qn_then ?_
      refine cw_ret ?_
      refine qr_block (qr_then ?_)
      obtain rfl := os q58
      exact ret3 rfl rfl rfl rfl ⟨rfl, (hm38.pick [] (by decide) rfl)⟩
    · refine cw_f rfl hb34 ?_
      refine cw_seq ?_
      refine cw_region ?_
      refine t_rd rfl (rd_eql rfl rfl) ?_
      refine t_rd rfl (rd_assign rfl) ?_
      refine rwt_nil ?_
      refine qn_then ?_
      obtain ⟨hb62, q63⟩ | ⟨hb62, q63⟩ := oi q35 <;> clear q35
      · refine cw_t rfl hb62 ?_
        refine cw_seq ?_
        refine cw_region ?_
        refine t_rd rfl (rd_move rfl) ?_
        obtain ⟨x64, h65, q66⟩ := ob q63; clear q63
        refine t_rd rfl (rd_add64 h65 rfl rfl) ?_
        refine t_rd rfl (rd_move rfl) ?_
        refine t_rd rfl (rd_move rfl) ?_
        refine t_rd rfl (rd_move rfl) ?_
        refine t_rd rfl (rd_lenS tS22 rfl (hv0.of_old hm0)) ?_
        refine t_rd rfl (rd_lss rfl rfl) ?_
        refine t_rd rfl (rd_assign rfl) ?_
        refine t_rd rfl (rd_assign rfl) ?_
        refine t_rd rfl (rd_assign rfl) ?_
        refine rwt_nil ?_
        refine qn_then ?_
        refine cw_ret ?_
        refine qr_block (qr_then ?_)
        obtain rfl := os q66
        exact ret3 rfl rfl rfl rfl ⟨rfl, (hm0.pick [] (by decide) rfl)⟩
      · refine cw_f rfl hb62 ?_
        refine cw_seq ?_
        refine cw_region ?_
        refine t_rd rfl (rd_eql rfl rfl) ?_
        refine t_rd rfl (rd_assign rfl) ?_
        refine rwt_nil ?_
        refine qn_then ?_
        obtain ⟨hb67, q68⟩ | ⟨hb67, q68⟩ := oi q63 <;> clear q63
        · refine cw_t rfl hb67 ?_
          refine cw_seq ?_
          refine cw_region ?_
          refine t_rd rfl (rd_move rfl) ?_
          refine t_rd rfl (rd_move rfl) ?_
          obtain ⟨x69, h70, q71⟩ := ob q68; clear q68
          refine t_rd rfl (rd_add64 h70 rfl rfl) ?_
          refine t_rd rfl (rd_move rfl) ?_
          refine t_rd rfl (rd_move rfl) ?_
          refine t_rd rfl (rd_lenS tS22 rfl (hv1.of_old hm0)) ?_
          refine t_rd rfl (rd_lss rfl rfl) ?_
          refine t_rd rfl (rd_assign rfl) ?_
          refine t_rd rfl (rd_assign rfl) ?_
          refine t_rd rfl (rd_assign rfl) ?_
          refine rwt_nil ?_
          refine qn_then ?_
          refine cw_ret ?_
          refine qr_block (qr_then ?_)
          obtain rfl := os q71
          exact ret3 rfl rfl rfl rfl ⟨rfl, (hm0.pick [] (by decide) rfl)⟩
        · refine cw_f rfl hb67 ?_
          refine cw_seq ?_
          refine cw_region ?_
          refine t_rd rfl (rd_eql rfl rfl) ?_
          refine t_rd rfl (rd_assign rfl) ?_
          refine rwt_nil ?_
          refine qn_then ?_
          obtain ⟨hb72, q73⟩ | ⟨hb72, q73⟩ := oi q68 <;> clear q68
          · refine cw_t rfl hb72 ?_
            refine cw_seq ?_
            obtain ⟨w75, he77⟩ : ∃ q, q = w.drew := ⟨_, rfl⟩
            have hm76 := hm0.drew; rw [← he77] at hm76
            refine cw_region_s (fun q => q = w75) (cls [] []) mixed ?_
            rintro _ rfl; rw [← he77]
            refine s_rp (i := 0) rfl (by kernel_rfl) rfl (fun _ => (rd_move rfl)) ?_
            obtain ⟨x78, h79, q80⟩ := ob q73; clear q73
            refine s_rp (i := 1) rfl (by kernel_rfl) rfl (fun _ => (rd_add64 h79 rfl rfl)) ?_
            refine s_rp (i := 2) rfl (by kernel_rfl) rfl (fun _ => (rd_move rfl)) ?_
            refine s_rp (i := 3) rfl (by kernel_rfl) rfl (fun _ => (rd_lenS tS22 rfl (hv0.of_old hm76))) ?_
            refine s_rp (i := 4) rfl (by kernel_rfl) rfl (fun _ => (rd_lss rfl rfl)) ?_
            refine s_rp (i := 5) rfl (by kernel_rfl) rfl (fun _ => (rd_move rfl)) ?_
            refine s_rpg (i := 6) rfl (by kernel_rfl) rfl rfl rfl rfl (gv_t _) (fun hg81 _ => (rd_move rfl)) ?_
            obtain ⟨x83, h84, q85⟩ := ob q80; clear q80
            refine s_rpg (i := 7) rfl (by kernel_rfl) rfl rfl rfl rfl (gv_t _) (fun hg82 _ => (rd_add64 (gO_t h84 hg82) (gvx rfl hg82) rfl)) ?_
            refine s_rpg (i := 8) rfl (by kernel_rfl) rfl rfl rfl rfl (gv_t _) (fun hg86 _ => (rd_move rfl)) ?_
            refine s_rpg (i := 9) rfl (by kernel_rfl) rfl rfl rfl rfl (gv_t _) (fun hg87 _ => (rd_lenS tS22 (gvx rfl hg87) (hv1.of_old hm76))) ?_
            refine s_rpg (i := 10) rfl (by kernel_rfl) rfl rfl rfl rfl (gv_t _) (fun hg88 _ => (rd_lss (gvx rfl hg88) (gvx rfl hg88))) ?_
            refine s_rp (i := 11) rfl (by kernel_rfl) rfl (fun _ => (rd_and rfl (fun hc89 => (gvx rfl hc89)))) ?_
            refine s_rp (i := 12) rfl (by kernel_rfl) rfl (fun _ => (rd_move rfl)) ?_
            refine s_rpg (i := 13) rfl (by kernel_rfl) rfl rfl rfl rfl (gv_t _) (fun hg90 _ => (rd_move rfl)) ?_
            refine s_rpg (i := 14) rfl (by kernel_rfl) rfl rfl rfl rfl (gv_t _) (fun hg91 _ => (rd_move rfl)) ?_
            obtain ⟨x93, h94, q95⟩ := ob q85; clear q85
            refine s_rpg (i := 15) rfl (by kernel_rfl) rfl rfl rfl rfl (gv_t _) (fun hg92 _ => (rd_index tS22 (gvx rfl hg92) (gvx rfl hg92) (hv0.of_old hm76) (gO_t h94 hg92))) ?_
            refine s_rdg (i := 16) rfl (by kernel_rfl) rfl rfl rfl rfl (gv_t _) (fun hg96 => (fun _ hS => by rw [hS]; exact (rd_ld1 tO3 (gvx rfl hg96) ((hv0.of_old hm76).cells (gO_t h94 hg96)) (off := 0) rfl))) rfl ?_
            refine s_rpg (i := 17) rfl (by kernel_rfl) rfl rfl rfl rfl (gv_t _) (fun hg97 _ => (rd_move rfl)) ?_
            refine s_rpg (i := 18) rfl (by kernel_rfl) rfl rfl rfl rfl (gv_t _) (fun hg98 _ => (rd_move rfl)) ?_
            obtain ⟨x100, h101, q102⟩ := ob q95; clear q95
            refine s_rpg (i := 19) rfl (by kernel_rfl) rfl rfl rfl rfl (gv_t _) (fun hg99 _ => (rd_add64 (gO_t h101 hg99) (gvx rfl hg99) rfl)) ?_
            obtain ⟨x104, h105, q106⟩ := ob q102; clear q102
            refine s_rpg (i := 20) rfl (by kernel_rfl) rfl rfl rfl rfl (gv_t _) (fun hg103 _ => (rd_index tS22 (gvx rfl hg103) (gvx rfl hg103) (hv1.of_old hm76) (gO_t h105 hg103))) ?_
            refine s_rdg (i := 21) rfl (by kernel_rfl) rfl rfl rfl rfl (gv_t _) (fun hg107 => (fun _ hS => by rw [hS]; exact (rd_ld1 tO3 (gvx rfl hg107) ((hv1.of_old hm76).cells (gO_t h105 hg107)) (off := 0) rfl))) rfl ?_
            refine s_rpg (i := 22) rfl (by kernel_rfl) rfl rfl rfl rfl (gv_t _) (fun hg108 _ => (rd_eql (gvx rfl hg108) (gvx rfl hg108))) ?_
            refine s_rp (i := 23) rfl (by kernel_rfl) rfl (fun _ => (rd_and rfl (fun hc109 => (gvx rfl hc109)))) ?_
            refine s_rp (i := 24) rfl (by kernel_rfl) rfl (fun _ => (rd_move rfl)) ?_
            refine s_rpg (i := 25) rfl (by kernel_rfl) rfl rfl rfl rfl (gv_t _) (fun hg110 _ => (rd_move rfl)) ?_
            refine s_rpg (i := 26) rfl (by kernel_rfl) rfl rfl rfl rfl (gv_t _) (fun hg111 _ => (rd_move rfl)) ?_
            obtain ⟨x113, h114, q115⟩ := ob q106; clear q106
            refine s_rpg (i := 27) rfl (by kernel_rfl) rfl rfl rfl rfl (gv_t _) (fun hg112 _ => (rd_add64 (gO_t h114 hg112) (gvx rfl hg112) rfl)) ?_
            obtain ⟨x117, h118, q119⟩ := ob q115; clear q115
            refine s_rpg (i := 28) rfl (by kernel_rfl) rfl rfl rfl rfl (gv_t _) (fun hg116 _ => (rd_index tS22 (gvx rfl hg116) (gvx rfl hg116) (hv0.of_old hm76) (gO_t h118 hg116))) ?_
            refine s_rdg (i := 29) rfl (by kernel_rfl) rfl rfl rfl rfl (gv_t _) (fun hg120 => (fun _ hS => by rw [hS]; exact (rd_ld1 tO3 (gvx rfl hg120) ((hv0.of_old hm76).cells (gO_t h118 hg120)) (off := 0) rfl))) rfl ?_
            refine s_rpg (i := 30) rfl (by kernel_rfl) rfl rfl rfl rfl (gv_t _) (fun hg121 _ => (rd_move rfl)) ?_
            refine s_rpg (i := 31) rfl (by kernel_rfl) rfl rfl rfl rfl (gv_t _) (fun hg122 _ => (rd_move rfl)) ?_
            obtain ⟨x124, h125, q126⟩ := ob q119; clear q119
            refine s_rpg (i := 32) rfl (by kernel_rfl) rfl rfl rfl rfl (gv_t _) (fun hg123 _ => (rd_index tS22 (gvx rfl hg123) (gvx rfl hg123) (hv1.of_old hm76) (gO_t h125 hg123))) ?_
            refine s_rdg (i := 33) rfl (by kernel_rfl) rfl rfl rfl rfl (gv_t _) (fun hg127 => (fun _ hS => by rw [hS]; exact (rd_ld1 tO3 (gvx rfl hg127) ((hv1.of_old hm76).cells (gO_t h125 hg127)) (off := 0) rfl))) rfl ?_
            refine s_rpg (i := 34) rfl (by kernel_rfl) rfl rfl rfl rfl (gv_t _) (fun hg128 _ => (rd_eql (gvx rfl hg128) (gvx rfl hg128))) ?_
            refine s_rp (i := 35) rfl (by kernel_rfl) rfl (fun _ => (rd_and rfl (fun hc129 => (gvx rfl hc129)))) ?_
            refine s_rp (i := 36) rfl (by kernel_rfl) rfl (fun _ => (rd_move rfl)) ?_
            refine s_rpg (i := 37) rfl (by kernel_rfl) rfl rfl rfl rfl (gv_t _) (fun hg130 _ => (rd_move rfl)) ?_
            refine s_rpg (i := 38) rfl (by kernel_rfl) rfl rfl rfl rfl (gv_t _) (fun hg131 _ => (rd_move rfl)) ?_
            obtain ⟨x133, h134, q135⟩ := ob q126; clear q126
            refine s_rpg (i := 39) rfl (by kernel_rfl) rfl rfl rfl rfl (gv_t _) (fun hg132 _ => (rd_index tS22 (gvx rfl hg132) (gvx rfl hg132) (hv0.of_old hm76) (gO_t h134 hg132))) ?_
            refine s_rdg (i := 40) rfl (by kernel_rfl) rfl rfl rfl rfl (gv_t _) (fun hg136 => (fun _ hS => by rw [hS]; exact (rd_ld1 tO3 (gvx rfl hg136) ((hv0.of_old hm76).cells (gO_t h134 hg136)) (off := 0) rfl))) rfl ?_
            refine s_rpg (i := 41) rfl (by kernel_rfl) rfl rfl rfl rfl (gv_t _) (fun hg137 _ => (rd_move rfl)) ?_
            refine s_rpg (i := 42) rfl (by kernel_rfl) rfl rfl rfl rfl (gv_t _) (fun hg138 _ => (rd_move rfl)) ?_
            obtain ⟨x140, h141, q142⟩ := ob q135; clear q135
            refine s_rpg (i := 43) rfl (by kernel_rfl) rfl rfl rfl rfl (gv_t _) (fun hg139 _ => (rd_add64 (gO_t h141 hg139) (gvx rfl hg139) rfl)) ?_
            obtain ⟨x144, h145, q146⟩ := ob q142; clear q142
            refine s_rpg (i := 44) rfl (by kernel_rfl) rfl rfl rfl rfl (gv_t _) (fun hg143 _ => (rd_index tS22 (gvx rfl hg143) (gvx rfl hg143) (hv0.of_old hm76) (gO_t h145 hg143))) ?_
            refine s_rdg (i := 45) rfl (by kernel_rfl) rfl rfl rfl rfl (gv_t _) (fun hg147 => (fun _ hS => by rw [hS]; exact (rd_ld1 tO3 (gvx rfl hg147) ((hv0.of_old hm76).cells (gO_t h145 hg147)) (off := 0) rfl))) rfl ?_
            refine s_rpg (i := 46) rfl (by kernel_rfl) rfl rfl rfl rfl (gv_t _) (fun hg148 _ => (rd_neq (gvx rfl hg148) (gvx rfl hg148))) ?_
            refine s_rp (i := 47) rfl (by kernel_rfl) rfl (fun _ => (rd_and rfl (fun hc149 => (gvx rfl hc149)))) ?_
            refine s_rp (i := 48) rfl (by kernel_rfl) rfl (fun _ => (rd_assign rfl)) ?_
            refine s_nil (by kernel_rfl) ?_
            refine qn_then ?_
            refine cw_seq ?_
            refine cw_region ?_
            refine t_rd rfl (rd_move rfl) ?_
            obtain ⟨x150, h151, q152⟩ := ob q146; clear q146
            refine t_rd rfl (rd_add64 h151 rfl rfl) ?_
            refine t_rd rfl (rd_move rfl) ?_
            obtain ⟨x153, h154, q155⟩ := ob q152; clear q152
            refine t_rd rfl (rd_add64 h154 rfl rfl) ?_
            refine t_rd rfl (rd_move rfl) ?_
            refine t_rd rfl (rd_assign rfl) ?_
            refine t_rd rfl (rd_assign rfl) ?_
            refine t_rd rfl (rd_assign rfl) ?_
            refine rwt_nil ?_
            refine qn_then ?_
            refine cw_ret ?_
            refine qr_block (qr_then ?_)
            obtain rfl := os q155
            exact ret3 rfl rfl rfl rfl ⟨rfl, (hm76.pick [] (by decide) rfl)⟩
          · refine cw_f rfl hb72 ?_
            refine cw_skip ?_
            refine qn_block (qn_then ?_)
            refine cw_seq ?_
            refine cw_region ?_
            refine t_rd rfl (rd_assign rfl) ?_
            refine t_rd rfl (rd_assign rfl) ?_
            refine t_rd rfl (rd_assign rfl) ?_
            refine rwt_nil ?_
            refine qn_then ?_
            refine cw_ret ?_
            obtain rfl := os q73
            exact ret3 rfl rfl rfl rfl ⟨rfl, (hm0.pick [] (by decide) rfl)⟩

theorem reconcile_cost_ok {N : Nat} {a0 : Int} {res : Int} (h : reconcile_cost N a0 = some res) {w : World}   :
    CallsR Try.prog 27 [(Value.int .i64 a0)] w (fun u w' => u = (Value.int .i64 res) ∧ Mem w No [] w') := by
  unfold reconcile_cost at h
  refine fn_ok Try.func27 rfl rfl rfl ?_
  have hm0 := Mem.nil w
  refine cw_seq ?_
  refine cw_region ?_
  refine t_rd rfl (rd_assign rfl) ?_
  refine rwt_nil ?_
  refine qn_then ?_
  refine cw_seq ?_
  refine cw_region ?_
  refine t_rd rfl (rd_build (cs := #[(Value.int .i64 0), (Value.int .i64 3), (Value.int .i64 4), (Value.int .i64 4), (Value.int .i64 4)]) rfl (by kernel_rfl)) ?_
  refine t_rd rfl (rd_move rfl) ?_
  obtain ⟨x1, h2, q3⟩ := ob h; clear h
  refine t_rd rfl (rd_idxa (l := [0, 3, 4, 4, 4]) tAr56 tO3 rfl rfl rfl h2) ?_
  refine t_rd rfl (rd_assign rfl) ?_
  refine rwt_nil ?_
  refine qn_then ?_
  refine cw_ret ?_
  obtain rfl := os q3
  exact ret1 rfl rfl ⟨rfl, (hm0.pick [] (by decide) rfl)⟩

theorem reconcile_Align_ok {N : Nat} {a0 : List Int} {a1 : List Int} {res : List Int × Int × Int} (h : reconcile_Align N a0 a1 = some res) {w : World} {v0 : Value} {v1 : Value} (hv0 : Sl (Old w No) w v0 a0) (hv1 : Sl (Old w No) w v1 a1) :
    CallsR Try.prog 11 [v0, v1] w (fun u w' => ∃ (y0 : Value), u = (Value.tuple #[y0, (Value.int .i64 res.2.1), (Value.int .i64 res.2.2)]) ∧ Mem w No [ownL 3 y0 (res.1 : List Int)] w') := by
  unfold reconcile_Align at h
  refine fn_ok Try.func11 rfl rfl rfl ?_
  have hm0 := Mem.nil w
  refine cw_seq ?_
  refine cw_region ?_
  refine t_rd rfl (rd_assign rfl) ?_
  refine t_rd rfl (rd_assign rfl) ?_
  refine t_rd rfl (rd_assign rfl) ?_
  refine rwt_nil ?_
  refine qn_then ?_
  refine cw_seq ?_
  refine cw_seq ?_
  refine cw_region ?_
  refine t_rd rfl (rd_move rfl) ?_
  refine t_rd rfl (rd_move rfl) ?_
  obtain ⟨r1, h2, q3⟩ := ob h; clear h
  refine t_ef rfl (ef_call tf24 rfl (reconcile_long_ok h2 (hv0.to_call hm0) (hv1.to_call hm0))) ?_
  rintro _ w5 ⟨e_, hm4⟩
  obtain rfl := e_.symm
  have hm6 := hm0.call hm4
  refine rwt_nil ?_
  refine qn_then ?_
  obtain ⟨hb7, q8⟩ | ⟨hb7, q8⟩ := oi q3 <;> clear q3
  · refine cw_t rfl hb7 ?_
    refine cw_seq ?_
    refine cw_region ?_
    refine t_rd rfl (rd_assign rfl) ?_
    refine t_rd rfl (rd_assign rfl) ?_
    refine t_rd rfl (rd_assign rfl) ?_
    refine rwt_nil ?_
    refine qn_then ?_
    refine cw_ret ?_
    refine qr_then ?_
    obtain rfl := os q8
    have hm9 := hm6.addNil (α := Int) 3
    exact ret3 rfl rfl rfl rfl ⟨(Value.slice none 0 0), rfl, (hm9.pick [0] (by decide) rfl)⟩
  · refine cw_f rfl hb7 ?_
    refine cw_skip ?_
    refine qn_then ?_
    refine cw_seq ?_
    refine cw_region ?_
    refine t_rd rfl (rd_move rfl) ?_
    refine t_rd rfl (rd_move rfl) ?_
    obtain ⟨r10, h11, q12⟩ := ob q8; clear q8
    refine t_ef rfl (ef_call tf25 rfl (reconcile_table_ok h11 (hv0.to_call hm6) (hv1.to_call hm6))) ?_
    rintro _ w16 ⟨zs14, v13, e_, hm15⟩
    obtain rfl := e_.symm
    have hm17 := hm6.call hm15
    refine t_rd rfl (rd_assign rfl) ?_
    refine rwt_nil ?_
    refine qn_then ?_
    refine cw_seq ?_
    refine cw_region ?_
    refine t_rd rfl (rd_move rfl) ?_
    refine t_rd rfl (rd_move rfl) ?_
    obtain ⟨r18, h19, q20⟩ := ob q12; clear q12
    refine t_ef rfl (ef_call tf25 rfl (reconcile_table_ok h19 (hv0.to_call hm17) (hv1.to_call hm17))) ?_
    rintro _ w24 ⟨zs22, v21, e_, hm23⟩
    obtain rfl := e_.symm
    have hm25 := hm17.call hm23
    refine t_rd rfl (rd_assign rfl) ?_
    refine rwt_nil ?_
    refine qn_then ?_
    refine cw_seq ?_
    refine cw_seq ?_
    refine cw_region ?_
    refine t_rd rfl (rd_move rfl) ?_
    refine t_rd rfl (rd_lenS tS22 rfl (hv0.of_old hm25)) ?_
    refine t_rd rfl (rd_assign rfl) ?_
    refine rwt_nil ?_
    refine qn_then ?_
    refine cw_block ?_
    obtain ⟨r2154, hit2155, q2156⟩ := ob q20; clear q20
    refine cw_loop2 (I := fun q envq wq => ∃ (v2146 : Value) (zs2147 : List Hdr) (v2143 : Value) (zs2144 : List Hdr), Sub [(0, v0), (1, v1), (7, v2143), (8, v2146), (9, (Value.int .i64 q.1))] envq ∧ Mem w No [ownL 22 v2146 (zs2147 : List Hdr), rowsC 3 zs2147 (q.2.2 : List (List Int)) none, ownL 22 v2143 (zs2144 : List Hdr), rowsC 3 zs2144 (q.2.1 : List (List Int)) none] wq) (X := fun eq envq wq => eq = .exit 0 ∧ ∃ (v2139 : Value) (zs2140 : List Hdr) (v2136 : Value) (zs2137 : List Hdr), Sub [(0, v0), (1, v1), (7, v2136), (8, v2139)] envq ∧ Mem w No [ownL 22 v2139 (zs2140 : List Hdr), rowsC 3 zs2140 (r2154.2 : List (List Int)) none, ownL 22 v2136 (zs2137 : List Hdr), rowsC 3 zs2137 (r2154.1 : List (List Int)) none] wq) hit2155 ⟨v21, zs22, v13, zs14, (by repeat (first | exact Sub.nil _ | refine Sub.cons rfl ?_)), (hm25.pick [0, 1, 2, 3] (by decide) rfl)⟩ ?_ ?_
    · rintro ⟨i2141, l2142, l2145⟩ x2149 env2150 w2151 hf2152 hr2153 ⟨v2146, zs2147, v2143, zs2144, hs_, hm_⟩
      have hs_ : Sub [(0, v0), (1, v1), (7, v2143), (8, v2146), (9, (Value.int .i64 i2141))] env2150 := hs_
      have hm2157 : Mem w No [ownL 22 v2146 (zs2147 : List Hdr), rowsC 3 zs2147 (l2145 : List (List Int)) none, ownL 22 v2143 (zs2144 : List Hdr), rowsC 3 zs2144 (l2142 : List (List Int)) none] w2151 := hm_
      refine cw_sub hs_ ?_
      clear hs_ hm_ q2156
      have h : reconcile_Align_l9 N a0 a1 i2141 l2142 l2145 = some x2149 := hf2152
      clear hf2152
      refine cw_seq ?_
      refine cw_seq ?_
      refine cw_region ?_
      refine t_rd rfl (rd_move rfl) ?_
      refine t_rd rfl (rd_geq rfl rfl) ?_
      refine rwt_nil ?_
      refine qn_then ?_
      obtain ⟨hb2158, q2159⟩ | ⟨hb2158, q2159⟩ := oi h <;> clear h
      · refine cw_t rfl hb2158 ?_
        refine cw_skip ?_
        refine qn_then ?_
        refine cw_seq ?_
        refine cw_block ?_
        refine cw_seq ?_
        refine cw_region ?_
        refine t_rd rfl (rd_move rfl) ?_
        refine t_rd rfl (rd_lenS tS22 rfl (hv1.of_old hm2157)) ?_
        refine t_rd rfl (rd_assign rfl) ?_
        refine rwt_nil ?_
        refine qn_then ?_
        refine cw_block ?_
        obtain ⟨r2860, hit2861, q2862⟩ := ob q2159; clear q2159
        refine cw_loop2 (I := fun q envq wq => ∃ (v2852 : Value) (zs2853 : List Hdr) (v2849 : Value) (zs2850 : List Hdr), Sub [(0, v0), (1, v1), (7, v2849), (8, v2852), (9, (Value.int .i64 i2141)), (10, (Value.int .i64 q.1))] envq ∧ Mem w No [ownL 22 v2852 (zs2853 : List Hdr), rowsC 3 zs2853 (q.2.2 : List (List Int)) none, ownL 22 v2849 (zs2850 : List Hdr), rowsC 3 zs2850 (q.2.1 : List (List Int)) none] wq) (X := fun eq envq wq => eq = .exit 2 ∧ ∃ (v2845 : Value) (zs2846 : List Hdr) (v2842 : Value) (zs2843 : List Hdr), Sub [(0, v0), (1, v1), (7, v2842), (8, v2845), (9, (Value.int .i64 i2141))] envq ∧ Mem w No [ownL 22 v2845 (zs2846 : List Hdr), rowsC 3 zs2846 (r2860.2 : List (List Int)) none, ownL 22 v2842 (zs2843 : List Hdr), rowsC 3 zs2843 (r2860.1 : List (List Int)) none] wq) hit2861 ⟨v2146, zs2147, v2143, zs2144, (by repeat (first | exact Sub.nil _ | refine Sub.cons rfl ?_)), (hm2157.pick [0, 1, 2, 3] (by decide) rfl)⟩ ?_ ?_
        · rintro ⟨i2847, l2848, l2851⟩ x2855 env2856 w2857 hf2858 hr2859 ⟨v2852, zs2853, v2849, zs2850, hs_, hm_⟩
          have hs_ : Sub [(0, v0), (1, v1), (7, v2849), (8, v2852), (9, (Value.int .i64 i2141)), (10, (Value.int .i64 i2847))] env2856 := hs_
          have hm2863 : Mem w No [ownL 22 v2852 (zs2853 : List Hdr), rowsC 3 zs2853 (l2851 : List (List Int)) none, ownL 22 v2849 (zs2850 : List Hdr), rowsC 3 zs2850 (l2848 : List (List Int)) none] w2857 := hm_
          refine cw_sub hs_ ?_
          clear hs_ hm_ q2862
          have h : reconcile_Align_l12 N a0 a1 i2141 i2847 l2848 l2851 = some x2855 := hf2858
          clear hf2858
          refine cw_seq ?_
          refine cw_seq ?_
          refine cw_region ?_
          refine t_rd rfl (rd_move rfl) ?_
          refine t_rd rfl (rd_geq rfl rfl) ?_
          refine rwt_nil ?_
          refine qn_then ?_
          obtain ⟨hb2864, q2865⟩ | ⟨hb2864, q2865⟩ := oi h <;> clear h
          · refine cw_t rfl hb2864 ?_
            refine cw_skip ?_
            refine qn_then ?_
            refine cw_seq ?_
            refine cw_block ?_
            refine cw_seq ?_
            refine cw_seq ?_
            refine cw_region ?_
            refine t_rd rfl (rd_move rfl) ?_
            refine t_rd rfl (rd_move rfl) ?_
            refine t_rd rfl (rd_lenS tS22 rfl (hv0.of_old hm2863)) ?_
            refine t_rd rfl (rd_eql rfl rfl) ?_
            refine t_rd rfl (rd_move rfl) ?_
            refine t_rdg rfl rfl rfl rfl (gv_t _) (fun hg2866 => (rd_move rfl)) ?_
            refine t_rdg rfl rfl rfl rfl (gv_t _) (fun hg2867 => (rd_move rfl)) ?_
            refine t_rdg rfl rfl rfl rfl (gv_t _) (fun hg2868 => (rd_lenS tS22 (gvx rfl hg2868) (hv1.of_old hm2863))) ?_
            refine t_rdg rfl rfl rfl rfl (gv_t _) (fun hg2869 => (rd_eql (gvx rfl hg2869) (gvx rfl hg2869))) ?_
            refine t_rd rfl (rd_and rfl (fun hc2870 => (gvx rfl hc2870))) ?_
            refine rwt_nil ?_
            refine qn_then ?_
            obtain ⟨hb2871, q2872⟩ | ⟨hb2871, q2872⟩ := oi q2865 <;> clear q2865
            · refine cw_t rfl hb2871 ?_
              refine cw_exit ?_
              refine qx_then (qx_same (qn_then ?_))
              refine cw_region ?_
              refine t_rd rfl (rd_move rfl) ?_
              obtain ⟨x2873, h2874, q2875⟩ := ob q2872; clear q2872
              refine t_rd rfl (rd_sub64 h2874 rfl rfl) ?_
              refine t_rd rfl (rd_assign rfl) ?_
              refine rwt_nil ?_
              refine qn_then ?_
              refine ⟨_, (os q2875), v2852, zs2853, v2849, zs2850, (by repeat (first | exact Sub.nil _ | refine Sub.cons rfl ?_)), (hm2863.pick [0, 1, 2, 3] (by decide) rfl)⟩
            · refine cw_f rfl hb2871 ?_
              refine cw_skip ?_
              refine qn_then ?_
              refine cw_seq ?_
              refine cw_region ?_
              refine t_rd rfl (rd_move rfl) ?_
              refine t_rd rfl (rd_move rfl) ?_
              obtain ⟨x2876, h2877, q2878⟩ := ob q2872; clear q2872
              refine t_rd rfl (rd_index tS33 rfl rfl ((Nl.mk (hm2863.sl_call 2 rfl) (hm2863.rows_call 3 rfl)).sl) h2877) ?_
              obtain ⟨zd2879, hz2880⟩ := (Nl.mk (hm2863.sl_call 2 rfl) (hm2863.rows_call 3 rfl)).row h2877
              refine t_rd rfl (rd_ld1 tO22 rfl ((Nl.mk (hm2863.sl_call 2 rfl) (hm2863.rows_call 3 rfl)).cells hz2880) (off := 0) rfl) ?_
              refine t_rd rfl (rd_move rfl) ?_
              obtain ⟨x2881, h2882, q2883⟩ := ob q2878; clear q2878
              refine t_rd rfl (rd_index tS22 rfl rfl ((Nl.mk (hm2863.sl_call 2 rfl) (hm2863.rows_call 3 rfl)).get hz2880 h2877) h2882) ?_
              have hm2884 := hm2863.pick [3, 0, 1, 2] (L' := [rowsC 3 zs2850 (l2848 : List (List Int)) none, ownL 22 v2852 (zs2853 : List Hdr), rowsC 3 zs2853 (l2851 : List (List Int)) none, ownL 22 v2849 (zs2850 : List Hdr)]) (by decide) rfl
              refine t_ef0 (ef_strow (off := 0) (x' := 9223372036854775807) hm2884 tO3 hz2880 h2877 rfl rfl rfl h2882 rfl rfl) ?_
              intro _ w2886 hm2885
              refine rwt_nil ?_
              refine qn_then ?_
              refine cw_seq ?_
              refine cw_region ?_
              refine t_rd rfl (rd_move rfl) ?_
              refine rwt_nil ?_
              refine qn_then ?_
              refine cw_block ?_
              obtain ⟨r3097, hit3098, q3099⟩ := ob q2883; clear q2883
              refine cw_loop2 (I := fun q envq wq => ∃ (v3089 : Value) (zs3090 : List Hdr) (v3086 : Value) (zs3087 : List Hdr), Sub [(0, v0), (1, v1), (7, v3086), (8, v3089), (9, (Value.int .i64 i2141)), (10, (Value.int .i64 i2847)), (57, (Value.int .i64 q.1))] envq ∧ Mem w No [rowsC 3 zs3087 (q.2.1 : List (List Int)) none, ownL 22 v3089 (zs3090 : List Hdr), rowsC 3 zs3090 (q.2.2 : List (List Int)) none, ownL 22 v3086 (zs3087 : List Hdr)] wq) (X := fun eq envq wq => eq = .exit 4 ∧ ∃ (v3082 : Value) (zs3083 : List Hdr) (v3079 : Value) (zs3080 : List Hdr), Sub [(0, v0), (1, v1), (7, v3079), (8, v3082), (9, (Value.int .i64 i2141)), (10, (Value.int .i64 i2847))] envq ∧ Mem w No [rowsC 3 zs3080 (r3097.1 : List (List Int)) none, ownL 22 v3082 (zs3083 : List Hdr), rowsC 3 zs3083 (r3097.2 : List (List Int)) none, ownL 22 v3079 (zs3080 : List Hdr)] wq) hit3098 ⟨v2852, zs2853, v2849, zs2850, (by repeat (first | exact Sub.nil _ | refine Sub.cons rfl ?_)), (hm2885.pick [0, 1, 2, 3] (by decide) rfl)⟩ ?_ ?_
              · rintro ⟨i3084, l3085, l3088⟩ x3092 env3093 w3094 hf3095 hr3096 ⟨v3089, zs3090, v3086, zs3087, hs_, hm_⟩
                have hs_ : Sub [(0, v0), (1, v1), (7, v3086), (8, v3089), (9, (Value.int .i64 i2141)), (10, (Value.int .i64 i2847)), (57, (Value.int .i64 i3084))] env3093 := hs_
                have hm3100 : Mem w No [rowsC 3 zs3087 (l3085 : List (List Int)) none, ownL 22 v3089 (zs3090 : List Hdr), rowsC 3 zs3090 (l3088 : List (List Int)) none, ownL 22 v3086 (zs3087 : List Hdr)] w3094 := hm_
                refine cw_sub hs_ ?_
                clear hs_ hm_ q3099
                have h : reconcile_Align_l13 N a0 a1 i2141 i2847 i3084 l3085 l3088 = some x3092 := hf3095
                clear hf3095
                refine cw_seq ?_
                refine cw_region ?_
                refine t_rd rfl (rd_lss rfl rfl) ?_
                refine rwt_nil ?_
                refine qn_then ?_
                refine cw_seq ?_
                obtain ⟨hb3101, q3102⟩ | ⟨hb3101, q3102⟩ := oi h <;> clear h
                · refine cw_t rfl hb3101 ?_
                  refine cw_skip ?_
                  refine qn_then ?_
                  refine cw_seq ?_
                  refine cw_block ?_
                  refine cw_seq ?_
                  refine cw_region ?_
                  refine t_rd rfl (rd_move rfl) ?_
                  refine t_rd rfl (rd_assign rfl) ?_
                  refine rwt_nil ?_
                  refine qn_then ?_
                  refine cw_seq ?_
                  refine cw_region ?_
                  refine t_rd rfl (rd_move rfl) ?_
                  refine t_rd rfl (rd_move rfl) ?_
                  refine t_rd rfl (rd_move rfl) ?_
                  refine t_rd rfl (rd_move rfl) ?_
                  refine t_rd rfl (rd_move rfl) ?_
                  obtain ⟨r3103, h3104, q3105⟩ := ob q3102; clear q3102
                  refine t_ef rfl (ef_call tf26 rfl (reconcile_step_ok h3104 (hv0.to_call hm3100) (hv1.to_call hm3100))) ?_
                  rintro _ w3107 ⟨e_, hm3106⟩
                  obtain rfl := e_.symm
                  have hm3108 := hm3100.call hm3106
                  refine t_rd rfl (rd_move rfl) ?_
                  refine t_rd rfl (rd_extract rfl rfl) ?_
                  refine t_rd rfl (rd_extract rfl rfl) ?_
                  refine t_rd rfl (rd_extract rfl rfl) ?_
                  refine t_rd rfl (rd_assign rfl) ?_
                  refine t_rd rfl (rd_assign rfl) ?_
                  refine t_rd rfl (rd_assign rfl) ?_
                  refine rwt_nil ?_
                  refine qn_then ?_
                  refine cw_seq ?_
                  refine cw_seq ?_
                  refine cw_region ?_
                  refine t_rd rfl (rd_move rfl) ?_
                  refine t_rd rfl (rd_not rfl) ?_
                  refine rwt_nil ?_
                  refine qn_then ?_
                  obtain ⟨hb3109, q3110⟩ | ⟨hb3109, q3110⟩ := oi q3105 <;> clear q3105
                  · refine cw_t rfl hb3109 ?_
                    refine cw_exit ?_
                    refine qx_then (qx_same (qn_then ?_))
                    refine cw_region ?_
                    obtain ⟨x3111, h3112, q3113⟩ := ob q3110; clear q3110
                    refine t_rd rfl (rd_add64 h3112 rfl rfl) ?_
                    refine t_rd rfl (rd_move rfl) ?_
                    refine rwt_nil ?_
                    refine qn_then ?_
                    refine ⟨_, (os q3113), v3089, zs3090, v3086, zs3087, (by repeat (first | exact Sub.nil _ | refine Sub.cons rfl ?_)), (hm3108.pick [0, 1, 2, 3] (by decide) rfl)⟩
                  · refine cw_f rfl hb3109 ?_
                    refine cw_skip ?_
                    refine qn_then ?_
                    refine cw_seq ?_
                    obtain ⟨w3115, he3117⟩ : ∃ q, q = w3107.drew := ⟨_, rfl⟩
                    have hm3116 := hm3108.drew; rw [← he3117] at hm3116
                    refine cw_region_s (fun q => (ownL 22 v3086 (zs3087 : List Hdr)).φ q ∧ (rowsC 3 zs3087 (l3085 : List (List Int)) none).φ q) (cls [1] []) mixed ?_
                    rintro _ rfl; rw [← he3117]
                    refine s_rp (i := 0) rfl (by kernel_rfl) rfl (fun _ => (rd_move rfl)) ?_
                    refine s_rp (i := 2) rfl (by kernel_rfl) rfl (fun _ => (rd_move rfl)) ?_
                    refine s_rp (i := 3) rfl (by kernel_rfl) rfl (fun _ => (rd_move rfl)) ?_
                    obtain ⟨x3135, h3136, q3137⟩ := ob q3110; clear q3110
                    refine s_rp (i := 4) rfl (by kernel_rfl) rfl (fun _ => (rd_index tS33 rfl rfl ((Nl.mk (hm3116.sl_call 3 rfl) (hm3116.rows_call 0 rfl)).sl) h3136)) ?_
                    obtain ⟨zd3138, hz3139⟩ := (Nl.mk (hm3116.sl_call 3 rfl) (hm3116.rows_call 0 rfl)).row h3136
                    refine s_rd (i := 5) rfl (by kernel_rfl) rfl (fun w3114 hS => (rd_ld1 tO22 rfl ((nl_φ hS.1 hS.2).cells hz3139) (off := 0) rfl)) ⟨(hm3116.get (k := 3) rfl), (hm3116.get (k := 0) rfl)⟩ ?_
                    refine s_rp (i := 6) rfl (by kernel_rfl) rfl (fun _ => (rd_move rfl)) ?_
                    obtain ⟨x3140, h3141, q3142⟩ := ob q3137; clear q3137
                    refine s_rp (i := 7) rfl (by kernel_rfl) rfl (fun _ => (rd_index tS22 rfl rfl ((Nl.mk (hm3116.sl_call 3 rfl) (hm3116.rows_call 0 rfl)).get hz3139 h3136) h3141)) ?_
                    refine s_rd (i := 8) rfl (by kernel_rfl) rfl (fun w3114 hS => (rd_ld1 tO3 rfl (((nl_φ hS.1 hS.2).get hz3139 h3136).cells h3141) (off := 0) rfl)) ⟨(hm3116.get (k := 3) rfl), (hm3116.get (k := 0) rfl)⟩ ?_
                    obtain ⟨r3143, h3144, q3145⟩ := ob q3142; clear q3142
                    refine s_ef (i := 1) rfl (by kernel_rfl) rfl (ef_call tf27 rfl (reconcile_cost_ok h3144)) (by decide) ?_ ?_
                    · rintro _ w3147 ⟨e_, hm3146⟩
                      obtain rfl := e_.symm
                      have hm3148 := hm3116.call hm3146
                      intro _
                      exact ⟨(hm3148.get (k := 3) rfl), (hm3148.get (k := 0) rfl)⟩
                    rintro _ w3147 ⟨e_, hm3146⟩
                    obtain rfl := e_.symm
                    have hm3148 := hm3116.call hm3146
                    obtain ⟨x3149, h3150, q3151⟩ := ob q3145; clear q3145
                    refine s_rp (i := 9) rfl (by kernel_rfl) rfl (fun _ => (rd_add64 h3150 rfl rfl)) ?_
                    refine s_rp (i := 10) rfl (by kernel_rfl) rfl (fun _ => (rd_assign rfl)) ?_
                    refine s_nil (by kernel_rfl) ?_
                    refine qn_then ?_
                    refine cw_seq ?_
                    refine cw_region ?_
                    refine t_rd rfl (rd_move rfl) ?_
                    refine t_rd rfl (rd_move rfl) ?_
                    refine t_rd rfl (rd_move rfl) ?_
                    obtain ⟨x3152, h3153, q3154⟩ := ob q3151; clear q3151
                    refine t_rd rfl (rd_index tS33 rfl rfl ((Nl.mk (hm3148.sl_call 3 rfl) (hm3148.rows_call 0 rfl)).sl) h3153) ?_
                    obtain ⟨zd3155, hz3156⟩ := (Nl.mk (hm3148.sl_call 3 rfl) (hm3148.rows_call 0 rfl)).row h3153
                    refine t_rd rfl (rd_ld1 tO22 rfl ((Nl.mk (hm3148.sl_call 3 rfl) (hm3148.rows_call 0 rfl)).cells hz3156) (off := 0) rfl) ?_
                    refine t_rd rfl (rd_move rfl) ?_
                    obtain ⟨x3157, h3158, q3159⟩ := ob q3154; clear q3154
                    refine t_rd rfl (rd_index tS22 rfl rfl ((Nl.mk (hm3148.sl_call 3 rfl) (hm3148.rows_call 0 rfl)).get hz3156 h3153) h3158) ?_
                    refine t_rd rfl (rd_ld1 tO3 rfl (((Nl.mk (hm3148.sl_call 3 rfl) (hm3148.rows_call 0 rfl)).get hz3156 h3153).cells h3158) (off := 0) rfl) ?_
                    refine t_rd rfl (rd_lss rfl rfl) ?_
                    refine rwt_nil ?_
                    refine qn_then ?_
                    obtain ⟨hb3160, q3161⟩ | ⟨hb3160, q3161⟩ := oi q3159 <;> clear q3159
                    · refine cw_t rfl hb3160 ?_
                      obtain ⟨w3163, he3165⟩ : ∃ q, q = w3147.drew := ⟨_, rfl⟩
                      have hm3164 := hm3148.drew; rw [← he3165] at hm3164
                      refine cw_region_s (fun q => q = w3163) (cls [] [13, 15]) mixed ?_
                      rintro _ rfl; rw [← he3165]
                      refine s_rp (i := 0) rfl (by kernel_rfl) rfl (fun _ => (rd_move rfl)) ?_
                      refine s_rp (i := 1) rfl (by kernel_rfl) rfl (fun _ => (rd_move rfl)) ?_
                      obtain ⟨x3166, h3167, q3168⟩ := ob q3161; clear q3161
                      refine s_rp (i := 2) rfl (by kernel_rfl) rfl (fun _ => (rd_index tS33 rfl rfl ((Nl.mk (hm3164.sl_call 3 rfl) (hm3164.rows_call 0 rfl)).sl) h3167)) ?_
                      obtain ⟨zd3169, hz3170⟩ := (Nl.mk (hm3164.sl_call 3 rfl) (hm3164.rows_call 0 rfl)).row h3167
                      refine s_rd (i := 3) rfl (by kernel_rfl) rfl (fun _ hS => by rw [hS]; exact (rd_ld1 tO22 rfl ((Nl.mk (hm3164.sl_call 3 rfl) (hm3164.rows_call 0 rfl)).cells hz3170) (off := 0) rfl)) rfl ?_
                      refine s_rp (i := 4) rfl (by kernel_rfl) rfl (fun _ => (rd_move rfl)) ?_
                      refine s_rp (i := 5) rfl (by kernel_rfl) rfl (fun _ => (rd_move rfl)) ?_
                      refine s_rp (i := 6) rfl (by kernel_rfl) rfl (fun _ => (rd_move rfl)) ?_
                      obtain ⟨x3171, h3172, q3173⟩ := ob q3168; clear q3168
                      refine s_rp (i := 7) rfl (by kernel_rfl) rfl (fun _ => (rd_index tS33 rfl rfl ((Nl.mk (hm3164.sl_call 1 rfl) (hm3164.rows_call 2 rfl)).sl) h3172)) ?_
                      obtain ⟨zd3174, hz3175⟩ := (Nl.mk (hm3164.sl_call 1 rfl) (hm3164.rows_call 2 rfl)).row h3172
                      refine s_rd (i := 8) rfl (by kernel_rfl) rfl (fun _ hS => by rw [hS]; exact (rd_ld1 tO22 rfl ((Nl.mk (hm3164.sl_call 1 rfl) (hm3164.rows_call 2 rfl)).cells hz3175) (off := 0) rfl)) rfl ?_
                      refine s_rp (i := 9) rfl (by kernel_rfl) rfl (fun _ => (rd_move rfl)) ?_
                      refine s_rp (i := 10) rfl (by kernel_rfl) rfl (fun _ => (rd_move rfl)) ?_
                      refine s_rp (i := 11) rfl (by kernel_rfl) rfl (fun _ => (rd_move rfl)) ?_
                      obtain ⟨x3176, h3177, q3178⟩ := ob q3173; clear q3173
                      refine s_rp (i := 12) rfl (by kernel_rfl) rfl (fun _ => (rd_index tS22 rfl rfl ((Nl.mk (hm3164.sl_call 3 rfl) (hm3164.rows_call 0 rfl)).get hz3170 h3167) h3177)) ?_
                      refine s_ef0 (i := 13) rfl (by kernel_rfl) (ef_strow (off := 0) (x' := x3149) hm3164 tO3 hz3170 h3167 rfl rfl rfl h3177 rfl rfl) (by decide) (fun _ _ _ q => absurd q (by decide)) ?_
                      intro _ w3180 hm3179
                      obtain ⟨x3181, h3182, q3183⟩ := ob q3178; clear q3178
                      refine s_rp (i := 14) rfl (by kernel_rfl) rfl (fun _ => (rd_index tS22 rfl rfl ((Nl.mk (hm3179.sl_call 1 rfl) (hm3179.rows_call 2 rfl)).get hz3175 h3172) h3182)) ?_
                      have hm3184 := hm3179.pick [2, 0, 1, 3] (L' := [rowsC 3 zs3090 (l3088 : List (List Int)) none, rowsC 3 zs3087 ((List.set l3085 (Int.toNat i2141) (List.set x3166 (Int.toNat i2847) x3149)) : List (List Int)) none, ownL 22 v3089 (zs3090 : List Hdr), ownL 22 v3086 (zs3087 : List Hdr)]) (by decide) rfl
                      refine s_ef0 (i := 15) rfl (by kernel_rfl) (ef_strow (off := 0) (x' := i3084) hm3184 tO3 hz3175 h3172 rfl rfl rfl h3182 rfl rfl) (by decide) (fun _ _ _ q => absurd q (by decide)) ?_
                      intro _ w3186 hm3185
                      refine s_nil (by kernel_rfl) ?_
                      refine qn_block (qn_then ?_)
                      refine cw_region ?_
                      obtain ⟨x3187, h3188, q3189⟩ := ob q3183; clear q3183
                      refine t_rd rfl (rd_add64 h3188 rfl rfl) ?_
                      refine t_rd rfl (rd_move rfl) ?_
                      refine rwt_nil ?_
                      refine qn_then ?_
                      refine ⟨_, (os q3189), v3089, zs3090, v3086, zs3087, (by repeat (first | exact Sub.nil _ | refine Sub.cons rfl ?_)), (hm3185.pick [1, 2, 0, 3] (by decide) rfl)⟩
                    · refine cw_f rfl hb3160 ?_
                      refine cw_skip ?_
                      refine qn_block (qn_then ?_)
                      refine cw_region ?_
                      obtain ⟨x3190, h3191, q3192⟩ := ob q3161; clear q3161
                      refine t_rd rfl (rd_add64 h3191 rfl rfl) ?_
                      refine t_rd rfl (rd_move rfl) ?_
                      refine rwt_nil ?_
                      refine qn_then ?_
                      refine ⟨_, (os q3192), v3089, zs3090, v3086, zs3087, (by repeat (first | exact Sub.nil _ | refine Sub.cons rfl ?_)), (hm3148.pick [0, 1, 2, 3] (by decide) rfl)⟩
                · refine cw_f rfl hb3101 ?_
                  refine cw_exit ?_
                  refine qx_then (qx_then ?_)
                  obtain rfl := hr3096 _ (os q3102)
                  exact ⟨rfl, v3089, zs3090, v3086, zs3087, (by repeat (first | exact Sub.nil _ | refine Sub.cons rfl ?_)), (hm3100.pick [0, 1, 2, 3] (by decide) rfl)⟩
              · skip
                intro e env3193 w3194 hX3195
                obtain ⟨rfl, v3082, zs3083, v3079, zs3080, hs3196, hm3197⟩ := hX3195
                refine qx_same (qn_block (qn_then ?_))
                refine cw_sub hs3196 ?_
                refine cw_region ?_
                refine t_rd rfl (rd_move rfl) ?_
                obtain ⟨x3198, h3199, q3200⟩ := ob q3099; clear q3099
                refine t_rd rfl (rd_sub64 h3199 rfl rfl) ?_
                refine t_rd rfl (rd_assign rfl) ?_
                refine rwt_nil ?_
                refine qn_then ?_
                refine ⟨_, (os q3200), v3082, zs3083, v3079, zs3080, (by repeat (first | exact Sub.nil _ | refine Sub.cons rfl ?_)), (hm3197.pick [1, 2, 3, 0] (by decide) rfl)⟩
          · refine cw_f rfl hb2864 ?_
            refine cw_exit ?_
            refine qx_then (qx_then ?_)
            obtain rfl := hr2859 _ (os q2865)
            exact ⟨rfl, v2852, zs2853, v2849, zs2850, (by repeat (first | exact Sub.nil _ | refine Sub.cons rfl ?_)), (hm2863.pick [0, 1, 2, 3] (by decide) rfl)⟩
        · skip
          intro e env3201 w3202 hX3203
          obtain ⟨rfl, v2845, zs2846, v2842, zs2843, hs3204, hm3205⟩ := hX3203
          refine qx_same (qn_block (qn_then ?_))
          refine cw_sub hs3204 ?_
          refine cw_region ?_
          refine t_rd rfl (rd_move rfl) ?_
          obtain ⟨x3206, h3207, q3208⟩ := ob q2862; clear q2862
          refine t_rd rfl (rd_sub64 h3207 rfl rfl) ?_
          refine t_rd rfl (rd_assign rfl) ?_
          refine rwt_nil ?_
          refine qn_then ?_
          refine ⟨_, (os q3208), v2845, zs2846, v2842, zs2843, (by repeat (first | exact Sub.nil _ | refine Sub.cons rfl ?_)), (hm3205.pick [0, 1, 2, 3] (by decide) rfl)⟩
      · refine cw_f rfl hb2158 ?_
        refine cw_exit ?_
        refine qx_then (qx_then ?_)
        obtain rfl := hr2153 _ (os q2159)
        exact ⟨rfl, v2146, zs2147, v2143, zs2144, (by repeat (first | exact Sub.nil _ | refine Sub.cons rfl ?_)), (hm2157.pick [0, 1, 2, 3] (by decide) rfl)⟩
    · skip
      intro e env3209 w3210 hX3211
      obtain ⟨rfl, v2139, zs2140, v2136, zs2137, hs3212, hm3213⟩ := hX3211
      refine qx_same (qn_then ?_)
      refine cw_sub hs3212 ?_
      refine cw_seq ?_
      refine cw_region ?_
      refine t_rd rfl (rd_assign rfl) ?_
      refine rwt_nil ?_
      refine qn_then ?_
      refine cw_seq ?_
      refine cw_seq ?_
      refine cw_region ?_
      refine t_rd rfl (rd_assign rfl) ?_
      refine t_rd rfl (rd_assign rfl) ?_
      refine rwt_nil ?_
      refine qn_then ?_
      refine cw_block ?_
      have hm3245 := hm3213.addNil (α := Int) 3
      obtain ⟨r3324, hit3325, q3326⟩ := ob q2156; clear q2156
      refine cw_loop2 (I := fun q envq wq => ∃ (v3317 : Value), Sub [(0, v0), (1, v1), (7, v2136), (8, v2139), (16, v3317), (17, (Value.int .i64 q.1)), (18, (Value.int .i64 q.2.1))] envq ∧ Mem w No [ownL 3 v3317 (q.2.2 : List Int), ownL 22 v2139 (zs2140 : List Hdr), rowsC 3 zs2140 (r2154.2 : List (List Int)) none, ownL 22 v2136 (zs2137 : List Hdr), rowsC 3 zs2137 (r2154.1 : List (List Int)) none] wq) (X := fun eq envq wq => eq = .exit 6 ∧ ∃ (v3313 : Value), Sub [(7, v2136), (16, v3313)] envq ∧ Mem w No [ownL 3 v3313 (r3324 : List Int), ownL 22 v2136 (zs2137 : List Hdr), rowsC 3 zs2137 (r2154.1 : List (List Int)) none] wq) hit3325 ⟨(Value.slice none 0 0), (by repeat (first | exact Sub.nil _ | refine Sub.cons rfl ?_)), (hm3245.pick [0, 1, 2, 3, 4] (by decide) rfl)⟩ ?_ ?_
      · rintro ⟨i3314, i3315, l3316⟩ x3319 env3320 w3321 hf3322 hr3323 ⟨v3317, hs_, hm_⟩
        have hs_ : Sub [(0, v0), (1, v1), (7, v2136), (8, v2139), (16, v3317), (17, (Value.int .i64 i3314)), (18, (Value.int .i64 i3315))] env3320 := hs_
        have hm3327 : Mem w No [ownL 3 v3317 (l3316 : List Int), ownL 22 v2139 (zs2140 : List Hdr), rowsC 3 zs2140 (r2154.2 : List (List Int)) none, ownL 22 v2136 (zs2137 : List Hdr), rowsC 3 zs2137 (r2154.1 : List (List Int)) none] w3321 := hm_
        refine cw_sub hs_ ?_
        clear hs_ hm_ q3326
        have h : reconcile_Align_l14 N a0 a1 r2154 i3314 i3315 l3316 = some x3319 := hf3322
        clear hf3322
        refine cw_seq ?_
        refine cw_seq ?_
        refine cw_region ?_
        refine t_rd rfl (rd_move rfl) ?_
        refine t_rd rfl (rd_move rfl) ?_
        refine t_rd rfl (rd_lenS tS22 rfl (hv0.of_old hm3327)) ?_
        refine t_rd rfl (rd_lss rfl rfl) ?_
        refine t_rd rfl (rd_move rfl) ?_
        refine t_rdg rfl rfl rfl rfl (gv_f _) (fun hg3328 => (rd_move rfl)) ?_
        refine t_rdg rfl rfl rfl rfl (gv_f _) (fun hg3329 => (rd_move rfl)) ?_
        refine t_rdg rfl rfl rfl rfl (gv_f _) (fun hg3330 => (rd_lenS tS22 (gvx rfl hg3330) (hv1.of_old hm3327))) ?_
        refine t_rdg rfl rfl rfl rfl (gv_f _) (fun hg3331 => (rd_lss (gvx rfl hg3331) (gvx rfl hg3331))) ?_
        refine t_rd rfl (rd_or rfl (fun hc3332 => (gvx rfl (bnotIt hc3332)))) ?_
        refine rwt_nil ?_
        refine qn_then ?_
        obtain ⟨hb3333, q3334⟩ | ⟨hb3333, q3334⟩ := oi h <;> clear h
        · refine cw_t rfl hb3333 ?_
          refine cw_skip ?_
          refine qn_then ?_
          refine cw_block ?_
          refine cw_seq ?_
          refine cw_region ?_
          refine t_rd rfl (rd_move rfl) ?_
          refine t_rd rfl (rd_move rfl) ?_
          obtain ⟨x3335, h3336, q3337⟩ := ob q3334; clear q3334
          refine t_rd rfl (rd_index tS33 rfl rfl ((Nl.mk (hm3327.sl_call 1 rfl) (hm3327.rows_call 2 rfl)).sl) h3336) ?_
          obtain ⟨zd3338, hz3339⟩ := (Nl.mk (hm3327.sl_call 1 rfl) (hm3327.rows_call 2 rfl)).row h3336
          refine t_rd rfl (rd_ld1 tO22 rfl ((Nl.mk (hm3327.sl_call 1 rfl) (hm3327.rows_call 2 rfl)).cells hz3339) (off := 0) rfl) ?_
          refine t_rd rfl (rd_move rfl) ?_
          obtain ⟨x3340, h3341, q3342⟩ := ob q3337; clear q3337
          refine t_rd rfl (rd_index tS22 rfl rfl ((Nl.mk (hm3327.sl_call 1 rfl) (hm3327.rows_call 2 rfl)).get hz3339 h3336) h3341) ?_
          refine t_rd rfl (rd_ld1 tO3 rfl (((Nl.mk (hm3327.sl_call 1 rfl) (hm3327.rows_call 2 rfl)).get hz3339 h3336).cells h3341) (off := 0) rfl) ?_
          refine t_rd rfl (rd_assign rfl) ?_
          refine rwt_nil ?_
          refine qn_then ?_
          refine cw_seq ?_
          refine cw_region ?_
          refine t_rd rfl (rd_move rfl) ?_
          refine t_rd rfl (rd_move rfl) ?_
          refine t_ef rfl (ef_bslice (l := ([x3340] : List Int)) hm3327 tS22 rfl (cs := #[(Value.int .i64 x3340)]) (by unfold bsl; kernel_rfl) rfl rfl) ?_
          intro v3343 w3345 hm3344
          obtain ⟨l3346, h3347, q3348⟩ := ob q3342; clear q3342
          refine t_ef rfl (ef_append (k := 1) hm3344 tS22 tE3 rfl rfl rfl rfl (hm3344.sl 0 rfl) h3347) ?_
          intro v3349 w3351 hm3350
          refine t_rd rfl (rd_assign rfl) ?_
          refine rwt_nil ?_
          refine qn_then ?_
          refine cw_region ?_
          refine t_rd rfl (rd_move rfl) ?_
          refine t_rd rfl (rd_move rfl) ?_
          refine t_rd rfl (rd_move rfl) ?_
          refine t_rd rfl (rd_move rfl) ?_
          refine t_rd rfl (rd_move rfl) ?_
          obtain ⟨r3352, h3353, q3354⟩ := ob q3348; clear q3348
          refine t_ef rfl (ef_call tf26 rfl (reconcile_step_ok h3353 (hv0.to_call hm3350) (hv1.to_call hm3350))) ?_
          rintro _ w3356 ⟨e_, hm3355⟩
          obtain rfl := e_.symm
          have hm3357 := hm3350.call hm3355
          refine t_rd rfl (rd_move rfl) ?_
          refine t_rd rfl (rd_extract rfl rfl) ?_
          refine t_rd rfl (rd_extract rfl rfl) ?_
          refine t_rd rfl (rd_extract rfl rfl) ?_
          refine t_rd rfl (rd_assign rfl) ?_
          refine t_rd rfl (rd_assign rfl) ?_
          refine rwt_nil ?_
          refine qn_block (qn_then ?_)
          refine ⟨_, (os q3354), v3349, (by repeat (first | exact Sub.nil _ | refine Sub.cons rfl ?_)), (hm3357.pick [1, 2, 3, 4, 5] (by decide) rfl)⟩
        · refine cw_f rfl hb3333 ?_
          refine cw_exit ?_
          refine qx_then (qx_then ?_)
          obtain rfl := hr3323 _ (os q3334)
          exact ⟨rfl, v3317, (by repeat (first | exact Sub.nil _ | refine Sub.cons rfl ?_)), (hm3327.pick [0, 3, 4] (by decide) rfl)⟩
      · skip
        intro e env3358 w3359 hX3360
        obtain ⟨rfl, v3313, hs3361, hm3362⟩ := hX3360
        refine qx_same (qn_then ?_)
        refine cw_sub hs3361 ?_
        refine cw_seq ?_
        obtain ⟨w3364, he3366⟩ : ∃ q, q = w3359.drew := ⟨_, rfl⟩
        have hm3365 := hm3362.drew; rw [← he3366] at hm3365
        refine cw_region_s (fun q => q = w3364) (cls [] []) mixed ?_
        rintro _ rfl; rw [← he3366]
        refine s_rp (i := 0) rfl (by kernel_rfl) rfl (fun _ => (rd_move rfl)) ?_
        refine s_rp (i := 1) rfl (by kernel_rfl) rfl (fun _ => (rd_move rfl)) ?_
        obtain ⟨x3367, h3368, q3369⟩ := ob q3326; clear q3326
        refine s_rp (i := 2) rfl (by kernel_rfl) rfl (fun _ => (rd_index tS33 rfl rfl ((Nl.mk (hm3365.sl_call 1 rfl) (hm3365.rows_call 2 rfl)).sl) h3368)) ?_
        obtain ⟨zd3370, hz3371⟩ := (Nl.mk (hm3365.sl_call 1 rfl) (hm3365.rows_call 2 rfl)).row h3368
        refine s_rd (i := 3) rfl (by kernel_rfl) rfl (fun _ hS => by rw [hS]; exact (rd_ld1 tO22 rfl ((Nl.mk (hm3365.sl_call 1 rfl) (hm3365.rows_call 2 rfl)).cells hz3371) (off := 0) rfl)) rfl ?_
        obtain ⟨x3372, h3373, q3374⟩ := ob q3369; clear q3369
        refine s_rp (i := 4) rfl (by kernel_rfl) rfl (fun _ => (rd_index tS22 rfl rfl ((Nl.mk (hm3365.sl_call 1 rfl) (hm3365.rows_call 2 rfl)).get hz3371 h3368) h3373)) ?_
        refine s_rd (i := 5) rfl (by kernel_rfl) rfl (fun _ hS => by rw [hS]; exact (rd_ld1 tO3 rfl (((Nl.mk (hm3365.sl_call 1 rfl) (hm3365.rows_call 2 rfl)).get hz3371 h3368).cells h3373) (off := 0) rfl)) rfl ?_
        refine s_rp (i := 6) rfl (by kernel_rfl) rfl (fun _ => (rd_assign rfl)) ?_
        refine s_rp (i := 7) rfl (by kernel_rfl) rfl (fun _ => (rd_assign rfl)) ?_
        refine s_rp (i := 8) rfl (by kernel_rfl) rfl (fun _ => (rd_assign rfl)) ?_
        refine s_nil (by kernel_rfl) ?_
        refine qn_then ?_
        refine cw_ret ?_
        obtain rfl := os q3374
        exact ret3 rfl rfl rfl rfl ⟨v3313, rfl, (hm3365.pick [0] (by decide) rfl)⟩

theorem humpgen_Ints_ok {N : Nat} {a0 : List Int} {a1 : List Int} {res : Bool} (h : humpgen_Ints N a0 a1 = some res) {w : World} {v0 : Value} {v1 : Value} (hv0 : Sl (Old w No) w v0 a0) (hv1 : Sl (Old w No) w v1 a1) :
    CallsR Try.prog 12 [v0, v1] w (fun u w' => u = (Value.bool res) ∧ Mem w No [] w') := by
  unfold humpgen_Ints at h
  refine fn_ok Try.func12 rfl rfl rfl ?_
  have hm0 := Mem.nil w
  refine cw_seq ?_
  refine cw_region ?_
  refine t_rd rfl (rd_assign rfl) ?_
  refine rwt_nil ?_
  refine qn_then ?_
  refine cw_seq ?_
  refine cw_seq ?_
  refine cw_region ?_
  refine t_rd rfl (rd_move rfl) ?_
  refine t_rd rfl (rd_lenS tS22 rfl (hv0.of_old hm0)) ?_
  refine t_rd rfl (rd_move rfl) ?_
  refine t_rd rfl (rd_lenS tS22 rfl (hv1.of_old hm0)) ?_
  refine t_rd rfl (rd_neq rfl rfl) ?_
  refine rwt_nil ?_
  refine qn_then ?_
  obtain ⟨hb1, q2⟩ | ⟨hb1, q2⟩ := oi h <;> clear h
  · refine cw_t rfl hb1 ?_
    refine cw_seq ?_
    refine cw_region ?_
    refine t_rd rfl (rd_assign rfl) ?_
    refine rwt_nil ?_
    refine qn_then ?_
    refine cw_ret ?_
    refine qr_then ?_
    obtain rfl := os q2
    exact ret1 rfl rfl ⟨rfl, (hm0.pick [] (by decide) rfl)⟩
  · refine cw_f rfl hb1 ?_
    refine cw_skip ?_
    refine qn_then ?_
    refine cw_seq ?_
    refine cw_seq ?_
    refine cw_region ?_
    refine t_rd rfl (rd_assign rfl) ?_
    refine rwt_nil ?_
    refine qn_then ?_
    refine cw_block ?_
    obtain ⟨r45, hit46, q47⟩ := ob q2; clear q2
    refine cw_loop2 (I := fun q envq wq => Sub [(0, v0), (1, v1), (5, (Value.int .i64 q))] envq ∧ Mem w No [] wq) (X := fun eq envq wq => (∃ p48, r45 = (Sum.inl p48) ∧ eq = .ret ∧ retQ Try.prog 26 Try.f12 (fun u w' => u = (Value.bool p48) ∧ Mem w No [] w') .ret envq wq) ∨ (∃ p49, r45 = (Sum.inr p49) ∧ eq = .exit 0 ∧ Sub [] envq ∧ Mem w No [] wq)) hit46 ⟨(by repeat (first | exact Sub.nil _ | refine Sub.cons rfl ?_)), (hm0.pick [] (by decide) rfl)⟩ ?_ ?_
    · rintro i38 x40 env41 w42 hf43 hr44 ⟨hs_, hm_⟩
      have hs_ : Sub [(0, v0), (1, v1), (5, (Value.int .i64 i38))] env41 := hs_
      have hm50 : Mem w No [] w42 := hm_
      refine cw_sub hs_ ?_
      clear hs_ hm_ q47
      have h : humpgen_Ints_l1 N a0 a1 i38 = some x40 := hf43
      clear hf43
      refine cw_seq ?_
      refine cw_seq ?_
      refine cw_region ?_
      refine t_rd rfl (rd_move rfl) ?_
      refine t_rd rfl (rd_move rfl) ?_
      refine t_rd rfl (rd_lenS tS22 rfl (hv0.of_old hm50)) ?_
      refine t_rd rfl (rd_lss rfl rfl) ?_
      refine rwt_nil ?_
      refine qn_then ?_
      obtain ⟨hb51, q52⟩ | ⟨hb51, q52⟩ := oi h <;> clear h
      · refine cw_t rfl hb51 ?_
        refine cw_skip ?_
        refine qn_then ?_
        refine cw_seq ?_
        refine cw_block ?_
        refine cw_seq ?_
        obtain ⟨w54, he56⟩ : ∃ q, q = w42.drew := ⟨_, rfl⟩
        have hm55 := hm50.drew; rw [← he56] at hm55
        refine cw_region_s (fun q => q = w54) (cls [] []) mixed ?_
        rintro _ rfl; rw [← he56]
        refine s_rp (i := 0) rfl (by kernel_rfl) rfl (fun _ => (rd_move rfl)) ?_
        refine s_rp (i := 1) rfl (by kernel_rfl) rfl (fun _ => (rd_move rfl)) ?_
        obtain ⟨x57, h58, q59⟩ := ob q52; clear q52
        refine s_rp (i := 2) rfl (by kernel_rfl) rfl (fun _ => (rd_index tS22 rfl rfl (hv0.of_old hm55) h58)) ?_
        refine s_rd (i := 3) rfl (by kernel_rfl) rfl (fun _ hS => by rw [hS]; exact (rd_ld1 tO3 rfl ((hv0.of_old hm55).cells h58) (off := 0) rfl)) rfl ?_
        refine s_rp (i := 4) rfl (by kernel_rfl) rfl (fun _ => (rd_move rfl)) ?_
        refine s_rp (i := 5) rfl (by kernel_rfl) rfl (fun _ => (rd_move rfl)) ?_
        obtain ⟨x60, h61, q62⟩ := ob q59; clear q59
        refine s_rp (i := 6) rfl (by kernel_rfl) rfl (fun _ => (rd_index tS22 rfl rfl (hv1.of_old hm55) h61)) ?_
        refine s_rd (i := 7) rfl (by kernel_rfl) rfl (fun _ hS => by rw [hS]; exact (rd_ld1 tO3 rfl ((hv1.of_old hm55).cells h61) (off := 0) rfl)) rfl ?_
        refine s_rp (i := 8) rfl (by kernel_rfl) rfl (fun _ => (rd_neq rfl rfl)) ?_
        refine s_nil (by kernel_rfl) ?_
        refine qn_then ?_
        obtain ⟨hb63, q64⟩ | ⟨hb63, q64⟩ := oi q62 <;> clear q62
        · refine cw_t rfl hb63 ?_
          refine cw_seq ?_
          refine cw_region ?_
          refine t_rd rfl (rd_assign rfl) ?_
          refine rwt_nil ?_
          refine qn_then ?_
          refine cw_ret ?_
          refine qr_block (qr_then (qr_then ?_))
          obtain rfl := hr44 _ (os q64)
          refine .inl (⟨_, rfl, ⟨rfl, ?_⟩⟩)
          exact ret1 rfl rfl ⟨rfl, (hm55.pick [] (by decide) rfl)⟩
        · refine cw_f rfl hb63 ?_
          refine cw_skip ?_
          refine qn_block (qn_then ?_)
          refine cw_region ?_
          refine t_rd rfl (rd_move rfl) ?_
          obtain ⟨x65, h66, q67⟩ := ob q64; clear q64
          refine t_rd rfl (rd_add64 h66 rfl rfl) ?_
          refine t_rd rfl (rd_assign rfl) ?_
          refine rwt_nil ?_
          refine qn_then ?_
          refine ⟨_, (os q67), (by repeat (first | exact Sub.nil _ | refine Sub.cons rfl ?_)), (hm55.pick [] (by decide) rfl)⟩
      · refine cw_f rfl hb51 ?_
        refine cw_exit ?_
        refine qx_then (qx_then ?_)
        obtain rfl := hr44 _ (os q52)
        exact .inr (⟨_, rfl, ⟨rfl, (by repeat (first | exact Sub.nil _ | refine Sub.cons rfl ?_)), (hm50.pick [] (by decide) rfl)⟩⟩)
    · skip
      intro e env68 w69 hX70
      rcases hX70 with hX70 | hX70
      · obtain ⟨p72, rfl, hX70⟩ := hX70
        obtain ⟨rfl, hq74⟩ := hX70
        exact qr_block (qr_then ((by have e := os q47; subst e; exact hq74)))
      · obtain ⟨p75, rfl, hX70⟩ := hX70
        obtain ⟨rfl, hs76, hm77⟩ := hX70
        refine qx_same (qn_then ?_)
        refine cw_sub hs76 ?_
        refine cw_seq ?_
        refine cw_region ?_
        refine t_rd rfl (rd_assign rfl) ?_
        refine rwt_nil ?_
        refine qn_then ?_
        refine cw_ret ?_
        obtain rfl := os q47
        exact ret1 rfl rfl ⟨rfl, (hm77.pick [] (by decide) rfl)⟩

theorem law08_sane_ok {N : Nat} {res : Bool} (h : law08_sane N = some res) {w : World}   :
    CallsR Try.prog 13 [] w (fun u w' => u = (Value.bool res) ∧ Mem w No [] w') := by
  unfold law08_sane at h
  refine fn_ok Try.func13 rfl rfl rfl ?_
  have hm0 := Mem.nil w
  refine cw_seq ?_
  refine cw_region ?_
  refine t_rd rfl (rd_assign rfl) ?_
  refine rwt_nil ?_
  refine qn_then ?_
  refine cw_seq ?_
  refine cw_region ?_
  refine t_ef rfl (ef_bslice (l := ([1, 2, 3] : List Int)) hm0 tS22 rfl (cs := #[(Value.int .i64 1), (Value.int .i64 2), (Value.int .i64 3)]) (by unfold bsl; kernel_rfl) rfl rfl) ?_
  intro v1 w3 hm2
  refine t_ef rfl (ef_bslice (l := ([1, 3] : List Int)) hm2 tS22 rfl (cs := #[(Value.int .i64 1), (Value.int .i64 3)]) (by unfold bsl; kernel_rfl) rfl rfl) ?_
  intro v4 w6 hm5
  obtain ⟨r7, h8, q9⟩ := ob h; clear h
  refine t_ef rfl (ef_call tf11 rfl (reconcile_Align_ok h8 (hm5.sl_call 1 rfl) (hm5.sl_call 0 rfl))) ?_
  rintro _ w12 ⟨v10, e_, hm11⟩
  obtain rfl := e_.symm
  have hm13 := hm5.call hm11
  refine t_rd rfl (rd_move rfl) ?_
  refine t_rd rfl (rd_extract rfl rfl) ?_
  refine t_rd rfl (rd_extract rfl rfl) ?_
  refine t_rd rfl (rd_extract rfl rfl) ?_
  refine t_rd rfl (rd_assign rfl) ?_
  refine t_rd rfl (rd_assign rfl) ?_
  refine t_rd rfl (rd_assign rfl) ?_
  refine rwt_nil ?_
  refine qn_then ?_
  refine cw_seq ?_
  refine cw_region ?_
  refine t_ef rfl (ef_bslice (l := ([1, 2] : List Int)) hm13 tS22 rfl (cs := #[(Value.int .i64 1), (Value.int .i64 2)]) (by unfold bsl; kernel_rfl) rfl rfl) ?_
  intro v14 w16 hm15
  refine t_ef rfl (ef_bslice (l := ([2, 1] : List Int)) hm15 tS22 rfl (cs := #[(Value.int .i64 2), (Value.int .i64 1)]) (by unfold bsl; kernel_rfl) rfl rfl) ?_
  intro v17 w19 hm18
  obtain ⟨r20, h21, q22⟩ := ob q9; clear q9
  refine t_ef rfl (ef_call tf11 rfl (reconcile_Align_ok h21 (hm18.sl_call 1 rfl) (hm18.sl_call 0 rfl))) ?_
  rintro _ w25 ⟨v23, e_, hm24⟩
  obtain rfl := e_.symm
  have hm26 := hm18.call hm24
  refine t_rd rfl (rd_move rfl) ?_
  refine t_rd rfl (rd_extract rfl rfl) ?_
  refine t_rd rfl (rd_extract rfl rfl) ?_
  refine t_rd rfl (rd_extract rfl rfl) ?_
  refine t_rd rfl (rd_assign rfl) ?_
  refine t_rd rfl (rd_assign rfl) ?_
  refine t_rd rfl (rd_assign rfl) ?_
  refine rwt_nil ?_
  refine qn_then ?_
  refine cw_seq ?_
  refine cw_region ?_
  refine t_rd rfl (rd_move rfl) ?_
  refine t_rd rfl (rd_eql rfl rfl) ?_
  refine t_rd rfl (rd_move rfl) ?_
  refine t_rdg rfl rfl rfl rfl (gv_t _) (fun hg27 => (rd_move rfl)) ?_
  refine t_rdg rfl rfl rfl rfl (gv_t _) (fun hg28 => (rd_eql (gvx rfl hg28) rfl)) ?_
  refine t_rd rfl (rd_and rfl (fun hc29 => (gvx rfl hc29))) ?_
  refine t_rd rfl (rd_move rfl) ?_
  refine t_rdg rfl rfl rfl rfl (gv_t _) (fun hg30 => (rd_move rfl)) ?_
  obtain ⟨hb32, q33⟩ | ⟨hb32, q33⟩ := oi q22 <;> clear q22
  · skip
    refine t_efg rfl rfl rfl rfl (gv_t _) (fun _ => (ef_bslice (l := ([0, 2, 0] : List Int)) hm26 tS22 rfl (cs := #[(Value.int .i64 0), (Value.int .i64 2), (Value.int .i64 0)]) (by unfold bsl; kernel_rfl) rfl rfl)) (fun q => bcontra q hb32) ?_
    intro v35 w37 hm36
    obtain ⟨r39, h40, q41⟩ := ob q33; clear q33
    refine t_efg rfl rfl rfl rfl (gv_t _) (fun _ => (ef_call tf12 (evc (gvx rfl hb32) (evc rfl evn)) (humpgen_Ints_ok h40 (hm36.sl_call 4 rfl) (hm36.sl_call 0 rfl)))) (fun q => bcontra q hb32) ?_
    rintro _ w43 ⟨e_, hm42⟩
    obtain rfl := e_.symm
    have hm44 := hm36.call hm42
    refine t_rd rfl (rd_and rfl (fun hc45 => rfl)) ?_
    refine t_rd rfl (rd_move rfl) ?_
    refine t_rdg rfl rfl rfl rfl (gv_t _) (fun hg46 => (rd_move rfl)) ?_
    refine t_rdg rfl rfl rfl rfl (gv_t _) (fun hg47 => (rd_eql (gvx rfl hg47) rfl)) ?_
    refine t_rd rfl (rd_and rfl (fun hc48 => (gvx rfl hc48))) ?_
    refine t_rd rfl (rd_move rfl) ?_
    refine t_rdg rfl rfl rfl rfl (gv_t _) (fun hg49 => (rd_move rfl)) ?_
    refine t_rdg rfl rfl rfl rfl (gv_t _) (fun hg50 => (rd_eql (gvx rfl hg50) rfl)) ?_
    refine t_rd rfl (rd_and rfl (fun hc51 => (gvx rfl hc51))) ?_
    refine t_rd rfl (rd_move rfl) ?_
    refine t_rdg rfl rfl rfl rfl (gv_t _) (fun hg52 => (rd_move rfl)) ?_
    obtain ⟨hb54, q55⟩ | ⟨hb54, q55⟩ := oi q41 <;> clear q41
    · skip
      refine t_efg rfl rfl rfl rfl (gv_t _) (fun _ => (ef_bslice (l := ([4] : List Int)) hm44 tS22 rfl (cs := #[(Value.int .i64 4)]) (by unfold bsl; kernel_rfl) rfl rfl)) (fun q => bcontra q hb54) ?_
      intro v57 w59 hm58
      obtain ⟨r61, h62, q63⟩ := ob q55; clear q55
      refine t_efg rfl rfl rfl rfl (gv_t _) (fun _ => (ef_call tf12 (evc (gvx rfl hb54) (evc rfl evn)) (humpgen_Ints_ok h62 (hm58.sl_call 2 rfl) (hm58.sl_call 0 rfl)))) (fun q => bcontra q hb54) ?_
      rintro _ w65 ⟨e_, hm64⟩
      obtain rfl := e_.symm
      have hm66 := hm58.call hm64
      refine t_rd rfl (rd_and rfl (fun hc67 => rfl)) ?_
      refine t_rd rfl (rd_assign rfl) ?_
      refine rwt_nil ?_
      refine qn_then ?_
      refine cw_ret ?_
      obtain rfl := os q63
      exact ret1 rfl rfl ⟨rfl, (hm66.pick [] (by decide) rfl)⟩
    · skip
      refine t_efg rfl rfl rfl rfl (R := fun v w' => v = undef ∧ w' = w43) (gv_t _) (fun hg68 => bcontra hb54 hg68) (fun _ => ⟨rfl, rfl⟩) ?_
      rintro v_ w_ ⟨e1_, e2_⟩; rw [e1_, e2_]; clear e1_ e2_ v_ w_
      refine t_efg rfl rfl rfl rfl (R := fun v w' => v = undef ∧ w' = w43) (gv_t _) (fun hg69 => bcontra hb54 hg69) (fun _ => ⟨rfl, rfl⟩) ?_
      rintro v_ w_ ⟨e1_, e2_⟩; rw [e1_, e2_]; clear e1_ e2_ v_ w_
      refine t_rd rfl (rd_and (b := false) rfl (fun hc70 => bcontra hb54 hc70)) ?_
      refine t_rd rfl (rd_assign rfl) ?_
      refine rwt_nil ?_
      refine qn_then ?_
      refine cw_ret ?_
      obtain rfl := os q55
      exact ret1 rfl rfl ⟨rfl, (hm44.pick [] (by decide) rfl)⟩
  · skip
    refine t_efg rfl rfl rfl rfl (R := fun v w' => v = undef ∧ w' = w25) (gv_t _) (fun hg71 => bcontra hb32 hg71) (fun _ => ⟨rfl, rfl⟩) ?_
    rintro v_ w_ ⟨e1_, e2_⟩; rw [e1_, e2_]; clear e1_ e2_ v_ w_
    refine t_efg rfl rfl rfl rfl (R := fun v w' => v = undef ∧ w' = w25) (gv_t _) (fun hg72 => bcontra hb32 hg72) (fun _ => ⟨rfl, rfl⟩) ?_
    rintro v_ w_ ⟨e1_, e2_⟩; rw [e1_, e2_]; clear e1_ e2_ v_ w_
    refine t_rd rfl (rd_and (b := false) rfl (fun hc73 => bcontra hb32 hc73)) ?_
    refine t_rd rfl (rd_move rfl) ?_
    refine t_rdg rfl rfl rfl rfl (gv_t _) (v := undef) (fun hg74 => (bcontra (bandF hb32) hg74)) ?_
    refine t_rdg rfl rfl rfl rfl (gv_t _) (v := undef) (fun hg75 => (bcontra (bandF hb32) hg75)) ?_
    refine t_rd rfl (rd_and (b := false) rfl (fun hc76 => bcontra (bandF hb32) hc76)) ?_
    refine t_rd rfl (rd_move rfl) ?_
    refine t_rdg rfl rfl rfl rfl (gv_t _) (v := undef) (fun hg77 => (bcontra (bandF (bandF hb32)) hg77)) ?_
    refine t_rdg rfl rfl rfl rfl (gv_t _) (v := undef) (fun hg78 => (bcontra (bandF (bandF hb32)) hg78)) ?_
    refine t_rd rfl (rd_and (b := false) rfl (fun hc79 => bcontra (bandF (bandF hb32)) hc79)) ?_
    refine t_rd rfl (rd_move rfl) ?_
    refine t_rdg rfl rfl rfl rfl (gv_t _) (v := undef) (fun hg80 => (bcontra (bandF (bandF (bandF hb32))) hg80)) ?_
    refine t_efg rfl rfl rfl rfl (R := fun v w' => v = undef ∧ w' = w25) (gv_t _) (fun hg81 => bcontra (bandF (bandF (bandF hb32))) hg81) (fun _ => ⟨rfl, rfl⟩) ?_
    rintro v_ w_ ⟨e1_, e2_⟩; rw [e1_, e2_]; clear e1_ e2_ v_ w_
    refine t_efg rfl rfl rfl rfl (R := fun v w' => v = undef ∧ w' = w25) (gv_t _) (fun hg82 => bcontra (bandF (bandF (bandF hb32))) hg82) (fun _ => ⟨rfl, rfl⟩) ?_
    rintro v_ w_ ⟨e1_, e2_⟩; rw [e1_, e2_]; clear e1_ e2_ v_ w_
    refine t_rd rfl (rd_and (b := false) rfl (fun hc83 => bcontra (bandF (bandF (bandF hb32))) hc83)) ?_
    refine t_rd rfl (rd_assign rfl) ?_
    refine rwt_nil ?_
    refine qn_then ?_
    refine cw_ret ?_
    obtain rfl := os q33
    exact ret1 rfl rfl ⟨rfl, (hm26.pick [] (by decide) rfl)⟩

theorem law08_ReconcileMetric_ok {N : Nat} {a0 : List Int} {a1 : Int} {res : Bool} (h : law08_ReconcileMetric N a0 a1 = some res) {w : World} {v0 : Value} (hv0 : Sl (Old w No) w v0 a0) :
    CallsR Try.prog 3 [v0, (Value.int .i64 a1)] w (fun u w' => u = (Value.bool res) ∧ Mem w No [] w') := by
  unfold law08_ReconcileMetric at h
  refine fn_ok Try.func3 rfl rfl rfl ?_
  have hm0 := Mem.nil w
  refine cw_seq ?_
  refine cw_region ?_
  refine t_rd rfl (rd_assign rfl) ?_
  refine rwt_nil ?_
  refine qn_then ?_
  refine cw_seq ?_
  refine cw_region ?_
  refine t_rd rfl (rd_move rfl) ?_
  obtain ⟨r1, h2, q3⟩ := ob h; clear h
  refine t_ef rfl (ef_call tf9 rfl (humpgen_New_ok h2 (hv0.to_call hm0))) ?_
  rintro _ w6 ⟨g4, e_, hm5⟩
  obtain rfl := e_.symm
  have hm7 := hm0.call hm5
  refine t_rd rfl (rd_assign rfl) ?_
  refine rwt_nil ?_
  refine qn_then ?_
  refine cw_seq ?_
  refine cw_region ?_
  refine t_rd rfl (rd_move rfl) ?_
  obtain ⟨r8, h9, q10⟩ := ob q3; clear q3
  refine t_ef rfl (ef_call tf10 rfl (law08_lists_ok h9 (hv0.to_callT (k := 0) hm7 rfl) (hm7.get (k := 0) rfl))) ?_
  rintro _ w14 ⟨v11, v12, e_, hm13⟩
  obtain rfl := e_.symm
  have hm15 := hm7.callT (k := 0) rfl (fun _ h => h) hm13 (fun _ => Iff.rfl)
  refine t_rd rfl (rd_move rfl) ?_
  refine t_rd rfl (rd_extract rfl rfl) ?_
  refine t_rd rfl (rd_extract rfl rfl) ?_
  refine t_rd rfl (rd_assign rfl) ?_
  refine t_rd rfl (rd_assign rfl) ?_
  refine rwt_nil ?_
  refine qn_then ?_
  refine cw_seq ?_
  refine cw_region ?_
  refine t_rd rfl (rd_move rfl) ?_
  refine t_rd rfl (rd_move rfl) ?_
  obtain ⟨r16, h17, q18⟩ := ob q10; clear q10
  refine t_ef rfl (ef_call tf11 rfl (reconcile_Align_ok h17 (hm15.sl_call 0 rfl) (hm15.sl_call 1 rfl))) ?_
  rintro _ w21 ⟨v19, e_, hm20⟩
  obtain rfl := e_.symm
  have hm22 := hm15.call hm20
  refine t_rd rfl (rd_move rfl) ?_
  refine t_rd rfl (rd_extract rfl rfl) ?_
  refine t_rd rfl (rd_extract rfl rfl) ?_
  refine t_rd rfl (rd_extract rfl rfl) ?_
  refine t_rd rfl (rd_assign rfl) ?_
  refine t_rd rfl (rd_assign rfl) ?_
  refine t_rd rfl (rd_assign rfl) ?_
  refine rwt_nil ?_
  refine qn_then ?_
  refine cw_seq ?_
  refine cw_region ?_
  refine t_rd rfl (rd_move rfl) ?_
  refine t_rd rfl (rd_move rfl) ?_
  obtain ⟨r23, h24, q25⟩ := ob q18; clear q18
  refine t_ef rfl (ef_call tf11 rfl (reconcile_Align_ok h24 (hm22.sl_call 2 rfl) (hm22.sl_call 1 rfl))) ?_
  rintro _ w28 ⟨v26, e_, hm27⟩
  obtain rfl := e_.symm
  have hm29 := hm22.call hm27
  refine t_rd rfl (rd_move rfl) ?_
  refine t_rd rfl (rd_extract rfl rfl) ?_
  refine t_rd rfl (rd_extract rfl rfl) ?_
  refine t_rd rfl (rd_extract rfl rfl) ?_
  refine t_rd rfl (rd_assign rfl) ?_
  refine t_rd rfl (rd_assign rfl) ?_
  refine t_rd rfl (rd_assign rfl) ?_
  refine rwt_nil ?_
  refine qn_then ?_
  refine cw_seq ?_
  refine cw_region ?_
  refine t_rd rfl (rd_move rfl) ?_
  refine t_rd rfl (rd_move rfl) ?_
  obtain ⟨r30, h31, q32⟩ := ob q25; clear q25
  refine t_ef rfl (ef_call tf11 rfl (reconcile_Align_ok h31 (hm29.sl_call 2 rfl) (hm29.sl_call 2 rfl))) ?_
  rintro _ w35 ⟨v33, e_, hm34⟩
  obtain rfl := e_.symm
  have hm36 := hm29.call hm34
  refine t_rd rfl (rd_move rfl) ?_
  refine t_rd rfl (rd_extract rfl rfl) ?_
  refine t_rd rfl (rd_extract rfl rfl) ?_
  refine t_rd rfl (rd_extract rfl rfl) ?_
  refine t_rd rfl (rd_assign rfl) ?_
  refine t_rd rfl (rd_assign rfl) ?_
  refine t_rd rfl (rd_assign rfl) ?_
  refine rwt_nil ?_
  refine qn_then ?_
  refine cw_seq ?_
  refine cw_region ?_
  refine t_ef rfl (ef_bslice0 (α := Int) hm36 tS22) ?_
  intro v37 w39 hm38
  refine t_rd rfl (rd_move rfl) ?_
  obtain ⟨l40, h41, q42⟩ := ob q32; clear q32
  refine t_ef rfl (ef_append (k := 0) hm38 tS22 tE3 rfl rfl rfl rfl (hm38.sl 4 rfl) h41) ?_
  intro v43 w45 hm44
  refine t_rd rfl (rd_move rfl) ?_
  refine t_ef rfl (ef_bslice (l := ([a1] : List Int)) hm44 tS22 rfl (cs := #[(Value.int .i64 a1)]) (by unfold bsl; kernel_rfl) rfl rfl) ?_
  intro v46 w48 hm47
  obtain ⟨l49, h50, q51⟩ := ob q42; clear q42
  refine t_ef rfl (ef_append (k := 1) hm47 tS22 tE3 rfl rfl rfl rfl (hm47.sl 0 rfl) h50) ?_
  intro v52 w54 hm53
  refine t_rd rfl (rd_move rfl) ?_
  obtain ⟨r55, h56, q57⟩ := ob q51; clear q51
  refine t_ef rfl (ef_call tf11 rfl (reconcile_Align_ok h56 (hm53.sl_call 1 rfl) (hm53.sl_call 6 rfl))) ?_
  rintro _ w60 ⟨v58, e_, hm59⟩
  obtain rfl := e_.symm
  have hm61 := hm53.call hm59
  refine t_rd rfl (rd_move rfl) ?_
  refine t_rd rfl (rd_extract rfl rfl) ?_
  refine t_rd rfl (rd_extract rfl rfl) ?_
  refine t_rd rfl (rd_extract rfl rfl) ?_
  refine t_rd rfl (rd_assign rfl) ?_
  refine t_rd rfl (rd_assign rfl) ?_
  refine t_rd rfl (rd_assign rfl) ?_
  refine rwt_nil ?_
  refine qn_then ?_
  refine cw_seq ?_
  refine cw_seq ?_
  refine cw_region ?_
  refine t_rd rfl (rd_move rfl) ?_
  refine t_rd rfl (rd_neq rfl rfl) ?_
  refine t_rd rfl (rd_move rfl) ?_
  refine t_rdg rfl rfl rfl rfl (gv_f _) (fun hg62 => (rd_move rfl)) ?_
  refine t_rdg rfl rfl rfl rfl (gv_f _) (fun hg63 => (rd_neq (gvx rfl hg63) rfl)) ?_
  refine t_rd rfl (rd_or rfl (fun hc64 => (gvx rfl (bnotIt hc64)))) ?_
  refine t_rd rfl (rd_move rfl) ?_
  refine t_rdg rfl rfl rfl rfl (gv_f _) (fun hg65 => (rd_move rfl)) ?_
  refine t_rdg rfl rfl rfl rfl (gv_f _) (fun hg66 => (rd_neq (gvx rfl hg66) rfl)) ?_
  refine t_rd rfl (rd_or rfl (fun hc67 => (gvx rfl (bnotIt hc67)))) ?_
  refine t_rd rfl (rd_move rfl) ?_
  refine t_rdg rfl rfl rfl rfl (gv_f _) (fun hg68 => (rd_move rfl)) ?_
  refine t_rdg rfl rfl rfl rfl (gv_f _) (fun hg69 => (rd_neq (gvx rfl hg69) rfl)) ?_
  refine t_rd rfl (rd_or rfl (fun hc70 => (gvx rfl (bnotIt hc70)))) ?_
  refine t_rd rfl (rd_move rfl) ?_
  refine t_rdg rfl rfl rfl rfl (gv_f _) (fun hg71 => (rd_move rfl)) ?_
  refine t_rdg rfl rfl rfl rfl (gv_f _) (fun hg72 => (rd_move rfl)) ?_
  refine t_rdg rfl rfl rfl rfl (gv_f _) (fun hg73 => (rd_neq (gvx rfl hg73) (gvx rfl hg73))) ?_
  refine t_rd rfl (rd_or rfl (fun hc74 => (gvx rfl (bnotIt hc74)))) ?_
  refine t_rd rfl (rd_move rfl) ?_
  refine t_rdg rfl rfl rfl rfl (gv_f _) (fun hg75 => (rd_move rfl)) ?_
  refine t_rdg rfl rfl rfl rfl (gv_f _) (fun hg76 => (rd_neq (gvx rfl hg76) rfl)) ?_
  refine t_rd rfl (rd_or rfl (fun hc77 => (gvx rfl (bnotIt hc77)))) ?_
  refine t_rd rfl (rd_move rfl) ?_
  refine t_rdg rfl rfl rfl rfl (gv_f _) (fun hg78 => (rd_move rfl)) ?_
  refine t_rdg rfl rfl rfl rfl (gv_f _) (fun hg79 => (rd_lenS tS22 (gvx rfl hg79) (hm61.sl 3 rfl))) ?_
  refine t_rdg rfl rfl rfl rfl (gv_f _) (fun hg80 => (rd_move rfl)) ?_
  refine t_rdg rfl rfl rfl rfl (gv_f _) (fun hg81 => (rd_lenS tS22 (gvx rfl hg81) (hm61.sl 6 rfl))) ?_
  refine t_rdg rfl rfl rfl rfl (gv_f _) (fun hg82 => (rd_neq (gvx rfl hg82) (gvx rfl hg82))) ?_
  refine t_rd rfl (rd_or rfl (fun hc83 => (gvx rfl (bnotIt hc83)))) ?_
  refine t_rd rfl (rd_move rfl) ?_
  refine t_rdg rfl rfl rfl rfl (gv_f _) (fun hg84 => (rd_move rfl)) ?_
  refine t_rdg rfl rfl rfl rfl (gv_f _) (fun hg85 => (rd_eql (gvx rfl hg85) rfl)) ?_
  refine t_rdg rfl rfl rfl rfl (gv_f _) (fun hg86 => (rd_move rfl)) ?_
  refine t_rdg rfl rfl rfl rfl (gv_f _) (fun hg87 => (rd_move rfl)) ?_
  obtain ⟨r89, h90, q91⟩ := ob q57; clear q57
  refine t_efg rfl rfl rfl rfl (R := (fun v w' => v = gV (!(((((((!decide (r16.2.2 = 0)) || (!decide (r23.2.2 = 0))) || (!decide (r30.2.2 = 0))) || (!decide (r55.2.2 = 0))) || (!decide (r16.2.1 = r23.2.1))) || (!decide (r30.2.1 = 0))) || (!decide ((List.length r30.1 : Int) = (List.length r8.2.1 : Int))))) (Value.bool r89) ∧ Mem w60 No [] w')) (gv_f _) (fun hg88 => (ef_call tf12 (evc (gvx rfl hg88) (evc (gvx rfl hg88) evn)) (humpgen_Ints_ok (gO_t h90 hg88) (hm61.sl_call 6 rfl) (hm61.sl_call 7 rfl))).mono (by rintro _ _ ⟨rfl, q⟩; exact ⟨(gV_t hg88).symm, q⟩)) (fun q => ⟨(gV_f q).symm, Mem.nil _⟩) ?_
  rintro _ w93 ⟨rfl, hm92⟩
  have hm94 := hm61.call hm92
  refine t_rdg rfl rfl rfl rfl (gv_f _) (fun hg95 => (rd_neqb tB4 (gvx rfl hg95) (gvx rfl hg95))) ?_
  refine t_rd rfl (rd_or rfl (fun hc96 => (gvx rfl (bnotIt hc96)))) ?_
  refine rwt_nil ?_
  refine qn_then ?_
  obtain ⟨hb97, q98⟩ | ⟨hb97, q98⟩ := oi q91 <;> clear q91
  · refine cw_t rfl hb97 ?_
    refine cw_seq ?_
    refine cw_region ?_
    refine t_rd rfl (rd_assign rfl) ?_
    refine rwt_nil ?_
    refine qn_then ?_
    refine cw_ret ?_
    refine qr_then ?_
    obtain rfl := os q98
    exact ret1 rfl rfl ⟨rfl, (hm94.pick [] (by decide) rfl)⟩
  · refine cw_f rfl hb97 ?_
    refine cw_skip ?_
    refine qn_then ?_
    refine cw_seq ?_
    refine cw_region ?_
    refine t_rd rfl (rd_move rfl) ?_
    refine t_rd rfl (rd_move rfl) ?_
    obtain ⟨x99, h100, q101⟩ := ob q98; clear q98
    refine t_rd rfl (rd_add64 h100 rfl rfl) ?_
    refine t_rd rfl (rd_leq rfl rfl) ?_
    refine t_rd rfl (rd_move rfl) ?_
    refine t_rdg rfl rfl rfl rfl (gv_t _) (fun hg102 => (rd_move rfl)) ?_
    refine t_rdg rfl rfl rfl rfl (gv_t _) (fun hg103 => (rd_move rfl)) ?_
    obtain ⟨x105, h106, q107⟩ := ob q101; clear q101
    refine t_rdg rfl rfl rfl rfl (gv_t _) (fun hg104 => (rd_add64 (gO_t h106 hg104) (gvx rfl hg104) rfl)) ?_
    refine t_rdg rfl rfl rfl rfl (gv_t _) (fun hg108 => (rd_leq (gvx rfl hg108) (gvx rfl hg108))) ?_
    refine t_rd rfl (rd_and rfl (fun hc109 => (gvx rfl hc109))) ?_
    refine t_rd rfl (rd_move rfl) ?_
    obtain ⟨r111, h112, q113⟩ := ob q107; clear q107
    refine t_efg rfl rfl rfl rfl (R := (fun v w' => v = gV (decide (r55.2.1 ≤ x99) && decide (r16.2.1 ≤ x105)) (Value.bool r111) ∧ Mem w93 No [] w')) (gv_t _) (fun hg110 => (ef_call tf13 rfl (law08_sane_ok (gO_t h112 hg110))).mono (by rintro _ _ ⟨rfl, q⟩; exact ⟨(gV_t hg110).symm, q⟩)) (fun q => ⟨(gV_f q).symm, Mem.nil _⟩) ?_
    rintro _ w115 ⟨rfl, hm114⟩
    have hm116 := hm94.call hm114
    refine t_rd rfl (rd_and rfl (fun hc117 => (gvx rfl hc117))) ?_
    refine t_rd rfl (rd_assign rfl) ?_
    refine rwt_nil ?_
    refine qn_then ?_
    refine cw_ret ?_
    obtain rfl := os q113
    exact ret1 rfl rfl ⟨rfl, (hm116.pick [] (by decide) rfl)⟩

theorem r08_long_ok {N : Nat} {a0 : List Int} {a1 : List Int} {res : Bool} (h : r08_long N a0 a1 = some res) {w : World} {v0 : Value} {v1 : Value} (hv0 : Sl (Old w No) w v0 a0) (hv1 : Sl (Old w No) w v1 a1) :
    CallsR Try.prog 28 [v0, v1] w (fun u w' => u = (Value.bool res) ∧ Mem w No [] w') := by
  unfold r08_long at h
  refine fn_ok Try.func28 rfl rfl rfl ?_
  have hm0 := Mem.nil w
  refine cw_seq ?_
  refine cw_region ?_
  refine t_rd rfl (rd_assign rfl) ?_
  refine rwt_nil ?_
  refine qn_then ?_
  refine cw_seq ?_
  refine cw_region ?_
  refine t_rd rfl (rd_move rfl) ?_
  refine t_rd rfl (rd_lenS tS22 rfl (hv0.of_old hm0)) ?_
  refine t_rd rfl (rd_gtr rfl rfl) ?_
  refine t_rd rfl (rd_move rfl) ?_
  refine t_rdg rfl rfl rfl rfl (gv_f _) (fun hg1 => (rd_move rfl)) ?_
  refine t_rdg rfl rfl rfl rfl (gv_f _) (fun hg2 => (rd_lenS tS22 (gvx rfl hg2) (hv1.of_old hm0))) ?_
  refine t_rdg rfl rfl rfl rfl (gv_f _) (fun hg3 => (rd_gtr (gvx rfl hg3) rfl)) ?_
  refine t_rd rfl (rd_or rfl (fun hc4 => (gvx rfl (bnotIt hc4)))) ?_
  refine t_rd rfl (rd_assign rfl) ?_
  refine rwt_nil ?_
  refine qn_then ?_
  refine cw_ret ?_
  obtain rfl := os h
  exact ret1 rfl rfl ⟨rfl, (hm0.pick [] (by decide) rfl)⟩

theorem r08_table_ok {N : Nat} {a0 : List Int} {a1 : List Int} {res : List (List Int)} (h : r08_table N a0 a1 = some res) {w : World} {v0 : Value} {v1 : Value} (hv0 : Sl (Old w No) w v0 a0) (hv1 : Sl (Old w No) w v1 a1) :
    CallsR Try.prog 29 [v0, v1] w (fun u w' => ∃ (zy0 : List Hdr) (y1 : Value), u = y1 ∧ Mem w No [ownL 22 y1 (zy0 : List Hdr), rowsC 3 zy0 (res : List (List Int)) none] w') := by
  unfold r08_table at h
  refine fn_ok Try.func29 rfl rfl rfl ?_
  have hm0 := Mem.nil w
  refine cw_seq ?_
  refine cw_region ?_
  refine t_rd rfl (rd_assign rfl) ?_
  refine rwt_nil ?_
  refine qn_then ?_
  refine cw_seq ?_
  refine cw_region ?_
  refine t_rd rfl (rd_assign rfl) ?_
  refine rwt_nil ?_
  refine qn_then ?_
  refine cw_seq ?_
  refine cw_seq ?_
  refine cw_region ?_
  refine t_rd rfl (rd_assign rfl) ?_
  refine rwt_nil ?_
  refine qn_then ?_
  refine cw_block ?_
  have hm105 := hm0.addNil (α := Hdr) 22
  have hm106 := hm105.rowsNil (α := Int) 3
  obtain ⟨r329, hit330, q331⟩ := ob h; clear h
  refine cw_loop2 (I := fun q envq wq => ∃ (v321 : Value) (zs322 : List Hdr), Sub [(0, v0), (1, v1), (5, v321), (6, (Value.int .i64 q.1))] envq ∧ Mem w No [rowsC 3 zs322 (q.2 : List (List Int)) none, ownL 22 v321 (zs322 : List Hdr)] wq) (X := fun eq envq wq => eq = .exit 0 ∧ ∃ (v317 : Value) (zs318 : List Hdr), Sub [(5, v317)] envq ∧ Mem w No [rowsC 3 zs318 (r329 : List (List Int)) none, ownL 22 v317 (zs318 : List Hdr)] wq) hit330 ⟨(Value.slice none 0 0), [], (by repeat (first | exact Sub.nil _ | refine Sub.cons rfl ?_)), (hm106.pick [0, 1] (by decide) rfl)⟩ ?_ ?_
  · rintro ⟨i319, l320⟩ x324 env325 w326 hf327 hr328 ⟨v321, zs322, hs_, hm_⟩
    have hs_ : Sub [(0, v0), (1, v1), (5, v321), (6, (Value.int .i64 i319))] env325 := hs_
    have hm332 : Mem w No [rowsC 3 zs322 (l320 : List (List Int)) none, ownL 22 v321 (zs322 : List Hdr)] w326 := hm_
    refine cw_sub hs_ ?_
    clear hs_ hm_ q331
    have h : r08_table_l4 N a0 a1 i319 l320 = some x324 := hf327
    clear hf327
    refine cw_seq ?_
    refine cw_seq ?_
    refine cw_region ?_
    refine t_rd rfl (rd_move rfl) ?_
    refine t_rd rfl (rd_move rfl) ?_
    refine t_rd rfl (rd_lenS tS22 rfl (hv0.of_old hm332)) ?_
    refine t_rd rfl (rd_leq rfl rfl) ?_
    refine rwt_nil ?_
    refine qn_then ?_
    obtain ⟨hb333, q334⟩ | ⟨hb333, q334⟩ := oi h <;> clear h
    · refine cw_t rfl hb333 ?_
      refine cw_skip ?_
      refine qn_then ?_
      refine cw_seq ?_
      refine cw_block ?_
      refine cw_seq ?_
      refine cw_region ?_
      refine t_rd rfl (rd_assign rfl) ?_
      refine rwt_nil ?_
      refine qn_then ?_
      refine cw_seq ?_
      refine cw_seq ?_
      refine cw_region ?_
      refine t_rd rfl (rd_assign rfl) ?_
      refine rwt_nil ?_
      refine qn_then ?_
      refine cw_block ?_
      have hm350 := hm332.addNil (α := Int) 3
      obtain ⟨r394, hit395, q396⟩ := ob q334; clear q334
      refine cw_loop2 (I := fun q envq wq => ∃ (v387 : Value), Sub [(0, v0), (1, v1), (5, v321), (6, (Value.int .i64 i319)), (7, v387), (8, (Value.int .i64 q.1))] envq ∧ Mem w No [ownL 3 v387 (q.2 : List Int), rowsC 3 zs322 (l320 : List (List Int)) none, ownL 22 v321 (zs322 : List Hdr)] wq) (X := fun eq envq wq => eq = .exit 2 ∧ ∃ (v384 : Value), Sub [(0, v0), (1, v1), (5, v321), (6, (Value.int .i64 i319)), (7, v384)] envq ∧ Mem w No [ownL 3 v384 (r394 : List Int), rowsC 3 zs322 (l320 : List (List Int)) none, ownL 22 v321 (zs322 : List Hdr)] wq) hit395 ⟨(Value.slice none 0 0), (by repeat (first | exact Sub.nil _ | refine Sub.cons rfl ?_)), (hm350.pick [0, 1, 2] (by decide) rfl)⟩ ?_ ?_
      · rintro ⟨i385, l386⟩ x389 env390 w391 hf392 hr393 ⟨v387, hs_, hm_⟩
        have hs_ : Sub [(0, v0), (1, v1), (5, v321), (6, (Value.int .i64 i319)), (7, v387), (8, (Value.int .i64 i385))] env390 := hs_
        have hm397 : Mem w No [ownL 3 v387 (l386 : List Int), rowsC 3 zs322 (l320 : List (List Int)) none, ownL 22 v321 (zs322 : List Hdr)] w391 := hm_
        refine cw_sub hs_ ?_
        clear hs_ hm_ q396
        have h : r08_table_l5 N a1 i385 l386 = some x389 := hf392
        clear hf392
        refine cw_seq ?_
        refine cw_seq ?_
        refine cw_region ?_
        refine t_rd rfl (rd_move rfl) ?_
        refine t_rd rfl (rd_move rfl) ?_
        refine t_rd rfl (rd_lenS tS22 rfl (hv1.of_old hm397)) ?_
        refine t_rd rfl (rd_leq rfl rfl) ?_
        refine rwt_nil ?_
        refine qn_then ?_
        obtain ⟨hb398, q399⟩ | ⟨hb398, q399⟩ := oi h <;> clear h
        · refine cw_t rfl hb398 ?_
          refine cw_skip ?_
          refine qn_then ?_
          refine cw_seq ?_
          refine cw_block ?_
          refine cw_region ?_
          refine t_rd rfl (rd_move rfl) ?_
          refine t_ef rfl (ef_bslice (l := ([(-1)] : List Int)) hm397 tS22 rfl (cs := #[(Value.int .i64 (-1))]) (by unfold bsl; kernel_rfl) rfl rfl) ?_
          intro v400 w402 hm401
          obtain ⟨l403, h404, q405⟩ := ob q399; clear q399
          refine t_ef rfl (ef_append (k := 1) hm401 tS22 tE3 rfl rfl rfl rfl (hm401.sl 0 rfl) h404) ?_
          intro v406 w408 hm407
          refine t_rd rfl (rd_assign rfl) ?_
          refine rwt_nil ?_
          refine qn_block (qn_then ?_)
          refine cw_region ?_
          refine t_rd rfl (rd_move rfl) ?_
          obtain ⟨x409, h410, q411⟩ := ob q405; clear q405
          refine t_rd rfl (rd_add64 h410 rfl rfl) ?_
          refine t_rd rfl (rd_assign rfl) ?_
          refine rwt_nil ?_
          refine qn_then ?_
          refine ⟨_, (os q411), v406, (by repeat (first | exact Sub.nil _ | refine Sub.cons rfl ?_)), (hm407.pick [1, 2, 3] (by decide) rfl)⟩
        · refine cw_f rfl hb398 ?_
          refine cw_exit ?_
          refine qx_then (qx_then ?_)
          obtain rfl := hr393 _ (os q399)
          exact ⟨rfl, v387, (by repeat (first | exact Sub.nil _ | refine Sub.cons rfl ?_)), (hm397.pick [0, 1, 2] (by decide) rfl)⟩
      · skip
        intro e env412 w413 hX414
        obtain ⟨rfl, v384, hs415, hm416⟩ := hX414
        refine qx_same (qn_then ?_)
        refine cw_sub hs415 ?_
        refine cw_region ?_
        refine t_rd rfl (rd_move rfl) ?_
        refine t_rd rfl (rd_move rfl) ?_
        obtain ⟨zd417, ez418⟩ : ∃ z : Hdr, z.1 = v384 := ⟨⟨v384, sl_one (hm416.sl 0 rfl)⟩, rfl⟩
        refine t_ef rfl (ef_bslice (l := ([zd417] : List Hdr)) hm416 tS33 rfl (cs := #[v384]) (by obtain ⟨_, _, e⟩ : ∃ A c, v384 = Value.slice A (List.length r394) c := ((hm416.sl 0 rfl)).val; rw [e]; clear e; unfold bsl; kernel_rfl) (by show [zd417.1] = [v384]; rw [ez418]) rfl) ?_
        intro v419 w421 hm420
        obtain ⟨l422, h423, q424⟩ := ob q396; clear q396
        obtain ⟨ha425, he426⟩ := app_h h423 (hm420.get (k := 2) rfl).1 ((Nl.mk (hm420.sl_call 0 rfl) (Rows.cons (hm420.sl_call 1 rfl) ez418 Rows.nil))).rows.1
        refine t_ef rfl (ef_append (k := 3) hm420 tS33 tE22 rfl rfl rfl rfl ((Nl.mk (hm420.sl_call 0 rfl) (Rows.cons (hm420.sl_call 1 rfl) ez418 Rows.nil))).sp ha425) ?_
        intro v427 w429 hm428
        have hm430 := hm428.pick [2, 1, 0, 3] (L' := [rowsC 3 zs322 (l320 : List (List Int)) none, ownL 3 v384 (r394 : List Int), ownL 22 v419 ([zd417] : List Hdr), ownL 22 v427 ((zs322 ++ [zd417]) : List Hdr)]) (by decide) rfl
        have hm431 := hm430.absorb ez418 he426
        refine t_rd rfl (rd_assign rfl) ?_
        refine rwt_nil ?_
        refine qn_block (qn_then ?_)
        refine cw_region ?_
        refine t_rd rfl (rd_move rfl) ?_
        obtain ⟨x432, h433, q434⟩ := ob q424; clear q424
        refine t_rd rfl (rd_add64 h433 rfl rfl) ?_
        refine t_rd rfl (rd_assign rfl) ?_
        refine rwt_nil ?_
        refine qn_then ?_
        refine ⟨_, (os q434), v427, (zs322 ++ [zd417]), (by repeat (first | exact Sub.nil _ | refine Sub.cons rfl ?_)), (hm431.pick [0, 2] (by decide) rfl)⟩
    · refine cw_f rfl hb333 ?_
      refine cw_exit ?_
      refine qx_then (qx_then ?_)
      obtain rfl := hr328 _ (os q334)
      exact ⟨rfl, v321, zs322, (by repeat (first | exact Sub.nil _ | refine Sub.cons rfl ?_)), (hm332.pick [0, 1] (by decide) rfl)⟩
  · skip
    intro e env435 w436 hX437
    obtain ⟨rfl, v317, zs318, hs438, hm439⟩ := hX437
    refine qx_same (qn_then ?_)
    refine cw_sub hs438 ?_
    refine cw_seq ?_
    refine cw_region ?_
    refine t_rd rfl (rd_move rfl) ?_
    refine t_rd rfl (rd_assign rfl) ?_
    refine rwt_nil ?_
    refine qn_then ?_
    refine cw_ret ?_
    obtain rfl := os q331
    exact ret1 rfl rfl ⟨zs318, v317, rfl, (hm439.pick [1, 0] (by decide) rfl)⟩

theorem r08_edit_ok {N : Nat} {a0 : List Int} {a1 : List Int} {a2 : Int} {a3 : Int} {a4 : Int} {res : Int × Int × Int × Bool} (h : r08_edit N a0 a1 a2 a3 a4 = some res) {w : World} {v0 : Value} {v1 : Value} (hv0 : Sl (Old w No) w v0 a0) (hv1 : Sl (Old w No) w v1 a1) :
    CallsR Try.prog 30 [v0, v1, (Value.int .i64 a2), (Value.int .i64 a3), (Value.int .i64 a4)] w (fun u w' => u = (Value.tuple #[(Value.int .i64 res.1), (Value.int .i64 res.2.1), (Value.int .i64 res.2.2.1), (Value.bool res.2.2.2)]) ∧ Mem w No [] w') := by
  unfold r08_edit at h
  refine fn_ok Try.func30 rfl rfl rfl ?_
  have hm0 := Mem.nil w
  refine cw_seq ?_
  refine cw_region ?_
  refine t_rd rfl (rd_assign rfl) ?_
  refine t_rd rfl (rd_assign rfl) ?_
  refine t_rd rfl (rd_assign rfl) ?_
  refine t_rd rfl (rd_assign rfl) ?_
  refine rwt_nil ?_
  refine qn_then ?_
  refine cw_seq ?_
  refine cw_seq ?_
  refine cw_region ?_
  refine t_rd rfl (rd_move rfl) ?_
  refine rwt_nil ?_
  refine qn_then ?_
  refine cw_block ?_
  refine cw_seq ?_
  refine cw_region ?_
  refine t_rd rfl (rd_eql rfl rfl) ?_
  refine t_rd rfl (rd_assign rfl) ?_
  refine rwt_nil ?_
  refine qn_then ?_
  obtain ⟨hb1, q2⟩ | ⟨hb1, q2⟩ := oi h <;> clear h
  · refine cw_t rfl hb1 ?_
    refine cw_seq ?_
    obtain ⟨w4, he6⟩ : ∃ q, q = w.drew := ⟨_, rfl⟩
    have hm5 := hm0.drew; rw [← he6] at hm5
    refine cw_region_s (fun q => q = w4) (cls [] []) mixed ?_
    rintro _ rfl; rw [← he6]
    refine s_rp (i := 0) rfl (by kernel_rfl) rfl (fun _ => (rd_move rfl)) ?_
    obtain ⟨x7, h8, q9⟩ := ob q2; clear q2
    refine s_rp (i := 1) rfl (by kernel_rfl) rfl (fun _ => (rd_add64 h8 rfl rfl)) ?_
    refine s_rp (i := 2) rfl (by kernel_rfl) rfl (fun _ => (rd_move rfl)) ?_
    obtain ⟨x10, h11, q12⟩ := ob q9; clear q9
    refine s_rp (i := 3) rfl (by kernel_rfl) rfl (fun _ => (rd_add64 h11 rfl rfl)) ?_
    refine s_rp (i := 4) rfl (by kernel_rfl) rfl (fun _ => (rd_move rfl)) ?_
    refine s_rp (i := 5) rfl (by kernel_rfl) rfl (fun _ => (rd_move rfl)) ?_
    refine s_rp (i := 6) rfl (by kernel_rfl) rfl (fun _ => (rd_lenS tS22 rfl (hv0.of_old hm5))) ?_
    refine s_rp (i := 7) rfl (by kernel_rfl) rfl (fun _ => (rd_lss rfl rfl)) ?_
    refine s_rp (i := 8) rfl (by kernel_rfl) rfl (fun _ => (rd_move rfl)) ?_
    refine s_rpg (i := 9) rfl (by kernel_rfl) rfl rfl rfl rfl (gv_t _) (fun hg13 _ => (rd_move rfl)) ?_
    refine s_rpg (i := 10) rfl (by kernel_rfl) rfl rfl rfl rfl (gv_t _) (fun hg14 _ => (rd_move rfl)) ?_
    refine s_rpg (i := 11) rfl (by kernel_rfl) rfl rfl rfl rfl (gv_t _) (fun hg15 _ => (rd_lenS tS22 (gvx rfl hg15) (hv1.of_old hm5))) ?_
    refine s_rpg (i := 12) rfl (by kernel_rfl) rfl rfl rfl rfl (gv_t _) (fun hg16 _ => (rd_lss (gvx rfl hg16) (gvx rfl hg16))) ?_
    refine s_rp (i := 13) rfl (by kernel_rfl) rfl (fun _ => (rd_and rfl (fun hc17 => (gvx rfl hc17)))) ?_
    refine s_rp (i := 14) rfl (by kernel_rfl) rfl (fun _ => (rd_move rfl)) ?_
    refine s_rpg (i := 15) rfl (by kernel_rfl) rfl rfl rfl rfl (gv_t _) (fun hg18 _ => (rd_move rfl)) ?_
    refine s_rpg (i := 16) rfl (by kernel_rfl) rfl rfl rfl rfl (gv_t _) (fun hg19 _ => (rd_move rfl)) ?_
    obtain ⟨x21, h22, q23⟩ := ob q12; clear q12
    refine s_rpg (i := 17) rfl (by kernel_rfl) rfl rfl rfl rfl (gv_t _) (fun hg20 _ => (rd_index tS22 (gvx rfl hg20) (gvx rfl hg20) (hv0.of_old hm5) (gO_t h22 hg20))) ?_
    refine s_rdg (i := 18) rfl (by kernel_rfl) rfl rfl rfl rfl (gv_t _) (fun hg24 => (fun _ hS => by rw [hS]; exact (rd_ld1 tO3 (gvx rfl hg24) ((hv0.of_old hm5).cells (gO_t h22 hg24)) (off := 0) rfl))) rfl ?_
    refine s_rpg (i := 19) rfl (by kernel_rfl) rfl rfl rfl rfl (gv_t _) (fun hg25 _ => (rd_move rfl)) ?_
    refine s_rpg (i := 20) rfl (by kernel_rfl) rfl rfl rfl rfl (gv_t _) (fun hg26 _ => (rd_move rfl)) ?_
    obtain ⟨x28, h29, q30⟩ := ob q23; clear q23
    refine s_rpg (i := 21) rfl (by kernel_rfl) rfl rfl rfl rfl (gv_t _) (fun hg27 _ => (rd_index tS22 (gvx rfl hg27) (gvx rfl hg27) (hv1.of_old hm5) (gO_t h29 hg27))) ?_
    refine s_rdg (i := 22) rfl (by kernel_rfl) rfl rfl rfl rfl (gv_t _) (fun hg31 => (fun _ hS => by rw [hS]; exact (rd_ld1 tO3 (gvx rfl hg31) ((hv1.of_old hm5).cells (gO_t h29 hg31)) (off := 0) rfl))) rfl ?_
    refine s_rpg (i := 23) rfl (by kernel_rfl) rfl rfl rfl rfl (gv_t _) (fun hg32 _ => (rd_eql (gvx rfl hg32) (gvx rfl hg32))) ?_
    refine s_rp (i := 24) rfl (by kernel_rfl) rfl (fun _ => (rd_and rfl (fun hc33 => (gvx rfl hc33)))) ?_
    refine s_rp (i := 25) rfl (by kernel_rfl) rfl (fun _ => (rd_assign rfl)) ?_
    refine s_rp (i := 26) rfl (by kernel_rfl) rfl (fun _ => (rd_assign rfl)) ?_
    refine s_rp (i := 27) rfl (by kernel_rfl) rfl (fun _ => (rd_assign rfl)) ?_
    refine s_rp (i := 28) rfl (by kernel_rfl) rfl (fun _ => (rd_assign rfl)) ?_
    refine s_nil (by kernel_rfl) ?_
    refine qn_then ?_
    refine cw_ret ?_
    refine qr_block (qr_then ?_)
    obtain rfl := os q30
    exact retLn (rs := [.tmp 10, .tmp 11, .tmp 12, .tmp 13]) rfl (.rt rfl (.rt rfl (.rt rfl (.rt rfl .rn)))) rfl ⟨rfl, (hm5.pick [] (by decide) rfl)⟩
  · refine cw_f rfl hb1 ?_
    refine cw_seq ?_
    refine cw_region ?_
    refine t_rd rfl (rd_eql rfl rfl) ?_
    refine t_rd rfl (rd_assign rfl) ?_
    refine rwt_nil ?_
    refine qn_then ?_
    obtain ⟨hb34, q35⟩ | ⟨hb34, q35⟩ := oi q2 <;> clear q2
    · refine cw_t rfl hb34 ?_
      refine cw_seq ?_
      obtain ⟨w37, he39⟩ : ∃ q, q = w.drew := ⟨_, rfl⟩
      have hm38 := hm0.drew; rw [← he39] at hm38
      refine cw_region_s (fun q => q = w37) (cls [] []) mixed ?_
      rintro _ rfl; rw [← he39]
      refine s_rp (i := 0) rfl (by kernel_rfl) rfl (fun _ => (rd_move rfl)) ?_
      obtain ⟨x40, h41, q42⟩ := ob q35; clear q35
      refine s_rp (i := 1) rfl (by kernel_rfl) rfl (fun _ => (rd_add64 h41 rfl rfl)) ?_
      refine s_rp (i := 2) rfl (by kernel_rfl) rfl (fun _ => (rd_move rfl)) ?_
      obtain ⟨x43, h44, q45⟩ := ob q42; clear q42
      refine s_rp (i := 3) rfl (by kernel_rfl) rfl (fun _ => (rd_add64 h44 rfl rfl)) ?_
      refine s_rp (i := 4) rfl (by kernel_rfl) rfl (fun _ => (rd_move rfl)) ?_
      refine s_rp (i := 5) rfl (by kernel_rfl) rfl (fun _ => (rd_move rfl)) ?_
      refine s_rp (i := 6) rfl (by kernel_rfl) rfl (fun _ => (rd_lenS tS22 rfl (hv0.of_old hm38))) ?_
      refine s_rp (i := 7) rfl (by kernel_rfl) rfl (fun _ => (rd_lss rfl rfl)) ?_
      refine s_rp (i := 8) rfl (by kernel_rfl) rfl (fun _ => (rd_move rfl)) ?_
      refine s_rpg (i := 9) rfl (by kernel_rfl) rfl rfl rfl rfl (gv_t _) (fun hg46 _ => (rd_move rfl)) ?_
      refine s_rpg (i := 10) rfl (by kernel_rfl) rfl rfl rfl rfl (gv_t _) (fun hg47 _ => (rd_move rfl)) ?_
      refine s_rpg (i := 11) rfl (by kernel_rfl) rfl rfl rfl rfl (gv_t _) (fun hg48 _ => (rd_lenS tS22 (gvx rfl hg48) (hv1.of_old hm38))) ?_
      refine s_rpg (i := 12) rfl (by kernel_rfl) rfl rfl rfl rfl (gv_t _) (fun hg49 _ => (rd_lss (gvx rfl hg49) (gvx rfl hg49))) ?_
      refine s_rp (i := 13) rfl (by kernel_rfl) rfl (fun _ => (rd_and rfl (fun hc50 => (gvx rfl hc50)))) ?_
      refine s_rp (i := 14) rfl (by kernel_rfl) rfl (fun _ => (rd_move rfl)) ?_
      refine s_rpg (i := 15) rfl (by kernel_rfl) rfl rfl rfl rfl (gv_t _) (fun hg51 _ => (rd_move rfl)) ?_
      refine s_rpg (i := 16) rfl (by kernel_rfl) rfl rfl rfl rfl (gv_t _) (fun hg52 _ => (rd_move rfl)) ?_
      obtain ⟨x54, h55, q56⟩ := ob q45; clear q45
      refine s_rpg (i := 17) rfl (by kernel_rfl) rfl rfl rfl rfl (gv_t _) (fun hg53 _ => (rd_index tS22 (gvx rfl hg53) (gvx rfl hg53) (hv0.of_old hm38) (gO_t h55 hg53))) ?_
      refine s_rdg (i := 18) rfl (by kernel_rfl) rfl rfl rfl rfl (gv_t _) (fun hg57 => (fun _ hS => by rw [hS]; exact (rd_ld1 tO3 (gvx rfl hg57) ((hv0.of_old hm38).cells (gO_t h55 hg57)) (off := 0) rfl))) rfl ?_
      refine s_rpg (i := 19) rfl (by kernel_rfl) rfl rfl rfl rfl (gv_t _) (fun hg58 _ => (rd_move rfl)) ?_
      refine s_rpg (i := 20) rfl (by kernel_rfl) rfl rfl rfl rfl (gv_t _) (fun hg59 _ => (rd_move rfl)) ?_
      obtain ⟨x61, h62, q63⟩ := ob q56; clear q56
      refine s_rpg (i := 21) rfl (by kernel_rfl) rfl rfl rfl rfl (gv_t _) (fun hg60 _ => (rd_index tS22 (gvx rfl hg60) (gvx rfl hg60) (hv1.of_old hm38) (gO_t h62 hg60))) ?_
      refine s_rdg (i := 22) rfl (by kernel_rfl) rfl rfl rfl rfl (gv_t _) (fun hg64 => (fun _ hS => by rw [hS]; exact (rd_ld1 tO3 (gvx rfl hg64) ((hv1.of_old hm38).cells (gO_t h62 hg64)) (off := 0) rfl))) rfl ?_
      refine s_rpg (i := 23) rfl (by kernel_rfl) rfl rfl rfl rfl (gv_t _) (fun hg65 _ => (rd_neq (gvx rfl hg65) (gvx rfl hg65))) ?_
      refine s_rp (i := 24) rfl (by kernel_rfl) rfl (fun _ => (rd_and rfl (fun hc66 => (gvx rfl hc66)))) ?_
      refine s_rp (i := 25) rfl (by kernel_rfl) rfl (fun _ => (rd_assign rfl)) ?_
      refine s_rp (i := 26) rfl (by kernel_rfl) rfl (fun _ => (rd_assign rfl)) ?_
      refine s_rp (i := 27) rfl (by kernel_rfl) rfl (fun _ => (rd_assign rfl)) ?_
      refine s_rp (i := 28) rfl (by kernel_rfl) rfl (fun _ => (rd_assign rfl)) ?_
      refine s_nil (by kernel_rfl) ?_
      refine qn_then ?_
      refine cw_ret ?_
      refine qr_block (qr_then ?_)
      obtain rfl := os q63
      exact retLn (rs := [.tmp 10, .tmp 11, .tmp 12, .tmp 13]) rfl (.rt rfl (.rt rfl (.rt rfl (.rt rfl .rn)))) rfl ⟨rfl, (hm38.pick [] (by decide) rfl)⟩
    · refine cw_f rfl hb34 ?_
      refine cw_seq ?_
      refine cw_region ?_
      refine t_rd rfl (rd_eql rfl rfl) ?_
      refine t_rd rfl (rd_assign rfl) ?_
      refine rwt_nil ?_
      refine qn_then ?_
      obtain ⟨hb67, q68⟩ | ⟨hb67, q68⟩ := oi q35 <;> clear q35
      · refine cw_t rfl hb67 ?_
        refine cw_seq ?_
        refine cw_region ?_
        refine t_rd rfl (rd_move rfl) ?_
        obtain ⟨x69, h70, q71⟩ := ob q68; clear q68
        refine t_rd rfl (rd_add64 h70 rfl rfl) ?_
        refine t_rd rfl (rd_move rfl) ?_
        refine t_rd rfl (rd_move rfl) ?_
        refine t_rd rfl (rd_move rfl) ?_
        refine t_rd rfl (rd_lenS tS22 rfl (hv0.of_old hm0)) ?_
        refine t_rd rfl (rd_lss rfl rfl) ?_
        refine t_rd rfl (rd_assign rfl) ?_
        refine t_rd rfl (rd_assign rfl) ?_
        refine t_rd rfl (rd_assign rfl) ?_
        refine t_rd rfl (rd_assign rfl) ?_
        refine rwt_nil ?_
        refine qn_then ?_
        refine cw_ret ?_
        refine qr_block (qr_then ?_)
        obtain rfl := os q71
        exact retLn (rs := [.tmp 10, .tmp 11, .tmp 12, .tmp 13]) rfl (.rt rfl (.rt rfl (.rt rfl (.rt rfl .rn)))) rfl ⟨rfl, (hm0.pick [] (by decide) rfl)⟩
      · refine cw_f rfl hb67 ?_
        refine cw_seq ?_
        refine cw_region ?_
        refine t_rd rfl (rd_eql rfl rfl) ?_
        refine t_rd rfl (rd_assign rfl) ?_
        refine rwt_nil ?_
        refine qn_then ?_
        obtain ⟨hb72, q73⟩ | ⟨hb72, q73⟩ := oi q68 <;> clear q68
        · refine cw_t rfl hb72 ?_
          refine cw_seq ?_
          refine cw_region ?_
          refine t_rd rfl (rd_move rfl) ?_
          refine t_rd rfl (rd_move rfl) ?_
          obtain ⟨x74, h75, q76⟩ := ob q73; clear q73
          refine t_rd rfl (rd_add64 h75 rfl rfl) ?_
          refine t_rd rfl (rd_move rfl) ?_
          refine t_rd rfl (rd_move rfl) ?_
          refine t_rd rfl (rd_lenS tS22 rfl (hv1.of_old hm0)) ?_
          refine t_rd rfl (rd_lss rfl rfl) ?_
          refine t_rd rfl (rd_assign rfl) ?_
          refine t_rd rfl (rd_assign rfl) ?_
          refine t_rd rfl (rd_assign rfl) ?_
          refine t_rd rfl (rd_assign rfl) ?_
          refine rwt_nil ?_
          refine qn_then ?_
          refine cw_ret ?_
          refine qr_block (qr_then ?_)
          obtain rfl := os q76
          exact retLn (rs := [.tmp 10, .tmp 11, .tmp 12, .tmp 13]) rfl (.rt rfl (.rt rfl (.rt rfl (.rt rfl .rn)))) rfl ⟨rfl, (hm0.pick [] (by decide) rfl)⟩
        · refine cw_f rfl hb72 ?_
          refine cw_seq ?_
          refine cw_region ?_
          refine t_rd rfl (rd_eql rfl rfl) ?_
          refine t_rd rfl (rd_assign rfl) ?_
          refine rwt_nil ?_
          refine qn_then ?_
          obtain ⟨hb77, q78⟩ | ⟨hb77, q78⟩ := oi q73 <;> clear q73
          · refine cw_t rfl hb77 ?_
            refine cw_seq ?_
            obtain ⟨w80, he82⟩ : ∃ q, q = w.drew := ⟨_, rfl⟩
            have hm81 := hm0.drew; rw [← he82] at hm81
            refine cw_region_s (fun q => q = w80) (cls [] []) mixed ?_
            rintro _ rfl; rw [← he82]
            refine s_rp (i := 0) rfl (by kernel_rfl) rfl (fun _ => (rd_move rfl)) ?_
            obtain ⟨x83, h84, q85⟩ := ob q78; clear q78
            refine s_rp (i := 1) rfl (by kernel_rfl) rfl (fun _ => (rd_add64 h84 rfl rfl)) ?_
            refine s_rp (i := 2) rfl (by kernel_rfl) rfl (fun _ => (rd_move rfl)) ?_
            obtain ⟨x86, h87, q88⟩ := ob q85; clear q85
            refine s_rp (i := 3) rfl (by kernel_rfl) rfl (fun _ => (rd_add64 h87 rfl rfl)) ?_
            refine s_rp (i := 4) rfl (by kernel_rfl) rfl (fun _ => (rd_move rfl)) ?_
            obtain ⟨x89, h90, q91⟩ := ob q88; clear q88
            refine s_rp (i := 5) rfl (by kernel_rfl) rfl (fun _ => (rd_add64 h90 rfl rfl)) ?_
            refine s_rp (i := 6) rfl (by kernel_rfl) rfl (fun _ => (rd_move rfl)) ?_
            refine s_rp (i := 7) rfl (by kernel_rfl) rfl (fun _ => (rd_lenS tS22 rfl (hv0.of_old hm81))) ?_
            refine s_rp (i := 8) rfl (by kernel_rfl) rfl (fun _ => (rd_lss rfl rfl)) ?_
            refine s_rp (i := 9) rfl (by kernel_rfl) rfl (fun _ => (rd_move rfl)) ?_
            refine s_rpg (i := 10) rfl (by kernel_rfl) rfl rfl rfl rfl (gv_t _) (fun hg92 _ => (rd_move rfl)) ?_
            obtain ⟨x94, h95, q96⟩ := ob q91; clear q91
            refine s_rpg (i := 11) rfl (by kernel_rfl) rfl rfl rfl rfl (gv_t _) (fun hg93 _ => (rd_add64 (gO_t h95 hg93) (gvx rfl hg93) rfl)) ?_
            refine s_rpg (i := 12) rfl (by kernel_rfl) rfl rfl rfl rfl (gv_t _) (fun hg97 _ => (rd_move rfl)) ?_
            refine s_rpg (i := 13) rfl (by kernel_rfl) rfl rfl rfl rfl (gv_t _) (fun hg98 _ => (rd_lenS tS22 (gvx rfl hg98) (hv1.of_old hm81))) ?_
            refine s_rpg (i := 14) rfl (by kernel_rfl) rfl rfl rfl rfl (gv_t _) (fun hg99 _ => (rd_lss (gvx rfl hg99) (gvx rfl hg99))) ?_
            refine s_rp (i := 15) rfl (by kernel_rfl) rfl (fun _ => (rd_and rfl (fun hc100 => (gvx rfl hc100)))) ?_
            refine s_rp (i := 16) rfl (by kernel_rfl) rfl (fun _ => (rd_move rfl)) ?_
            refine s_rpg (i := 17) rfl (by kernel_rfl) rfl rfl rfl rfl (gv_t _) (fun hg101 _ => (rd_move rfl)) ?_
            refine s_rpg (i := 18) rfl (by kernel_rfl) rfl rfl rfl rfl (gv_t _) (fun hg102 _ => (rd_move rfl)) ?_
            obtain ⟨x104, h105, q106⟩ := ob q96; clear q96
            refine s_rpg (i := 19) rfl (by kernel_rfl) rfl rfl rfl rfl (gv_t _) (fun hg103 _ => (rd_index tS22 (gvx rfl hg103) (gvx rfl hg103) (hv0.of_old hm81) (gO_t h105 hg103))) ?_
            refine s_rdg (i := 20) rfl (by kernel_rfl) rfl rfl rfl rfl (gv_t _) (fun hg107 => (fun _ hS => by rw [hS]; exact (rd_ld1 tO3 (gvx rfl hg107) ((hv0.of_old hm81).cells (gO_t h105 hg107)) (off := 0) rfl))) rfl ?_
            refine s_rpg (i := 21) rfl (by kernel_rfl) rfl rfl rfl rfl (gv_t _) (fun hg108 _ => (rd_move rfl)) ?_
            refine s_rpg (i := 22) rfl (by kernel_rfl) rfl rfl rfl rfl (gv_t _) (fun hg109 _ => (rd_move rfl)) ?_
            obtain ⟨x111, h112, q113⟩ := ob q106; clear q106
            refine s_rpg (i := 23) rfl (by kernel_rfl) rfl rfl rfl rfl (gv_t _) (fun hg110 _ => (rd_add64 (gO_t h112 hg110) (gvx rfl hg110) rfl)) ?_
            obtain ⟨x115, h116, q117⟩ := ob q113; clear q113
            refine s_rpg (i := 24) rfl (by kernel_rfl) rfl rfl rfl rfl (gv_t _) (fun hg114 _ => (rd_index tS22 (gvx rfl hg114) (gvx rfl hg114) (hv1.of_old hm81) (gO_t h116 hg114))) ?_
            refine s_rdg (i := 25) rfl (by kernel_rfl) rfl rfl rfl rfl (gv_t _) (fun hg118 => (fun _ hS => by rw [hS]; exact (rd_ld1 tO3 (gvx rfl hg118) ((hv1.of_old hm81).cells (gO_t h116 hg118)) (off := 0) rfl))) rfl ?_
            refine s_rpg (i := 26) rfl (by kernel_rfl) rfl rfl rfl rfl (gv_t _) (fun hg119 _ => (rd_eql (gvx rfl hg119) (gvx rfl hg119))) ?_
            refine s_rp (i := 27) rfl (by kernel_rfl) rfl (fun _ => (rd_and rfl (fun hc120 => (gvx rfl hc120)))) ?_
            refine s_rp (i := 28) rfl (by kernel_rfl) rfl (fun _ => (rd_move rfl)) ?_
            refine s_rpg (i := 29) rfl (by kernel_rfl) rfl rfl rfl rfl (gv_t _) (fun hg121 _ => (rd_move rfl)) ?_
            refine s_rpg (i := 30) rfl (by kernel_rfl) rfl rfl rfl rfl (gv_t _) (fun hg122 _ => (rd_move rfl)) ?_
            obtain ⟨x124, h125, q126⟩ := ob q117; clear q117
            refine s_rpg (i := 31) rfl (by kernel_rfl) rfl rfl rfl rfl (gv_t _) (fun hg123 _ => (rd_add64 (gO_t h125 hg123) (gvx rfl hg123) rfl)) ?_
            obtain ⟨x128, h129, q130⟩ := ob q126; clear q126
            refine s_rpg (i := 32) rfl (by kernel_rfl) rfl rfl rfl rfl (gv_t _) (fun hg127 _ => (rd_index tS22 (gvx rfl hg127) (gvx rfl hg127) (hv0.of_old hm81) (gO_t h129 hg127))) ?_
            refine s_rdg (i := 33) rfl (by kernel_rfl) rfl rfl rfl rfl (gv_t _) (fun hg131 => (fun _ hS => by rw [hS]; exact (rd_ld1 tO3 (gvx rfl hg131) ((hv0.of_old hm81).cells (gO_t h129 hg131)) (off := 0) rfl))) rfl ?_
            refine s_rpg (i := 34) rfl (by kernel_rfl) rfl rfl rfl rfl (gv_t _) (fun hg132 _ => (rd_move rfl)) ?_
            refine s_rpg (i := 35) rfl (by kernel_rfl) rfl rfl rfl rfl (gv_t _) (fun hg133 _ => (rd_move rfl)) ?_
            obtain ⟨x135, h136, q137⟩ := ob q130; clear q130
            refine s_rpg (i := 36) rfl (by kernel_rfl) rfl rfl rfl rfl (gv_t _) (fun hg134 _ => (rd_index tS22 (gvx rfl hg134) (gvx rfl hg134) (hv1.of_old hm81) (gO_t h136 hg134))) ?_
            refine s_rdg (i := 37) rfl (by kernel_rfl) rfl rfl rfl rfl (gv_t _) (fun hg138 => (fun _ hS => by rw [hS]; exact (rd_ld1 tO3 (gvx rfl hg138) ((hv1.of_old hm81).cells (gO_t h136 hg138)) (off := 0) rfl))) rfl ?_
            refine s_rpg (i := 38) rfl (by kernel_rfl) rfl rfl rfl rfl (gv_t _) (fun hg139 _ => (rd_eql (gvx rfl hg139) (gvx rfl hg139))) ?_
            refine s_rp (i := 39) rfl (by kernel_rfl) rfl (fun _ => (rd_and rfl (fun hc140 => (gvx rfl hc140)))) ?_
            refine s_rp (i := 40) rfl (by kernel_rfl) rfl (fun _ => (rd_move rfl)) ?_
            refine s_rpg (i := 41) rfl (by kernel_rfl) rfl rfl rfl rfl (gv_t _) (fun hg141 _ => (rd_move rfl)) ?_
            refine s_rpg (i := 42) rfl (by kernel_rfl) rfl rfl rfl rfl (gv_t _) (fun hg142 _ => (rd_move rfl)) ?_
            obtain ⟨x144, h145, q146⟩ := ob q137; clear q137
            refine s_rpg (i := 43) rfl (by kernel_rfl) rfl rfl rfl rfl (gv_t _) (fun hg143 _ => (rd_index tS22 (gvx rfl hg143) (gvx rfl hg143) (hv0.of_old hm81) (gO_t h145 hg143))) ?_
            refine s_rdg (i := 44) rfl (by kernel_rfl) rfl rfl rfl rfl (gv_t _) (fun hg147 => (fun _ hS => by rw [hS]; exact (rd_ld1 tO3 (gvx rfl hg147) ((hv0.of_old hm81).cells (gO_t h145 hg147)) (off := 0) rfl))) rfl ?_
            refine s_rpg (i := 45) rfl (by kernel_rfl) rfl rfl rfl rfl (gv_t _) (fun hg148 _ => (rd_move rfl)) ?_
            refine s_rpg (i := 46) rfl (by kernel_rfl) rfl rfl rfl rfl (gv_t _) (fun hg149 _ => (rd_move rfl)) ?_
            obtain ⟨x151, h152, q153⟩ := ob q146; clear q146
            refine s_rpg (i := 47) rfl (by kernel_rfl) rfl rfl rfl rfl (gv_t _) (fun hg150 _ => (rd_add64 (gO_t h152 hg150) (gvx rfl hg150) rfl)) ?_
            obtain ⟨x155, h156, q157⟩ := ob q153; clear q153
            refine s_rpg (i := 48) rfl (by kernel_rfl) rfl rfl rfl rfl (gv_t _) (fun hg154 _ => (rd_index tS22 (gvx rfl hg154) (gvx rfl hg154) (hv0.of_old hm81) (gO_t h156 hg154))) ?_
            refine s_rdg (i := 49) rfl (by kernel_rfl) rfl rfl rfl rfl (gv_t _) (fun hg158 => (fun _ hS => by rw [hS]; exact (rd_ld1 tO3 (gvx rfl hg158) ((hv0.of_old hm81).cells (gO_t h156 hg158)) (off := 0) rfl))) rfl ?_
            refine s_rpg (i := 50) rfl (by kernel_rfl) rfl rfl rfl rfl (gv_t _) (fun hg159 _ => (rd_neq (gvx rfl hg159) (gvx rfl hg159))) ?_
            refine s_rp (i := 51) rfl (by kernel_rfl) rfl (fun _ => (rd_and rfl (fun hc160 => (gvx rfl hc160)))) ?_
            refine s_rp (i := 52) rfl (by kernel_rfl) rfl (fun _ => (rd_assign rfl)) ?_
            refine s_rp (i := 53) rfl (by kernel_rfl) rfl (fun _ => (rd_assign rfl)) ?_
            refine s_rp (i := 54) rfl (by kernel_rfl) rfl (fun _ => (rd_assign rfl)) ?_
            refine s_rp (i := 55) rfl (by kernel_rfl) rfl (fun _ => (rd_assign rfl)) ?_
            refine s_nil (by kernel_rfl) ?_
            refine qn_then ?_
            refine cw_ret ?_
            refine qr_block (qr_then ?_)
            obtain rfl := os q157
            exact retLn (rs := [.tmp 10, .tmp 11, .tmp 12, .tmp 13]) rfl (.rt rfl (.rt rfl (.rt rfl (.rt rfl .rn)))) rfl ⟨rfl, (hm81.pick [] (by decide) rfl)⟩
          · refine cw_f rfl hb77 ?_
            refine cw_skip ?_
            refine qn_block (qn_then ?_)
            refine cw_seq ?_
            refine cw_region ?_
            refine t_rd rfl (rd_assign rfl) ?_
            refine t_rd rfl (rd_assign rfl) ?_
            refine t_rd rfl (rd_assign rfl) ?_
            refine t_rd rfl (rd_assign rfl) ?_
            refine rwt_nil ?_
            refine qn_then ?_
            refine cw_ret ?_
            obtain rfl := os q78
            exact retLn (rs := [.tmp 10, .tmp 11, .tmp 12, .tmp 13]) rfl (.rt rfl (.rt rfl (.rt rfl (.rt rfl .rn)))) rfl ⟨rfl, (hm0.pick [] (by decide) rfl)⟩

theorem r08_Align_ok {N : Nat} {a0 : List Int} {a1 : List Int} {res : List Int × Int × Int} (h : r08_Align N a0 a1 = some res) {w : World} {v0 : Value} {v1 : Value} (hv0 : Sl (Old w No) w v0 a0) (hv1 : Sl (Old w No) w v1 a1) :
    CallsR Try.prog 14 [v0, v1] w (fun u w' => ∃ (y0 : Value), u = (Value.tuple #[y0, (Value.int .i64 res.2.1), (Value.int .i64 res.2.2)]) ∧ Mem w No [ownL 3 y0 (res.1 : List Int)] w') := by
  unfold r08_Align at h
  refine fn_ok Try.func14 rfl rfl rfl ?_
  have hm0 := Mem.nil w
  refine cw_seq ?_
  refine cw_region ?_
  refine t_rd rfl (rd_assign rfl) ?_
  refine t_rd rfl (rd_assign rfl) ?_
  refine t_rd rfl (rd_assign rfl) ?_
  refine rwt_nil ?_
  refine qn_then ?_
  refine cw_seq ?_
  refine cw_seq ?_
  refine cw_region ?_
  refine t_rd rfl (rd_move rfl) ?_
  refine t_rd rfl (rd_move rfl) ?_
  obtain ⟨r1, h2, q3⟩ := ob h; clear h
  refine t_ef rfl (ef_call tf28 rfl (r08_long_ok h2 (hv0.to_call hm0) (hv1.to_call hm0))) ?_
  rintro _ w5 ⟨e_, hm4⟩
  obtain rfl := e_.symm
  have hm6 := hm0.call hm4
  refine rwt_nil ?_
  refine qn_then ?_
  obtain ⟨hb7, q8⟩ | ⟨hb7, q8⟩ := oi q3 <;> clear q3
  · refine cw_t rfl hb7 ?_
    refine cw_seq ?_
    refine cw_region ?_
    refine t_rd rfl (rd_assign rfl) ?_
    refine t_rd rfl (rd_assign rfl) ?_
    refine t_rd rfl (rd_assign rfl) ?_
    refine rwt_nil ?_
    refine qn_then ?_
    refine cw_ret ?_
    refine qr_then ?_
    obtain rfl := os q8
    have hm9 := hm6.addNil (α := Int) 3
    exact ret3 rfl rfl rfl rfl ⟨(Value.slice none 0 0), rfl, (hm9.pick [0] (by decide) rfl)⟩
  · refine cw_f rfl hb7 ?_
    refine cw_skip ?_
    refine qn_then ?_
    refine cw_seq ?_
    refine cw_region ?_
    refine t_rd rfl (rd_move rfl) ?_
    refine t_rd rfl (rd_move rfl) ?_
    obtain ⟨r10, h11, q12⟩ := ob q8; clear q8
    refine t_ef rfl (ef_call tf29 rfl (r08_table_ok h11 (hv0.to_call hm6) (hv1.to_call hm6))) ?_
    rintro _ w16 ⟨zs14, v13, e_, hm15⟩
    obtain rfl := e_.symm
    have hm17 := hm6.call hm15
    refine t_rd rfl (rd_move rfl) ?_
    refine t_rd rfl (rd_move rfl) ?_
    obtain ⟨r18, h19, q20⟩ := ob q12; clear q12
    refine t_ef rfl (ef_call tf29 rfl (r08_table_ok h19 (hv0.to_call hm17) (hv1.to_call hm17))) ?_
    rintro _ w24 ⟨zs22, v21, e_, hm23⟩
    obtain rfl := e_.symm
    have hm25 := hm17.call hm23
    refine t_rd rfl (rd_assign rfl) ?_
    refine t_rd rfl (rd_assign rfl) ?_
    refine rwt_nil ?_
    refine qn_then ?_
    refine cw_seq ?_
    refine cw_seq ?_
    refine cw_region ?_
    refine t_rd rfl (rd_move rfl) ?_
    refine t_rd rfl (rd_lenS tS22 rfl (hv0.of_old hm25)) ?_
    refine t_rd rfl (rd_assign rfl) ?_
    refine rwt_nil ?_
    refine qn_then ?_
    refine cw_block ?_
    obtain ⟨r2532, hit2533, q2534⟩ := ob q20; clear q20
    refine cw_loop2 (I := fun q envq wq => ∃ (v2524 : Value) (zs2525 : List Hdr) (v2521 : Value) (zs2522 : List Hdr), Sub [(0, v0), (1, v1), (7, v2521), (8, v2524), (9, (Value.int .i64 q.1))] envq ∧ Mem w No [ownL 22 v2524 (zs2525 : List Hdr), rowsC 3 zs2525 (q.2.2 : List (List Int)) none, ownL 22 v2521 (zs2522 : List Hdr), rowsC 3 zs2522 (q.2.1 : List (List Int)) none] wq) (X := fun eq envq wq => eq = .exit 0 ∧ ∃ (v2517 : Value) (zs2518 : List Hdr) (v2514 : Value) (zs2515 : List Hdr), Sub [(0, v0), (1, v1), (7, v2514), (8, v2517)] envq ∧ Mem w No [ownL 22 v2517 (zs2518 : List Hdr), rowsC 3 zs2518 (r2532.2 : List (List Int)) none, ownL 22 v2514 (zs2515 : List Hdr), rowsC 3 zs2515 (r2532.1 : List (List Int)) none] wq) hit2533 ⟨v21, zs22, v13, zs14, (by repeat (first | exact Sub.nil _ | refine Sub.cons rfl ?_)), (hm25.pick [0, 1, 2, 3] (by decide) rfl)⟩ ?_ ?_
    · rintro ⟨i2519, l2520, l2523⟩ x2527 env2528 w2529 hf2530 hr2531 ⟨v2524, zs2525, v2521, zs2522, hs_, hm_⟩
      have hs_ : Sub [(0, v0), (1, v1), (7, v2521), (8, v2524), (9, (Value.int .i64 i2519))] env2528 := hs_
      have hm2535 : Mem w No [ownL 22 v2524 (zs2525 : List Hdr), rowsC 3 zs2525 (l2523 : List (List Int)) none, ownL 22 v2521 (zs2522 : List Hdr), rowsC 3 zs2522 (l2520 : List (List Int)) none] w2529 := hm_
      refine cw_sub hs_ ?_
      clear hs_ hm_ q2534
      have h : r08_Align_l9 N a0 a1 i2519 l2520 l2523 = some x2527 := hf2530
      clear hf2530
      refine cw_seq ?_
      refine cw_seq ?_
      refine cw_region ?_
      refine t_rd rfl (rd_move rfl) ?_
      refine t_rd rfl (rd_geq rfl rfl) ?_
      refine rwt_nil ?_
      refine qn_then ?_
      obtain ⟨hb2536, q2537⟩ | ⟨hb2536, q2537⟩ := oi h <;> clear h
      · refine cw_t rfl hb2536 ?_
        refine cw_skip ?_
        refine qn_then ?_
        refine cw_seq ?_
        refine cw_block ?_
        refine cw_seq ?_
        refine cw_region ?_
        refine t_rd rfl (rd_move rfl) ?_
        refine t_rd rfl (rd_lenS tS22 rfl (hv1.of_old hm2535)) ?_
        refine t_rd rfl (rd_assign rfl) ?_
        refine rwt_nil ?_
        refine qn_then ?_
        refine cw_block ?_
        obtain ⟨r3364, hit3365, q3366⟩ := ob q2537; clear q2537
        refine cw_loop2 (I := fun q envq wq => ∃ (v3356 : Value) (zs3357 : List Hdr) (v3353 : Value) (zs3354 : List Hdr), Sub [(0, v0), (1, v1), (7, v3353), (8, v3356), (9, (Value.int .i64 i2519)), (10, (Value.int .i64 q.1))] envq ∧ Mem w No [ownL 22 v3356 (zs3357 : List Hdr), rowsC 3 zs3357 (q.2.2 : List (List Int)) none, ownL 22 v3353 (zs3354 : List Hdr), rowsC 3 zs3354 (q.2.1 : List (List Int)) none] wq) (X := fun eq envq wq => eq = .exit 2 ∧ ∃ (v3349 : Value) (zs3350 : List Hdr) (v3346 : Value) (zs3347 : List Hdr), Sub [(0, v0), (1, v1), (7, v3346), (8, v3349), (9, (Value.int .i64 i2519))] envq ∧ Mem w No [ownL 22 v3349 (zs3350 : List Hdr), rowsC 3 zs3350 (r3364.2 : List (List Int)) none, ownL 22 v3346 (zs3347 : List Hdr), rowsC 3 zs3347 (r3364.1 : List (List Int)) none] wq) hit3365 ⟨v2524, zs2525, v2521, zs2522, (by repeat (first | exact Sub.nil _ | refine Sub.cons rfl ?_)), (hm2535.pick [0, 1, 2, 3] (by decide) rfl)⟩ ?_ ?_
        · rintro ⟨i3351, l3352, l3355⟩ x3359 env3360 w3361 hf3362 hr3363 ⟨v3356, zs3357, v3353, zs3354, hs_, hm_⟩
          have hs_ : Sub [(0, v0), (1, v1), (7, v3353), (8, v3356), (9, (Value.int .i64 i2519)), (10, (Value.int .i64 i3351))] env3360 := hs_
          have hm3367 : Mem w No [ownL 22 v3356 (zs3357 : List Hdr), rowsC 3 zs3357 (l3355 : List (List Int)) none, ownL 22 v3353 (zs3354 : List Hdr), rowsC 3 zs3354 (l3352 : List (List Int)) none] w3361 := hm_
          refine cw_sub hs_ ?_
          clear hs_ hm_ q3366
          have h : r08_Align_l12 N a0 a1 i2519 i3351 l3352 l3355 = some x3359 := hf3362
          clear hf3362
          refine cw_seq ?_
          refine cw_seq ?_
          refine cw_region ?_
          refine t_rd rfl (rd_move rfl) ?_
          refine t_rd rfl (rd_geq rfl rfl) ?_
          refine rwt_nil ?_
          refine qn_then ?_
          obtain ⟨hb3368, q3369⟩ | ⟨hb3368, q3369⟩ := oi h <;> clear h
          · refine cw_t rfl hb3368 ?_
            refine cw_skip ?_
            refine qn_then ?_
            refine cw_seq ?_
            refine cw_block ?_
            refine cw_seq ?_
            refine cw_seq ?_
            refine cw_region ?_
            refine t_rd rfl (rd_move rfl) ?_
            refine t_rd rfl (rd_move rfl) ?_
            refine t_rd rfl (rd_lenS tS22 rfl (hv0.of_old hm3367)) ?_
            refine t_rd rfl (rd_eql rfl rfl) ?_
            refine t_rd rfl (rd_move rfl) ?_
            refine t_rdg rfl rfl rfl rfl (gv_t _) (fun hg3370 => (rd_move rfl)) ?_
            refine t_rdg rfl rfl rfl rfl (gv_t _) (fun hg3371 => (rd_move rfl)) ?_
            refine t_rdg rfl rfl rfl rfl (gv_t _) (fun hg3372 => (rd_lenS tS22 (gvx rfl hg3372) (hv1.of_old hm3367))) ?_
            refine t_rdg rfl rfl rfl rfl (gv_t _) (fun hg3373 => (rd_eql (gvx rfl hg3373) (gvx rfl hg3373))) ?_
            refine t_rd rfl (rd_and rfl (fun hc3374 => (gvx rfl hc3374))) ?_
            refine rwt_nil ?_
            refine qn_then ?_
            obtain ⟨hb3375, q3376⟩ | ⟨hb3375, q3376⟩ := oi q3369 <;> clear q3369
            · refine cw_t rfl hb3375 ?_
              refine cw_seq ?_
              refine cw_region ?_
              refine t_rd rfl (rd_move rfl) ?_
              refine t_rd rfl (rd_move rfl) ?_
              obtain ⟨x3377, h3378, q3379⟩ := ob q3376; clear q3376
              refine t_rd rfl (rd_index tS33 rfl rfl ((Nl.mk (hm3367.sl_call 2 rfl) (hm3367.rows_call 3 rfl)).sl) h3378) ?_
              obtain ⟨zd3380, hz3381⟩ := (Nl.mk (hm3367.sl_call 2 rfl) (hm3367.rows_call 3 rfl)).row h3378
              refine t_rd rfl (rd_ld1 tO22 rfl ((Nl.mk (hm3367.sl_call 2 rfl) (hm3367.rows_call 3 rfl)).cells hz3381) (off := 0) rfl) ?_
              refine t_rd rfl (rd_move rfl) ?_
              obtain ⟨x3382, h3383, q3384⟩ := ob q3379; clear q3379
              refine t_rd rfl (rd_index tS22 rfl rfl ((Nl.mk (hm3367.sl_call 2 rfl) (hm3367.rows_call 3 rfl)).get hz3381 h3378) h3383) ?_
              have hm3385 := hm3367.pick [3, 0, 1, 2] (L' := [rowsC 3 zs3354 (l3352 : List (List Int)) none, ownL 22 v3356 (zs3357 : List Hdr), rowsC 3 zs3357 (l3355 : List (List Int)) none, ownL 22 v3353 (zs3354 : List Hdr)]) (by decide) rfl
              refine t_ef0 (ef_strow (off := 0) (x' := 0) hm3385 tO3 hz3381 h3378 rfl rfl rfl h3383 rfl rfl) ?_
              intro _ w3387 hm3386
              refine rwt_nil ?_
              refine qn_then ?_
              refine cw_exit ?_
              refine qx_then (qx_same (qn_then ?_))
              refine cw_region ?_
              refine t_rd rfl (rd_move rfl) ?_
              obtain ⟨x3388, h3389, q3390⟩ := ob q3384; clear q3384
              refine t_rd rfl (rd_sub64 h3389 rfl rfl) ?_
              refine t_rd rfl (rd_assign rfl) ?_
              refine rwt_nil ?_
              refine qn_then ?_
              refine ⟨_, (os q3390), v3356, zs3357, v3353, zs3354, (by repeat (first | exact Sub.nil _ | refine Sub.cons rfl ?_)), (hm3386.pick [1, 2, 3, 0] (by decide) rfl)⟩
            · refine cw_f rfl hb3375 ?_
              refine cw_skip ?_
              refine qn_then ?_
              refine cw_seq ?_
              refine cw_region ?_
              refine t_rd rfl (rd_assign rfl) ?_
              refine rwt_nil ?_
              refine qn_then ?_
              refine cw_block ?_
              obtain ⟨r3643, hit3644, q3645⟩ := ob q3376; clear q3376
              refine cw_loop2 (I := fun q envq wq => ∃ (v3635 : Value) (zs3636 : List Hdr) (v3632 : Value) (zs3633 : List Hdr), Sub [(0, v0), (1, v1), (7, v3632), (8, v3635), (9, (Value.int .i64 i2519)), (10, (Value.int .i64 i3351)), (11, (Value.int .i64 q.1))] envq ∧ Mem w No [ownL 22 v3635 (zs3636 : List Hdr), rowsC 3 zs3636 (q.2.2 : List (List Int)) none, ownL 22 v3632 (zs3633 : List Hdr), rowsC 3 zs3633 (q.2.1 : List (List Int)) none] wq) (X := fun eq envq wq => eq = .exit 4 ∧ ∃ (v3628 : Value) (zs3629 : List Hdr) (v3625 : Value) (zs3626 : List Hdr), Sub [(0, v0), (1, v1), (7, v3625), (8, v3628), (9, (Value.int .i64 i2519)), (10, (Value.int .i64 i3351))] envq ∧ Mem w No [ownL 22 v3628 (zs3629 : List Hdr), rowsC 3 zs3629 (r3643.2 : List (List Int)) none, ownL 22 v3625 (zs3626 : List Hdr), rowsC 3 zs3626 (r3643.1 : List (List Int)) none] wq) hit3644 ⟨v3356, zs3357, v3353, zs3354, (by repeat (first | exact Sub.nil _ | refine Sub.cons rfl ?_)), (hm3367.pick [0, 1, 2, 3] (by decide) rfl)⟩ ?_ ?_
              · rintro ⟨i3630, l3631, l3634⟩ x3638 env3639 w3640 hf3641 hr3642 ⟨v3635, zs3636, v3632, zs3633, hs_, hm_⟩
                have hs_ : Sub [(0, v0), (1, v1), (7, v3632), (8, v3635), (9, (Value.int .i64 i2519)), (10, (Value.int .i64 i3351)), (11, (Value.int .i64 i3630))] env3639 := hs_
                have hm3646 : Mem w No [ownL 22 v3635 (zs3636 : List Hdr), rowsC 3 zs3636 (l3634 : List (List Int)) none, ownL 22 v3632 (zs3633 : List Hdr), rowsC 3 zs3633 (l3631 : List (List Int)) none] w3640 := hm_
                refine cw_sub hs_ ?_
                clear hs_ hm_ q3645
                have h : r08_Align_l13 N a0 a1 i2519 i3351 i3630 l3631 l3634 = some x3638 := hf3641
                clear hf3641
                refine cw_seq ?_
                refine cw_seq ?_
                refine cw_region ?_
                refine t_rd rfl (rd_move rfl) ?_
                refine t_rd rfl (rd_leq rfl rfl) ?_
                refine rwt_nil ?_
                refine qn_then ?_
                obtain ⟨hb3647, q3648⟩ | ⟨hb3647, q3648⟩ := oi h <;> clear h
                · refine cw_t rfl hb3647 ?_
                  refine cw_skip ?_
                  refine qn_then ?_
                  refine cw_seq ?_
                  refine cw_block ?_
                  refine cw_seq ?_
                  refine cw_region ?_
                  refine t_rd rfl (rd_move rfl) ?_
                  refine t_rd rfl (rd_move rfl) ?_
                  refine t_rd rfl (rd_move rfl) ?_
                  refine t_rd rfl (rd_move rfl) ?_
                  refine t_rd rfl (rd_move rfl) ?_
                  obtain ⟨r3649, h3650, q3651⟩ := ob q3648; clear q3648
                  refine t_ef rfl (ef_call tf30 rfl (r08_edit_ok h3650 (hv0.to_call hm3646) (hv1.to_call hm3646))) ?_
                  rintro _ w3653 ⟨e_, hm3652⟩
                  obtain rfl := e_.symm
                  have hm3654 := hm3646.call hm3652
                  refine t_rd rfl (rd_move rfl) ?_
                  refine t_rd rfl (rd_extract rfl rfl) ?_
                  refine t_rd rfl (rd_extract rfl rfl) ?_
                  refine t_rd rfl (rd_extract rfl rfl) ?_
                  refine t_rd rfl (rd_extract rfl rfl) ?_
                  refine t_rd rfl (rd_assign rfl) ?_
                  refine t_rd rfl (rd_assign rfl) ?_
                  refine t_rd rfl (rd_assign rfl) ?_
                  refine t_rd rfl (rd_assign rfl) ?_
                  refine rwt_nil ?_
                  refine qn_then ?_
                  refine cw_seq ?_
                  obtain ⟨w3656, he3658⟩ : ∃ q, q = w3653.drew := ⟨_, rfl⟩
                  have hm3657 := hm3654.drew; rw [← he3658] at hm3657
                  refine cw_region_s (fun q => q = w3656) (cls [] []) mixed ?_
                  rintro _ rfl; rw [← he3658]
                  refine s_rp (i := 0) rfl (by kernel_rfl) rfl (fun _ => (rd_move rfl)) ?_
                  refine s_rp (i := 1) rfl (by kernel_rfl) rfl (fun _ => (rd_move rfl)) ?_
                  refine s_rpg (i := 2) rfl (by kernel_rfl) rfl rfl rfl rfl (gv_t _) (fun hg3659 _ => (rd_move rfl)) ?_
                  refine s_rpg (i := 3) rfl (by kernel_rfl) rfl rfl rfl rfl (gv_t _) (fun hg3660 _ => (rd_move rfl)) ?_
                  obtain ⟨x3662, h3663, q3664⟩ := ob q3651; clear q3651
                  refine s_rpg (i := 4) rfl (by kernel_rfl) rfl rfl rfl rfl (gv_t _) (fun hg3661 _ => (rd_index tS33 (gvx rfl hg3661) (gvx rfl hg3661) ((Nl.mk (hm3657.sl_call 2 rfl) (hm3657.rows_call 3 rfl)).sl) (gO_t h3663 hg3661))) ?_
                  obtain ⟨zd3666, hz3667⟩ := (Nl.mk (hm3657.sl_call 2 rfl) (hm3657.rows_call 3 rfl)).rowg (g := r3649.2.2.2) (fun q => gO_t h3663 q)
                  refine s_rdg (i := 5) rfl (by kernel_rfl) rfl rfl rfl rfl (gv_t _) (fun hg3665 => (fun _ hS => by rw [hS]; exact (rd_ld1 tO22 (gvx rfl hg3665) ((Nl.mk (hm3657.sl_call 2 rfl) (hm3657.rows_call 3 rfl)).cells (hz3667 hg3665)) (off := 0) rfl))) rfl ?_
                  refine s_rpg (i := 6) rfl (by kernel_rfl) rfl rfl rfl rfl (gv_t _) (fun hg3668 _ => (rd_move rfl)) ?_
                  obtain ⟨x3670, h3671, q3672⟩ := ob q3664; clear q3664
                  refine s_rpg (i := 7) rfl (by kernel_rfl) rfl rfl rfl rfl (gv_t _) (fun hg3669 _ => (rd_index tS22 (gvx rfl hg3669) (gvx rfl hg3669) ((Nl.mk (hm3657.sl_call 2 rfl) (hm3657.rows_call 3 rfl)).get (hz3667 hg3669) (gO_t h3663 hg3669)) (gO_t h3671 hg3669))) ?_
                  refine s_rdg (i := 8) rfl (by kernel_rfl) rfl rfl rfl rfl (gv_t _) (fun hg3673 => (fun _ hS => by rw [hS]; exact (rd_ld1 tO3 (gvx rfl hg3673) (((Nl.mk (hm3657.sl_call 2 rfl) (hm3657.rows_call 3 rfl)).get (hz3667 hg3673) (gO_t h3663 hg3673)).cells (gO_t h3671 hg3673)) (off := 0) rfl))) rfl ?_
                  refine s_rpg (i := 9) rfl (by kernel_rfl) rfl rfl rfl rfl (gv_t _) (fun hg3674 _ => (rd_lss (gvx rfl hg3674) rfl)) ?_
                  refine s_rpg (i := 10) rfl (by kernel_rfl) rfl rfl rfl rfl (gv_t _) (fun hg3675 _ => (rd_move (gvx rfl hg3675))) ?_
                  refine s_rpg (i := 11) rfl (by kernel_rfl) rfl rfl rfl rfl (gv_nf _ _) (fun hg3676 _ => (rd_move rfl)) ?_
                  refine s_rpg (i := 12) rfl (by kernel_rfl) rfl rfl rfl rfl (gv_nf _ _) (fun hg3677 _ => (rd_move rfl)) ?_
                  refine s_rpg (i := 13) rfl (by kernel_rfl) rfl rfl rfl rfl (gv_nf _ _) (fun hg3678 _ => (rd_move rfl)) ?_
                  obtain ⟨x3680, h3681, q3682⟩ := ob q3672; clear q3672
                  refine s_rpg (i := 14) rfl (by kernel_rfl) rfl rfl rfl rfl (gv_nf _ _) (fun hg3679 _ => (rd_index tS33 (gvx rfl hg3679) (gvx rfl hg3679) ((Nl.mk (hm3657.sl_call 2 rfl) (hm3657.rows_call 3 rfl)).sl) (gO_t h3681 hg3679))) ?_
                  obtain ⟨zd3684, hz3685⟩ := (Nl.mk (hm3657.sl_call 2 rfl) (hm3657.rows_call 3 rfl)).rowg (g := (r3649.2.2.2 && (!decide (x3670 < 0)))) (fun q => gO_t h3681 q)
                  refine s_rdg (i := 15) rfl (by kernel_rfl) rfl rfl rfl rfl (gv_nf _ _) (fun hg3683 => (fun _ hS => by rw [hS]; exact (rd_ld1 tO22 (gvx rfl hg3683) ((Nl.mk (hm3657.sl_call 2 rfl) (hm3657.rows_call 3 rfl)).cells (hz3685 hg3683)) (off := 0) rfl))) rfl ?_
                  refine s_rpg (i := 16) rfl (by kernel_rfl) rfl rfl rfl rfl (gv_nf _ _) (fun hg3686 _ => (rd_move rfl)) ?_
                  obtain ⟨x3688, h3689, q3690⟩ := ob q3682; clear q3682
                  refine s_rpg (i := 17) rfl (by kernel_rfl) rfl rfl rfl rfl (gv_nf _ _) (fun hg3687 _ => (rd_index tS22 (gvx rfl hg3687) (gvx rfl hg3687) ((Nl.mk (hm3657.sl_call 2 rfl) (hm3657.rows_call 3 rfl)).get (hz3685 hg3687) (gO_t h3681 hg3687)) (gO_t h3689 hg3687))) ?_
                  refine s_rdg (i := 18) rfl (by kernel_rfl) rfl rfl rfl rfl (gv_nf _ _) (fun hg3691 => (fun _ hS => by rw [hS]; exact (rd_ld1 tO3 (gvx rfl hg3691) (((Nl.mk (hm3657.sl_call 2 rfl) (hm3657.rows_call 3 rfl)).get (hz3685 hg3691) (gO_t h3681 hg3691)).cells (gO_t h3689 hg3691)) (off := 0) rfl))) rfl ?_
                  obtain ⟨x3693, h3694, q3695⟩ := ob q3690; clear q3690
                  refine s_rpg (i := 19) rfl (by kernel_rfl) rfl rfl rfl rfl (gv_nf _ _) (fun hg3692 _ => (rd_add64 (gO_t h3694 hg3692) (gvx rfl hg3692) (gvx rfl hg3692))) ?_
                  refine s_rpg (i := 20) rfl (by kernel_rfl) rfl rfl rfl rfl (gv_nf _ _) (fun hg3696 _ => (rd_move rfl)) ?_
                  refine s_rpg (i := 21) rfl (by kernel_rfl) rfl rfl rfl rfl (gv_nf _ _) (fun hg3697 _ => (rd_move rfl)) ?_
                  obtain ⟨x3699, h3700, q3701⟩ := ob q3695; clear q3695
                  refine s_rpg (i := 22) rfl (by kernel_rfl) rfl rfl rfl rfl (gv_nf _ _) (fun hg3698 _ => (rd_index tS33 (gvx rfl hg3698) (gvx rfl hg3698) ((Nl.mk (hm3657.sl_call 2 rfl) (hm3657.rows_call 3 rfl)).sl) (gO_t h3700 hg3698))) ?_
                  obtain ⟨zd3703, hz3704⟩ := (Nl.mk (hm3657.sl_call 2 rfl) (hm3657.rows_call 3 rfl)).rowg (g := (r3649.2.2.2 && (!decide (x3670 < 0)))) (fun q => gO_t h3700 q)
                  refine s_rdg (i := 23) rfl (by kernel_rfl) rfl rfl rfl rfl (gv_nf _ _) (fun hg3702 => (fun _ hS => by rw [hS]; exact (rd_ld1 tO22 (gvx rfl hg3702) ((Nl.mk (hm3657.sl_call 2 rfl) (hm3657.rows_call 3 rfl)).cells (hz3704 hg3702)) (off := 0) rfl))) rfl ?_
                  refine s_rpg (i := 24) rfl (by kernel_rfl) rfl rfl rfl rfl (gv_nf _ _) (fun hg3705 _ => (rd_move rfl)) ?_
                  obtain ⟨x3707, h3708, q3709⟩ := ob q3701; clear q3701
                  refine s_rpg (i := 25) rfl (by kernel_rfl) rfl rfl rfl rfl (gv_nf _ _) (fun hg3706 _ => (rd_index tS22 (gvx rfl hg3706) (gvx rfl hg3706) ((Nl.mk (hm3657.sl_call 2 rfl) (hm3657.rows_call 3 rfl)).get (hz3704 hg3706) (gO_t h3700 hg3706)) (gO_t h3708 hg3706))) ?_
                  refine s_rdg (i := 26) rfl (by kernel_rfl) rfl rfl rfl rfl (gv_nf _ _) (fun hg3710 => (fun _ hS => by rw [hS]; exact (rd_ld1 tO3 (gvx rfl hg3710) (((Nl.mk (hm3657.sl_call 2 rfl) (hm3657.rows_call 3 rfl)).get (hz3704 hg3710) (gO_t h3700 hg3710)).cells (gO_t h3708 hg3710)) (off := 0) rfl))) rfl ?_
                  refine s_rpg (i := 27) rfl (by kernel_rfl) rfl rfl rfl rfl (gv_nf _ _) (fun hg3711 _ => (rd_lss (gvx rfl hg3711) (gvx rfl hg3711))) ?_
                  refine s_rpg (i := 28) rfl (by kernel_rfl) rfl rfl rfl rfl (gv_t _) (fun hg3712 _ => (rd_or (gvx rfl hg3712) (fun hc3713 => (gvx rfl (band hg3712 (bnotIt hc3713)))))) ?_
                  refine s_rp (i := 29) rfl (by kernel_rfl) rfl (fun _ => (rd_and rfl (fun hc3714 => (gvx rfl hc3714)))) ?_
                  refine s_nil (by kernel_rfl) ?_
                  refine qn_then ?_
                  obtain ⟨hb3715, q3716⟩ | ⟨hb3715, q3716⟩ := oi q3709 <;> clear q3709
                  · refine cw_t rfl hb3715 ?_
                    obtain ⟨w3718, he3720⟩ : ∃ q, q = w3656.drew := ⟨_, rfl⟩
                    have hm3719 := hm3657.drew; rw [← he3720] at hm3719
                    refine cw_region_s (fun q => q = w3718) (cls [] [21, 23]) mixed ?_
                    rintro _ rfl; rw [← he3720]
                    refine s_rp (i := 0) rfl (by kernel_rfl) rfl (fun _ => (rd_move rfl)) ?_
                    refine s_rp (i := 1) rfl (by kernel_rfl) rfl (fun _ => (rd_move rfl)) ?_
                    obtain ⟨x3721, h3722, q3723⟩ := ob q3716; clear q3716
                    refine s_rp (i := 2) rfl (by kernel_rfl) rfl (fun _ => (rd_index tS33 rfl rfl ((Nl.mk (hm3719.sl_call 2 rfl) (hm3719.rows_call 3 rfl)).sl) h3722)) ?_
                    obtain ⟨zd3724, hz3725⟩ := (Nl.mk (hm3719.sl_call 2 rfl) (hm3719.rows_call 3 rfl)).row h3722
                    refine s_rd (i := 3) rfl (by kernel_rfl) rfl (fun _ hS => by rw [hS]; exact (rd_ld1 tO22 rfl ((Nl.mk (hm3719.sl_call 2 rfl) (hm3719.rows_call 3 rfl)).cells hz3725) (off := 0) rfl)) rfl ?_
                    refine s_rp (i := 4) rfl (by kernel_rfl) rfl (fun _ => (rd_move rfl)) ?_
                    refine s_rp (i := 5) rfl (by kernel_rfl) rfl (fun _ => (rd_move rfl)) ?_
                    refine s_rp (i := 6) rfl (by kernel_rfl) rfl (fun _ => (rd_move rfl)) ?_
                    obtain ⟨x3726, h3727, q3728⟩ := ob q3723; clear q3723
                    refine s_rp (i := 7) rfl (by kernel_rfl) rfl (fun _ => (rd_index tS33 rfl rfl ((Nl.mk (hm3719.sl_call 0 rfl) (hm3719.rows_call 1 rfl)).sl) h3727)) ?_
                    obtain ⟨zd3729, hz3730⟩ := (Nl.mk (hm3719.sl_call 0 rfl) (hm3719.rows_call 1 rfl)).row h3727
                    refine s_rd (i := 8) rfl (by kernel_rfl) rfl (fun _ hS => by rw [hS]; exact (rd_ld1 tO22 rfl ((Nl.mk (hm3719.sl_call 0 rfl) (hm3719.rows_call 1 rfl)).cells hz3730) (off := 0) rfl)) rfl ?_
                    refine s_rp (i := 9) rfl (by kernel_rfl) rfl (fun _ => (rd_move rfl)) ?_
                    refine s_rp (i := 10) rfl (by kernel_rfl) rfl (fun _ => (rd_move rfl)) ?_
                    refine s_rp (i := 11) rfl (by kernel_rfl) rfl (fun _ => (rd_move rfl)) ?_
                    refine s_rp (i := 12) rfl (by kernel_rfl) rfl (fun _ => (rd_move rfl)) ?_
                    obtain ⟨x3731, h3732, q3733⟩ := ob q3728; clear q3728
                    refine s_rp (i := 13) rfl (by kernel_rfl) rfl (fun _ => (rd_index tS33 rfl rfl ((Nl.mk (hm3719.sl_call 2 rfl) (hm3719.rows_call 3 rfl)).sl) h3732)) ?_
                    obtain ⟨zd3734, hz3735⟩ := (Nl.mk (hm3719.sl_call 2 rfl) (hm3719.rows_call 3 rfl)).row h3732
                    refine s_rd (i := 14) rfl (by kernel_rfl) rfl (fun _ hS => by rw [hS]; exact (rd_ld1 tO22 rfl ((Nl.mk (hm3719.sl_call 2 rfl) (hm3719.rows_call 3 rfl)).cells hz3735) (off := 0) rfl)) rfl ?_
                    refine s_rp (i := 15) rfl (by kernel_rfl) rfl (fun _ => (rd_move rfl)) ?_
                    obtain ⟨x3736, h3737, q3738⟩ := ob q3733; clear q3733
                    refine s_rp (i := 16) rfl (by kernel_rfl) rfl (fun _ => (rd_index tS22 rfl rfl ((Nl.mk (hm3719.sl_call 2 rfl) (hm3719.rows_call 3 rfl)).get hz3735 h3732) h3737)) ?_
                    refine s_rd (i := 17) rfl (by kernel_rfl) rfl (fun _ hS => by rw [hS]; exact (rd_ld1 tO3 rfl (((Nl.mk (hm3719.sl_call 2 rfl) (hm3719.rows_call 3 rfl)).get hz3735 h3732).cells h3737) (off := 0) rfl)) rfl ?_
                    obtain ⟨x3739, h3740, q3741⟩ := ob q3738; clear q3738
                    refine s_rp (i := 18) rfl (by kernel_rfl) rfl (fun _ => (rd_add64 h3740 rfl rfl)) ?_
                    refine s_rp (i := 19) rfl (by kernel_rfl) rfl (fun _ => (rd_move rfl)) ?_
                    obtain ⟨x3742, h3743, q3744⟩ := ob q3741; clear q3741
                    refine s_rp (i := 20) rfl (by kernel_rfl) rfl (fun _ => (rd_index tS22 rfl rfl ((Nl.mk (hm3719.sl_call 2 rfl) (hm3719.rows_call 3 rfl)).get hz3725 h3722) h3743)) ?_
                    have hm3745 := hm3719.pick [3, 0, 1, 2] (L' := [rowsC 3 zs3633 (l3631 : List (List Int)) none, ownL 22 v3635 (zs3636 : List Hdr), rowsC 3 zs3636 (l3634 : List (List Int)) none, ownL 22 v3632 (zs3633 : List Hdr)]) (by decide) rfl
                    refine s_ef0 (i := 21) rfl (by kernel_rfl) (ef_strow (off := 0) (x' := x3739) hm3745 tO3 hz3725 h3722 rfl rfl rfl h3743 rfl rfl) (by decide) (fun _ _ _ q => absurd q (by decide)) ?_
                    intro _ w3747 hm3746
                    obtain ⟨x3748, h3749, q3750⟩ := ob q3744; clear q3744
                    refine s_rp (i := 22) rfl (by kernel_rfl) rfl (fun _ => (rd_index tS22 rfl rfl ((Nl.mk (hm3746.sl_call 1 rfl) (hm3746.rows_call 2 rfl)).get hz3730 h3727) h3749)) ?_
                    have hm3751 := hm3746.pick [2, 0, 1, 3] (L' := [rowsC 3 zs3636 (l3634 : List (List Int)) none, rowsC 3 zs3633 ((List.set l3631 (Int.toNat i2519) (List.set x3721 (Int.toNat i3351) x3739)) : List (List Int)) none, ownL 22 v3635 (zs3636 : List Hdr), ownL 22 v3632 (zs3633 : List Hdr)]) (by decide) rfl
                    refine s_ef0 (i := 23) rfl (by kernel_rfl) (ef_strow (off := 0) (x' := i3630) hm3751 tO3 hz3730 h3727 rfl rfl rfl h3749 rfl rfl) (by decide) (fun _ _ _ q => absurd q (by decide)) ?_
                    intro _ w3753 hm3752
                    refine s_nil (by kernel_rfl) ?_
                    refine qn_block (qn_then ?_)
                    refine cw_region ?_
                    refine t_rd rfl (rd_move rfl) ?_
                    obtain ⟨x3754, h3755, q3756⟩ := ob q3750; clear q3750
                    refine t_rd rfl (rd_add64 h3755 rfl rfl) ?_
                    refine t_rd rfl (rd_assign rfl) ?_
                    refine rwt_nil ?_
                    refine qn_then ?_
                    refine ⟨_, (os q3756), v3635, zs3636, v3632, zs3633, (by repeat (first | exact Sub.nil _ | refine Sub.cons rfl ?_)), (hm3752.pick [2, 0, 3, 1] (by decide) rfl)⟩
                  · refine cw_f rfl hb3715 ?_
                    refine cw_skip ?_
                    refine qn_block (qn_then ?_)
                    refine cw_region ?_
                    refine t_rd rfl (rd_move rfl) ?_
                    obtain ⟨x3757, h3758, q3759⟩ := ob q3716; clear q3716
                    refine t_rd rfl (rd_add64 h3758 rfl rfl) ?_
                    refine t_rd rfl (rd_assign rfl) ?_
                    refine rwt_nil ?_
                    refine qn_then ?_
                    refine ⟨_, (os q3759), v3635, zs3636, v3632, zs3633, (by repeat (first | exact Sub.nil _ | refine Sub.cons rfl ?_)), (hm3657.pick [0, 1, 2, 3] (by decide) rfl)⟩
                · refine cw_f rfl hb3647 ?_
                  refine cw_exit ?_
                  refine qx_then (qx_then ?_)
                  obtain rfl := hr3642 _ (os q3648)
                  exact ⟨rfl, v3635, zs3636, v3632, zs3633, (by repeat (first | exact Sub.nil _ | refine Sub.cons rfl ?_)), (hm3646.pick [0, 1, 2, 3] (by decide) rfl)⟩
              · skip
                intro e env3760 w3761 hX3762
                obtain ⟨rfl, v3628, zs3629, v3625, zs3626, hs3763, hm3764⟩ := hX3762
                refine qx_same (qn_block (qn_then ?_))
                refine cw_sub hs3763 ?_
                refine cw_region ?_
                refine t_rd rfl (rd_move rfl) ?_
                obtain ⟨x3765, h3766, q3767⟩ := ob q3645; clear q3645
                refine t_rd rfl (rd_sub64 h3766 rfl rfl) ?_
                refine t_rd rfl (rd_assign rfl) ?_
                refine rwt_nil ?_
                refine qn_then ?_
                refine ⟨_, (os q3767), v3628, zs3629, v3625, zs3626, (by repeat (first | exact Sub.nil _ | refine Sub.cons rfl ?_)), (hm3764.pick [0, 1, 2, 3] (by decide) rfl)⟩
          · refine cw_f rfl hb3368 ?_
            refine cw_exit ?_
            refine qx_then (qx_then ?_)
            obtain rfl := hr3363 _ (os q3369)
            exact ⟨rfl, v3356, zs3357, v3353, zs3354, (by repeat (first | exact Sub.nil _ | refine Sub.cons rfl ?_)), (hm3367.pick [0, 1, 2, 3] (by decide) rfl)⟩
        · skip
          intro e env3768 w3769 hX3770
          obtain ⟨rfl, v3349, zs3350, v3346, zs3347, hs3771, hm3772⟩ := hX3770
          refine qx_same (qn_block (qn_then ?_))
          refine cw_sub hs3771 ?_
          refine cw_region ?_
          refine t_rd rfl (rd_move rfl) ?_
          obtain ⟨x3773, h3774, q3775⟩ := ob q3366; clear q3366
          refine t_rd rfl (rd_sub64 h3774 rfl rfl) ?_
          refine t_rd rfl (rd_assign rfl) ?_
          refine rwt_nil ?_
          refine qn_then ?_
          refine ⟨_, (os q3775), v3349, zs3350, v3346, zs3347, (by repeat (first | exact Sub.nil _ | refine Sub.cons rfl ?_)), (hm3772.pick [0, 1, 2, 3] (by decide) rfl)⟩
      · refine cw_f rfl hb2536 ?_
        refine cw_exit ?_
        refine qx_then (qx_then ?_)
        obtain rfl := hr2531 _ (os q2537)
        exact ⟨rfl, v2524, zs2525, v2521, zs2522, (by repeat (first | exact Sub.nil _ | refine Sub.cons rfl ?_)), (hm2535.pick [0, 1, 2, 3] (by decide) rfl)⟩
    · skip
      intro e env3776 w3777 hX3778
      obtain ⟨rfl, v2517, zs2518, v2514, zs2515, hs3779, hm3780⟩ := hX3778
      refine qx_same (qn_then ?_)
      refine cw_sub hs3779 ?_
      refine cw_seq ?_
      refine cw_region ?_
      refine t_rd rfl (rd_assign rfl) ?_
      refine rwt_nil ?_
      refine qn_then ?_
      refine cw_seq ?_
      refine cw_region ?_
      refine t_rd rfl (rd_assign rfl) ?_
      refine t_rd rfl (rd_assign rfl) ?_
      refine rwt_nil ?_
      refine qn_then ?_
      refine cw_seq ?_
      refine cw_block ?_
      have hm3812 := hm3780.addNil (α := Int) 3
      obtain ⟨r3891, hit3892, q3893⟩ := ob q2534; clear q2534
      refine cw_loop2 (I := fun q envq wq => ∃ (v3884 : Value), Sub [(0, v0), (1, v1), (7, v2514), (8, v2517), (16, v3884), (17, (Value.int .i64 q.1)), (18, (Value.int .i64 q.2.1))] envq ∧ Mem w No [ownL 3 v3884 (q.2.2 : List Int), ownL 22 v2517 (zs2518 : List Hdr), rowsC 3 zs2518 (r2532.2 : List (List Int)) none, ownL 22 v2514 (zs2515 : List Hdr), rowsC 3 zs2515 (r2532.1 : List (List Int)) none] wq) (X := fun eq envq wq => eq = .exit 6 ∧ ∃ (v3880 : Value), Sub [(7, v2514), (16, v3880)] envq ∧ Mem w No [ownL 3 v3880 (r3891 : List Int), ownL 22 v2514 (zs2515 : List Hdr), rowsC 3 zs2515 (r2532.1 : List (List Int)) none] wq) hit3892 ⟨(Value.slice none 0 0), (by repeat (first | exact Sub.nil _ | refine Sub.cons rfl ?_)), (hm3812.pick [0, 1, 2, 3, 4] (by decide) rfl)⟩ ?_ ?_
      · rintro ⟨i3881, i3882, l3883⟩ x3886 env3887 w3888 hf3889 hr3890 ⟨v3884, hs_, hm_⟩
        have hs_ : Sub [(0, v0), (1, v1), (7, v2514), (8, v2517), (16, v3884), (17, (Value.int .i64 i3881)), (18, (Value.int .i64 i3882))] env3887 := hs_
        have hm3894 : Mem w No [ownL 3 v3884 (l3883 : List Int), ownL 22 v2517 (zs2518 : List Hdr), rowsC 3 zs2518 (r2532.2 : List (List Int)) none, ownL 22 v2514 (zs2515 : List Hdr), rowsC 3 zs2515 (r2532.1 : List (List Int)) none] w3888 := hm_
        refine cw_sub hs_ ?_
        clear hs_ hm_ q3893
        have h : r08_Align_l14 N a0 a1 r2532 i3881 i3882 l3883 = some x3886 := hf3889
        clear hf3889
        refine cw_seq ?_
        refine cw_seq ?_
        refine cw_region ?_
        refine t_rd rfl (rd_move rfl) ?_
        refine t_rd rfl (rd_move rfl) ?_
        refine t_rd rfl (rd_lenS tS22 rfl (hv0.of_old hm3894)) ?_
        refine t_rd rfl (rd_lss rfl rfl) ?_
        refine t_rd rfl (rd_move rfl) ?_
        refine t_rdg rfl rfl rfl rfl (gv_f _) (fun hg3895 => (rd_move rfl)) ?_
        refine t_rdg rfl rfl rfl rfl (gv_f _) (fun hg3896 => (rd_move rfl)) ?_
        refine t_rdg rfl rfl rfl rfl (gv_f _) (fun hg3897 => (rd_lenS tS22 (gvx rfl hg3897) (hv1.of_old hm3894))) ?_
        refine t_rdg rfl rfl rfl rfl (gv_f _) (fun hg3898 => (rd_lss (gvx rfl hg3898) (gvx rfl hg3898))) ?_
        refine t_rd rfl (rd_or rfl (fun hc3899 => (gvx rfl (bnotIt hc3899)))) ?_
        refine rwt_nil ?_
        refine qn_then ?_
        obtain ⟨hb3900, q3901⟩ | ⟨hb3900, q3901⟩ := oi h <;> clear h
        · refine cw_t rfl hb3900 ?_
          refine cw_skip ?_
          refine qn_then ?_
          refine cw_block ?_
          refine cw_seq ?_
          refine cw_region ?_
          refine t_rd rfl (rd_move rfl) ?_
          refine t_rd rfl (rd_move rfl) ?_
          obtain ⟨x3902, h3903, q3904⟩ := ob q3901; clear q3901
          refine t_rd rfl (rd_index tS33 rfl rfl ((Nl.mk (hm3894.sl_call 1 rfl) (hm3894.rows_call 2 rfl)).sl) h3903) ?_
          obtain ⟨zd3905, hz3906⟩ := (Nl.mk (hm3894.sl_call 1 rfl) (hm3894.rows_call 2 rfl)).row h3903
          refine t_rd rfl (rd_ld1 tO22 rfl ((Nl.mk (hm3894.sl_call 1 rfl) (hm3894.rows_call 2 rfl)).cells hz3906) (off := 0) rfl) ?_
          refine t_rd rfl (rd_move rfl) ?_
          obtain ⟨x3907, h3908, q3909⟩ := ob q3904; clear q3904
          refine t_rd rfl (rd_index tS22 rfl rfl ((Nl.mk (hm3894.sl_call 1 rfl) (hm3894.rows_call 2 rfl)).get hz3906 h3903) h3908) ?_
          refine t_rd rfl (rd_ld1 tO3 rfl (((Nl.mk (hm3894.sl_call 1 rfl) (hm3894.rows_call 2 rfl)).get hz3906 h3903).cells h3908) (off := 0) rfl) ?_
          refine t_rd rfl (rd_assign rfl) ?_
          refine rwt_nil ?_
          refine qn_then ?_
          refine cw_seq ?_
          refine cw_region ?_
          refine t_rd rfl (rd_move rfl) ?_
          refine t_rd rfl (rd_move rfl) ?_
          refine t_ef rfl (ef_bslice (l := ([x3907] : List Int)) hm3894 tS22 rfl (cs := #[(Value.int .i64 x3907)]) (by unfold bsl; kernel_rfl) rfl rfl) ?_
          intro v3910 w3912 hm3911
          obtain ⟨l3913, h3914, q3915⟩ := ob q3909; clear q3909
          refine t_ef rfl (ef_append (k := 1) hm3911 tS22 tE3 rfl rfl rfl rfl (hm3911.sl 0 rfl) h3914) ?_
          intro v3916 w3918 hm3917
          refine t_rd rfl (rd_assign rfl) ?_
          refine rwt_nil ?_
          refine qn_then ?_
          refine cw_region ?_
          refine t_rd rfl (rd_move rfl) ?_
          refine t_rd rfl (rd_move rfl) ?_
          refine t_rd rfl (rd_move rfl) ?_
          refine t_rd rfl (rd_move rfl) ?_
          refine t_rd rfl (rd_move rfl) ?_
          obtain ⟨r3919, h3920, q3921⟩ := ob q3915; clear q3915
          refine t_ef rfl (ef_call tf30 rfl (r08_edit_ok h3920 (hv0.to_call hm3917) (hv1.to_call hm3917))) ?_
          rintro _ w3923 ⟨e_, hm3922⟩
          obtain rfl := e_.symm
          have hm3924 := hm3917.call hm3922
          refine t_rd rfl (rd_move rfl) ?_
          refine t_rd rfl (rd_extract rfl rfl) ?_
          refine t_rd rfl (rd_extract rfl rfl) ?_
          refine t_rd rfl (rd_extract rfl rfl) ?_
          refine t_rd rfl (rd_extract rfl rfl) ?_
          refine t_rd rfl (rd_assign rfl) ?_
          refine t_rd rfl (rd_assign rfl) ?_
          refine rwt_nil ?_
          refine qn_block (qn_then ?_)
          refine ⟨_, (os q3921), v3916, (by repeat (first | exact Sub.nil _ | refine Sub.cons rfl ?_)), (hm3924.pick [1, 2, 3, 4, 5] (by decide) rfl)⟩
        · refine cw_f rfl hb3900 ?_
          refine cw_exit ?_
          refine qx_then (qx_then ?_)
          obtain rfl := hr3890 _ (os q3901)
          exact ⟨rfl, v3884, (by repeat (first | exact Sub.nil _ | refine Sub.cons rfl ?_)), (hm3894.pick [0, 3, 4] (by decide) rfl)⟩
      · skip
        intro e env3925 w3926 hX3927
        obtain ⟨rfl, v3880, hs3928, hm3929⟩ := hX3927
        refine qx_same (qn_then ?_)
        refine cw_sub hs3928 ?_
        refine cw_seq ?_
        obtain ⟨w3931, he3933⟩ : ∃ q, q = w3926.drew := ⟨_, rfl⟩
        have hm3932 := hm3929.drew; rw [← he3933] at hm3932
        refine cw_region_s (fun q => q = w3931) (cls [] []) mixed ?_
        rintro _ rfl; rw [← he3933]
        refine s_rp (i := 0) rfl (by kernel_rfl) rfl (fun _ => (rd_move rfl)) ?_
        refine s_rp (i := 1) rfl (by kernel_rfl) rfl (fun _ => (rd_move rfl)) ?_
        obtain ⟨x3934, h3935, q3936⟩ := ob q3893; clear q3893
        refine s_rp (i := 2) rfl (by kernel_rfl) rfl (fun _ => (rd_index tS33 rfl rfl ((Nl.mk (hm3932.sl_call 1 rfl) (hm3932.rows_call 2 rfl)).sl) h3935)) ?_
        obtain ⟨zd3937, hz3938⟩ := (Nl.mk (hm3932.sl_call 1 rfl) (hm3932.rows_call 2 rfl)).row h3935
        refine s_rd (i := 3) rfl (by kernel_rfl) rfl (fun _ hS => by rw [hS]; exact (rd_ld1 tO22 rfl ((Nl.mk (hm3932.sl_call 1 rfl) (hm3932.rows_call 2 rfl)).cells hz3938) (off := 0) rfl)) rfl ?_
        obtain ⟨x3939, h3940, q3941⟩ := ob q3936; clear q3936
        refine s_rp (i := 4) rfl (by kernel_rfl) rfl (fun _ => (rd_index tS22 rfl rfl ((Nl.mk (hm3932.sl_call 1 rfl) (hm3932.rows_call 2 rfl)).get hz3938 h3935) h3940)) ?_
        refine s_rd (i := 5) rfl (by kernel_rfl) rfl (fun _ hS => by rw [hS]; exact (rd_ld1 tO3 rfl (((Nl.mk (hm3932.sl_call 1 rfl) (hm3932.rows_call 2 rfl)).get hz3938 h3935).cells h3940) (off := 0) rfl)) rfl ?_
        refine s_rp (i := 6) rfl (by kernel_rfl) rfl (fun _ => (rd_assign rfl)) ?_
        refine s_rp (i := 7) rfl (by kernel_rfl) rfl (fun _ => (rd_assign rfl)) ?_
        refine s_rp (i := 8) rfl (by kernel_rfl) rfl (fun _ => (rd_assign rfl)) ?_
        refine s_nil (by kernel_rfl) ?_
        refine qn_then ?_
        refine cw_ret ?_
        obtain rfl := os q3941
        exact ret3 rfl rfl rfl rfl ⟨v3880, rfl, (hm3932.pick [0] (by decide) rfl)⟩

end Go.Proofs.Ytlfinhdanjbmcaa
