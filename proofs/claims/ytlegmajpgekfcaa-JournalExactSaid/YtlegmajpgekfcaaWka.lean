/- Each call computes what its mirror does; written by a program of mine (gowalk.py). -/
import Derived.Test.YtlegmajpgekfcaaTy
namespace Go.Proofs.Ytlegmajpgekfcaa
open Go.Gv Go.RowKit
set_option linter.unusedVariables false
set_option maxRecDepth 100000

theorem humpgen_New_ok {N : Nat} {a0 : List Int} {res : Int} (h : humpgen_New N a0 = some res) {w : World} {v0 : Value} (hv0 : Sl (Old w No) w v0 a0) :
    CallsR Try.prog 7 [v0] w (fun u w' => ∃ gr : Nat, u = (Value.pointer (some ⟨gr, 0, none⟩)) ∧ Mem w No [blk gr 49 [v0, (Value.int .i64 res)]] w') := by
  unfold humpgen_New at h
  refine fn_ok Try.func7 rfl rfl rfl ?_
  have hm0 := Mem.nil w
  refine cw_seq ?_
  refine cw_region ?_
  refine t_rd rfl (rd_assign rfl) ?_
  refine rwt_nil ?_
  refine qn_then ?_
  refine cw_seq ?_
  refine cw_region ?_
  refine t_rd rfl (rd_move rfl) ?_
  refine t_rd rfl (rd_build (cs := #[v0, (Value.int .i64 0)]) rfl (by obtain ⟨_, _, e⟩ := ((hv0.of_old hm0)).val; rw [e]; clear e; kernel_rfl)) ?_
  refine t_ef rfl (ef_box hm0 rfl rfl) ?_
  rintro _ w6 ⟨g4, rfl, hm5⟩
  refine t_rd rfl (rd_assign rfl) ?_
  refine rwt_nil ?_
  refine qn_then ?_
  refine cw_ret ?_
  obtain rfl := os h
  exact ret1 rfl rfl ⟨g4, rfl, (hm5.pick [0] (by decide) rfl)⟩

theorem Maker_Next_ok {N : Nat} {a0_l : List Int} {a0_n : Int} {a1 : Int} {res : Int × Int} (h : Maker_Next N a0_l a0_n a1 = some res) {w : World} {v0_l : Value} {g0 : Nat} (hv0_l : Sl (Old w (fun k => k = g0)) w v0_l a0_l) (hk0 : (blk g0 49 [v0_l, (Value.int .i64 a0_n)]).φ w) :
    CallsR Try.prog 17 [(Value.pointer (some ⟨g0, 0, none⟩)), (Value.int .i64 a1)] w (fun u w' => u = (Value.int .i64 res.2) ∧ Mem w (fun k => k = g0) [blk g0 49 [v0_l, (Value.int .i64 res.1)]] w') := by
  unfold Maker_Next at h
  refine fn_ok Try.func17 rfl rfl rfl ?_
  have hm0 := Mem.one hk0
  refine cw_seq ?_
  refine cw_region ?_
  refine t_rd rfl (rd_assign rfl) ?_
  refine rwt_nil ?_
  refine qn_then ?_
  refine cw_seq ?_
  refine cw_region ?_
  refine t_rd rfl (rd_assign rfl) ?_
  refine rwt_nil ?_
  refine qn_then ?_
  refine cw_seq ?_
  refine cw_seq ?_
  refine cw_region ?_
  refine t_rd rfl (rd_move rfl) ?_
  refine t_rd rfl (rd_nilCheck rfl) ?_
  refine t_rd rfl (rd_fld tF49_0 rfl) ?_
  refine t_rd rfl (rd_ld1 tO22 rfl (hm0.blk 0 rfl) (off := 0) rfl) ?_
  refine t_rd rfl (rd_lenS tS22 rfl (hv0_l.of_old hm0)) ?_
  refine t_rd rfl (rd_gtr rfl rfl) ?_
  refine rwt_nil ?_
  refine qn_then ?_
  obtain ⟨j69, hit70, q71⟩ := ob h; clear h
  refine cw_join (X := fun eq envq wq => eq = .normal ∧ Sub [(0, (Value.pointer (some ⟨g0, 0, none⟩))), (1, (Value.int .i64 a1)), (5, (Value.int .i64 j69))] envq ∧ Mem w (fun k => k = g0) [blk g0 49 [v0_l, (Value.int .i64 a0_n)]] wq) ?_ ?_
  · clear q71
    obtain ⟨hb72, q73⟩ | ⟨hb72, q73⟩ := oi hit70 <;> clear hit70
    · refine cw_t rfl hb72 ?_
      obtain ⟨w75, he77⟩ : ∃ q, q = w.drew := ⟨_, rfl⟩
      have hm76 := hm0.drew; rw [← he77] at hm76
      refine cw_region_s (fun q => q = w75) (cls [] []) mixed ?_
      rintro _ rfl; rw [← he77]
      refine s_rp (i := 0) rfl (by kernel_rfl) rfl (fun _ => (rd_move rfl)) ?_
      refine s_rp (i := 1) rfl (by kernel_rfl) rfl (fun _ => (rd_nilCheck rfl)) ?_
      refine s_rp (i := 2) rfl (by kernel_rfl) rfl (fun _ => (rd_fld tF49_0 rfl)) ?_
      refine s_rd (i := 3) rfl (by kernel_rfl) rfl (fun _ hS => by rw [hS]; exact (rd_ld1 tO22 rfl (hm76.blk 0 rfl) (off := 0) rfl)) rfl ?_
      refine s_rp (i := 4) rfl (by kernel_rfl) rfl (fun _ => (rd_move rfl)) ?_
      refine s_rp (i := 5) rfl (by kernel_rfl) rfl (fun _ => (rd_nilCheck rfl)) ?_
      refine s_rp (i := 6) rfl (by kernel_rfl) rfl (fun _ => (rd_fld tF49_1 rfl)) ?_
      refine s_rd (i := 7) rfl (by kernel_rfl) rfl (fun _ hS => by rw [hS]; exact (rd_ld1 tO3 rfl (hm76.blk 0 rfl) (off := 1) rfl)) rfl ?_
      refine s_rp (i := 8) rfl (by kernel_rfl) rfl (fun _ => (rd_move rfl)) ?_
      refine s_rp (i := 9) rfl (by kernel_rfl) rfl (fun _ => (rd_nilCheck rfl)) ?_
      refine s_rp (i := 10) rfl (by kernel_rfl) rfl (fun _ => (rd_fld tF49_0 rfl)) ?_
      refine s_rd (i := 11) rfl (by kernel_rfl) rfl (fun _ hS => by rw [hS]; exact (rd_ld1 tO22 rfl (hm76.blk 0 rfl) (off := 0) rfl)) rfl ?_
      refine s_rp (i := 12) rfl (by kernel_rfl) rfl (fun _ => (rd_lenS tS22 rfl (hv0_l.of_old hm76))) ?_
      obtain ⟨x78, h79, q80⟩ := ob q73; clear q73
      refine s_rp (i := 13) rfl (by kernel_rfl) rfl (fun _ => (rd_rem64 h79 rfl rfl)) ?_
      obtain ⟨x81, h82, q83⟩ := ob q80; clear q80
      refine s_rp (i := 14) rfl (by kernel_rfl) rfl (fun _ => (rd_index tS22 rfl rfl (hv0_l.of_old hm76) h82)) ?_
      refine s_rd (i := 15) rfl (by kernel_rfl) rfl (fun _ hS => by rw [hS]; exact (rd_ld1 tO3 rfl ((hv0_l.of_old hm76).cells h82) (off := 0) rfl)) rfl ?_
      refine s_rp (i := 16) rfl (by kernel_rfl) rfl (fun _ => (rd_move rfl)) ?_
      refine s_rp (i := 17) rfl (by kernel_rfl) rfl (fun _ => (rd_nilCheck rfl)) ?_
      refine s_rp (i := 18) rfl (by kernel_rfl) rfl (fun _ => (rd_fld tF49_1 rfl)) ?_
      refine s_rd (i := 19) rfl (by kernel_rfl) rfl (fun _ hS => by rw [hS]; exact (rd_ld1 tO3 rfl (hm76.blk 0 rfl) (off := 1) rfl)) rfl ?_
      refine s_rp (i := 20) rfl (by kernel_rfl) rfl (fun _ => (rd_move rfl)) ?_
      refine s_rp (i := 21) rfl (by kernel_rfl) rfl (fun _ => (rd_nilCheck rfl)) ?_
      refine s_rp (i := 22) rfl (by kernel_rfl) rfl (fun _ => (rd_fld tF49_0 rfl)) ?_
      refine s_rd (i := 23) rfl (by kernel_rfl) rfl (fun _ hS => by rw [hS]; exact (rd_ld1 tO22 rfl (hm76.blk 0 rfl) (off := 0) rfl)) rfl ?_
      refine s_rp (i := 24) rfl (by kernel_rfl) rfl (fun _ => (rd_lenS tS22 rfl (hv0_l.of_old hm76))) ?_
      obtain ⟨x84, h85, q86⟩ := ob q83; clear q83
      refine s_rp (i := 25) rfl (by kernel_rfl) rfl (fun _ => (rd_quo64 h85 rfl rfl)) ?_
      refine s_rp (i := 26) rfl (by kernel_rfl) rfl (fun _ => (rd_mulw rfl rfl)) ?_
      refine s_rp (i := 27) rfl (by kernel_rfl) rfl (fun _ => (rd_addw rfl rfl)) ?_
      refine s_rp (i := 28) rfl (by kernel_rfl) rfl (fun _ => (rd_assign rfl)) ?_
      refine s_nil (by kernel_rfl) ?_
      obtain rfl := os q86
      exact ⟨rfl, (by repeat (first | exact Sub.nil _ | refine Sub.cons rfl ?_)), (hm76.pick [0] (by decide) rfl)⟩
    · refine cw_f rfl hb72 ?_
      refine cw_skip ?_
      obtain rfl := os q73
      exact ⟨rfl, (by repeat (first | exact Sub.nil _ | refine Sub.cons rfl ?_)), (hm0.pick [0] (by decide) rfl)⟩
  · clear hit70
    intro e env87 w88 hX89
    obtain ⟨rfl, hs90, hm91⟩ := hX89
    refine qn_then ?_
    refine cw_sub hs90 ?_
    refine cw_seq ?_
    refine cw_region ?_
    refine t_rd rfl (rd_move rfl) ?_
    refine t_rd rfl (rd_nilCheck rfl) ?_
    refine t_rd rfl (rd_fld tF49_1 rfl) ?_
    refine t_rd rfl (rd_ld1 tO3 rfl (hm91.blk 0 rfl) (off := 1) rfl) ?_
    obtain ⟨x92, h93, q94⟩ := ob q71; clear q71
    refine t_rd rfl (rd_add64 h93 rfl rfl) ?_
    refine t_rd rfl (rd_nilCheck rfl) ?_
    refine t_rd rfl (rd_fld tF49_1 rfl) ?_
    refine t_ef0 (ef_st1 (k := 0) (off := 1) hm91 tO3 rfl rfl rfl rfl rfl rfl) ?_
    intro _ w96 hm95
    refine rwt_nil ?_
    refine qn_then ?_
    refine cw_seq ?_
    refine cw_region ?_
    refine t_rd rfl (rd_move rfl) ?_
    refine t_rd rfl (rd_move rfl) ?_
    obtain ⟨x97, h98, q99⟩ := ob q94; clear q94
    refine t_rd rfl (rd_rem64 h98 rfl rfl) ?_
    refine t_rd rfl (rd_assign rfl) ?_
    refine rwt_nil ?_
    refine qn_then ?_
    refine cw_seq ?_
    refine cw_seq ?_
    refine cw_region ?_
    refine t_rd rfl (rd_move rfl) ?_
    refine t_rd rfl (rd_lss rfl rfl) ?_
    refine rwt_nil ?_
    refine qn_then ?_
    obtain ⟨hb100, q101⟩ | ⟨hb100, q101⟩ := oi q99 <;> clear q99
    · refine cw_t rfl hb100 ?_
      refine cw_region ?_
      refine t_rd rfl (rd_move rfl) ?_
      refine t_rd rfl (rd_move rfl) ?_
      obtain ⟨x102, h103, q104⟩ := ob q101; clear q101
      refine t_rd rfl (rd_add64 h103 rfl rfl) ?_
      refine t_rd rfl (rd_assign rfl) ?_
      refine rwt_nil ?_
      refine qn_then ?_
      refine cw_seq ?_
      refine cw_region ?_
      refine t_rd rfl (rd_move rfl) ?_
      refine t_rd rfl (rd_assign rfl) ?_
      refine rwt_nil ?_
      refine qn_then ?_
      refine cw_ret ?_
      obtain rfl := os q104
      exact ret1 rfl rfl ⟨rfl, (hm95.pick [0] (by decide) rfl)⟩
    · refine cw_f rfl hb100 ?_
      refine cw_skip ?_
      refine qn_then ?_
      refine cw_seq ?_
      refine cw_region ?_
      refine t_rd rfl (rd_move rfl) ?_
      refine t_rd rfl (rd_assign rfl) ?_
      refine rwt_nil ?_
      refine qn_then ?_
      refine cw_ret ?_
      obtain rfl := os q101
      exact ret1 rfl rfl ⟨rfl, (hm95.pick [0] (by decide) rfl)⟩

theorem Maker_Pick_ok {N : Nat} {a0_l : List Int} {a0_n : Int} {a1 : List Int} {res : Int × Int} (h : Maker_Pick N a0_l a0_n a1 = some res) {w : World} {v0_l : Value} {g0 : Nat} {v1 : Value} (hv0_l : Sl (Old w (fun k => k = g0)) w v0_l a0_l) (hk0 : (blk g0 49 [v0_l, (Value.int .i64 a0_n)]).φ w) (hv1 : Sl (Old w (fun k => k = g0)) w v1 a1) :
    CallsR Try.prog 15 [(Value.pointer (some ⟨g0, 0, none⟩)), v1] w (fun u w' => u = (Value.int .i64 res.2) ∧ Mem w (fun k => k = g0) [blk g0 49 [v0_l, (Value.int .i64 res.1)]] w') := by
  unfold Maker_Pick at h
  refine fn_ok Try.func15 rfl rfl rfl ?_
  have hm0 := Mem.one hk0
  refine cw_seq ?_
  refine cw_region ?_
  refine t_rd rfl (rd_assign rfl) ?_
  refine rwt_nil ?_
  refine qn_then ?_
  refine cw_seq ?_
  refine cw_region ?_
  refine t_rd rfl (rd_move rfl) ?_
  refine t_rd rfl (rd_move rfl) ?_
  refine t_rd rfl (rd_move rfl) ?_
  refine t_rd rfl (rd_lenS tS22 rfl (hv1.of_old hm0)) ?_
  obtain ⟨r10, h11, q12⟩ := ob h; clear h
  refine t_ef rfl (ef_call tf17 rfl (Maker_Next_ok h11 (hv0_l.to_callT (k := 0) hm0 rfl) (hm0.get (k := 0) rfl))) ?_
  rintro _ w14 ⟨e_, hm13⟩
  obtain rfl := e_.symm
  have hm15 := hm0.callT (k := 0) rfl (fun _ h => h) hm13 (fun _ => Iff.rfl)
  obtain ⟨x16, h17, q18⟩ := ob q12; clear q12
  refine t_rd rfl (rd_index tS22 rfl rfl (hv1.of_old hm15) h17) ?_
  refine t_rd rfl (rd_ld1 tO3 rfl ((hv1.of_old hm15).cells h17) (off := 0) rfl) ?_
  refine t_rd rfl (rd_assign rfl) ?_
  refine rwt_nil ?_
  refine qn_then ?_
  refine cw_ret ?_
  obtain rfl := os q18
  exact ret1 rfl rfl ⟨rfl, (hm15.pick [0] (by decide) rfl)⟩

theorem law43_records_ok {N : Nat} {a0_l : List Int} {a0_n : Int} {a1 : Int} {res : Int × List (List UInt8)} (h : law43_records N a0_l a0_n a1 = some res) {w : World} {v0_l : Value} {g0 : Nat} (hv0_l : Sl (Old w (fun k => k = g0)) w v0_l a0_l) (hk0 : (blk g0 49 [v0_l, (Value.int .i64 a0_n)]).φ w) :
    CallsR Try.prog 8 [(Value.pointer (some ⟨g0, 0, none⟩)), (Value.int .i64 a1)] w (fun u w' => ∃ (zy0 : List Hdr) (y1 : Value), u = y1 ∧ Mem w (fun k => k = g0) [blk g0 49 [v0_l, (Value.int .i64 res.1)], ownL 27 y1 (zy0 : List Hdr), rowsC 5 zy0 (res.2 : List (List UInt8)) none] w') := by
  unfold law43_records at h
  refine fn_ok Try.func8 rfl rfl rfl ?_
  have hm0 := Mem.one hk0
  refine cw_seq ?_
  refine cw_region ?_
  refine t_rd rfl (rd_assign rfl) ?_
  refine rwt_nil ?_
  refine qn_then ?_
  refine cw_seq ?_
  refine cw_region ?_
  refine t_rd rfl (rd_assign rfl) ?_
  refine rwt_nil ?_
  refine qn_then ?_
  refine cw_seq ?_
  refine cw_seq ?_
  refine cw_region ?_
  refine t_rd rfl (rd_move rfl) ?_
  refine t_rd rfl (rd_move rfl) ?_
  obtain ⟨x469, h470, q471⟩ := ob h; clear h
  refine t_rd rfl (rd_add64 h470 rfl rfl) ?_
  obtain ⟨r472, h473, q474⟩ := ob q471; clear q471
  refine t_ef rfl (ef_call tf17 rfl (Maker_Next_ok h473 (hv0_l.to_callT (k := 0) hm0 rfl) (hm0.get (k := 0) rfl))) ?_
  rintro _ w476 ⟨e_, hm475⟩
  obtain rfl := e_.symm
  have hm477 := hm0.callT (k := 0) rfl (fun _ h => h) hm475 (fun _ => Iff.rfl)
  refine t_rd rfl (rd_assign rfl) ?_
  refine rwt_nil ?_
  refine qn_then ?_
  refine cw_block ?_
  have hm586 := hm477.addNil (α := Hdr) 27
  have hm587 := hm586.rowsNil (α := UInt8) 5
  obtain ⟨r822, hit823, q824⟩ := ob q474; clear q474
  refine cw_loop2 (I := fun q envq wq => ∃ (v814 : Value) (zs815 : List Hdr), Sub [(0, (Value.pointer (some ⟨g0, 0, none⟩))), (5, v814), (6, (Value.int .i64 q.1))] envq ∧ Mem w (fun k => k = g0) [rowsC 5 zs815 (q.2.2 : List (List UInt8)) none, ownL 27 v814 (zs815 : List Hdr), blk g0 49 [v0_l, (Value.int .i64 q.2.1)]] wq) (X := fun eq envq wq => eq = .exit 0 ∧ ∃ (v809 : Value) (zs810 : List Hdr), Sub [(5, v809)] envq ∧ Mem w (fun k => k = g0) [rowsC 5 zs810 (r822.2 : List (List UInt8)) none, ownL 27 v809 (zs810 : List Hdr), blk g0 49 [v0_l, (Value.int .i64 r822.1)]] wq) hit823 ⟨(Value.slice none 0 0), [], (by repeat (first | exact Sub.nil _ | refine Sub.cons rfl ?_)), (hm587.pick [0, 1, 2] (by decide) rfl)⟩ ?_ ?_
  · rintro ⟨i811, i812, l813⟩ x817 env818 w819 hf820 hr821 ⟨v814, zs815, hs_, hm_⟩
    have hs_ : Sub [(0, (Value.pointer (some ⟨g0, 0, none⟩))), (5, v814), (6, (Value.int .i64 i811))] env818 := hs_
    have hm825 : Mem w (fun k => k = g0) [rowsC 5 zs815 (l813 : List (List UInt8)) none, ownL 27 v814 (zs815 : List Hdr), blk g0 49 [v0_l, (Value.int .i64 i812)]] w819 := hm_
    refine cw_sub hs_ ?_
    clear hs_ hm_ q824
    have h : law43_records_l4 N a0_l i811 i812 l813 = some x817 := hf820
    clear hf820
    refine cw_seq ?_
    refine cw_seq ?_
    refine cw_region ?_
    refine t_rd rfl (rd_move rfl) ?_
    refine t_rd rfl (rd_gtr rfl rfl) ?_
    refine rwt_nil ?_
    refine qn_then ?_
    obtain ⟨hb826, q827⟩ | ⟨hb826, q827⟩ := oi h <;> clear h
    · refine cw_t rfl hb826 ?_
      refine cw_skip ?_
      refine qn_then ?_
      refine cw_seq ?_
      refine cw_block ?_
      refine cw_seq ?_
      refine cw_region ?_
      refine t_rd rfl (rd_move rfl) ?_
      refine t_ef rfl (ef_bslice (l := ([0, 1, 2, 5, 17] : List Int)) hm825 tS22 rfl (cs := #[(Value.int .i64 0), (Value.int .i64 1), (Value.int .i64 2), (Value.int .i64 5), (Value.int .i64 17)]) (by unfold bsl; kernel_rfl) rfl rfl) ?_
      intro v828 w830 hm829
      obtain ⟨r831, h832, q833⟩ := ob q827; clear q827
      refine t_ef rfl (ef_call tf15 rfl (Maker_Pick_ok h832 (hv0_l.to_callT (k := 3) hm829 rfl) (hm829.get (k := 3) rfl) (hm829.sl_callT 0 3 rfl rfl (by decide)))) ?_
      rintro _ w835 ⟨e_, hm834⟩
      obtain rfl := e_.symm
      have hm836 := hm829.callT (k := 3) rfl (fun _ h => h) hm834 (fun _ => Iff.rfl)
      obtain ⟨l837, h838, q839⟩ := ob q833; clear q833
      refine t_ef rfl (ef_make hm836 tS27 tE5 rfl rfl rfl h838) ?_
      intro v840 w842 hm841
      refine t_rd rfl (rd_assign rfl) ?_
      refine rwt_nil ?_
      refine qn_then ?_
      refine cw_seq ?_
      refine cw_seq ?_
      refine cw_region ?_
      refine t_rd rfl (rd_assign rfl) ?_
      refine rwt_nil ?_
      refine qn_then ?_
      refine cw_block ?_
      obtain ⟨r889, hit890, q891⟩ := ob q839; clear q839
      refine cw_loop2 (I := fun q envq wq => Sub [(0, (Value.pointer (some ⟨g0, 0, none⟩))), (5, v814), (6, (Value.int .i64 i811)), (7, v840), (8, (Value.int .i64 q.1))] envq ∧ Mem w (fun k => k = g0) [ownL 5 v840 (q.2.2 : List UInt8), rowsC 5 zs815 (l813 : List (List UInt8)) none, ownL 27 v814 (zs815 : List Hdr), blk g0 49 [v0_l, (Value.int .i64 q.2.1)]] wq) (X := fun eq envq wq => eq = .exit 2 ∧ Sub [(0, (Value.pointer (some ⟨g0, 0, none⟩))), (5, v814), (6, (Value.int .i64 i811)), (7, v840)] envq ∧ Mem w (fun k => k = g0) [ownL 5 v840 (r889.2 : List UInt8), rowsC 5 zs815 (l813 : List (List UInt8)) none, ownL 27 v814 (zs815 : List Hdr), blk g0 49 [v0_l, (Value.int .i64 r889.1)]] wq) hit890 ⟨(by repeat (first | exact Sub.nil _ | refine Sub.cons rfl ?_)), (hm841.pick [0, 2, 3, 4] (by decide) rfl)⟩ ?_ ?_
      · rintro ⟨i880, i881, l882⟩ x884 env885 w886 hf887 hr888 ⟨hs_, hm_⟩
        have hs_ : Sub [(0, (Value.pointer (some ⟨g0, 0, none⟩))), (5, v814), (6, (Value.int .i64 i811)), (7, v840), (8, (Value.int .i64 i880))] env885 := hs_
        have hm892 : Mem w (fun k => k = g0) [ownL 5 v840 (l882 : List UInt8), rowsC 5 zs815 (l813 : List (List UInt8)) none, ownL 27 v814 (zs815 : List Hdr), blk g0 49 [v0_l, (Value.int .i64 i881)]] w886 := hm_
        refine cw_sub hs_ ?_
        clear hs_ hm_ q891
        have h : law43_records_l5 N a0_l i880 i881 l882 = some x884 := hf887
        clear hf887
        refine cw_seq ?_
        refine cw_seq ?_
        refine cw_region ?_
        refine t_rd rfl (rd_move rfl) ?_
        refine t_rd rfl (rd_move rfl) ?_
        refine t_rd rfl (rd_lenS tS27 rfl (hm892.sl 0 rfl)) ?_
        refine t_rd rfl (rd_lss rfl rfl) ?_
        refine rwt_nil ?_
        refine qn_then ?_
        obtain ⟨hb893, q894⟩ | ⟨hb893, q894⟩ := oi h <;> clear h
        · refine cw_t rfl hb893 ?_
          refine cw_skip ?_
          refine qn_then ?_
          refine cw_seq ?_
          refine cw_block ?_
          refine cw_region ?_
          refine t_rd rfl (rd_move rfl) ?_
          refine t_rd rfl (rd_move rfl) ?_
          refine t_rd rfl (rd_move rfl) ?_
          obtain ⟨r895, h896, q897⟩ := ob q894; clear q894
          refine t_ef rfl (ef_call tf17 rfl (Maker_Next_ok h896 (hv0_l.to_callT (k := 3) hm892 rfl) (hm892.get (k := 3) rfl))) ?_
          rintro _ w899 ⟨e_, hm898⟩
          obtain rfl := e_.symm
          have hm900 := hm892.callT (k := 3) rfl (fun _ h => h) hm898 (fun _ => Iff.rfl)
          refine t_rd rfl (rd_cv8 tH3 tI5 rfl) ?_
          obtain ⟨x901, h902, q903⟩ := ob q897; clear q897
          refine t_rd rfl (rd_index tS27 rfl rfl (hm900.sl 0 rfl) h902) ?_
          refine t_ef0 (ef_stl (k := 0) (off := 0) (x' := (toU8 r895.2)) hm900 tO5 rfl rfl rfl rfl h902 rfl rfl) ?_
          intro _ w905 hm904
          refine rwt_nil ?_
          refine qn_block (qn_then ?_)
          refine cw_region ?_
          refine t_rd rfl (rd_move rfl) ?_
          obtain ⟨x906, h907, q908⟩ := ob q903; clear q903
          refine t_rd rfl (rd_add64 h907 rfl rfl) ?_
          refine t_rd rfl (rd_assign rfl) ?_
          refine rwt_nil ?_
          refine qn_then ?_
          refine ⟨_, (os q908), (by repeat (first | exact Sub.nil _ | refine Sub.cons rfl ?_)), (hm904.pick [0, 1, 2, 3] (by decide) rfl)⟩
        · refine cw_f rfl hb893 ?_
          refine cw_exit ?_
          refine qx_then (qx_then ?_)
          obtain rfl := hr888 _ (os q894)
          exact ⟨rfl, (by repeat (first | exact Sub.nil _ | refine Sub.cons rfl ?_)), (hm892.pick [0, 1, 2, 3] (by decide) rfl)⟩
      · skip
        intro e env909 w910 hX911
        obtain ⟨rfl, hs912, hm913⟩ := hX911
        refine qx_same (qn_then ?_)
        refine cw_sub hs912 ?_
        refine cw_region ?_
        refine t_rd rfl (rd_move rfl) ?_
        refine t_rd rfl (rd_move rfl) ?_
        obtain ⟨zd914, ez915⟩ : ∃ z : Hdr, z.1 = v840 := ⟨⟨v840, sl_one (hm913.sl 0 rfl)⟩, rfl⟩
        refine t_ef rfl (ef_bslice (l := ([zd914] : List Hdr)) hm913 tS25 rfl (cs := #[v840]) (by obtain ⟨_, _, e⟩ : ∃ A c, v840 = Value.slice A (List.length r889.2) c := ((hm913.sl 0 rfl)).val; rw [e]; clear e; unfold bsl; kernel_rfl) (by show [zd914.1] = [v840]; rw [ez915]) rfl) ?_
        intro v916 w918 hm917
        obtain ⟨l919, h920, q921⟩ := ob q891; clear q891
        obtain ⟨ha922, he923⟩ := app_h h920 (hm917.get (k := 2) rfl).1 ((Nl.mk (hm917.sl_call 0 rfl) (Rows.cons (hm917.sl_call 1 rfl) ez915 Rows.nil))).rows.1
        refine t_ef rfl (ef_append (k := 3) hm917 tS25 tE27 rfl rfl rfl rfl ((Nl.mk (hm917.sl_call 0 rfl) (Rows.cons (hm917.sl_call 1 rfl) ez915 Rows.nil))).sp ha922) ?_
        intro v924 w926 hm925
        have hm927 := hm925.pick [2, 1, 0, 3, 4] (L' := [rowsC 5 zs815 (l813 : List (List UInt8)) none, ownL 5 v840 (r889.2 : List UInt8), ownL 27 v916 ([zd914] : List Hdr), ownL 27 v924 ((zs815 ++ [zd914]) : List Hdr), blk g0 49 [v0_l, (Value.int .i64 r889.1)]]) (by decide) rfl
        have hm928 := hm927.absorb ez915 he923
        refine t_rd rfl (rd_assign rfl) ?_
        refine rwt_nil ?_
        refine qn_block (qn_then ?_)
        refine cw_region ?_
        refine t_rd rfl (rd_move rfl) ?_
        obtain ⟨x929, h930, q931⟩ := ob q921; clear q921
        refine t_rd rfl (rd_sub64 h930 rfl rfl) ?_
        refine t_rd rfl (rd_assign rfl) ?_
        refine rwt_nil ?_
        refine qn_then ?_
        refine ⟨_, (os q931), v924, (zs815 ++ [zd914]), (by repeat (first | exact Sub.nil _ | refine Sub.cons rfl ?_)), (hm928.pick [0, 2, 3] (by decide) rfl)⟩
    · refine cw_f rfl hb826 ?_
      refine cw_exit ?_
      refine qx_then (qx_then ?_)
      obtain rfl := hr821 _ (os q827)
      exact ⟨rfl, v814, zs815, (by repeat (first | exact Sub.nil _ | refine Sub.cons rfl ?_)), (hm825.pick [0, 1, 2] (by decide) rfl)⟩
  · skip
    intro e env932 w933 hX934
    obtain ⟨rfl, v809, zs810, hs935, hm936⟩ := hX934
    refine qx_same (qn_then ?_)
    refine cw_sub hs935 ?_
    refine cw_seq ?_
    refine cw_region ?_
    refine t_rd rfl (rd_move rfl) ?_
    refine t_rd rfl (rd_assign rfl) ?_
    refine rwt_nil ?_
    refine qn_then ?_
    refine cw_ret ?_
    obtain rfl := os q824
    exact ret1 rfl rfl ⟨zs810, v809, rfl, (hm936.pick [2, 1, 0] (by decide) rfl)⟩

theorem r43_Check_ok {N : Nat} {a0 : List UInt8} {res : Int} (h : r43_Check N a0 = some res) {w : World} {v0 : Value} (hv0 : Sl (Old w No) w v0 a0) :
    CallsR Try.prog 27 [v0] w (fun u w' => u = (Value.int .i64 res) ∧ Mem w No [] w') := by
  unfold r43_Check at h
  refine fn_ok Try.func27 rfl rfl rfl ?_
  have hm0 := Mem.nil w
  refine cw_seq ?_
  refine cw_region ?_
  refine t_rd rfl (rd_assign rfl) ?_
  refine rwt_nil ?_
  refine qn_then ?_
  refine cw_seq ?_
  refine cw_region ?_
  refine t_rd rfl (rd_assign rfl) ?_
  refine rwt_nil ?_
  refine qn_then ?_
  refine cw_seq ?_
  refine cw_seq ?_
  refine cw_region ?_
  refine t_rd rfl (rd_assign rfl) ?_
  refine rwt_nil ?_
  refine qn_then ?_
  refine cw_block ?_
  obtain ⟨r200, hit201, q202⟩ := ob h; clear h
  refine cw_loop2 (I := fun q envq wq => Sub [(0, v0), (3, (Value.int .i64 q.1)), (4, (Value.int .i64 q.2))] envq ∧ Mem w No [] wq) (X := fun eq envq wq => eq = .exit 0 ∧ Sub [(3, (Value.int .i64 r200))] envq ∧ Mem w No [] wq) hit201 ⟨(by repeat (first | exact Sub.nil _ | refine Sub.cons rfl ?_)), (hm0.pick [] (by decide) rfl)⟩ ?_ ?_
  · rintro ⟨i192, i193⟩ x195 env196 w197 hf198 hr199 ⟨hs_, hm_⟩
    have hs_ : Sub [(0, v0), (3, (Value.int .i64 i192)), (4, (Value.int .i64 i193))] env196 := hs_
    have hm203 : Mem w No [] w197 := hm_
    refine cw_sub hs_ ?_
    clear hs_ hm_ q202
    have h : r43_Check_l3 N a0 i192 i193 = some x195 := hf198
    clear hf198
    refine cw_seq ?_
    refine cw_seq ?_
    refine cw_region ?_
    refine t_rd rfl (rd_move rfl) ?_
    refine t_rd rfl (rd_move rfl) ?_
    refine t_rd rfl (rd_lenS tS27 rfl (hv0.of_old hm203)) ?_
    refine t_rd rfl (rd_lss rfl rfl) ?_
    refine rwt_nil ?_
    refine qn_then ?_
    obtain ⟨hb204, q205⟩ | ⟨hb204, q205⟩ := oi h <;> clear h
    · refine cw_t rfl hb204 ?_
      refine cw_skip ?_
      refine qn_then ?_
      refine cw_seq ?_
      refine cw_block ?_
      refine cw_seq ?_
      refine cw_region ?_
      refine t_rd rfl (rd_move rfl) ?_
      refine t_rd rfl (rd_move rfl) ?_
      refine t_rd rfl (rd_move rfl) ?_
      obtain ⟨x206, h207, q208⟩ := ob q205; clear q205
      refine t_rd rfl (rd_index tS27 rfl rfl (hv0.of_old hm203) h207) ?_
      refine t_rd rfl (rd_ld1 tO5 rfl ((hv0.of_old hm203).cells h207) (off := 0) rfl) ?_
      obtain ⟨x209, h210, q211⟩ := ob q208; clear q208
      refine t_rd rfl (rd_cv64 tH5 tI3 h210 rfl) ?_
      obtain ⟨x212, h213, q214⟩ := ob q211; clear q211
      refine t_rd rfl (rd_shl_i64 h213 rfl rfl) ?_
      obtain ⟨x215, h216, q217⟩ := ob q214; clear q214
      refine t_rd rfl (rd_bits_xor_i64 h216 rfl rfl) ?_
      refine t_rd rfl (rd_assign rfl) ?_
      refine rwt_nil ?_
      refine qn_then ?_
      refine cw_seq ?_
      refine cw_region ?_
      refine t_rd rfl (rd_assign rfl) ?_
      refine rwt_nil ?_
      refine qn_then ?_
      refine cw_block ?_
      obtain ⟨r267, hit268, q269⟩ := ob q217; clear q217
      refine cw_loop2 (I := fun q envq wq => Sub [(0, v0), (3, (Value.int .i64 q.1)), (4, (Value.int .i64 i193)), (5, (Value.int .i64 q.2))] envq ∧ Mem w No [] wq) (X := fun eq envq wq => eq = .exit 2 ∧ Sub [(0, v0), (3, (Value.int .i64 r267)), (4, (Value.int .i64 i193))] envq ∧ Mem w No [] wq) hit268 ⟨(by repeat (first | exact Sub.nil _ | refine Sub.cons rfl ?_)), (hm203.pick [] (by decide) rfl)⟩ ?_ ?_
      · rintro ⟨i259, i260⟩ x262 env263 w264 hf265 hr266 ⟨hs_, hm_⟩
        have hs_ : Sub [(0, v0), (3, (Value.int .i64 i259)), (4, (Value.int .i64 i193)), (5, (Value.int .i64 i260))] env263 := hs_
        have hm270 : Mem w No [] w264 := hm_
        refine cw_sub hs_ ?_
        clear hs_ hm_ q269
        have h : r43_Check_l4 N i259 i260 = some x262 := hf265
        clear hf265
        refine cw_seq ?_
        refine cw_seq ?_
        refine cw_region ?_
        refine t_rd rfl (rd_move rfl) ?_
        refine t_rd rfl (rd_lss rfl rfl) ?_
        refine rwt_nil ?_
        refine qn_then ?_
        obtain ⟨hb271, q272⟩ | ⟨hb271, q272⟩ := oi h <;> clear h
        · refine cw_t rfl hb271 ?_
          refine cw_skip ?_
          refine qn_then ?_
          refine cw_seq ?_
          refine cw_block ?_
          refine cw_seq ?_
          refine cw_region ?_
          refine t_rd rfl (rd_move rfl) ?_
          obtain ⟨x273, h274, q275⟩ := ob q272; clear q272
          refine t_rd rfl (rd_shl_i64 h274 rfl rfl) ?_
          refine t_rd rfl (rd_assign rfl) ?_
          refine rwt_nil ?_
          refine qn_then ?_
          refine cw_seq ?_
          refine cw_region ?_
          refine t_rd rfl (rd_move rfl) ?_
          refine t_rd rfl (rd_gtr rfl rfl) ?_
          refine rwt_nil ?_
          refine qn_then ?_
          obtain ⟨hb276, q277⟩ | ⟨hb276, q277⟩ := oi q275 <;> clear q275
          · refine cw_t rfl hb276 ?_
            refine cw_region ?_
            refine t_rd rfl (rd_move rfl) ?_
            obtain ⟨x278, h279, q280⟩ := ob q277; clear q277
            refine t_rd rfl (rd_bits_and_i64 h279 rfl rfl) ?_
            obtain ⟨x281, h282, q283⟩ := ob q280; clear q280
            refine t_rd rfl (rd_bits_xor_i64 h282 rfl rfl) ?_
            refine t_rd rfl (rd_assign rfl) ?_
            refine rwt_nil ?_
            refine qn_block (qn_then ?_)
            refine cw_region ?_
            refine t_rd rfl (rd_move rfl) ?_
            obtain ⟨x284, h285, q286⟩ := ob q283; clear q283
            refine t_rd rfl (rd_add64 h285 rfl rfl) ?_
            refine t_rd rfl (rd_assign rfl) ?_
            refine rwt_nil ?_
            refine qn_then ?_
            refine ⟨_, (os q286), (by repeat (first | exact Sub.nil _ | refine Sub.cons rfl ?_)), (hm270.pick [] (by decide) rfl)⟩
          · refine cw_f rfl hb276 ?_
            refine cw_skip ?_
            refine qn_block (qn_then ?_)
            refine cw_region ?_
            refine t_rd rfl (rd_move rfl) ?_
            obtain ⟨x287, h288, q289⟩ := ob q277; clear q277
            refine t_rd rfl (rd_add64 h288 rfl rfl) ?_
            refine t_rd rfl (rd_assign rfl) ?_
            refine rwt_nil ?_
            refine qn_then ?_
            refine ⟨_, (os q289), (by repeat (first | exact Sub.nil _ | refine Sub.cons rfl ?_)), (hm270.pick [] (by decide) rfl)⟩
        · refine cw_f rfl hb271 ?_
          refine cw_exit ?_
          refine qx_then (qx_then ?_)
          obtain rfl := hr266 _ (os q272)
          exact ⟨rfl, (by repeat (first | exact Sub.nil _ | refine Sub.cons rfl ?_)), (hm270.pick [] (by decide) rfl)⟩
      · skip
        intro e env290 w291 hX292
        obtain ⟨rfl, hs293, hm294⟩ := hX292
        refine qx_same (qn_block (qn_then ?_))
        refine cw_sub hs293 ?_
        refine cw_region ?_
        refine t_rd rfl (rd_move rfl) ?_
        obtain ⟨x295, h296, q297⟩ := ob q269; clear q269
        refine t_rd rfl (rd_add64 h296 rfl rfl) ?_
        refine t_rd rfl (rd_assign rfl) ?_
        refine rwt_nil ?_
        refine qn_then ?_
        refine ⟨_, (os q297), (by repeat (first | exact Sub.nil _ | refine Sub.cons rfl ?_)), (hm294.pick [] (by decide) rfl)⟩
    · refine cw_f rfl hb204 ?_
      refine cw_exit ?_
      refine qx_then (qx_then ?_)
      obtain rfl := hr199 _ (os q205)
      exact ⟨rfl, (by repeat (first | exact Sub.nil _ | refine Sub.cons rfl ?_)), (hm203.pick [] (by decide) rfl)⟩
  · skip
    intro e env298 w299 hX300
    obtain ⟨rfl, hs301, hm302⟩ := hX300
    refine qx_same (qn_then ?_)
    refine cw_sub hs301 ?_
    refine cw_seq ?_
    refine cw_region ?_
    refine t_rd rfl (rd_move rfl) ?_
    refine t_rd rfl (rd_assign rfl) ?_
    refine rwt_nil ?_
    refine qn_then ?_
    refine cw_ret ?_
    obtain rfl := os q202
    exact ret1 rfl rfl ⟨rfl, (hm302.pick [] (by decide) rfl)⟩

theorem r43_Append_ok {N : Nat} {a0 : List UInt8} {a1 : List UInt8} {res : List UInt8 × Int} (h : r43_Append N a0 a1 = some res) {w : World} {v0 : Value} {v1 : Value} (hv0 : Sl (Old w No) w v0 a0) (hv1 : Sl (Old w No) w v1 a1) :
    CallsR Try.prog 21 [v0, v1] w (fun u w' => ∃ (y0 : Value), u = (Value.tuple #[y0, (Value.int .i64 res.2)]) ∧ Mem w No [ownL 5 y0 (res.1 : List UInt8)] w') := by
  unfold r43_Append at h
  refine fn_ok Try.func21 rfl rfl rfl ?_
  have hm0 := Mem.nil w
  refine cw_seq ?_
  refine cw_region ?_
  refine t_rd rfl (rd_assign rfl) ?_
  refine t_rd rfl (rd_assign rfl) ?_
  refine rwt_nil ?_
  refine qn_then ?_
  refine cw_seq ?_
  refine cw_seq ?_
  refine cw_region ?_
  refine t_rd rfl (rd_move rfl) ?_
  refine t_rd rfl (rd_lenS tS27 rfl (hv1.of_old hm0)) ?_
  refine t_rd rfl (rd_gtr rfl rfl) ?_
  refine rwt_nil ?_
  refine qn_then ?_
  obtain ⟨hb1, q2⟩ | ⟨hb1, q2⟩ := oi h <;> clear h
  · refine cw_t rfl hb1 ?_
    refine cw_seq ?_
    refine cw_region ?_
    refine t_rd rfl (rd_assign rfl) ?_
    refine t_rd rfl (rd_assign rfl) ?_
    refine rwt_nil ?_
    refine qn_then ?_
    refine cw_ret ?_
    refine qr_then ?_
    obtain rfl := os q2
    have hm3 := hm0.addNil (α := UInt8) 5
    exact ret2 rfl rfl rfl ⟨(Value.slice none 0 0), rfl, (hm3.pick [0] (by decide) rfl)⟩
  · refine cw_f rfl hb1 ?_
    refine cw_skip ?_
    refine qn_then ?_
    refine cw_seq ?_
    refine cw_region ?_
    refine t_rd rfl (rd_move rfl) ?_
    refine t_rd rfl (rd_lenS tS27 rfl (hv1.of_old hm0)) ?_
    obtain ⟨x4, h5, q6⟩ := ob q2; clear q2
    refine t_rd rfl (rd_shr_i64 h5 rfl rfl) ?_
    refine t_rd rfl (rd_cv8 tH3 tI5 rfl) ?_
    refine t_rd rfl (rd_move rfl) ?_
    refine t_rd rfl (rd_lenS tS27 rfl (hv1.of_old hm0)) ?_
    refine t_rd rfl (rd_cv8 tH3 tI5 rfl) ?_
    refine t_ef rfl (ef_bslice (l := ([(toU8 x4), (toU8 (List.length a1 : Int))] : List UInt8)) hm0 tS27 rfl (cs := #[(Value.int .u8 ((toU8 x4).toNat : Int)), (Value.int .u8 ((toU8 (List.length a1 : Int)).toNat : Int))]) (by unfold bsl; kernel_rfl) rfl rfl) ?_
    intro v7 w9 hm8
    refine t_rd rfl (rd_assign rfl) ?_
    refine rwt_nil ?_
    refine qn_then ?_
    refine cw_seq ?_
    refine cw_region ?_
    refine t_ef rfl (ef_bslice0 (α := UInt8) hm8 tS27) ?_
    intro v10 w12 hm11
    refine t_rd rfl (rd_move rfl) ?_
    obtain ⟨l13, h14, q15⟩ := ob q6; clear q6
    refine t_ef rfl (ef_append (k := 0) hm11 tS27 tE5 rfl rfl rfl rfl (hm11.sl 1 rfl) h14) ?_
    intro v16 w18 hm17
    refine t_rd rfl (rd_move rfl) ?_
    obtain ⟨l19, h20, q21⟩ := ob q15; clear q15
    refine t_ef rfl (ef_append (k := 0) hm17 tS27 tE5 rfl rfl rfl rfl (hv1.of_old hm17) h20) ?_
    intro v22 w24 hm23
    obtain ⟨r25, h26, q27⟩ := ob q21; clear q21
    refine t_ef rfl (ef_call tf27 rfl (r43_Check_ok h26 (hm23.sl_call 0 rfl))) ?_
    rintro _ w29 ⟨e_, hm28⟩
    obtain rfl := e_.symm
    have hm30 := hm23.call hm28
    refine t_rd rfl (rd_assign rfl) ?_
    refine rwt_nil ?_
    refine qn_then ?_
    refine cw_seq ?_
    refine cw_region ?_
    refine t_ef rfl (ef_bslice0 (α := UInt8) hm30 tS27) ?_
    intro v31 w33 hm32
    refine t_rd rfl (rd_move rfl) ?_
    obtain ⟨l34, h35, q36⟩ := ob q27; clear q27
    refine t_ef rfl (ef_append (k := 0) hm32 tS27 tE5 rfl rfl rfl rfl (hv0.of_old hm32) h35) ?_
    intro v37 w39 hm38
    refine t_rd rfl (rd_assign rfl) ?_
    refine rwt_nil ?_
    refine qn_then ?_
    refine cw_seq ?_
    obtain ⟨w41, he43⟩ : ∃ q, q = w39.drew := ⟨_, rfl⟩
    have hm42 := hm38.drew; rw [← he43] at hm42
    refine cw_region_s (fun q => q = w41) (cls [] [12, 13]) mixed ?_
    rintro _ rfl; rw [← he43]
    refine s_rp (i := 0) rfl (by kernel_rfl) rfl (fun _ => (rd_move rfl)) ?_
    refine s_rp (i := 1) rfl (by kernel_rfl) rfl (fun _ => (rd_move rfl)) ?_
    obtain ⟨x44, h45, q46⟩ := ob q36; clear q36
    refine s_rp (i := 2) rfl (by kernel_rfl) rfl (fun _ => (rd_index tS27 rfl rfl (hm42.sl 2 rfl) h45)) ?_
    refine s_rd (i := 3) rfl (by kernel_rfl) rfl (fun _ hS => by rw [hS]; exact (rd_ld1 tO5 rfl ((hm42.sl 2 rfl).cells h45) (off := 0) rfl)) rfl ?_
    refine s_rp (i := 4) rfl (by kernel_rfl) rfl (fun _ => (rd_move rfl)) ?_
    obtain ⟨x47, h48, q49⟩ := ob q46; clear q46
    refine s_rp (i := 5) rfl (by kernel_rfl) rfl (fun _ => (rd_index tS27 rfl rfl (hm42.sl 2 rfl) h48)) ?_
    refine s_rd (i := 6) rfl (by kernel_rfl) rfl (fun _ hS => by rw [hS]; exact (rd_ld1 tO5 rfl ((hm42.sl 2 rfl).cells h48) (off := 0) rfl)) rfl ?_
    refine s_rp (i := 7) rfl (by kernel_rfl) rfl (fun _ => (rd_move rfl)) ?_
    obtain ⟨x50, h51, q52⟩ := ob q49; clear q49
    refine s_rp (i := 8) rfl (by kernel_rfl) rfl (fun _ => (rd_shr_i64 h51 rfl rfl)) ?_
    refine s_rp (i := 9) rfl (by kernel_rfl) rfl (fun _ => (rd_cv8 tH3 tI5 rfl)) ?_
    refine s_rp (i := 10) rfl (by kernel_rfl) rfl (fun _ => (rd_move rfl)) ?_
    refine s_rp (i := 11) rfl (by kernel_rfl) rfl (fun _ => (rd_cv8 tH3 tI5 rfl)) ?_
    refine s_ef (i := 12) rfl (by kernel_rfl) rfl (ef_bslice (l := ([x44, x47, (toU8 x50), (toU8 r25)] : List UInt8)) hm42 tS27 rfl (cs := #[(Value.int .u8 (x44.toNat : Int)), (Value.int .u8 (x47.toNat : Int)), (Value.int .u8 ((toU8 x50).toNat : Int)), (Value.int .u8 ((toU8 r25).toNat : Int))]) (by unfold bsl; kernel_rfl) rfl rfl) (by decide) (fun _ _ _ q => absurd q (by decide)) ?_
    intro v53 w55 hm54
    obtain ⟨l56, h57, q58⟩ := ob q52; clear q52
    refine s_ef (i := 13) rfl (by kernel_rfl) rfl (ef_append (k := 1) hm54 tS27 tE5 rfl rfl rfl rfl (hm54.sl 0 rfl) h57) (by decide) (fun _ _ _ q => absurd q (by decide)) ?_
    intro v59 w61 hm60
    refine s_rp (i := 14) rfl (by kernel_rfl) rfl (fun _ => (rd_assign rfl)) ?_
    refine s_nil (by kernel_rfl) ?_
    refine qn_then ?_
    refine cw_seq ?_
    refine cw_region ?_
    refine t_rd rfl (rd_move rfl) ?_
    refine t_rd rfl (rd_move rfl) ?_
    obtain ⟨l62, h63, q64⟩ := ob q58; clear q58
    refine t_ef rfl (ef_append (k := 1) hm60 tS27 tE5 rfl rfl rfl rfl (hv1.of_old hm60) h63) ?_
    intro v65 w67 hm66
    refine t_rd rfl (rd_assign rfl) ?_
    refine t_rd rfl (rd_assign rfl) ?_
    refine rwt_nil ?_
    refine qn_then ?_
    refine cw_ret ?_
    obtain rfl := os q64
    exact ret2 rfl rfl rfl ⟨v65, rfl, (hm66.pick [1] (by decide) rfl)⟩

theorem law43_written_ok {N : Nat} {a0 : List (List UInt8)} {res : List UInt8 × List Int} (h : law43_written N a0 = some res) {w : World} {v0 : Value} (hv0 : Sl (Old w No) w v0 a0) :
    CallsR Try.prog 9 [v0] w (fun u w' => ∃ (y0 : Value) (y1 : Value), u = (Value.tuple #[y0, y1]) ∧ Mem w No [ownL 5 y0 (res.1 : List UInt8), ownL 3 y1 (res.2 : List Int)] w') := by
  unfold law43_written at h
  refine fn_ok Try.func9 rfl rfl rfl ?_
  obtain ⟨zs_a0, hn0⟩ := hv0.nest
  have hm0 := Mem.nil w
  refine cw_seq ?_
  refine cw_region ?_
  refine t_rd rfl (rd_assign rfl) ?_
  refine t_rd rfl (rd_assign rfl) ?_
  refine rwt_nil ?_
  refine qn_then ?_
  refine cw_seq ?_
  refine cw_region ?_
  refine t_rd rfl (rd_assign rfl) ?_
  refine rwt_nil ?_
  refine qn_then ?_
  refine cw_seq ?_
  refine cw_region ?_
  refine t_rd rfl (rd_assign rfl) ?_
  refine rwt_nil ?_
  refine qn_then ?_
  refine cw_seq ?_
  refine cw_seq ?_
  refine cw_region ?_
  refine t_rd rfl (rd_assign rfl) ?_
  refine rwt_nil ?_
  refine qn_then ?_
  refine cw_block ?_
  have hm28 := hm0.addNil (α := UInt8) 5
  have hm29 := hm28.addNil (α := Int) 3
  obtain ⟨r103, hit104, q105⟩ := ob h; clear h
  refine cw_loop2 (I := fun q envq wq => ∃ (v96 : Value) (v94 : Value), Sub [(0, v0), (4, v94), (5, v96), (6, (Value.int .i64 q.1))] envq ∧ Mem w No [ownL 3 v96 (q.2.2 : List Int), ownL 5 v94 (q.2.1 : List UInt8)] wq) (X := fun eq envq wq => eq = .exit 0 ∧ ∃ (v91 : Value) (v89 : Value), Sub [(4, v89), (5, v91)] envq ∧ Mem w No [ownL 3 v91 (r103.2 : List Int), ownL 5 v89 (r103.1 : List UInt8)] wq) hit104 ⟨(Value.slice none 0 0), (Value.slice none 0 0), (by repeat (first | exact Sub.nil _ | refine Sub.cons rfl ?_)), (hm29.pick [0, 1] (by decide) rfl)⟩ ?_ ?_
  · rintro ⟨i92, l93, l95⟩ x98 env99 w100 hf101 hr102 ⟨v96, v94, hs_, hm_⟩
    have hs_ : Sub [(0, v0), (4, v94), (5, v96), (6, (Value.int .i64 i92))] env99 := hs_
    have hm106 : Mem w No [ownL 3 v96 (l95 : List Int), ownL 5 v94 (l93 : List UInt8)] w100 := hm_
    refine cw_sub hs_ ?_
    clear hs_ hm_ q105
    have h : law43_written_l1 N a0 i92 l93 l95 = some x98 := hf101
    clear hf101
    refine cw_seq ?_
    refine cw_seq ?_
    refine cw_region ?_
    refine t_rd rfl (rd_move rfl) ?_
    refine t_rd rfl (rd_move rfl) ?_
    refine t_rd rfl (rd_lenS tS25 rfl ((hn0.of_old hm106).sl)) ?_
    refine t_rd rfl (rd_lss rfl rfl) ?_
    refine rwt_nil ?_
    refine qn_then ?_
    obtain ⟨hb107, q108⟩ | ⟨hb107, q108⟩ := oi h <;> clear h
    · refine cw_t rfl hb107 ?_
      refine cw_skip ?_
      refine qn_then ?_
      refine cw_seq ?_
      refine cw_block ?_
      refine cw_seq ?_
      refine cw_region ?_
      refine t_rd rfl (rd_move rfl) ?_
      refine t_rd rfl (rd_move rfl) ?_
      refine t_rd rfl (rd_move rfl) ?_
      obtain ⟨x109, h110, q111⟩ := ob q108; clear q108
      refine t_rd rfl (rd_index tS25 rfl rfl ((hn0.of_old hm106).sl) h110) ?_
      obtain ⟨zd112, hz113⟩ := (hn0.of_old hm106).row h110
      refine t_rd rfl (rd_ld1 tO27 rfl ((hn0.of_old hm106).cells hz113) (off := 0) rfl) ?_
      obtain ⟨r114, h115, q116⟩ := ob q111; clear q111
      refine t_ef rfl (ef_call tf21 rfl (r43_Append_ok h115 (hm106.sl_call 1 rfl) ((hn0.to_call hm106).get hz113 h110))) ?_
      rintro _ w119 ⟨v117, e_, hm118⟩
      obtain rfl := e_.symm
      have hm120 := hm106.call hm118
      refine t_rd rfl (rd_move rfl) ?_
      refine t_rd rfl (rd_extract rfl rfl) ?_
      refine t_rd rfl (rd_extract rfl rfl) ?_
      refine t_rd rfl (rd_assign rfl) ?_
      refine rwt_nil ?_
      refine qn_then ?_
      refine cw_region ?_
      refine t_rd rfl (rd_move rfl) ?_
      refine t_rd rfl (rd_move rfl) ?_
      refine t_rd rfl (rd_lenS tS27 rfl (hm120.sl 0 rfl)) ?_
      refine t_ef rfl (ef_bslice (l := ([(List.length r114.1 : Int)] : List Int)) hm120 tS22 rfl (cs := #[(Value.int .i64 (List.length r114.1 : Int))]) (by unfold bsl; kernel_rfl) rfl rfl) ?_
      intro v121 w123 hm122
      obtain ⟨l124, h125, q126⟩ := ob q116; clear q116
      refine t_ef rfl (ef_append (k := 2) hm122 tS22 tE3 rfl rfl rfl rfl (hm122.sl 0 rfl) h125) ?_
      intro v127 w129 hm128
      refine t_rd rfl (rd_assign rfl) ?_
      refine rwt_nil ?_
      refine qn_block (qn_then ?_)
      refine cw_region ?_
      refine t_rd rfl (rd_move rfl) ?_
      obtain ⟨x130, h131, q132⟩ := ob q126; clear q126
      refine t_rd rfl (rd_add64 h131 rfl rfl) ?_
      refine t_rd rfl (rd_assign rfl) ?_
      refine rwt_nil ?_
      refine qn_then ?_
      refine ⟨_, (os q132), v127, v117, (by repeat (first | exact Sub.nil _ | refine Sub.cons rfl ?_)), (hm128.pick [2, 1] (by decide) rfl)⟩
    · refine cw_f rfl hb107 ?_
      refine cw_exit ?_
      refine qx_then (qx_then ?_)
      obtain rfl := hr102 _ (os q108)
      exact ⟨rfl, v96, v94, (by repeat (first | exact Sub.nil _ | refine Sub.cons rfl ?_)), (hm106.pick [0, 1] (by decide) rfl)⟩
  · skip
    intro e env133 w134 hX135
    obtain ⟨rfl, v91, v89, hs136, hm137⟩ := hX135
    refine qx_same (qn_then ?_)
    refine cw_sub hs136 ?_
    refine cw_seq ?_
    refine cw_region ?_
    refine t_rd rfl (rd_move rfl) ?_
    refine t_rd rfl (rd_move rfl) ?_
    refine t_rd rfl (rd_assign rfl) ?_
    refine t_rd rfl (rd_assign rfl) ?_
    refine rwt_nil ?_
    refine qn_then ?_
    refine cw_ret ?_
    obtain rfl := os q105
    exact ret2 rfl rfl rfl ⟨v89, v91, rfl, (hm137.pick [1, 0] (by decide) rfl)⟩

theorem yardgen_Place_ok {N : Nat} {a0 : Int} {a1 : Int} {res : Int} (h : yardgen_Place N a0 a1 = some res) {w : World}   :
    CallsR Try.prog 10 [(Value.int .i64 a0), (Value.int .i64 a1)] w (fun u w' => u = (Value.int .i64 res) ∧ Mem w No [] w') := by
  unfold yardgen_Place at h
  refine fn_ok Try.func10 rfl rfl rfl ?_
  have hm0 := Mem.nil w
  refine cw_seq ?_
  refine cw_region ?_
  refine t_rd rfl (rd_assign rfl) ?_
  refine rwt_nil ?_
  refine qn_then ?_
  refine cw_seq ?_
  refine cw_seq ?_
  refine cw_region ?_
  refine t_rd rfl (rd_move rfl) ?_
  refine t_rd rfl (rd_lss rfl rfl) ?_
  refine rwt_nil ?_
  refine qn_then ?_
  obtain ⟨hb1, q2⟩ | ⟨hb1, q2⟩ := oi h <;> clear h
  · refine cw_t rfl hb1 ?_
    refine cw_seq ?_
    refine cw_region ?_
    refine t_rd rfl (rd_assign rfl) ?_
    refine rwt_nil ?_
    refine qn_then ?_
    refine cw_ret ?_
    refine qr_then ?_
    obtain rfl := os q2
    exact ret1 rfl rfl ⟨rfl, (hm0.pick [] (by decide) rfl)⟩
  · refine cw_f rfl hb1 ?_
    refine cw_skip ?_
    refine qn_then ?_
    refine cw_seq ?_
    refine cw_region ?_
    refine t_rd rfl (rd_move rfl) ?_
    refine t_rd rfl (rd_move rfl) ?_
    obtain ⟨x3, h4, q5⟩ := ob q2; clear q2
    refine t_rd rfl (rd_rem64 h4 rfl rfl) ?_
    refine t_rd rfl (rd_assign rfl) ?_
    refine rwt_nil ?_
    refine qn_then ?_
    refine cw_seq ?_
    refine cw_seq ?_
    refine cw_region ?_
    refine t_rd rfl (rd_move rfl) ?_
    refine t_rd rfl (rd_lss rfl rfl) ?_
    refine rwt_nil ?_
    refine qn_then ?_
    obtain ⟨hb6, q7⟩ | ⟨hb6, q7⟩ := oi q5 <;> clear q5
    · refine cw_t rfl hb6 ?_
      refine cw_region ?_
      refine t_rd rfl (rd_move rfl) ?_
      refine t_rd rfl (rd_move rfl) ?_
      obtain ⟨x8, h9, q10⟩ := ob q7; clear q7
      refine t_rd rfl (rd_add64 h9 rfl rfl) ?_
      refine t_rd rfl (rd_assign rfl) ?_
      refine rwt_nil ?_
      refine qn_then ?_
      refine cw_seq ?_
      refine cw_region ?_
      refine t_rd rfl (rd_move rfl) ?_
      refine t_rd rfl (rd_assign rfl) ?_
      refine rwt_nil ?_
      refine qn_then ?_
      refine cw_ret ?_
      obtain rfl := os q10
      exact ret1 rfl rfl ⟨rfl, (hm0.pick [] (by decide) rfl)⟩
    · refine cw_f rfl hb6 ?_
      refine cw_skip ?_
      refine qn_then ?_
      refine cw_seq ?_
      refine cw_region ?_
      refine t_rd rfl (rd_move rfl) ?_
      refine t_rd rfl (rd_assign rfl) ?_
      refine rwt_nil ?_
      refine qn_then ?_
      refine cw_ret ?_
      obtain rfl := os q7
      exact ret1 rfl rfl ⟨rfl, (hm0.pick [] (by decide) rfl)⟩

theorem journal_further_ok {N : Nat} {a0 : Int} {a1 : List UInt8} {res : Int} (h : journal_further N a0 a1 = some res) {w : World} {v1 : Value} (hv1 : Sl (Old w No) w v1 a1) :
    CallsR Try.prog 28 [(Value.int .u16 a0), v1] w (fun u w' => u = (Value.int .u16 res) ∧ Mem w No [] w') := by
  unfold journal_further at h
  refine fn_ok Try.func28 rfl rfl rfl ?_
  have hm0 := Mem.nil w
  refine cw_seq ?_
  refine cw_region ?_
  refine t_rd rfl (rd_assign rfl) ?_
  refine rwt_nil ?_
  refine qn_then ?_
  refine cw_seq ?_
  refine cw_seq ?_
  refine cw_region ?_
  refine t_rd rfl (rd_move rfl) ?_
  refine t_rd rfl (rd_lenS tS27 rfl (hv1.of_old hm0)) ?_
  refine t_rd rfl (rd_move rfl) ?_
  refine rwt_nil ?_
  refine qn_then ?_
  refine cw_block ?_
  obtain ⟨r194, hit195, q196⟩ := ob h; clear h
  refine cw_loop2 (I := fun q envq wq => Sub [(0, (Value.int .u16 q.1)), (8, v1), (9, (Value.int .i64 (List.length a1 : Int))), (10, (Value.int .i64 q.2))] envq ∧ Mem w No [] wq) (X := fun eq envq wq => eq = .exit 0 ∧ Sub [(0, (Value.int .u16 r194))] envq ∧ Mem w No [] wq) hit195 ⟨(by repeat (first | exact Sub.nil _ | refine Sub.cons rfl ?_)), (hm0.pick [] (by decide) rfl)⟩ ?_ ?_
  · rintro ⟨i186, i187⟩ x189 env190 w191 hf192 hr193 ⟨hs_, hm_⟩
    have hs_ : Sub [(0, (Value.int .u16 i186)), (8, v1), (9, (Value.int .i64 (List.length a1 : Int))), (10, (Value.int .i64 i187))] env190 := hs_
    have hm197 : Mem w No [] w191 := hm_
    refine cw_sub hs_ ?_
    clear hs_ hm_ q196
    have h : journal_further_l3 N a1 i186 i187 = some x189 := hf192
    clear hf192
    refine cw_seq ?_
    refine cw_region ?_
    refine t_rd rfl (rd_lss rfl rfl) ?_
    refine rwt_nil ?_
    refine qn_then ?_
    refine cw_seq ?_
    obtain ⟨hb198, q199⟩ | ⟨hb198, q199⟩ := oi h <;> clear h
    · refine cw_t rfl hb198 ?_
      refine cw_skip ?_
      refine qn_then ?_
      refine cw_seq ?_
      refine cw_block ?_
      refine cw_seq ?_
      refine cw_region ?_
      obtain ⟨x200, h201, q202⟩ := ob q199; clear q199
      refine t_rd rfl (rd_index tS27 rfl rfl (hv1.of_old hm197) h201) ?_
      refine t_rd rfl (rd_ld1 tO5 rfl ((hv1.of_old hm197).cells h201) (off := 0) rfl) ?_
      refine t_rd rfl (rd_assign rfl) ?_
      refine rwt_nil ?_
      refine qn_then ?_
      refine cw_seq ?_
      refine cw_region ?_
      refine t_rd rfl (rd_move rfl) ?_
      refine t_rd rfl (rd_move rfl) ?_
      refine t_rd rfl (rd_cvu16 tH5 tI50 rfl) ?_
      obtain ⟨x203, h204, q205⟩ := ob q202; clear q202
      refine t_rd rfl (rd_shl_u16 h204 rfl rfl) ?_
      obtain ⟨x206, h207, q208⟩ := ob q205; clear q205
      refine t_rd rfl (rd_bits_xor_u16 h207 rfl rfl) ?_
      refine t_rd rfl (rd_assign rfl) ?_
      refine rwt_nil ?_
      refine qn_then ?_
      refine cw_seq ?_
      refine cw_region ?_
      refine t_rd rfl (rd_move rfl) ?_
      refine rwt_nil ?_
      refine qn_then ?_
      refine cw_block ?_
      obtain ⟨r258, hit259, q260⟩ := ob q208; clear q208
      refine cw_loop2 (I := fun q envq wq => Sub [(0, (Value.int .u16 q.1)), (8, v1), (9, (Value.int .i64 (List.length a1 : Int))), (10, (Value.int .i64 i187)), (19, (Value.int .i64 q.2))] envq ∧ Mem w No [] wq) (X := fun eq envq wq => eq = .exit 2 ∧ Sub [(0, (Value.int .u16 r258)), (8, v1), (9, (Value.int .i64 (List.length a1 : Int))), (10, (Value.int .i64 i187))] envq ∧ Mem w No [] wq) hit259 ⟨(by repeat (first | exact Sub.nil _ | refine Sub.cons rfl ?_)), (hm197.pick [] (by decide) rfl)⟩ ?_ ?_
      · rintro ⟨i250, i251⟩ x253 env254 w255 hf256 hr257 ⟨hs_, hm_⟩
        have hs_ : Sub [(0, (Value.int .u16 i250)), (8, v1), (9, (Value.int .i64 (List.length a1 : Int))), (10, (Value.int .i64 i187)), (19, (Value.int .i64 i251))] env254 := hs_
        have hm261 : Mem w No [] w255 := hm_
        refine cw_sub hs_ ?_
        clear hs_ hm_ q260
        have h : journal_further_l4 N i250 i251 = some x253 := hf256
        clear hf256
        refine cw_seq ?_
        refine cw_region ?_
        refine t_rd rfl (rd_lss rfl rfl) ?_
        refine rwt_nil ?_
        refine qn_then ?_
        refine cw_seq ?_
        obtain ⟨hb262, q263⟩ | ⟨hb262, q263⟩ := oi h <;> clear h
        · refine cw_t rfl hb262 ?_
          refine cw_skip ?_
          refine qn_then ?_
          refine cw_seq ?_
          refine cw_block ?_
          refine cw_seq ?_
          refine cw_region ?_
          refine t_rd rfl (rd_move rfl) ?_
          obtain ⟨x264, h265, q266⟩ := ob q263; clear q263
          refine t_rd rfl (rd_shr_u16 h265 rfl rfl) ?_
          refine t_rd rfl (rd_assign rfl) ?_
          refine rwt_nil ?_
          refine qn_then ?_
          refine cw_seq ?_
          refine cw_region ?_
          refine t_rd rfl (rd_move rfl) ?_
          obtain ⟨x267, h268, q269⟩ := ob q266; clear q266
          refine t_rd rfl (rd_shl_u16 h268 rfl rfl) ?_
          refine t_rd rfl (rd_assign rfl) ?_
          refine rwt_nil ?_
          refine qn_then ?_
          refine cw_seq ?_
          refine cw_region ?_
          refine t_rd rfl (rd_move rfl) ?_
          refine t_rd rfl (rd_eql rfl rfl) ?_
          refine rwt_nil ?_
          refine qn_then ?_
          obtain ⟨hb270, q271⟩ | ⟨hb270, q271⟩ := oi q269 <;> clear q269
          · refine cw_t rfl hb270 ?_
            refine cw_region ?_
            refine t_rd rfl (rd_move rfl) ?_
            obtain ⟨x272, h273, q274⟩ := ob q271; clear q271
            refine t_rd rfl (rd_bits_xor_u16 h273 rfl rfl) ?_
            refine t_rd rfl (rd_assign rfl) ?_
            refine rwt_nil ?_
            refine qn_block (qn_then ?_)
            refine cw_region ?_
            obtain ⟨x275, h276, q277⟩ := ob q274; clear q274
            refine t_rd rfl (rd_add64 h276 rfl rfl) ?_
            refine t_rd rfl (rd_move rfl) ?_
            refine rwt_nil ?_
            refine qn_then ?_
            refine ⟨_, (os q277), (by repeat (first | exact Sub.nil _ | refine Sub.cons rfl ?_)), (hm261.pick [] (by decide) rfl)⟩
          · refine cw_f rfl hb270 ?_
            refine cw_skip ?_
            refine qn_block (qn_then ?_)
            refine cw_region ?_
            obtain ⟨x278, h279, q280⟩ := ob q271; clear q271
            refine t_rd rfl (rd_add64 h279 rfl rfl) ?_
            refine t_rd rfl (rd_move rfl) ?_
            refine rwt_nil ?_
            refine qn_then ?_
            refine ⟨_, (os q280), (by repeat (first | exact Sub.nil _ | refine Sub.cons rfl ?_)), (hm261.pick [] (by decide) rfl)⟩
        · refine cw_f rfl hb262 ?_
          refine cw_exit ?_
          refine qx_then (qx_then ?_)
          obtain rfl := hr257 _ (os q263)
          exact ⟨rfl, (by repeat (first | exact Sub.nil _ | refine Sub.cons rfl ?_)), (hm261.pick [] (by decide) rfl)⟩
      · skip
        intro e env281 w282 hX283
        obtain ⟨rfl, hs284, hm285⟩ := hX283
        refine qx_same (qn_block (qn_then ?_))
        refine cw_sub hs284 ?_
        refine cw_region ?_
        obtain ⟨x286, h287, q288⟩ := ob q260; clear q260
        refine t_rd rfl (rd_add64 h287 rfl rfl) ?_
        refine t_rd rfl (rd_move rfl) ?_
        refine rwt_nil ?_
        refine qn_then ?_
        refine ⟨_, (os q288), (by repeat (first | exact Sub.nil _ | refine Sub.cons rfl ?_)), (hm285.pick [] (by decide) rfl)⟩
    · refine cw_f rfl hb198 ?_
      refine cw_exit ?_
      refine qx_then (qx_then ?_)
      obtain rfl := hr193 _ (os q199)
      exact ⟨rfl, (by repeat (first | exact Sub.nil _ | refine Sub.cons rfl ?_)), (hm197.pick [] (by decide) rfl)⟩
  · skip
    intro e env289 w290 hX291
    obtain ⟨rfl, hs292, hm293⟩ := hX291
    refine qx_same (qn_then ?_)
    refine cw_sub hs292 ?_
    refine cw_seq ?_
    refine cw_region ?_
    refine t_rd rfl (rd_move rfl) ?_
    refine t_rd rfl (rd_assign rfl) ?_
    refine rwt_nil ?_
    refine qn_then ?_
    refine cw_ret ?_
    obtain rfl := os q196
    exact ret1 rfl rfl ⟨rfl, (hm293.pick [] (by decide) rfl)⟩

theorem journal_check_ok {N : Nat} {a0 : List UInt8} {res : Int} (h : journal_check N a0 = some res) {w : World} {v0 : Value} (hv0 : Sl (Old w No) w v0 a0) :
    CallsR Try.prog 22 [v0] w (fun u w' => u = (Value.int .u16 res) ∧ Mem w No [] w') := by
  unfold journal_check at h
  refine fn_ok Try.func22 rfl rfl rfl ?_
  have hm0 := Mem.nil w
  refine cw_seq ?_
  refine cw_region ?_
  refine t_rd rfl (rd_assign rfl) ?_
  refine rwt_nil ?_
  refine qn_then ?_
  refine cw_seq ?_
  refine cw_region ?_
  refine t_rd rfl (rd_move rfl) ?_
  refine t_rd rfl (rd_lenS tS27 rfl (hv0.of_old hm0)) ?_
  refine t_rd rfl (rd_assign rfl) ?_
  refine rwt_nil ?_
  refine qn_then ?_
  refine cw_seq ?_
  refine cw_region ?_
  refine t_rd rfl (rd_move rfl) ?_
  obtain ⟨x1, h2, q3⟩ := ob h; clear h
  refine t_rd rfl (rd_shr_i64 h2 rfl rfl) ?_
  refine t_rd rfl (rd_cv8 tH3 tI5 rfl) ?_
  refine t_rd rfl (rd_move rfl) ?_
  refine t_rd rfl (rd_cv8 tH3 tI5 rfl) ?_
  refine t_ef rfl (ef_bslice (l := ([(toU8 x1), (toU8 (List.length a0 : Int))] : List UInt8)) hm0 tS27 rfl (cs := #[(Value.int .u8 ((toU8 x1).toNat : Int)), (Value.int .u8 ((toU8 (List.length a0 : Int)).toNat : Int))]) (by unfold bsl; kernel_rfl) rfl rfl) ?_
  intro v4 w6 hm5
  obtain ⟨r7, h8, q9⟩ := ob q3; clear q3
  refine t_ef rfl (ef_call tf28 rfl (journal_further_ok h8 (hm5.sl_call 0 rfl))) ?_
  rintro _ w11 ⟨e_, hm10⟩
  obtain rfl := e_.symm
  have hm12 := hm5.call hm10
  refine t_rd rfl (rd_move rfl) ?_
  obtain ⟨r13, h14, q15⟩ := ob q9; clear q9
  refine t_ef rfl (ef_call tf28 rfl (journal_further_ok h14 (hv0.to_call hm12))) ?_
  rintro _ w17 ⟨e_, hm16⟩
  obtain rfl := e_.symm
  have hm18 := hm12.call hm16
  refine t_rd rfl (rd_assign rfl) ?_
  refine rwt_nil ?_
  refine qn_then ?_
  refine cw_ret ?_
  obtain rfl := os q15
  exact ret1 rfl rfl ⟨rfl, (hm18.pick [] (by decide) rfl)⟩

theorem journal_Records_ok {N : Nat} {a0 : List UInt8} {res : List (List UInt8) × Int × Int} (h : journal_Records N a0 = some res) {w : World} {v0 : Value} (hv0 : Sl (Old w No) w v0 a0) :
    CallsR Try.prog 11 [v0] w (fun u w' => ∃ (zy0 : List Hdr) (y1 : Value), u = (Value.tuple #[y1, (Value.int .i64 res.2.1), (Value.int .i64 res.2.2)]) ∧ Mem w No [ownL 27 y1 (zy0 : List Hdr), rowsC 5 zy0 (res.1 : List (List UInt8)) none] w') := by
  unfold journal_Records at h
  refine fn_ok Try.func11 rfl rfl rfl ?_
  have hm0 := Mem.nil w
  refine cw_seq ?_
  refine cw_region ?_
  refine t_rd rfl (rd_assign rfl) ?_
  refine t_rd rfl (rd_assign rfl) ?_
  refine t_rd rfl (rd_assign rfl) ?_
  refine rwt_nil ?_
  refine qn_then ?_
  refine cw_seq ?_
  refine cw_block ?_
  have hm98 := hm0.addNil (α := Hdr) 27
  have hm99 := hm98.rowsNil (α := UInt8) 5
  obtain ⟨r309, hit310, q311⟩ := ob h; clear h
  refine cw_loop2 (I := fun q envq wq => ∃ (v301 : Value) (zs302 : List Hdr), Sub [(0, v0), (2, v301), (3, (Value.int .i64 q.1))] envq ∧ Mem w No [rowsC 5 zs302 (q.2 : List (List UInt8)) none, ownL 27 v301 (zs302 : List Hdr)] wq) (X := fun eq envq wq => (∃ p312, r309 = (Sum.inl p312) ∧ eq = .ret ∧ retQ Try.prog 70 Try.f11 (fun u w' => ∃ (zy0 : List Hdr) (y1 : Value), u = (Value.tuple #[y1, (Value.int .i64 p312.2.1), (Value.int .i64 p312.2.2)]) ∧ Mem w No [ownL 27 y1 (zy0 : List Hdr), rowsC 5 zy0 (p312.1 : List (List UInt8)) none] w') .ret envq wq) ∨ (∃ p313, r309 = (Sum.inr p313) ∧ eq = .exit 0 ∧ ∃ (v297 : Value) (zs298 : List Hdr), Sub [(2, v297), (3, (Value.int .i64 p313.1))] envq ∧ Mem w No [rowsC 5 zs298 (p313.2 : List (List UInt8)) none, ownL 27 v297 (zs298 : List Hdr)] wq)) hit310 ⟨(Value.slice none 0 0), [], (by repeat (first | exact Sub.nil _ | refine Sub.cons rfl ?_)), (hm99.pick [0, 1] (by decide) rfl)⟩ ?_ ?_
  · rintro ⟨i299, l300⟩ x304 env305 w306 hf307 hr308 ⟨v301, zs302, hs_, hm_⟩
    have hs_ : Sub [(0, v0), (2, v301), (3, (Value.int .i64 i299))] env305 := hs_
    have hm314 : Mem w No [rowsC 5 zs302 (l300 : List (List UInt8)) none, ownL 27 v301 (zs302 : List Hdr)] w306 := hm_
    refine cw_sub hs_ ?_
    clear hs_ hm_ q311
    have h : journal_Records_l1 N a0 i299 l300 = some x304 := hf307
    clear hf307
    refine cw_seq ?_
    refine cw_seq ?_
    refine cw_region ?_
    refine t_rd rfl (rd_move rfl) ?_
    refine t_rd rfl (rd_lenS tS27 rfl (hv0.of_old hm314)) ?_
    refine t_rd rfl (rd_move rfl) ?_
    obtain ⟨x315, h316, q317⟩ := ob h; clear h
    refine t_rd rfl (rd_sub64 h316 rfl rfl) ?_
    refine t_rd rfl (rd_geq rfl rfl) ?_
    refine rwt_nil ?_
    refine qn_then ?_
    obtain ⟨hb318, q319⟩ | ⟨hb318, q319⟩ := oi q317 <;> clear q317
    · refine cw_t rfl hb318 ?_
      refine cw_skip ?_
      refine qn_then ?_
      refine cw_block ?_
      refine cw_seq ?_
      refine cw_region ?_
      refine t_rd rfl (rd_move rfl) ?_
      refine t_rd rfl (rd_move rfl) ?_
      obtain ⟨l320, h321, q322⟩ := ob q319; clear q319
      refine t_rd rfl (rd_slcL tS27 rfl rfl (hv0.of_old hm314) h321) ?_
      refine t_rd rfl (rd_assign rfl) ?_
      refine rwt_nil ?_
      refine qn_then ?_
      refine cw_seq ?_
      obtain ⟨w324, he326⟩ : ∃ q, q = w306.drew := ⟨_, rfl⟩
      have hm325 := hm314.drew; rw [← he326] at hm325
      refine cw_region_s (fun q => q = w324) (cls [] []) mixed ?_
      rintro _ rfl; rw [← he326]
      refine s_rp (i := 0) rfl (by kernel_rfl) rfl (fun _ => (rd_move rfl)) ?_
      obtain ⟨x327, h328, q329⟩ := ob q322; clear q322
      refine s_rp (i := 1) rfl (by kernel_rfl) rfl (fun _ => (rd_index tS27 rfl rfl ((hv0.of_old hm325).sub h321) h328)) ?_
      refine s_rd (i := 2) rfl (by kernel_rfl) rfl (fun _ hS => by rw [hS]; exact (rd_ld1 tO5 rfl (((hv0.of_old hm325).sub h321).cells h328) (off := 0) rfl)) rfl ?_
      obtain ⟨x330, h331, q332⟩ := ob q329; clear q329
      refine s_rp (i := 3) rfl (by kernel_rfl) rfl (fun _ => (rd_cv64 tH5 tI3 h331 rfl)) ?_
      obtain ⟨x333, h334, q335⟩ := ob q332; clear q332
      refine s_rp (i := 4) rfl (by kernel_rfl) rfl (fun _ => (rd_shl_i64 h334 rfl rfl)) ?_
      refine s_rp (i := 5) rfl (by kernel_rfl) rfl (fun _ => (rd_move rfl)) ?_
      obtain ⟨x336, h337, q338⟩ := ob q335; clear q335
      refine s_rp (i := 6) rfl (by kernel_rfl) rfl (fun _ => (rd_index tS27 rfl rfl ((hv0.of_old hm325).sub h321) h337)) ?_
      refine s_rd (i := 7) rfl (by kernel_rfl) rfl (fun _ hS => by rw [hS]; exact (rd_ld1 tO5 rfl (((hv0.of_old hm325).sub h321).cells h337) (off := 0) rfl)) rfl ?_
      obtain ⟨x339, h340, q341⟩ := ob q338; clear q338
      refine s_rp (i := 8) rfl (by kernel_rfl) rfl (fun _ => (rd_cv64 tH5 tI3 h340 rfl)) ?_
      obtain ⟨x342, h343, q344⟩ := ob q341; clear q341
      refine s_rp (i := 9) rfl (by kernel_rfl) rfl (fun _ => (rd_bits_or_i64 h343 rfl rfl)) ?_
      refine s_rp (i := 10) rfl (by kernel_rfl) rfl (fun _ => (rd_assign rfl)) ?_
      refine s_nil (by kernel_rfl) ?_
      refine qn_then ?_
      refine cw_seq ?_
      refine cw_seq ?_
      refine cw_region ?_
      refine t_rd rfl (rd_move rfl) ?_
      refine t_rd rfl (rd_gtr rfl rfl) ?_
      refine rwt_nil ?_
      refine qn_then ?_
      obtain ⟨hb345, q346⟩ | ⟨hb345, q346⟩ := oi q344 <;> clear q344
      · refine cw_t rfl hb345 ?_
        refine cw_seq ?_
        refine cw_region ?_
        refine t_rd rfl (rd_move rfl) ?_
        refine t_rd rfl (rd_move rfl) ?_
        refine t_rd rfl (rd_assign rfl) ?_
        refine t_rd rfl (rd_assign rfl) ?_
        refine t_rd rfl (rd_assign rfl) ?_
        refine rwt_nil ?_
        refine qn_then ?_
        refine cw_ret ?_
        refine qr_then (qr_block (qr_then ?_))
        obtain rfl := hr308 _ (os q346)
        refine .inl (⟨_, rfl, ⟨rfl, ?_⟩⟩)
        exact ret3 rfl rfl rfl rfl ⟨zs302, v301, rfl, (hm325.pick [1, 0] (by decide) rfl)⟩
      · refine cw_f rfl hb345 ?_
        refine cw_skip ?_
        refine qn_then ?_
        refine cw_seq ?_
        refine cw_seq ?_
        refine cw_region ?_
        refine t_rd rfl (rd_move rfl) ?_
        refine t_rd rfl (rd_lenS tS27 rfl ((hv0.of_old hm325).sub h321)) ?_
        refine t_rd rfl (rd_move rfl) ?_
        obtain ⟨x347, h348, q349⟩ := ob q346; clear q346
        refine t_rd rfl (rd_add64 h348 rfl rfl) ?_
        refine t_rd rfl (rd_lss rfl rfl) ?_
        refine rwt_nil ?_
        refine qn_then ?_
        obtain ⟨hb350, q351⟩ | ⟨hb350, q351⟩ := oi q349 <;> clear q349
        · refine cw_t rfl hb350 ?_
          refine cw_exit ?_
          refine qx_then (qx_other rfl (qx_then ?_))
          obtain rfl := hr308 _ (os q351)
          exact .inr (⟨_, rfl, ⟨rfl, v301, zs302, (by repeat (first | exact Sub.nil _ | refine Sub.cons rfl ?_)), (hm325.pick [0, 1] (by decide) rfl)⟩⟩)
        · refine cw_f rfl hb350 ?_
          refine cw_skip ?_
          refine qn_then ?_
          refine cw_seq ?_
          refine cw_region ?_
          refine t_rd rfl (rd_move rfl) ?_
          refine t_rd rfl (rd_move rfl) ?_
          obtain ⟨x352, h353, q354⟩ := ob q351; clear q351
          refine t_rd rfl (rd_add64 h353 rfl rfl) ?_
          obtain ⟨l355, h356, q357⟩ := ob q354; clear q354
          refine t_rd rfl (rd_slcLH tS27 rfl rfl rfl ((hv0.of_old hm325).sub h321) h356) ?_
          have hm358 := hm325.addNil (α := UInt8) 5
          obtain ⟨l359, h360, q361⟩ := ob q357; clear q357
          refine t_ef rfl (ef_append (k := 0) hm358 tS27 tE5 rfl rfl rfl rfl (((hv0.of_old hm358).sub h321).sub h356) h360) ?_
          intro v362 w364 hm363
          refine t_rd rfl (rd_assign rfl) ?_
          refine rwt_nil ?_
          refine qn_then ?_
          refine cw_seq ?_
          refine cw_seq ?_
          refine cw_region ?_
          refine t_rd rfl (rd_move rfl) ?_
          obtain ⟨r365, h366, q367⟩ := ob q361; clear q361
          refine t_ef rfl (ef_call tf22 rfl (journal_check_ok h366 (hm363.sl_call 0 rfl))) ?_
          rintro _ w369 ⟨e_, hm368⟩
          obtain rfl := e_.symm
          have hm370 := hm363.call hm368
          refine t_rd rfl (rd_assign rfl) ?_
          refine rwt_nil ?_
          refine qn_then ?_
          refine cw_seq ?_
          refine cw_region ?_
          refine t_rd rfl (rd_move rfl) ?_
          obtain ⟨x371, h372, q373⟩ := ob q367; clear q367
          refine t_rd rfl (rd_shr_u16 h372 rfl rfl) ?_
          refine t_rd rfl (rd_cv8 tH50 tI5 rfl) ?_
          refine t_rd rfl (rd_move rfl) ?_
          obtain ⟨x374, h375, q376⟩ := ob q373; clear q373
          refine t_rd rfl (rd_index tS27 rfl rfl ((hv0.of_old hm370).sub h321) h375) ?_
          refine t_rd rfl (rd_ld1 tO5 rfl (((hv0.of_old hm370).sub h321).cells h375) (off := 0) rfl) ?_
          refine t_rd rfl (rd_neq rfl rfl) ?_
          refine t_rd rfl (rd_move rfl) ?_
          refine t_rdg rfl rfl rfl rfl (gv_f _) (fun hg377 => (rd_move rfl)) ?_
          refine t_rdg rfl rfl rfl rfl (gv_f _) (fun hg378 => (rd_cv8 tH50 tI5 (gvx rfl hg378))) ?_
          refine t_rdg rfl rfl rfl rfl (gv_f _) (fun hg379 => (rd_move rfl)) ?_
          obtain ⟨x381, h382, q383⟩ := ob q376; clear q376
          refine t_rdg rfl rfl rfl rfl (gv_f _) (fun hg380 => (rd_index tS27 (gvx rfl hg380) rfl ((hv0.of_old hm370).sub h321) (gO_t h382 hg380))) ?_
          refine t_rdg rfl rfl rfl rfl (gv_f _) (fun hg384 => (rd_ld1 tO5 (gvx rfl hg384) (((hv0.of_old hm370).sub h321).cells (gO_t h382 hg384)) (off := 0) rfl)) ?_
          refine t_rdg rfl rfl rfl rfl (gv_f _) (fun hg385 => (rd_neq (gvx rfl hg385) (gvx rfl hg385))) ?_
          refine t_rd rfl (rd_or rfl (fun hc386 => (gvx rfl (bnotIt hc386)))) ?_
          refine rwt_nil ?_
          refine qn_then ?_
          obtain ⟨hb387, q388⟩ | ⟨hb387, q388⟩ := oi q383 <;> clear q383
          · refine cw_t rfl hb387 ?_
            refine cw_seq ?_
            refine cw_region ?_
            refine t_rd rfl (rd_move rfl) ?_
            refine t_rd rfl (rd_move rfl) ?_
            refine t_rd rfl (rd_assign rfl) ?_
            refine t_rd rfl (rd_assign rfl) ?_
            refine t_rd rfl (rd_assign rfl) ?_
            refine rwt_nil ?_
            refine qn_then ?_
            refine cw_ret ?_
            refine qr_then (qr_block (qr_then ?_))
            obtain rfl := hr308 _ (os q388)
            refine .inl (⟨_, rfl, ⟨rfl, ?_⟩⟩)
            exact ret3 rfl rfl rfl rfl ⟨zs302, v301, rfl, (hm370.pick [2, 1] (by decide) rfl)⟩
          · refine cw_f rfl hb387 ?_
            refine cw_skip ?_
            refine qn_then ?_
            refine cw_seq ?_
            refine cw_region ?_
            refine t_rd rfl (rd_move rfl) ?_
            refine t_rd rfl (rd_move rfl) ?_
            obtain ⟨zd389, ez390⟩ : ∃ z : Hdr, z.1 = v362 := ⟨⟨v362, sl_one (hm370.sl 0 rfl)⟩, rfl⟩
            refine t_ef rfl (ef_bslice (l := ([zd389] : List Hdr)) hm370 tS25 rfl (cs := #[v362]) (by obtain ⟨_, _, e⟩ : ∃ A c, v362 = Value.slice A (List.length l359) c := ((hm370.sl 0 rfl)).val; rw [e]; clear e; unfold bsl; kernel_rfl) (by show [zd389.1] = [v362]; rw [ez390]) rfl) ?_
            intro v391 w393 hm392
            obtain ⟨l394, h395, q396⟩ := ob q388; clear q388
            obtain ⟨ha397, he398⟩ := app_h h395 (hm392.get (k := 2) rfl).1 ((Nl.mk (hm392.sl_call 0 rfl) (Rows.cons (hm392.sl_call 1 rfl) ez390 Rows.nil))).rows.1
            refine t_ef rfl (ef_append (k := 3) hm392 tS25 tE27 rfl rfl rfl rfl ((Nl.mk (hm392.sl_call 0 rfl) (Rows.cons (hm392.sl_call 1 rfl) ez390 Rows.nil))).sp ha397) ?_
            intro v399 w401 hm400
            have hm402 := hm400.pick [2, 1, 0, 3] (L' := [rowsC 5 zs302 (l300 : List (List UInt8)) none, ownL 5 v362 (l359 : List UInt8), ownL 27 v391 ([zd389] : List Hdr), ownL 27 v399 ((zs302 ++ [zd389]) : List Hdr)]) (by decide) rfl
            have hm403 := hm402.absorb ez390 he398
            refine t_rd rfl (rd_assign rfl) ?_
            refine rwt_nil ?_
            refine qn_then ?_
            refine cw_region ?_
            refine t_rd rfl (rd_move rfl) ?_
            refine t_rd rfl (rd_move rfl) ?_
            obtain ⟨x404, h405, q406⟩ := ob q396; clear q396
            refine t_rd rfl (rd_add64 h405 rfl rfl) ?_
            obtain ⟨x407, h408, q409⟩ := ob q406; clear q406
            refine t_rd rfl (rd_add64 h408 rfl rfl) ?_
            refine t_rd rfl (rd_assign rfl) ?_
            refine rwt_nil ?_
            refine qn_block (qn_then ?_)
            refine ⟨_, (os q409), v399, (zs302 ++ [zd389]), (by repeat (first | exact Sub.nil _ | refine Sub.cons rfl ?_)), (hm403.pick [0, 2] (by decide) rfl)⟩
    · refine cw_f rfl hb318 ?_
      refine cw_exit ?_
      refine qx_then (qx_then ?_)
      obtain rfl := hr308 _ (os q319)
      exact .inr (⟨_, rfl, ⟨rfl, v301, zs302, (by repeat (first | exact Sub.nil _ | refine Sub.cons rfl ?_)), (hm314.pick [0, 1] (by decide) rfl)⟩⟩)
  · skip
    intro e env410 w411 hX412
    rcases hX412 with hX412 | hX412
    · obtain ⟨p414, rfl, hX412⟩ := hX412
      obtain ⟨rfl, hq416⟩ := hX412
      exact qr_block (qr_then ((by have e := os q311; subst e; exact hq416)))
    · obtain ⟨p417, rfl, hX412⟩ := hX412
      obtain ⟨rfl, v297, zs298, hs418, hm419⟩ := hX412
      refine qx_same (qn_then ?_)
      refine cw_sub hs418 ?_
      refine cw_seq ?_
      refine cw_region ?_
      refine t_rd rfl (rd_move rfl) ?_
      refine t_rd rfl (rd_move rfl) ?_
      refine t_rd rfl (rd_assign rfl) ?_
      refine t_rd rfl (rd_assign rfl) ?_
      refine t_rd rfl (rd_assign rfl) ?_
      refine rwt_nil ?_
      refine qn_then ?_
      refine cw_ret ?_
      obtain rfl := os q311
      exact ret3 rfl rfl rfl rfl ⟨zs298, v297, rfl, (hm419.pick [1, 0] (by decide) rfl)⟩

theorem humpgen_Bytes_ok {N : Nat} {a0 : List UInt8} {a1 : List UInt8} {res : Bool} (h : humpgen_Bytes N a0 a1 = some res) {w : World} {v0 : Value} {v1 : Value} (hv0 : Sl (Old w No) w v0 a0) (hv1 : Sl (Old w No) w v1 a1) :
    CallsR Try.prog 19 [v0, v1] w (fun u w' => u = (Value.bool res) ∧ Mem w No [] w') := by
  unfold humpgen_Bytes at h
  refine fn_ok Try.func19 rfl rfl rfl ?_
  have hm0 := Mem.nil w
  refine cw_seq ?_
  refine cw_region ?_
  refine t_rd rfl (rd_assign rfl) ?_
  refine rwt_nil ?_
  refine qn_then ?_
  refine cw_seq ?_
  refine cw_seq ?_
  refine cw_region ?_
  refine t_rd rfl (rd_move rfl) ?_
  refine t_rd rfl (rd_lenS tS27 rfl (hv0.of_old hm0)) ?_
  refine t_rd rfl (rd_move rfl) ?_
  refine t_rd rfl (rd_lenS tS27 rfl (hv1.of_old hm0)) ?_
  refine t_rd rfl (rd_neq rfl rfl) ?_
  refine rwt_nil ?_
  refine qn_then ?_
  obtain ⟨hb1, q2⟩ | ⟨hb1, q2⟩ := oi h <;> clear h
  · refine cw_t rfl hb1 ?_
    refine cw_seq ?_
    refine cw_region ?_
    refine t_rd rfl (rd_assign rfl) ?_
    refine rwt_nil ?_
    refine qn_then ?_
    refine cw_ret ?_
    refine qr_then ?_
    obtain rfl := os q2
    exact ret1 rfl rfl ⟨rfl, (hm0.pick [] (by decide) rfl)⟩
  · refine cw_f rfl hb1 ?_
    refine cw_skip ?_
    refine qn_then ?_
    refine cw_seq ?_
    refine cw_seq ?_
    refine cw_region ?_
    refine t_rd rfl (rd_assign rfl) ?_
    refine rwt_nil ?_
    refine qn_then ?_
    refine cw_block ?_
    obtain ⟨r45, hit46, q47⟩ := ob q2; clear q2
    refine cw_loop2 (I := fun q envq wq => Sub [(0, v0), (1, v1), (5, (Value.int .i64 q))] envq ∧ Mem w No [] wq) (X := fun eq envq wq => (∃ p48, r45 = (Sum.inl p48) ∧ eq = .ret ∧ retQ Try.prog 26 Try.f19 (fun u w' => u = (Value.bool p48) ∧ Mem w No [] w') .ret envq wq) ∨ (∃ p49, r45 = (Sum.inr p49) ∧ eq = .exit 0 ∧ Sub [] envq ∧ Mem w No [] wq)) hit46 ⟨(by repeat (first | exact Sub.nil _ | refine Sub.cons rfl ?_)), (hm0.pick [] (by decide) rfl)⟩ ?_ ?_
    · rintro i38 x40 env41 w42 hf43 hr44 ⟨hs_, hm_⟩
      have hs_ : Sub [(0, v0), (1, v1), (5, (Value.int .i64 i38))] env41 := hs_
      have hm50 : Mem w No [] w42 := hm_
      refine cw_sub hs_ ?_
      clear hs_ hm_ q47
      have h : humpgen_Bytes_l1 N a0 a1 i38 = some x40 := hf43
      clear hf43
      refine cw_seq ?_
      refine cw_seq ?_
      refine cw_region ?_
      refine t_rd rfl (rd_move rfl) ?_
      refine t_rd rfl (rd_move rfl) ?_
      refine t_rd rfl (rd_lenS tS27 rfl (hv0.of_old hm50)) ?_
      refine t_rd rfl (rd_lss rfl rfl) ?_
      refine rwt_nil ?_
      refine qn_then ?_
      obtain ⟨hb51, q52⟩ | ⟨hb51, q52⟩ := oi h <;> clear h
      · refine cw_t rfl hb51 ?_
        refine cw_skip ?_
        refine qn_then ?_
        refine cw_seq ?_
        refine cw_block ?_
        refine cw_seq ?_
        obtain ⟨w54, he56⟩ : ∃ q, q = w42.drew := ⟨_, rfl⟩
        have hm55 := hm50.drew; rw [← he56] at hm55
        refine cw_region_s (fun q => q = w54) (cls [] []) mixed ?_
        rintro _ rfl; rw [← he56]
        refine s_rp (i := 0) rfl (by kernel_rfl) rfl (fun _ => (rd_move rfl)) ?_
        refine s_rp (i := 1) rfl (by kernel_rfl) rfl (fun _ => (rd_move rfl)) ?_
        obtain ⟨x57, h58, q59⟩ := ob q52; clear q52
        refine s_rp (i := 2) rfl (by kernel_rfl) rfl (fun _ => (rd_index tS27 rfl rfl (hv0.of_old hm55) h58)) ?_
        refine s_rd (i := 3) rfl (by kernel_rfl) rfl (fun _ hS => by rw [hS]; exact (rd_ld1 tO5 rfl ((hv0.of_old hm55).cells h58) (off := 0) rfl)) rfl ?_
        refine s_rp (i := 4) rfl (by kernel_rfl) rfl (fun _ => (rd_move rfl)) ?_
        refine s_rp (i := 5) rfl (by kernel_rfl) rfl (fun _ => (rd_move rfl)) ?_
        obtain ⟨x60, h61, q62⟩ := ob q59; clear q59
        refine s_rp (i := 6) rfl (by kernel_rfl) rfl (fun _ => (rd_index tS27 rfl rfl (hv1.of_old hm55) h61)) ?_
        refine s_rd (i := 7) rfl (by kernel_rfl) rfl (fun _ hS => by rw [hS]; exact (rd_ld1 tO5 rfl ((hv1.of_old hm55).cells h61) (off := 0) rfl)) rfl ?_
        refine s_rp (i := 8) rfl (by kernel_rfl) rfl (fun _ => (rd_neq rfl rfl)) ?_
        refine s_nil (by kernel_rfl) ?_
        refine qn_then ?_
        obtain ⟨hb63, q64⟩ | ⟨hb63, q64⟩ := oi q62 <;> clear q62
        · refine cw_t rfl hb63 ?_
          refine cw_seq ?_
          refine cw_region ?_
          refine t_rd rfl (rd_assign rfl) ?_
          refine rwt_nil ?_
          refine qn_then ?_
          refine cw_ret ?_
          refine qr_block (qr_then (qr_then ?_))
          obtain rfl := hr44 _ (os q64)
          refine .inl (⟨_, rfl, ⟨rfl, ?_⟩⟩)
          exact ret1 rfl rfl ⟨rfl, (hm55.pick [] (by decide) rfl)⟩
        · refine cw_f rfl hb63 ?_
          refine cw_skip ?_
          refine qn_block (qn_then ?_)
          refine cw_region ?_
          refine t_rd rfl (rd_move rfl) ?_
          obtain ⟨x65, h66, q67⟩ := ob q64; clear q64
          refine t_rd rfl (rd_add64 h66 rfl rfl) ?_
          refine t_rd rfl (rd_assign rfl) ?_
          refine rwt_nil ?_
          refine qn_then ?_
          refine ⟨_, (os q67), (by repeat (first | exact Sub.nil _ | refine Sub.cons rfl ?_)), (hm55.pick [] (by decide) rfl)⟩
      · refine cw_f rfl hb51 ?_
        refine cw_exit ?_
        refine qx_then (qx_then ?_)
        obtain rfl := hr44 _ (os q52)
        exact .inr (⟨_, rfl, ⟨rfl, (by repeat (first | exact Sub.nil _ | refine Sub.cons rfl ?_)), (hm50.pick [] (by decide) rfl)⟩⟩)
    · skip
      intro e env68 w69 hX70
      rcases hX70 with hX70 | hX70
      · obtain ⟨p72, rfl, hX70⟩ := hX70
        obtain ⟨rfl, hq74⟩ := hX70
        exact qr_block (qr_then ((by have e := os q47; subst e; exact hq74)))
      · obtain ⟨p75, rfl, hX70⟩ := hX70
        obtain ⟨rfl, hs76, hm77⟩ := hX70
        refine qx_same (qn_then ?_)
        refine cw_sub hs76 ?_
        refine cw_seq ?_
        refine cw_region ?_
        refine t_rd rfl (rd_assign rfl) ?_
        refine rwt_nil ?_
        refine qn_then ?_
        refine cw_ret ?_
        obtain rfl := os q47
        exact ret1 rfl rfl ⟨rfl, (hm77.pick [] (by decide) rfl)⟩

theorem law43_same_ok {N : Nat} {a0 : List (List UInt8)} {a1 : List (List UInt8)} {res : Bool} (h : law43_same N a0 a1 = some res) {w : World} {v0 : Value} {v1 : Value} (hv0 : Sl (Old w No) w v0 a0) (hv1 : Sl (Old w No) w v1 a1) :
    CallsR Try.prog 12 [v0, v1] w (fun u w' => u = (Value.bool res) ∧ Mem w No [] w') := by
  unfold law43_same at h
  refine fn_ok Try.func12 rfl rfl rfl ?_
  obtain ⟨zs_a0, hn0⟩ := hv0.nest
  obtain ⟨zs_a1, hn1⟩ := hv1.nest
  have hm0 := Mem.nil w
  refine cw_seq ?_
  refine cw_region ?_
  refine t_rd rfl (rd_assign rfl) ?_
  refine rwt_nil ?_
  refine qn_then ?_
  refine cw_seq ?_
  refine cw_seq ?_
  refine cw_region ?_
  refine t_rd rfl (rd_move rfl) ?_
  refine t_rd rfl (rd_lenS tS25 rfl ((hn0.of_old hm0).sl)) ?_
  refine t_rd rfl (rd_move rfl) ?_
  refine t_rd rfl (rd_lenS tS25 rfl ((hn1.of_old hm0).sl)) ?_
  refine t_rd rfl (rd_neq rfl rfl) ?_
  refine rwt_nil ?_
  refine qn_then ?_
  obtain ⟨hb1, q2⟩ | ⟨hb1, q2⟩ := oi h <;> clear h
  · refine cw_t rfl hb1 ?_
    refine cw_seq ?_
    refine cw_region ?_
    refine t_rd rfl (rd_assign rfl) ?_
    refine rwt_nil ?_
    refine qn_then ?_
    refine cw_ret ?_
    refine qr_then ?_
    obtain rfl := os q2
    exact ret1 rfl rfl ⟨rfl, (hm0.pick [] (by decide) rfl)⟩
  · refine cw_f rfl hb1 ?_
    refine cw_skip ?_
    refine qn_then ?_
    refine cw_seq ?_
    refine cw_seq ?_
    refine cw_region ?_
    refine t_rd rfl (rd_assign rfl) ?_
    refine rwt_nil ?_
    refine qn_then ?_
    refine cw_block ?_
    obtain ⟨r65, hit66, q67⟩ := ob q2; clear q2
    refine cw_loop2 (I := fun q envq wq => Sub [(0, v0), (1, v1), (5, (Value.int .i64 q))] envq ∧ Mem w No [] wq) (X := fun eq envq wq => (∃ p68, r65 = (Sum.inl p68) ∧ eq = .ret ∧ retQ Try.prog 27 Try.f12 (fun u w' => u = (Value.bool p68) ∧ Mem w No [] w') .ret envq wq) ∨ (∃ p69, r65 = (Sum.inr p69) ∧ eq = .exit 0 ∧ Sub [] envq ∧ Mem w No [] wq)) hit66 ⟨(by repeat (first | exact Sub.nil _ | refine Sub.cons rfl ?_)), (hm0.pick [] (by decide) rfl)⟩ ?_ ?_
    · rintro i58 x60 env61 w62 hf63 hr64 ⟨hs_, hm_⟩
      have hs_ : Sub [(0, v0), (1, v1), (5, (Value.int .i64 i58))] env61 := hs_
      have hm70 : Mem w No [] w62 := hm_
      refine cw_sub hs_ ?_
      clear hs_ hm_ q67
      have h : law43_same_l1 N a0 a1 i58 = some x60 := hf63
      clear hf63
      refine cw_seq ?_
      refine cw_seq ?_
      refine cw_region ?_
      refine t_rd rfl (rd_move rfl) ?_
      refine t_rd rfl (rd_move rfl) ?_
      refine t_rd rfl (rd_lenS tS25 rfl ((hn0.of_old hm70).sl)) ?_
      refine t_rd rfl (rd_lss rfl rfl) ?_
      refine rwt_nil ?_
      refine qn_then ?_
      obtain ⟨hb71, q72⟩ | ⟨hb71, q72⟩ := oi h <;> clear h
      · refine cw_t rfl hb71 ?_
        refine cw_skip ?_
        refine qn_then ?_
        refine cw_seq ?_
        refine cw_block ?_
        refine cw_seq ?_
        obtain ⟨w74, he76⟩ : ∃ q, q = w62.drew := ⟨_, rfl⟩
        have hm75 := hm70.drew; rw [← he76] at hm75
        refine cw_region_s (fun q => q = w74) (cls [] [8]) mixed ?_
        rintro _ rfl; rw [← he76]
        refine s_rp (i := 0) rfl (by kernel_rfl) rfl (fun _ => (rd_move rfl)) ?_
        refine s_rp (i := 1) rfl (by kernel_rfl) rfl (fun _ => (rd_move rfl)) ?_
        obtain ⟨x77, h78, q79⟩ := ob q72; clear q72
        refine s_rp (i := 2) rfl (by kernel_rfl) rfl (fun _ => (rd_index tS25 rfl rfl ((hn0.of_old hm75).sl) h78)) ?_
        obtain ⟨zd80, hz81⟩ := (hn0.of_old hm75).row h78
        refine s_rd (i := 3) rfl (by kernel_rfl) rfl (fun _ hS => by rw [hS]; exact (rd_ld1 tO27 rfl ((hn0.of_old hm75).cells hz81) (off := 0) rfl)) rfl ?_
        refine s_rp (i := 4) rfl (by kernel_rfl) rfl (fun _ => (rd_move rfl)) ?_
        refine s_rp (i := 5) rfl (by kernel_rfl) rfl (fun _ => (rd_move rfl)) ?_
        obtain ⟨x82, h83, q84⟩ := ob q79; clear q79
        refine s_rp (i := 6) rfl (by kernel_rfl) rfl (fun _ => (rd_index tS25 rfl rfl ((hn1.of_old hm75).sl) h83)) ?_
        obtain ⟨zd85, hz86⟩ := (hn1.of_old hm75).row h83
        refine s_rd (i := 7) rfl (by kernel_rfl) rfl (fun _ hS => by rw [hS]; exact (rd_ld1 tO27 rfl ((hn1.of_old hm75).cells hz86) (off := 0) rfl)) rfl ?_
        obtain ⟨r87, h88, q89⟩ := ob q84; clear q84
        refine s_ef (i := 8) rfl (by kernel_rfl) rfl (ef_call tf19 rfl (humpgen_Bytes_ok h88 ((hn0.to_call hm75).get hz81 h78) ((hn1.to_call hm75).get hz86 h83))) (by decide) (fun _ _ _ q => absurd q (by decide)) ?_
        rintro _ w91 ⟨e_, hm90⟩
        obtain rfl := e_.symm
        have hm92 := hm75.call hm90
        refine s_rp (i := 9) rfl (by kernel_rfl) rfl (fun _ => (rd_not rfl)) ?_
        refine s_nil (by kernel_rfl) ?_
        refine qn_then ?_
        obtain ⟨hb93, q94⟩ | ⟨hb93, q94⟩ := oi q89 <;> clear q89
        · refine cw_t rfl hb93 ?_
          refine cw_seq ?_
          refine cw_region ?_
          refine t_rd rfl (rd_assign rfl) ?_
          refine rwt_nil ?_
          refine qn_then ?_
          refine cw_ret ?_
          refine qr_block (qr_then (qr_then ?_))
          obtain rfl := hr64 _ (os q94)
          refine .inl (⟨_, rfl, ⟨rfl, ?_⟩⟩)
          exact ret1 rfl rfl ⟨rfl, (hm92.pick [] (by decide) rfl)⟩
        · refine cw_f rfl hb93 ?_
          refine cw_skip ?_
          refine qn_block (qn_then ?_)
          refine cw_region ?_
          refine t_rd rfl (rd_move rfl) ?_
          obtain ⟨x95, h96, q97⟩ := ob q94; clear q94
          refine t_rd rfl (rd_add64 h96 rfl rfl) ?_
          refine t_rd rfl (rd_assign rfl) ?_
          refine rwt_nil ?_
          refine qn_then ?_
          refine ⟨_, (os q97), (by repeat (first | exact Sub.nil _ | refine Sub.cons rfl ?_)), (hm92.pick [] (by decide) rfl)⟩
      · refine cw_f rfl hb71 ?_
        refine cw_exit ?_
        refine qx_then (qx_then ?_)
        obtain rfl := hr64 _ (os q72)
        exact .inr (⟨_, rfl, ⟨rfl, (by repeat (first | exact Sub.nil _ | refine Sub.cons rfl ?_)), (hm70.pick [] (by decide) rfl)⟩⟩)
    · skip
      intro e env98 w99 hX100
      rcases hX100 with hX100 | hX100
      · obtain ⟨p102, rfl, hX100⟩ := hX100
        obtain ⟨rfl, hq104⟩ := hX100
        exact qr_block (qr_then ((by have e := os q67; subst e; exact hq104)))
      · obtain ⟨p105, rfl, hX100⟩ := hX100
        obtain ⟨rfl, hs106, hm107⟩ := hX100
        refine qx_same (qn_then ?_)
        refine cw_sub hs106 ?_
        refine cw_seq ?_
        refine cw_region ?_
        refine t_rd rfl (rd_assign rfl) ?_
        refine rwt_nil ?_
        refine qn_then ?_
        refine cw_ret ?_
        obtain rfl := os q67
        exact ret1 rfl rfl ⟨rfl, (hm107.pick [] (by decide) rfl)⟩

theorem journal_Append_ok {N : Nat} {a0 : List UInt8} {a1 : List UInt8} {res : List UInt8 × Int} (h : journal_Append N a0 a1 = some res) {w : World} {v0 : Value} {v1 : Value} (hv0 : Sl (Old w No) w v0 a0) (hv1 : Sl (Old w No) w v1 a1) :
    CallsR Try.prog 18 [v0, v1] w (fun u w' => ∃ (y0 : Value), u = (Value.tuple #[y0, (Value.int .i64 res.2)]) ∧ Mem w No [ownL 5 y0 (res.1 : List UInt8)] w') := by
  unfold journal_Append at h
  refine fn_ok Try.func18 rfl rfl rfl ?_
  have hm0 := Mem.nil w
  refine cw_seq ?_
  refine cw_region ?_
  refine t_rd rfl (rd_assign rfl) ?_
  refine t_rd rfl (rd_assign rfl) ?_
  refine rwt_nil ?_
  refine qn_then ?_
  refine cw_seq ?_
  refine cw_region ?_
  refine t_rd rfl (rd_move rfl) ?_
  refine t_rd rfl (rd_lenS tS27 rfl (hv1.of_old hm0)) ?_
  refine t_rd rfl (rd_assign rfl) ?_
  refine rwt_nil ?_
  refine qn_then ?_
  refine cw_seq ?_
  refine cw_seq ?_
  refine cw_region ?_
  refine t_rd rfl (rd_move rfl) ?_
  refine t_rd rfl (rd_gtr rfl rfl) ?_
  refine rwt_nil ?_
  refine qn_then ?_
  obtain ⟨hb1, q2⟩ | ⟨hb1, q2⟩ := oi h <;> clear h
  · refine cw_t rfl hb1 ?_
    refine cw_seq ?_
    refine cw_region ?_
    refine t_rd rfl (rd_assign rfl) ?_
    refine t_rd rfl (rd_assign rfl) ?_
    refine rwt_nil ?_
    refine qn_then ?_
    refine cw_ret ?_
    refine qr_then ?_
    obtain rfl := os q2
    have hm3 := hm0.addNil (α := UInt8) 5
    exact ret2 rfl rfl rfl ⟨(Value.slice none 0 0), rfl, (hm3.pick [0] (by decide) rfl)⟩
  · refine cw_f rfl hb1 ?_
    refine cw_skip ?_
    refine qn_then ?_
    refine cw_seq ?_
    refine cw_region ?_
    refine t_rd rfl (rd_move rfl) ?_
    obtain ⟨r4, h5, q6⟩ := ob q2; clear q2
    refine t_ef rfl (ef_call tf22 rfl (journal_check_ok h5 (hv1.to_call hm0))) ?_
    rintro _ w8 ⟨e_, hm7⟩
    obtain rfl := e_.symm
    have hm9 := hm0.call hm7
    refine t_rd rfl (rd_assign rfl) ?_
    refine rwt_nil ?_
    refine qn_then ?_
    refine cw_seq ?_
    refine cw_region ?_
    refine t_rd rfl (rd_move rfl) ?_
    refine t_rd rfl (rd_lenS tS27 rfl (hv0.of_old hm9)) ?_
    obtain ⟨x10, h11, q12⟩ := ob q6; clear q6
    refine t_rd rfl (rd_add64 h11 rfl rfl) ?_
    refine t_rd rfl (rd_move rfl) ?_
    obtain ⟨x13, h14, q15⟩ := ob q12; clear q12
    refine t_rd rfl (rd_add64 h14 rfl rfl) ?_
    obtain ⟨l16, h17, q18⟩ := ob q15; clear q15
    refine t_ef rfl (ef_makec hm9 tS27 tE5 rfl rfl rfl h17) ?_
    intro v19 w21 hm20
    refine t_rd rfl (rd_assign rfl) ?_
    refine rwt_nil ?_
    refine qn_then ?_
    refine cw_seq ?_
    refine cw_region ?_
    refine t_rd rfl (rd_move rfl) ?_
    refine t_rd rfl (rd_move rfl) ?_
    obtain ⟨l22, h23, q24⟩ := ob q18; clear q18
    refine t_ef rfl (ef_append (k := 0) hm20 tS27 tE5 rfl rfl rfl rfl (hv0.of_old hm20) h23) ?_
    intro v25 w27 hm26
    refine t_rd rfl (rd_assign rfl) ?_
    refine rwt_nil ?_
    refine qn_then ?_
    refine cw_seq ?_
    refine cw_region ?_
    refine t_rd rfl (rd_move rfl) ?_
    refine t_rd rfl (rd_move rfl) ?_
    obtain ⟨x28, h29, q30⟩ := ob q24; clear q24
    refine t_rd rfl (rd_shr_i64 h29 rfl rfl) ?_
    refine t_rd rfl (rd_cv8 tH3 tI5 rfl) ?_
    refine t_rd rfl (rd_move rfl) ?_
    refine t_rd rfl (rd_cv8 tH3 tI5 rfl) ?_
    refine t_rd rfl (rd_move rfl) ?_
    obtain ⟨x31, h32, q33⟩ := ob q30; clear q30
    refine t_rd rfl (rd_shr_u16 h32 rfl rfl) ?_
    refine t_rd rfl (rd_cv8 tH50 tI5 rfl) ?_
    refine t_rd rfl (rd_move rfl) ?_
    refine t_rd rfl (rd_cv8 tH50 tI5 rfl) ?_
    refine t_ef rfl (ef_bslice (l := ([(toU8 x28), (toU8 (List.length a1 : Int)), (toU8 x31), (toU8 r4)] : List UInt8)) hm26 tS27 rfl (cs := #[(Value.int .u8 ((toU8 x28).toNat : Int)), (Value.int .u8 ((toU8 (List.length a1 : Int)).toNat : Int)), (Value.int .u8 ((toU8 x31).toNat : Int)), (Value.int .u8 ((toU8 r4).toNat : Int))]) (by unfold bsl; kernel_rfl) rfl rfl) ?_
    intro v34 w36 hm35
    obtain ⟨l37, h38, q39⟩ := ob q33; clear q33
    refine t_ef rfl (ef_append (k := 1) hm35 tS27 tE5 rfl rfl rfl rfl (hm35.sl 0 rfl) h38) ?_
    intro v40 w42 hm41
    refine t_rd rfl (rd_assign rfl) ?_
    refine rwt_nil ?_
    refine qn_then ?_
    refine cw_seq ?_
    refine cw_region ?_
    refine t_rd rfl (rd_move rfl) ?_
    refine t_rd rfl (rd_move rfl) ?_
    obtain ⟨l43, h44, q45⟩ := ob q39; clear q39
    refine t_ef rfl (ef_append (k := 1) hm41 tS27 tE5 rfl rfl rfl rfl (hv1.of_old hm41) h44) ?_
    intro v46 w48 hm47
    refine t_rd rfl (rd_assign rfl) ?_
    refine t_rd rfl (rd_assign rfl) ?_
    refine rwt_nil ?_
    refine qn_then ?_
    refine cw_ret ?_
    obtain rfl := os q45
    exact ret2 rfl rfl rfl ⟨v46, rfl, (hm47.pick [1] (by decide) rfl)⟩

theorem journal_Check_ok {N : Nat} {a0 : List UInt8} {res : Int} (h : journal_Check N a0 = some res) {w : World} {v0 : Value} (hv0 : Sl (Old w No) w v0 a0) :
    CallsR Try.prog 23 [v0] w (fun u w' => u = (Value.int .i64 res) ∧ Mem w No [] w') := by
  unfold journal_Check at h
  refine fn_ok Try.func23 rfl rfl rfl ?_
  have hm0 := Mem.nil w
  refine cw_seq ?_
  refine cw_region ?_
  refine t_rd rfl (rd_assign rfl) ?_
  refine rwt_nil ?_
  refine qn_then ?_
  refine cw_seq ?_
  refine cw_region ?_
  refine t_rd rfl (rd_move rfl) ?_
  obtain ⟨r1, h2, q3⟩ := ob h; clear h
  refine t_ef rfl (ef_call tf28 rfl (journal_further_ok h2 (hv0.to_call hm0))) ?_
  rintro _ w5 ⟨e_, hm4⟩
  obtain rfl := e_.symm
  have hm6 := hm0.call hm4
  obtain ⟨x7, h8, q9⟩ := ob q3; clear q3
  refine t_rd rfl (rd_cv64 tH50 tI3 h8 rfl) ?_
  refine t_rd rfl (rd_assign rfl) ?_
  refine rwt_nil ?_
  refine qn_then ?_
  refine cw_ret ?_
  obtain rfl := os q9
  exact ret1 rfl rfl ⟨rfl, (hm6.pick [] (by decide) rfl)⟩

theorem law43_sane_ok {N : Nat} {res : Bool} (h : law43_sane N = some res) {w : World}   :
    CallsR Try.prog 13 [] w (fun u w' => u = (Value.bool res) ∧ Mem w No [] w') := by
  unfold law43_sane at h
  refine fn_ok Try.func13 rfl rfl rfl ?_
  have hm0 := Mem.nil w
  refine cw_seq ?_
  refine cw_region ?_
  refine t_rd rfl (rd_assign rfl) ?_
  refine rwt_nil ?_
  refine qn_then ?_
  refine cw_seq ?_
  refine cw_region ?_
  obtain ⟨r1, h2, q3⟩ := ob h; clear h
  refine t_ef rfl (ef_call tf18 rfl (journal_Append_ok h2 (Sl.nil _ _) (Sl.nil _ _))) ?_
  rintro _ w6 ⟨v4, e_, hm5⟩
  obtain rfl := e_.symm
  have hm7 := hm0.call hm5
  refine t_rd rfl (rd_move rfl) ?_
  refine t_rd rfl (rd_extract rfl rfl) ?_
  refine t_rd rfl (rd_extract rfl rfl) ?_
  refine t_rd rfl (rd_assign rfl) ?_
  refine t_rd rfl (rd_assign rfl) ?_
  refine rwt_nil ?_
  refine qn_then ?_
  refine cw_seq ?_
  refine cw_region ?_
  refine t_ef rfl (ef_bslice (l := ([(0 : UInt8), (1 : UInt8), (2 : UInt8)] : List UInt8)) hm7 tS27 rfl (cs := #[(Value.int .u8 0), (Value.int .u8 1), (Value.int .u8 2)]) (by unfold bsl; kernel_rfl) rfl rfl) ?_
  intro v8 w10 hm9
  obtain ⟨r11, h12, q13⟩ := ob q3; clear q3
  refine t_ef rfl (ef_call tf11 rfl (journal_Records_ok h12 (hm9.sl_call 0 rfl))) ?_
  rintro _ w17 ⟨zs15, v14, e_, hm16⟩
  obtain rfl := e_.symm
  have hm18 := hm9.call hm16
  refine t_rd rfl (rd_move rfl) ?_
  refine t_rd rfl (rd_extract rfl rfl) ?_
  refine t_rd rfl (rd_extract rfl rfl) ?_
  refine t_rd rfl (rd_extract rfl rfl) ?_
  refine t_rd rfl (rd_assign rfl) ?_
  refine t_rd rfl (rd_assign rfl) ?_
  refine t_rd rfl (rd_assign rfl) ?_
  refine rwt_nil ?_
  refine qn_then ?_
  refine cw_seq ?_
  refine cw_region ?_
  refine t_rd rfl (rd_move rfl) ?_
  refine t_ef rfl (ef_bslice (l := ([(0 : UInt8)] : List UInt8)) hm18 tS27 rfl (cs := #[(Value.int .u8 0)]) (by unfold bsl; kernel_rfl) rfl rfl) ?_
  intro v19 w21 hm20
  obtain ⟨l22, h23, q24⟩ := ob q13; clear q13
  refine t_ef rfl (ef_append2 (k := 4) hm20 tS27 tE5 rfl rfl rfl rfl (hm20.sl 0 rfl) h23) ?_
  intro v25 w27 hm26
  obtain ⟨r28, h29, q30⟩ := ob q24; clear q24
  refine t_ef rfl (ef_call tf11 rfl (journal_Records_ok h29 (hm26.rob_call 4 rfl))) ?_
  rintro _ w34 ⟨zs32, v31, e_, hm33⟩
  obtain rfl := e_.symm
  have hm35 := hm26.call hm33
  refine t_rd rfl (rd_move rfl) ?_
  refine t_rd rfl (rd_extract rfl rfl) ?_
  refine t_rd rfl (rd_extract rfl rfl) ?_
  refine t_rd rfl (rd_extract rfl rfl) ?_
  refine t_rd rfl (rd_assign rfl) ?_
  refine t_rd rfl (rd_assign rfl) ?_
  refine t_rd rfl (rd_assign rfl) ?_
  refine rwt_nil ?_
  refine qn_then ?_
  refine cw_seq ?_
  refine cw_region ?_
  refine t_ef rfl (ef_bslice (l := ([(49 : UInt8), (50 : UInt8), (51 : UInt8), (52 : UInt8), (53 : UInt8), (54 : UInt8), (55 : UInt8), (56 : UInt8), (57 : UInt8)] : List UInt8)) hm35 tS27 rfl (cs := #[(Value.int .u8 49), (Value.int .u8 50), (Value.int .u8 51), (Value.int .u8 52), (Value.int .u8 53), (Value.int .u8 54), (Value.int .u8 55), (Value.int .u8 56), (Value.int .u8 57)]) (by unfold bsl; kernel_rfl) rfl rfl) ?_
  intro v36 w38 hm37
  refine t_ef rfl (ef_mark (k := 0) hm37 tS27 tU5 rfl rfl rfl) ?_
  rintro _ w40 ⟨rfl, hm39⟩
  obtain ⟨r41, h42, q43⟩ := ob q30; clear q30
  refine t_ef rfl (ef_call tf23 rfl (journal_Check_ok h42 (hm39.ro_call 0 rfl))) ?_
  rintro _ w45 ⟨e_, hm44⟩
  obtain rfl := e_.symm
  have hm46 := hm39.call hm44
  refine t_rd rfl (rd_eql rfl rfl) ?_
  refine t_rd rfl (rd_move rfl) ?_
  refine t_rdg rfl rfl rfl rfl (gv_t _) (fun hg47 => (rd_move rfl)) ?_
  refine t_rdg rfl rfl rfl rfl (gv_t _) (fun hg48 => (rd_eql (gvx rfl hg48) rfl)) ?_
  refine t_rd rfl (rd_and rfl (fun hc49 => (gvx rfl hc49))) ?_
  refine t_rd rfl (rd_move rfl) ?_
  refine t_rdg rfl rfl rfl rfl (gv_t _) (fun hg50 => (rd_move rfl)) ?_
  obtain ⟨hb52, q53⟩ | ⟨hb52, q53⟩ := oi q43 <;> clear q43
  · skip
    refine t_efg rfl rfl rfl rfl (gv_t _) (fun _ => (ef_bslice (l := ([(0 : UInt8), (0 : UInt8), (29 : UInt8), (15 : UInt8)] : List UInt8)) hm46 tS27 rfl (cs := #[(Value.int .u8 0), (Value.int .u8 0), (Value.int .u8 29), (Value.int .u8 15)]) (by unfold bsl; kernel_rfl) rfl rfl)) (fun q => bcontra q hb52) ?_
    intro v55 w57 hm56
    obtain ⟨r59, h60, q61⟩ := ob q53; clear q53
    refine t_efg rfl rfl rfl rfl (gv_t _) (fun _ => (ef_call tf19 (evc (gvx rfl hb52) (evc rfl evn)) (humpgen_Bytes_ok h60 (hm56.roa_call 8 rfl) (hm56.sl_call 0 rfl)))) (fun q => bcontra q hb52) ?_
    rintro _ w63 ⟨e_, hm62⟩
    obtain rfl := e_.symm
    have hm64 := hm56.call hm62
    refine t_rd rfl (rd_and rfl (fun hc65 => rfl)) ?_
    refine t_rd rfl (rd_move rfl) ?_
    refine t_rdg rfl rfl rfl rfl (gv_t _) (fun hg66 => (rd_move rfl)) ?_
    refine t_rdg rfl rfl rfl rfl (gv_t _) (fun hg67 => (rd_eql (gvx rfl hg67) rfl)) ?_
    refine t_rd rfl (rd_and rfl (fun hc68 => (gvx rfl hc68))) ?_
    refine t_rd rfl (rd_move rfl) ?_
    refine t_rdg rfl rfl rfl rfl (gv_t _) (fun hg69 => (rd_move rfl)) ?_
    refine t_rdg rfl rfl rfl rfl (gv_t _) (fun hg70 => (rd_eql (gvx rfl hg70) rfl)) ?_
    refine t_rd rfl (rd_and rfl (fun hc71 => (gvx rfl hc71))) ?_
    refine t_rd rfl (rd_move rfl) ?_
    refine t_rdg rfl rfl rfl rfl (gv_t _) (fun hg72 => (rd_move rfl)) ?_
    refine t_rdg rfl rfl rfl rfl (gv_t _) (fun hg73 => (rd_lenS tS25 (gvx rfl hg73) ((Nl.mk (hm64.sl_call 5 rfl) (hm64.rows_call 6 rfl)).sl))) ?_
    refine t_rdg rfl rfl rfl rfl (gv_t _) (fun hg74 => (rd_eql (gvx rfl hg74) rfl)) ?_
    refine t_rd rfl (rd_and rfl (fun hc75 => (gvx rfl hc75))) ?_
    refine t_rd rfl (rd_move rfl) ?_
    refine t_rdg rfl rfl rfl rfl (gv_t _) (fun hg76 => (rd_move rfl)) ?_
    refine t_rdg rfl rfl rfl rfl (gv_t _) (fun hg77 => (rd_eql (gvx rfl hg77) rfl)) ?_
    refine t_rd rfl (rd_and rfl (fun hc78 => (gvx rfl hc78))) ?_
    refine t_rd rfl (rd_move rfl) ?_
    refine t_rdg rfl rfl rfl rfl (gv_t _) (fun hg79 => (rd_move rfl)) ?_
    refine t_rdg rfl rfl rfl rfl (gv_t _) (fun hg80 => (rd_eql (gvx rfl hg80) rfl)) ?_
    refine t_rd rfl (rd_and rfl (fun hc81 => (gvx rfl hc81))) ?_
    refine t_rd rfl (rd_move rfl) ?_
    refine t_rdg rfl rfl rfl rfl (gv_t _) (fun hg82 => (rd_move rfl)) ?_
    refine t_rdg rfl rfl rfl rfl (gv_t _) (fun hg83 => (rd_lenS tS25 (gvx rfl hg83) ((Nl.mk (hm64.sl_call 2 rfl) (hm64.rows_call 3 rfl)).sl))) ?_
    refine t_rdg rfl rfl rfl rfl (gv_t _) (fun hg84 => (rd_eql (gvx rfl hg84) rfl)) ?_
    refine t_rd rfl (rd_and rfl (fun hc85 => (gvx rfl hc85))) ?_
    refine t_rd rfl (rd_move rfl) ?_
    refine t_rdg rfl rfl rfl rfl (gv_t _) (fun hg86 => (rd_move rfl)) ?_
    obtain ⟨x88, h89, q90⟩ := ob q61; clear q61
    refine t_rdg rfl rfl rfl rfl (gv_t _) (fun hg87 => (rd_index tS25 (gvx rfl hg87) rfl ((Nl.mk (hm64.sl_call 2 rfl) (hm64.rows_call 3 rfl)).sl) (gO_t h89 hg87))) ?_
    obtain ⟨zd92, hz93⟩ := (Nl.mk (hm64.sl_call 2 rfl) (hm64.rows_call 3 rfl)).rowg (g := ((((((((decide (r41 = 10673) && decide (r1.2 = 0)) && r59) && decide (r11.2.2 = 0)) && decide (r11.2.1 = 0)) && decide ((List.length r11.1 : Int) = 0)) && decide (r28.2.2 = 0)) && decide (r28.2.1 = 4)) && decide ((List.length r28.1 : Int) = 1))) (fun q => gO_t h89 q)
    refine t_rdg rfl rfl rfl rfl (gv_t _) (fun hg91 => (rd_ld1 tO27 (gvx rfl hg91) ((Nl.mk (hm64.sl_call 2 rfl) (hm64.rows_call 3 rfl)).cells (hz93 hg91)) (off := 0) rfl)) ?_
    refine t_rdg rfl rfl rfl rfl (gv_t _) (fun hg94 => (rd_lenS tS27 (gvx rfl hg94) ((Nl.mk (hm64.sl_call 2 rfl) (hm64.rows_call 3 rfl)).get (hz93 hg94) (gO_t h89 hg94)))) ?_
    refine t_rdg rfl rfl rfl rfl (gv_t _) (fun hg95 => (rd_eql (gvx rfl hg95) rfl)) ?_
    refine t_rd rfl (rd_and rfl (fun hc96 => (gvx rfl hc96))) ?_
    refine t_rd rfl (rd_assign rfl) ?_
    refine rwt_nil ?_
    refine qn_then ?_
    refine cw_ret ?_
    obtain rfl := os q90
    exact ret1 rfl rfl ⟨rfl, (hm64.pick [] (by decide) rfl)⟩
  · skip
    refine t_efg rfl rfl rfl rfl (R := fun v w' => v = undef ∧ w' = w45) (gv_t _) (fun hg97 => bcontra hb52 hg97) (fun _ => ⟨rfl, rfl⟩) ?_
    rintro v_ w_ ⟨e1_, e2_⟩; rw [e1_, e2_]; clear e1_ e2_ v_ w_
    refine t_efg rfl rfl rfl rfl (R := fun v w' => v = undef ∧ w' = w45) (gv_t _) (fun hg98 => bcontra hb52 hg98) (fun _ => ⟨rfl, rfl⟩) ?_
    rintro v_ w_ ⟨e1_, e2_⟩; rw [e1_, e2_]; clear e1_ e2_ v_ w_
    refine t_rd rfl (rd_and (b := false) rfl (fun hc99 => bcontra hb52 hc99)) ?_
    refine t_rd rfl (rd_move rfl) ?_
    refine t_rdg rfl rfl rfl rfl (gv_t _) (v := undef) (fun hg100 => (bcontra (bandF hb52) hg100)) ?_
    refine t_rdg rfl rfl rfl rfl (gv_t _) (v := undef) (fun hg101 => (bcontra (bandF hb52) hg101)) ?_
    refine t_rd rfl (rd_and (b := false) rfl (fun hc102 => bcontra (bandF hb52) hc102)) ?_
    refine t_rd rfl (rd_move rfl) ?_
    refine t_rdg rfl rfl rfl rfl (gv_t _) (v := undef) (fun hg103 => (bcontra (bandF (bandF hb52)) hg103)) ?_
    refine t_rdg rfl rfl rfl rfl (gv_t _) (v := undef) (fun hg104 => (bcontra (bandF (bandF hb52)) hg104)) ?_
    refine t_rd rfl (rd_and (b := false) rfl (fun hc105 => bcontra (bandF (bandF hb52)) hc105)) ?_
    refine t_rd rfl (rd_move rfl) ?_
    refine t_rdg rfl rfl rfl rfl (gv_t _) (v := undef) (fun hg106 => (bcontra (bandF (bandF (bandF hb52))) hg106)) ?_
    refine t_rdg rfl rfl rfl rfl (gv_t _) (v := undef) (fun hg107 => (bcontra (bandF (bandF (bandF hb52))) hg107)) ?_
    refine t_rdg rfl rfl rfl rfl (gv_t _) (v := undef) (fun hg108 => (bcontra (bandF (bandF (bandF hb52))) hg108)) ?_
    refine t_rd rfl (rd_and (b := false) rfl (fun hc109 => bcontra (bandF (bandF (bandF hb52))) hc109)) ?_
    refine t_rd rfl (rd_move rfl) ?_
    refine t_rdg rfl rfl rfl rfl (gv_t _) (v := undef) (fun hg110 => (bcontra (bandF (bandF (bandF (bandF hb52)))) hg110)) ?_
    refine t_rdg rfl rfl rfl rfl (gv_t _) (v := undef) (fun hg111 => (bcontra (bandF (bandF (bandF (bandF hb52)))) hg111)) ?_
    refine t_rd rfl (rd_and (b := false) rfl (fun hc112 => bcontra (bandF (bandF (bandF (bandF hb52)))) hc112)) ?_
    refine t_rd rfl (rd_move rfl) ?_
    refine t_rdg rfl rfl rfl rfl (gv_t _) (v := undef) (fun hg113 => (bcontra (bandF (bandF (bandF (bandF (bandF hb52))))) hg113)) ?_
    refine t_rdg rfl rfl rfl rfl (gv_t _) (v := undef) (fun hg114 => (bcontra (bandF (bandF (bandF (bandF (bandF hb52))))) hg114)) ?_
    refine t_rd rfl (rd_and (b := false) rfl (fun hc115 => bcontra (bandF (bandF (bandF (bandF (bandF hb52))))) hc115)) ?_
    refine t_rd rfl (rd_move rfl) ?_
    refine t_rdg rfl rfl rfl rfl (gv_t _) (v := undef) (fun hg116 => (bcontra (bandF (bandF (bandF (bandF (bandF (bandF hb52)))))) hg116)) ?_
    refine t_rdg rfl rfl rfl rfl (gv_t _) (v := undef) (fun hg117 => (bcontra (bandF (bandF (bandF (bandF (bandF (bandF hb52)))))) hg117)) ?_
    refine t_rdg rfl rfl rfl rfl (gv_t _) (v := undef) (fun hg118 => (bcontra (bandF (bandF (bandF (bandF (bandF (bandF hb52)))))) hg118)) ?_
    refine t_rd rfl (rd_and (b := false) rfl (fun hc119 => bcontra (bandF (bandF (bandF (bandF (bandF (bandF hb52)))))) hc119)) ?_
    refine t_rd rfl (rd_move rfl) ?_
    refine t_rdg rfl rfl rfl rfl (gv_t _) (v := undef) (fun hg120 => (bcontra (bandF (bandF (bandF (bandF (bandF (bandF (bandF hb52))))))) hg120)) ?_
    refine t_rdg rfl rfl rfl rfl (gv_t _) (v := undef) (fun hg121 => (bcontra (bandF (bandF (bandF (bandF (bandF (bandF (bandF hb52))))))) hg121)) ?_
    refine t_rdg rfl rfl rfl rfl (gv_t _) (v := undef) (fun hg122 => (bcontra (bandF (bandF (bandF (bandF (bandF (bandF (bandF hb52))))))) hg122)) ?_
    refine t_rdg rfl rfl rfl rfl (gv_t _) (v := undef) (fun hg123 => (bcontra (bandF (bandF (bandF (bandF (bandF (bandF (bandF hb52))))))) hg123)) ?_
    refine t_rdg rfl rfl rfl rfl (gv_t _) (v := undef) (fun hg124 => (bcontra (bandF (bandF (bandF (bandF (bandF (bandF (bandF hb52))))))) hg124)) ?_
    refine t_rd rfl (rd_and (b := false) rfl (fun hc125 => bcontra (bandF (bandF (bandF (bandF (bandF (bandF (bandF hb52))))))) hc125)) ?_
    refine t_rd rfl (rd_assign rfl) ?_
    refine rwt_nil ?_
    refine qn_then ?_
    refine cw_ret ?_
    obtain rfl := os q53
    exact ret1 rfl rfl ⟨rfl, (hm46.pick [] (by decide) rfl)⟩

theorem law43_JournalFinds_ok {N : Nat} {a0 : List Int} {a1 : Int} {a2 : Int} {res : Bool} (h : law43_JournalFinds N a0 a1 a2 = some res) {w : World} {v0 : Value} (hv0 : Sl (Old w No) w v0 a0) :
    CallsR Try.prog 3 [v0, (Value.int .i64 a1), (Value.int .i64 a2)] w (fun u w' => u = (Value.bool res) ∧ Mem w No [] w') := by
  unfold law43_JournalFinds at h
  refine fn_ok Try.func3 rfl rfl rfl ?_
  have hm0 := Mem.nil w
  refine cw_seq ?_
  refine cw_region ?_
  refine t_rd rfl (rd_assign rfl) ?_
  refine rwt_nil ?_
  refine qn_then ?_
  refine cw_seq ?_
  refine cw_region ?_
  refine t_rd rfl (rd_move rfl) ?_
  obtain ⟨r1, h2, q3⟩ := ob h; clear h
  refine t_ef rfl (ef_call tf7 rfl (humpgen_New_ok h2 (hv0.to_call hm0))) ?_
  rintro _ w6 ⟨g4, e_, hm5⟩
  obtain rfl := e_.symm
  have hm7 := hm0.call hm5
  refine t_rd rfl (rd_assign rfl) ?_
  refine rwt_nil ?_
  refine qn_then ?_
  refine cw_seq ?_
  refine cw_region ?_
  refine t_rd rfl (rd_move rfl) ?_
  obtain ⟨r8, h9, q10⟩ := ob q3; clear q3
  refine t_ef rfl (ef_call tf8 rfl (law43_records_ok h9 (hv0.to_callT (k := 0) hm7 rfl) (hm7.get (k := 0) rfl))) ?_
  rintro _ w14 ⟨zs12, v11, e_, hm13⟩
  obtain rfl := e_.symm
  have hm15 := hm7.callT (k := 0) rfl (fun _ h => h) hm13 (fun _ => Iff.rfl)
  refine t_ef rfl (ef_bslice (l := ([(1 : UInt8), (2 : UInt8)] : List UInt8)) hm15 tS27 rfl (cs := #[(Value.int .u8 1), (Value.int .u8 2)]) (by unfold bsl; kernel_rfl) rfl rfl) ?_
  intro v16 w18 hm17
  obtain ⟨zd19, ez20⟩ : ∃ z : Hdr, z.1 = v16 := ⟨⟨v16, sl_one (hm17.sl 0 rfl)⟩, rfl⟩
  refine t_ef rfl (ef_bslice (l := ([zd19] : List Hdr)) hm17 tS25 rfl (cs := #[v16]) (by obtain ⟨_, _, e⟩ : ∃ A c, v16 = Value.slice A (List.length [(1 : UInt8), (2 : UInt8)]) c := ((hm17.sl 0 rfl)).val; rw [e]; clear e; unfold bsl; kernel_rfl) (by show [zd19.1] = [v16]; rw [ez20]) rfl) ?_
  intro v21 w23 hm22
  obtain ⟨l24, h25, q26⟩ := ob q10; clear q10
  obtain ⟨ha27, he28⟩ := app_h h25 (hm22.get (k := 3) rfl).1 ((Nl.mk (hm22.sl_call 0 rfl) (Rows.cons (hm22.sl_call 1 rfl) ez20 Rows.nil))).rows.1
  refine t_ef rfl (ef_append (k := 2) hm22 tS25 tE27 rfl rfl rfl rfl ((Nl.mk (hm22.sl_call 0 rfl) (Rows.cons (hm22.sl_call 1 rfl) ez20 Rows.nil))).sp ha27) ?_
  intro v29 w31 hm30
  have hm32 := hm30.pick [3, 1, 0, 2, 4] (L' := [rowsC 5 zs12 (r8.2 : List (List UInt8)) none, ownL 5 v16 ([(1 : UInt8), (2 : UInt8)] : List UInt8), ownL 27 v21 ([zd19] : List Hdr), ownL 27 v29 ((zs12 ++ [zd19]) : List Hdr), blk g4 49 [v0, (Value.int .i64 r8.1)]]) (by decide) rfl
  have hm33 := hm32.absorb ez20 he28
  refine t_rd rfl (rd_assign rfl) ?_
  refine rwt_nil ?_
  refine qn_then ?_
  refine cw_seq ?_
  refine cw_region ?_
  refine t_rd rfl (rd_move rfl) ?_
  obtain ⟨r34, h35, q36⟩ := ob q26; clear q26
  refine t_ef rfl (ef_call tf9 rfl (law43_written_ok h35 ((Nl.mk (hm33.sl_call 2 rfl) (hm33.rows_call 0 rfl)).sl))) ?_
  rintro _ w40 ⟨v37, v38, e_, hm39⟩
  obtain rfl := e_.symm
  have hm41 := hm33.call hm39
  refine t_rd rfl (rd_move rfl) ?_
  refine t_rd rfl (rd_extract rfl rfl) ?_
  refine t_rd rfl (rd_extract rfl rfl) ?_
  refine t_rd rfl (rd_assign rfl) ?_
  refine t_rd rfl (rd_assign rfl) ?_
  refine rwt_nil ?_
  refine qn_then ?_
  refine cw_seq ?_
  refine cw_region ?_
  refine t_rd rfl (rd_move rfl) ?_
  refine t_rd rfl (rd_move rfl) ?_
  refine t_rd rfl (rd_lenS tS25 rfl ((Nl.mk (hm41.sl_call 4 rfl) (hm41.rows_call 2 rfl)).sl)) ?_
  obtain ⟨r42, h43, q44⟩ := ob q36; clear q36
  refine t_ef rfl (ef_call tf10 rfl (yardgen_Place_ok h43)) ?_
  rintro _ w46 ⟨e_, hm45⟩
  obtain rfl := e_.symm
  have hm47 := hm41.call hm45
  refine t_rd rfl (rd_assign rfl) ?_
  refine rwt_nil ?_
  refine qn_then ?_
  refine cw_seq ?_
  refine cw_region ?_
  refine t_rd rfl (rd_assign rfl) ?_
  refine rwt_nil ?_
  refine qn_then ?_
  refine cw_seq ?_
  refine cw_seq ?_
  refine cw_region ?_
  refine t_rd rfl (rd_move rfl) ?_
  refine t_rd rfl (rd_gtr rfl rfl) ?_
  refine rwt_nil ?_
  refine qn_then ?_
  obtain ⟨j57, hit58, q59⟩ := ob q44; clear q44
  refine cw_join (X := fun eq envq wq => eq = .normal ∧ Sub [(1, (Value.int .i64 r42)), (2, (Value.int .i64 a2)), (8, v29), (9, v37), (10, v38), (11, (Value.int .i64 j57))] envq ∧ Mem w No [ownL 5 v37 (r34.1 : List UInt8), ownL 3 v38 (r34.2 : List Int), rowsC 5 (zs12 ++ [zd19]) (l24 : List (List UInt8)) none, ownL 27 v29 ((zs12 ++ [zd19]) : List Hdr)] wq) ?_ ?_
  · clear q59
    obtain ⟨hb60, q61⟩ | ⟨hb60, q61⟩ := oi hit58 <;> clear hit58
    · refine cw_t rfl hb60 ?_
      refine cw_region ?_
      refine t_rd rfl (rd_move rfl) ?_
      refine t_rd rfl (rd_move rfl) ?_
      obtain ⟨x62, h63, q64⟩ := ob q61; clear q61
      refine t_rd rfl (rd_sub64 h63 rfl rfl) ?_
      obtain ⟨x65, h66, q67⟩ := ob q64; clear q64
      refine t_rd rfl (rd_index tS22 rfl rfl (hm47.sl 1 rfl) h66) ?_
      refine t_rd rfl (rd_ld1 tO3 rfl ((hm47.sl 1 rfl).cells h66) (off := 0) rfl) ?_
      refine t_rd rfl (rd_assign rfl) ?_
      refine rwt_nil ?_
      obtain rfl := os q67
      exact ⟨rfl, (by repeat (first | exact Sub.nil _ | refine Sub.cons rfl ?_)), (hm47.pick [0, 1, 2, 4] (by decide) rfl)⟩
    · refine cw_f rfl hb60 ?_
      refine cw_skip ?_
      obtain rfl := os q61
      exact ⟨rfl, (by repeat (first | exact Sub.nil _ | refine Sub.cons rfl ?_)), (hm47.pick [0, 1, 2, 4] (by decide) rfl)⟩
  · clear hit58
    intro e env68 w69 hX70
    obtain ⟨rfl, hs71, hm72⟩ := hX70
    refine qn_then ?_
    refine cw_sub hs71 ?_
    refine cw_seq ?_
    refine cw_region ?_
    refine t_rd rfl (rd_move rfl) ?_
    refine t_rd rfl (rd_move rfl) ?_
    refine t_rd rfl (rd_move rfl) ?_
    obtain ⟨x73, h74, q75⟩ := ob q59; clear q59
    refine t_rd rfl (rd_index tS22 rfl rfl (hm72.sl 1 rfl) h74) ?_
    refine t_rd rfl (rd_ld1 tO3 rfl ((hm72.sl 1 rfl).cells h74) (off := 0) rfl) ?_
    refine t_rd rfl (rd_move rfl) ?_
    obtain ⟨x76, h77, q78⟩ := ob q75; clear q75
    refine t_rd rfl (rd_sub64 h77 rfl rfl) ?_
    obtain ⟨x79, h80, q81⟩ := ob q78; clear q78
    refine t_rd rfl (rd_sub64 h80 rfl rfl) ?_
    obtain ⟨x82, h83, q84⟩ := ob q81; clear q81
    refine t_rd rfl (rd_mul64 h83 rfl rfl) ?_
    obtain ⟨r85, h86, q87⟩ := ob q84; clear q84
    refine t_ef rfl (ef_call tf10 rfl (yardgen_Place_ok h86)) ?_
    rintro _ w89 ⟨e_, hm88⟩
    obtain rfl := e_.symm
    have hm90 := hm72.call hm88
    refine t_rd rfl (rd_assign rfl) ?_
    refine rwt_nil ?_
    refine qn_then ?_
    refine cw_seq ?_
    refine cw_region ?_
    refine t_rd rfl (rd_move rfl) ?_
    refine t_rd rfl (rd_move rfl) ?_
    obtain ⟨x91, h92, q93⟩ := ob q87; clear q87
    refine t_rd rfl (rd_add64 h92 rfl rfl) ?_
    refine t_rd rfl (rd_move rfl) ?_
    obtain ⟨x94, h95, q96⟩ := ob q93; clear q93
    refine t_rd rfl (rd_quo64 h95 rfl rfl) ?_
    obtain ⟨x97, h98, q99⟩ := ob q96; clear q96
    refine t_rd rfl (rd_add64 h98 rfl rfl) ?_
    obtain ⟨x100, h101, q102⟩ := ob q99; clear q99
    refine t_rd rfl (rd_index tS27 rfl rfl (hm90.sl 0 rfl) h101) ?_
    refine t_rd rfl (rd_ld1 tO5 rfl ((hm90.sl 0 rfl).cells h101) (off := 0) rfl) ?_
    refine t_rd rfl (rd_move rfl) ?_
    refine t_rd rfl (rd_rem rfl rfl (by decide)) ?_
    refine t_rd rfl (rd_cvu64 tH3 tI31 rfl) ?_
    obtain ⟨x103, h104, q105⟩ := ob q102; clear q102
    refine t_rd rfl (rd_shl_u8 h104 rfl rfl) ?_
    refine t_rd rfl (rd_xor8 rfl rfl) ?_
    obtain ⟨x106, h107, q108⟩ := ob q105; clear q105
    refine t_rd rfl (rd_index tS27 rfl rfl (hm90.sl 0 rfl) h107) ?_
    refine t_ef0 (ef_stl (k := 0) (off := 0) (x' := (x100 ^^^ x103)) hm90 tO5 rfl rfl rfl rfl h107 rfl rfl) ?_
    intro _ w110 hm109
    refine rwt_nil ?_
    refine qn_then ?_
    refine cw_seq ?_
    refine cw_region ?_
    refine t_rd rfl (rd_move rfl) ?_
    obtain ⟨r111, h112, q113⟩ := ob q108; clear q108
    refine t_ef rfl (ef_call tf11 rfl (journal_Records_ok h112 (hm109.sl_call 0 rfl))) ?_
    rintro _ w117 ⟨zs115, v114, e_, hm116⟩
    obtain rfl := e_.symm
    have hm118 := hm109.call hm116
    refine t_rd rfl (rd_move rfl) ?_
    refine t_rd rfl (rd_extract rfl rfl) ?_
    refine t_rd rfl (rd_extract rfl rfl) ?_
    refine t_rd rfl (rd_extract rfl rfl) ?_
    refine t_rd rfl (rd_assign rfl) ?_
    refine t_rd rfl (rd_assign rfl) ?_
    refine t_rd rfl (rd_assign rfl) ?_
    refine rwt_nil ?_
    refine qn_then ?_
    refine cw_seq ?_
    refine cw_region ?_
    refine t_rd rfl (rd_move rfl) ?_
    refine t_rd rfl (rd_eql rfl rfl) ?_
    refine t_rd rfl (rd_move rfl) ?_
    refine t_rdg rfl rfl rfl rfl (gv_t _) (fun hg119 => (rd_move rfl)) ?_
    refine t_rdg rfl rfl rfl rfl (gv_t _) (fun hg120 => (rd_move rfl)) ?_
    refine t_rdg rfl rfl rfl rfl (gv_t _) (fun hg121 => (rd_eql (gvx rfl hg121) (gvx rfl hg121))) ?_
    refine t_rd rfl (rd_and rfl (fun hc122 => (gvx rfl hc122))) ?_
    refine t_rd rfl (rd_move rfl) ?_
    refine t_rdg rfl rfl rfl rfl (gv_t _) (fun hg123 => (rd_move rfl)) ?_
    refine t_rdg rfl rfl rfl rfl (gv_t _) (fun hg124 => (rd_move rfl)) ?_
    refine t_rdg rfl rfl rfl rfl (gv_t _) (fun hg125 => (rd_move rfl)) ?_
    obtain ⟨l127, h128, q129⟩ := ob q113; clear q113
    refine t_rdg rfl rfl rfl rfl (gv_t _) (fun hg126 => (rd_slcH tS25 (gvx rfl hg126) (gvx rfl hg126) ((Nl.mk (hm118.sl_call 5 rfl) (hm118.rows_call 4 rfl)).sl) (gO_t h128 hg126))) ?_
    obtain ⟨r131, h132, q133⟩ := ob q129; clear q129
    refine t_efg rfl rfl rfl rfl (R := (fun v w' => v = gV (decide (r111.2.2 = 9) && decide (r111.2.1 = j57)) (Value.bool r131) ∧ Mem w117 No [] w')) (gv_t _) (fun hg130 => (ef_call tf12 (evc (gvx rfl hg130) (evc (gvx rfl hg130) evn)) (law43_same_ok (gO_t h132 hg130) ((Nl.mk (hm118.sl_call 0 rfl) (hm118.rows_call 1 rfl)).sl) (((Nl.mk (hm118.sl_call 5 rfl) (hm118.rows_call 4 rfl)).sub (gO_t h128 hg130)).sl))).mono (by rintro _ _ ⟨rfl, q⟩; exact ⟨(gV_t hg130).symm, q⟩)) (fun q => ⟨(gV_f q).symm, Mem.nil _⟩) ?_
    rintro _ w135 ⟨rfl, hm134⟩
    have hm136 := hm118.call hm134
    refine t_rd rfl (rd_and rfl (fun hc137 => (gvx rfl hc137))) ?_
    refine t_rd rfl (rd_move rfl) ?_
    obtain ⟨r139, h140, q141⟩ := ob q133; clear q133
    refine t_efg rfl rfl rfl rfl (R := (fun v w' => v = gV ((decide (r111.2.2 = 9) && decide (r111.2.1 = j57)) && r131) (Value.bool r139) ∧ Mem w135 No [] w')) (gv_t _) (fun hg138 => (ef_call tf13 rfl (law43_sane_ok (gO_t h140 hg138))).mono (by rintro _ _ ⟨rfl, q⟩; exact ⟨(gV_t hg138).symm, q⟩)) (fun q => ⟨(gV_f q).symm, Mem.nil _⟩) ?_
    rintro _ w143 ⟨rfl, hm142⟩
    have hm144 := hm136.call hm142
    refine t_rd rfl (rd_and rfl (fun hc145 => (gvx rfl hc145))) ?_
    refine t_rd rfl (rd_assign rfl) ?_
    refine rwt_nil ?_
    refine qn_then ?_
    refine cw_ret ?_
    obtain rfl := os q141
    exact ret1 rfl rfl ⟨rfl, (hm144.pick [] (by decide) rfl)⟩

theorem Maker_Spoil_ok {N : Nat} {a0_l : List Int} {a0_n : Int} {a1 : List UInt8} {res : Int × List UInt8} (h : Maker_Spoil N a0_l a0_n a1 = some res) {w : World} {v0_l : Value} {g0 : Nat} (hv0_l : Sl (Old w (fun k => k = g0)) w v0_l a0_l) (hk0 : (blk g0 49 [v0_l, (Value.int .i64 a0_n)]).φ w) :
    CallsR Try.prog 24 [(Value.pointer (some ⟨g0, 0, none⟩)), (Value.string (bs a1))] w (fun u w' => u = (Value.string (bs res.2)) ∧ Mem w (fun k => k = g0) [blk g0 49 [v0_l, (Value.int .i64 res.1)]] w') := by
  unfold Maker_Spoil at h
  refine fn_ok Try.func24 rfl rfl rfl ?_
  have hm0 := Mem.one hk0
  refine cw_seq ?_
  refine cw_region ?_
  refine t_rd rfl (rd_assign rfl) ?_
  refine rwt_nil ?_
  refine qn_then ?_
  refine cw_seq ?_
  refine cw_seq ?_
  refine cw_region ?_
  refine t_rd rfl (rd_move rfl) ?_
  refine t_rd rfl (rd_eqst (a := a1) (b := []) rfl rfl) ?_
  refine rwt_nil ?_
  refine qn_then ?_
  obtain ⟨hb130, q131⟩ | ⟨hb130, q131⟩ := oi h <;> clear h
  · refine cw_t rfl hb130 ?_
    refine cw_seq ?_
    refine cw_region ?_
    refine t_rd rfl (rd_move rfl) ?_
    obtain ⟨r132, h133, q134⟩ := ob q131; clear q131
    refine t_ef rfl (ef_call tf17 rfl (Maker_Next_ok h133 (hv0_l.to_callT (k := 0) hm0 rfl) (hm0.get (k := 0) rfl))) ?_
    rintro _ w136 ⟨e_, hm135⟩
    obtain rfl := e_.symm
    have hm137 := hm0.callT (k := 0) rfl (fun _ h => h) hm135 (fun _ => Iff.rfl)
    refine t_rd rfl (rd_cv8 tH3 tI5 rfl) ?_
    refine t_ef rfl (ef_bslice (l := ([(toU8 r132.2)] : List UInt8)) hm137 tS27 rfl (cs := #[(Value.int .u8 ((toU8 r132.2).toNat : Int))]) (by unfold bsl; kernel_rfl) rfl rfl) ?_
    intro v138 w140 hm139
    refine t_ef rfl (Rd.ef (rd_tostr tS27.1 tU5 tStr9 rfl (hm139.sl 0 rfl))) ?_
    rintro _ _ ⟨rfl, rfl⟩
    refine t_rd rfl (rd_assign rfl) ?_
    refine rwt_nil ?_
    refine qn_then ?_
    refine cw_ret ?_
    refine qr_then ?_
    obtain rfl := os q134
    exact ret1 rfl rfl ⟨rfl, (hm139.pick [1] (by decide) rfl)⟩
  · refine cw_f rfl hb130 ?_
    refine cw_skip ?_
    refine qn_then ?_
    refine cw_seq ?_
    refine cw_region ?_
    refine t_rd rfl (rd_move rfl) ?_
    refine t_rd rfl (rd_move rfl) ?_
    refine t_rd rfl (rd_lenst tStr9 rfl) ?_
    obtain ⟨r141, h142, q143⟩ := ob q131; clear q131
    refine t_ef rfl (ef_call tf17 rfl (Maker_Next_ok h142 (hv0_l.to_callT (k := 0) hm0 rfl) (hm0.get (k := 0) rfl))) ?_
    rintro _ w145 ⟨e_, hm144⟩
    obtain rfl := e_.symm
    have hm146 := hm0.callT (k := 0) rfl (fun _ h => h) hm144 (fun _ => Iff.rfl)
    refine t_rd rfl (rd_assign rfl) ?_
    refine rwt_nil ?_
    refine qn_then ?_
    refine cw_seq ?_
    refine cw_seq ?_
    refine cw_region ?_
    refine t_rd rfl (rd_move rfl) ?_
    obtain ⟨r147, h148, q149⟩ := ob q143; clear q143
    refine t_ef rfl (ef_call tf17 rfl (Maker_Next_ok h148 (hv0_l.to_callT (k := 0) hm146 rfl) (hm146.get (k := 0) rfl))) ?_
    rintro _ w151 ⟨e_, hm150⟩
    obtain rfl := e_.symm
    have hm152 := hm146.callT (k := 0) rfl (fun _ h => h) hm150 (fun _ => Iff.rfl)
    refine rwt_nil ?_
    refine qn_then ?_
    refine cw_block ?_
    refine cw_seq ?_
    refine cw_region ?_
    refine t_rd rfl (rd_eql rfl rfl) ?_
    refine t_rd rfl (rd_assign rfl) ?_
    refine rwt_nil ?_
    refine qn_then ?_
    obtain ⟨hb153, q154⟩ | ⟨hb153, q154⟩ := oi q149 <;> clear q149
    · refine cw_t rfl hb153 ?_
      refine cw_seq ?_
      obtain ⟨w156, he158⟩ : ∃ q, q = w151.drew := ⟨_, rfl⟩
      have hm157 := hm152.drew; rw [← he158] at hm157
      refine cw_region_s (fun q => q = w156) (cls [] []) mixed ?_
      rintro _ rfl; rw [← he158]
      refine s_rp (i := 0) rfl (by kernel_rfl) rfl (fun _ => (rd_move rfl)) ?_
      refine s_rp (i := 1) rfl (by kernel_rfl) rfl (fun _ => (rd_move rfl)) ?_
      obtain ⟨l159, h160, q161⟩ := ob q154; clear q154
      refine s_rp (i := 2) rfl (by kernel_rfl) rfl (fun _ => (rd_sstH tStr9 rfl rfl h160)) ?_
      refine s_rp (i := 3) rfl (by kernel_rfl) rfl (fun _ => (rd_move rfl)) ?_
      refine s_rp (i := 4) rfl (by kernel_rfl) rfl (fun _ => (rd_move rfl)) ?_
      obtain ⟨x162, h163, q164⟩ := ob q161; clear q161
      refine s_rp (i := 5) rfl (by kernel_rfl) rfl (fun _ => (rd_add64 h163 rfl rfl)) ?_
      obtain ⟨l165, h166, q167⟩ := ob q164; clear q164
      refine s_rp (i := 6) rfl (by kernel_rfl) rfl (fun _ => (rd_sstL tStr9 rfl rfl h166)) ?_
      obtain ⟨l168, h169, q170⟩ := ob q167; clear q167
      refine s_rp (i := 7) rfl (by kernel_rfl) rfl (fun _ => (rd_cat h169 rfl rfl)) ?_
      refine s_rp (i := 8) rfl (by kernel_rfl) rfl (fun _ => (rd_assign rfl)) ?_
      refine s_nil (by kernel_rfl) ?_
      refine qn_then ?_
      refine cw_ret ?_
      refine qr_block (qr_then ?_)
      obtain rfl := os q170
      exact ret1 rfl rfl ⟨rfl, (hm157.pick [0] (by decide) rfl)⟩
    · refine cw_f rfl hb153 ?_
      refine cw_seq ?_
      refine cw_region ?_
      refine t_rd rfl (rd_eql rfl rfl) ?_
      refine t_rd rfl (rd_assign rfl) ?_
      refine rwt_nil ?_
      refine qn_then ?_
      obtain ⟨hb171, q172⟩ | ⟨hb171, q172⟩ := oi q154 <;> clear q154
      · refine cw_t rfl hb171 ?_
        refine cw_seq ?_
        obtain ⟨w174, he176⟩ : ∃ q, q = w151.drew := ⟨_, rfl⟩
        have hm175 := hm152.drew; rw [← he176] at hm175
        refine cw_region_s (fun q => q = w174) (cls [] [4, 6, 7]) mixed ?_
        rintro _ rfl; rw [← he176]
        refine s_rp (i := 0) rfl (by kernel_rfl) rfl (fun _ => (rd_move rfl)) ?_
        refine s_rp (i := 1) rfl (by kernel_rfl) rfl (fun _ => (rd_move rfl)) ?_
        obtain ⟨l177, h178, q179⟩ := ob q172; clear q172
        refine s_rp (i := 2) rfl (by kernel_rfl) rfl (fun _ => (rd_sstH tStr9 rfl rfl h178)) ?_
        refine s_rp (i := 3) rfl (by kernel_rfl) rfl (fun _ => (rd_move rfl)) ?_
        refine s_rp (i := 9) rfl (by kernel_rfl) rfl (fun _ => (rd_move rfl)) ?_
        refine s_rp (i := 10) rfl (by kernel_rfl) rfl (fun _ => (rd_move rfl)) ?_
        obtain ⟨l180, h181, q182⟩ := ob q179; clear q179
        refine s_rp (i := 11) rfl (by kernel_rfl) rfl (fun _ => (rd_sstL tStr9 rfl rfl h181)) ?_
        obtain ⟨r183, h184, q185⟩ := ob q182; clear q182
        refine s_ef (i := 4) rfl (by kernel_rfl) rfl (ef_call tf17 rfl (Maker_Next_ok h184 (hv0_l.to_callT (k := 0) hm175 rfl) (hm175.get (k := 0) rfl))) (by decide) (fun _ _ _ q => absurd q (by decide)) ?_
        rintro _ w187 ⟨e_, hm186⟩
        obtain rfl := e_.symm
        have hm188 := hm175.callT (k := 0) rfl (fun _ h => h) hm186 (fun _ => Iff.rfl)
        refine s_rp (i := 5) rfl (by kernel_rfl) rfl (fun _ => (rd_cv8 tH3 tI5 rfl)) ?_
        refine s_ef (i := 6) rfl (by kernel_rfl) rfl (ef_bslice (l := ([(toU8 r183.2)] : List UInt8)) hm188 tS27 rfl (cs := #[(Value.int .u8 ((toU8 r183.2).toNat : Int))]) (by unfold bsl; kernel_rfl) rfl rfl) (by decide) (fun _ _ _ q => absurd q (by decide)) ?_
        intro v189 w191 hm190
        refine s_ef (i := 7) rfl (by kernel_rfl) rfl (Rd.ef (rd_tostr tS27.1 tU5 tStr9 rfl (hm190.sl 0 rfl))) (by decide) (fun _ _ _ q => absurd q (by decide)) ?_
        rintro _ _ ⟨rfl, rfl⟩
        obtain ⟨l192, h193, q194⟩ := ob q185; clear q185
        refine s_rp (i := 8) rfl (by kernel_rfl) rfl (fun _ => (rd_cat h193 rfl rfl)) ?_
        obtain ⟨l195, h196, q197⟩ := ob q194; clear q194
        refine s_rp (i := 12) rfl (by kernel_rfl) rfl (fun _ => (rd_cat h196 rfl rfl)) ?_
        refine s_rp (i := 13) rfl (by kernel_rfl) rfl (fun _ => (rd_assign rfl)) ?_
        refine s_nil (by kernel_rfl) ?_
        refine qn_then ?_
        refine cw_ret ?_
        refine qr_block (qr_then ?_)
        obtain rfl := os q197
        exact ret1 rfl rfl ⟨rfl, (hm190.pick [1] (by decide) rfl)⟩
      · refine cw_f rfl hb171 ?_
        refine cw_seq ?_
        refine cw_region ?_
        refine t_rd rfl (rd_eql rfl rfl) ?_
        refine t_rd rfl (rd_assign rfl) ?_
        refine rwt_nil ?_
        refine qn_then ?_
        obtain ⟨hb198, q199⟩ | ⟨hb198, q199⟩ := oi q172 <;> clear q172
        · refine cw_t rfl hb198 ?_
          refine cw_seq ?_
          obtain ⟨w201, he203⟩ : ∃ q, q = w151.drew := ⟨_, rfl⟩
          have hm202 := hm152.drew; rw [← he203] at hm202
          refine cw_region_s (fun q => q = w201) (cls [] [4, 7, 8]) mixed ?_
          rintro _ rfl; rw [← he203]
          refine s_rp (i := 0) rfl (by kernel_rfl) rfl (fun _ => (rd_move rfl)) ?_
          refine s_rp (i := 1) rfl (by kernel_rfl) rfl (fun _ => (rd_move rfl)) ?_
          obtain ⟨l204, h205, q206⟩ := ob q199; clear q199
          refine s_rp (i := 2) rfl (by kernel_rfl) rfl (fun _ => (rd_sstH tStr9 rfl rfl h205)) ?_
          refine s_rp (i := 3) rfl (by kernel_rfl) rfl (fun _ => (rd_move rfl)) ?_
          refine s_rp (i := 10) rfl (by kernel_rfl) rfl (fun _ => (rd_move rfl)) ?_
          refine s_rp (i := 11) rfl (by kernel_rfl) rfl (fun _ => (rd_move rfl)) ?_
          obtain ⟨x207, h208, q209⟩ := ob q206; clear q206
          refine s_rp (i := 12) rfl (by kernel_rfl) rfl (fun _ => (rd_add64 h208 rfl rfl)) ?_
          obtain ⟨l210, h211, q212⟩ := ob q209; clear q209
          refine s_rp (i := 13) rfl (by kernel_rfl) rfl (fun _ => (rd_sstL tStr9 rfl rfl h211)) ?_
          obtain ⟨r213, h214, q215⟩ := ob q212; clear q212
          refine s_ef (i := 4) rfl (by kernel_rfl) rfl (ef_call tf17 rfl (Maker_Next_ok h214 (hv0_l.to_callT (k := 0) hm202 rfl) (hm202.get (k := 0) rfl))) (by decide) (fun _ _ _ q => absurd q (by decide)) ?_
          rintro _ w217 ⟨e_, hm216⟩
          obtain rfl := e_.symm
          have hm218 := hm202.callT (k := 0) rfl (fun _ h => h) hm216 (fun _ => Iff.rfl)
          obtain ⟨x219, h220, q221⟩ := ob q215; clear q215
          refine s_rp (i := 5) rfl (by kernel_rfl) rfl (fun _ => (rd_add64 h220 rfl rfl)) ?_
          refine s_rp (i := 6) rfl (by kernel_rfl) rfl (fun _ => (rd_cv8 tH3 tI5 rfl)) ?_
          refine s_ef (i := 7) rfl (by kernel_rfl) rfl (ef_bslice (l := ([(toU8 x219)] : List UInt8)) hm218 tS27 rfl (cs := #[(Value.int .u8 ((toU8 x219).toNat : Int))]) (by unfold bsl; kernel_rfl) rfl rfl) (by decide) (fun _ _ _ q => absurd q (by decide)) ?_
          intro v222 w224 hm223
          refine s_ef (i := 8) rfl (by kernel_rfl) rfl (Rd.ef (rd_tostr tS27.1 tU5 tStr9 rfl (hm223.sl 0 rfl))) (by decide) (fun _ _ _ q => absurd q (by decide)) ?_
          rintro _ _ ⟨rfl, rfl⟩
          obtain ⟨l225, h226, q227⟩ := ob q221; clear q221
          refine s_rp (i := 9) rfl (by kernel_rfl) rfl (fun _ => (rd_cat h226 rfl rfl)) ?_
          obtain ⟨l228, h229, q230⟩ := ob q227; clear q227
          refine s_rp (i := 14) rfl (by kernel_rfl) rfl (fun _ => (rd_cat h229 rfl rfl)) ?_
          refine s_rp (i := 15) rfl (by kernel_rfl) rfl (fun _ => (rd_assign rfl)) ?_
          refine s_nil (by kernel_rfl) ?_
          refine qn_then ?_
          refine cw_ret ?_
          refine qr_block (qr_then ?_)
          obtain rfl := os q230
          exact ret1 rfl rfl ⟨rfl, (hm223.pick [1] (by decide) rfl)⟩
        · refine cw_f rfl hb198 ?_
          refine cw_skip ?_
          refine qn_block (qn_then ?_)
          refine cw_seq ?_
          obtain ⟨w232, he234⟩ : ∃ q, q = w151.drew := ⟨_, rfl⟩
          have hm233 := hm152.drew; rw [← he234] at hm233
          refine cw_region_s (fun q => q = w232) (cls [] [4, 6, 7]) mixed ?_
          rintro _ rfl; rw [← he234]
          refine s_rp (i := 0) rfl (by kernel_rfl) rfl (fun _ => (rd_move rfl)) ?_
          refine s_rp (i := 1) rfl (by kernel_rfl) rfl (fun _ => (rd_move rfl)) ?_
          obtain ⟨l235, h236, q237⟩ := ob q199; clear q199
          refine s_rp (i := 2) rfl (by kernel_rfl) rfl (fun _ => (rd_sstH tStr9 rfl rfl h236)) ?_
          refine s_rp (i := 3) rfl (by kernel_rfl) rfl (fun _ => (rd_move rfl)) ?_
          refine s_rp (i := 9) rfl (by kernel_rfl) rfl (fun _ => (rd_move rfl)) ?_
          refine s_rp (i := 10) rfl (by kernel_rfl) rfl (fun _ => (rd_move rfl)) ?_
          obtain ⟨x238, h239, q240⟩ := ob q237; clear q237
          refine s_rp (i := 11) rfl (by kernel_rfl) rfl (fun _ => (rd_add64 h239 rfl rfl)) ?_
          obtain ⟨l241, h242, q243⟩ := ob q240; clear q240
          refine s_rp (i := 12) rfl (by kernel_rfl) rfl (fun _ => (rd_sstL tStr9 rfl rfl h242)) ?_
          obtain ⟨r244, h245, q246⟩ := ob q243; clear q243
          refine s_ef (i := 4) rfl (by kernel_rfl) rfl (ef_call tf17 rfl (Maker_Next_ok h245 (hv0_l.to_callT (k := 0) hm233 rfl) (hm233.get (k := 0) rfl))) (by decide) (fun _ _ _ q => absurd q (by decide)) ?_
          rintro _ w248 ⟨e_, hm247⟩
          obtain rfl := e_.symm
          have hm249 := hm233.callT (k := 0) rfl (fun _ h => h) hm247 (fun _ => Iff.rfl)
          refine s_rp (i := 5) rfl (by kernel_rfl) rfl (fun _ => (rd_cv8 tH3 tI5 rfl)) ?_
          refine s_ef (i := 6) rfl (by kernel_rfl) rfl (ef_bslice (l := ([(toU8 r244.2)] : List UInt8)) hm249 tS27 rfl (cs := #[(Value.int .u8 ((toU8 r244.2).toNat : Int))]) (by unfold bsl; kernel_rfl) rfl rfl) (by decide) (fun _ _ _ q => absurd q (by decide)) ?_
          intro v250 w252 hm251
          refine s_ef (i := 7) rfl (by kernel_rfl) rfl (Rd.ef (rd_tostr tS27.1 tU5 tStr9 rfl (hm251.sl 0 rfl))) (by decide) (fun _ _ _ q => absurd q (by decide)) ?_
          rintro _ _ ⟨rfl, rfl⟩
          obtain ⟨l253, h254, q255⟩ := ob q246; clear q246
          refine s_rp (i := 8) rfl (by kernel_rfl) rfl (fun _ => (rd_cat h254 rfl rfl)) ?_
          obtain ⟨l256, h257, q258⟩ := ob q255; clear q255
          refine s_rp (i := 13) rfl (by kernel_rfl) rfl (fun _ => (rd_cat h257 rfl rfl)) ?_
          refine s_rp (i := 14) rfl (by kernel_rfl) rfl (fun _ => (rd_assign rfl)) ?_
          refine s_nil (by kernel_rfl) ?_
          refine qn_then ?_
          refine cw_ret ?_
          obtain rfl := os q258
          exact ret1 rfl rfl ⟨rfl, (hm251.pick [1] (by decide) rfl)⟩

theorem Maker_SpoilBytes_ok {N : Nat} {a0_l : List Int} {a0_n : Int} {a1 : List UInt8} {res : Int × List UInt8} (h : Maker_SpoilBytes N a0_l a0_n a1 = some res) {w : World} {v0_l : Value} {g0 : Nat} {v1 : Value} (hv0_l : Sl (Old w (fun k => k = g0)) w v0_l a0_l) (hk0 : (blk g0 49 [v0_l, (Value.int .i64 a0_n)]).φ w) (hv1 : Sl (Old w (fun k => k = g0)) w v1 a1) :
    CallsR Try.prog 14 [(Value.pointer (some ⟨g0, 0, none⟩)), v1] w (fun u w' => ∃ (y0 : Value), u = y0 ∧ Mem w (fun k => k = g0) [blk g0 49 [v0_l, (Value.int .i64 res.1)], ownZ 5 y0 (res.2 : List UInt8)] w') := by
  unfold Maker_SpoilBytes at h
  refine fn_ok Try.func14 rfl rfl rfl ?_
  have hm0 := Mem.one hk0
  refine cw_seq ?_
  refine cw_region ?_
  refine t_rd rfl (rd_assign rfl) ?_
  refine rwt_nil ?_
  refine qn_then ?_
  refine cw_seq ?_
  refine cw_region ?_
  refine t_rd rfl (rd_move rfl) ?_
  refine t_rd rfl (rd_move rfl) ?_
  refine t_ef rfl (Rd.ef (rd_tostr tS27.1 tU5 tStr9 rfl (hv1.of_old hm0))) ?_
  rintro _ _ ⟨rfl, rfl⟩
  obtain ⟨r13, h14, q15⟩ := ob h; clear h
  refine t_ef rfl (ef_call tf24 rfl (Maker_Spoil_ok h14 (hv0_l.to_callT (k := 0) hm0 rfl) (hm0.get (k := 0) rfl))) ?_
  rintro _ w17 ⟨e_, hm16⟩
  obtain rfl := e_.symm
  have hm18 := hm0.callT (k := 0) rfl (fun _ h => h) hm16 (fun _ => Iff.rfl)
  obtain ⟨l19, h20, q21⟩ := ob q15; clear q15
  refine t_ef rfl (ef_bytes hm18 tStr9 tS27.1 tU5 rfl h20) ?_
  intro v22 w24 hm23
  refine t_rd rfl (rd_assign rfl) ?_
  refine rwt_nil ?_
  refine qn_then ?_
  refine cw_ret ?_
  obtain rfl := os q21
  exact ret1 rfl rfl ⟨v22, rfl, (hm23.pick [1, 0] (by decide) rfl)⟩

theorem r43_Records_ok {N : Nat} {a0 : List UInt8} {res : List (List UInt8) × Int × Int} (h : r43_Records N a0 = some res) {w : World} {v0 : Value} (hv0 : Sl (Old w No) w v0 a0) :
    CallsR Try.prog 25 [v0] w (fun u w' => ∃ (zy0 : List Hdr) (y1 : Value), u = (Value.tuple #[y1, (Value.int .i64 res.2.1), (Value.int .i64 res.2.2)]) ∧ Mem w No [ownL 27 y1 (zy0 : List Hdr), rowsC 5 zy0 (res.1 : List (List UInt8)) none] w') := by
  unfold r43_Records at h
  refine fn_ok Try.func25 rfl rfl rfl ?_
  have hm0 := Mem.nil w
  refine cw_seq ?_
  refine cw_region ?_
  refine t_rd rfl (rd_assign rfl) ?_
  refine t_rd rfl (rd_assign rfl) ?_
  refine t_rd rfl (rd_assign rfl) ?_
  refine rwt_nil ?_
  refine qn_then ?_
  refine cw_seq ?_
  refine cw_region ?_
  refine t_rd rfl (rd_assign rfl) ?_
  refine rwt_nil ?_
  refine qn_then ?_
  refine cw_seq ?_
  refine cw_region ?_
  refine t_rd rfl (rd_assign rfl) ?_
  refine rwt_nil ?_
  refine qn_then ?_
  refine cw_seq ?_
  refine cw_block ?_
  have hm187 := hm0.addNil (α := Hdr) 27
  have hm188 := hm187.rowsNil (α := UInt8) 5
  obtain ⟨r576, hit577, q578⟩ := ob h; clear h
  refine cw_loop2 (I := fun q envq wq => ∃ (v568 : Value) (zs569 : List Hdr), Sub [(0, v0), (5, v568), (6, (Value.int .i64 q.1))] envq ∧ Mem w No [rowsC 5 zs569 (q.2 : List (List UInt8)) none, ownL 27 v568 (zs569 : List Hdr)] wq) (X := fun eq envq wq => (∃ p579, r576 = (Sum.inl p579) ∧ eq = .ret ∧ retQ Try.prog 88 Try.f25 (fun u w' => ∃ (zy0 : List Hdr) (y1 : Value), u = (Value.tuple #[y1, (Value.int .i64 p579.2.1), (Value.int .i64 p579.2.2)]) ∧ Mem w No [ownL 27 y1 (zy0 : List Hdr), rowsC 5 zy0 (p579.1 : List (List UInt8)) none] w') .ret envq wq) ∨ (∃ p580, r576 = (Sum.inr p580) ∧ eq = .exit 0 ∧ ∃ (v564 : Value) (zs565 : List Hdr), Sub [(5, v564), (6, (Value.int .i64 p580.1))] envq ∧ Mem w No [rowsC 5 zs565 (p580.2 : List (List UInt8)) none, ownL 27 v564 (zs565 : List Hdr)] wq)) hit577 ⟨(Value.slice none 0 0), [], (by repeat (first | exact Sub.nil _ | refine Sub.cons rfl ?_)), (hm188.pick [0, 1] (by decide) rfl)⟩ ?_ ?_
  · rintro ⟨i566, l567⟩ x571 env572 w573 hf574 hr575 ⟨v568, zs569, hs_, hm_⟩
    have hs_ : Sub [(0, v0), (5, v568), (6, (Value.int .i64 i566))] env572 := hs_
    have hm581 : Mem w No [rowsC 5 zs569 (l567 : List (List UInt8)) none, ownL 27 v568 (zs569 : List Hdr)] w573 := hm_
    refine cw_sub hs_ ?_
    clear hs_ hm_ q578
    have h : r43_Records_l1 N a0 i566 l567 = some x571 := hf574
    clear hf574
    refine cw_seq ?_
    refine cw_seq ?_
    refine cw_region ?_
    refine t_rd rfl (rd_move rfl) ?_
    refine t_rd rfl (rd_lenS tS27 rfl (hv0.of_old hm581)) ?_
    refine t_rd rfl (rd_move rfl) ?_
    obtain ⟨x582, h583, q584⟩ := ob h; clear h
    refine t_rd rfl (rd_sub64 h583 rfl rfl) ?_
    refine t_rd rfl (rd_geq rfl rfl) ?_
    refine rwt_nil ?_
    refine qn_then ?_
    obtain ⟨hb585, q586⟩ | ⟨hb585, q586⟩ := oi q584 <;> clear q584
    · refine cw_t rfl hb585 ?_
      refine cw_skip ?_
      refine qn_then ?_
      refine cw_block ?_
      refine cw_seq ?_
      obtain ⟨w588, he590⟩ : ∃ q, q = w573.drew := ⟨_, rfl⟩
      have hm589 := hm581.drew; rw [← he590] at hm589
      refine cw_region_s (fun q => q = w588) (cls [] []) mixed ?_
      rintro _ rfl; rw [← he590]
      refine s_rp (i := 0) rfl (by kernel_rfl) rfl (fun _ => (rd_move rfl)) ?_
      refine s_rp (i := 1) rfl (by kernel_rfl) rfl (fun _ => (rd_move rfl)) ?_
      obtain ⟨x591, h592, q593⟩ := ob q586; clear q586
      refine s_rp (i := 2) rfl (by kernel_rfl) rfl (fun _ => (rd_index tS27 rfl rfl (hv0.of_old hm589) h592)) ?_
      refine s_rd (i := 3) rfl (by kernel_rfl) rfl (fun _ hS => by rw [hS]; exact (rd_ld1 tO5 rfl ((hv0.of_old hm589).cells h592) (off := 0) rfl)) rfl ?_
      obtain ⟨x594, h595, q596⟩ := ob q593; clear q593
      refine s_rp (i := 4) rfl (by kernel_rfl) rfl (fun _ => (rd_cv64 tH5 tI3 h595 rfl)) ?_
      obtain ⟨x597, h598, q599⟩ := ob q596; clear q596
      refine s_rp (i := 5) rfl (by kernel_rfl) rfl (fun _ => (rd_shl_i64 h598 rfl rfl)) ?_
      refine s_rp (i := 6) rfl (by kernel_rfl) rfl (fun _ => (rd_move rfl)) ?_
      refine s_rp (i := 7) rfl (by kernel_rfl) rfl (fun _ => (rd_move rfl)) ?_
      obtain ⟨x600, h601, q602⟩ := ob q599; clear q599
      refine s_rp (i := 8) rfl (by kernel_rfl) rfl (fun _ => (rd_add64 h601 rfl rfl)) ?_
      obtain ⟨x603, h604, q605⟩ := ob q602; clear q602
      refine s_rp (i := 9) rfl (by kernel_rfl) rfl (fun _ => (rd_index tS27 rfl rfl (hv0.of_old hm589) h604)) ?_
      refine s_rd (i := 10) rfl (by kernel_rfl) rfl (fun _ hS => by rw [hS]; exact (rd_ld1 tO5 rfl ((hv0.of_old hm589).cells h604) (off := 0) rfl)) rfl ?_
      obtain ⟨x606, h607, q608⟩ := ob q605; clear q605
      refine s_rp (i := 11) rfl (by kernel_rfl) rfl (fun _ => (rd_cv64 tH5 tI3 h607 rfl)) ?_
      obtain ⟨x609, h610, q611⟩ := ob q608; clear q608
      refine s_rp (i := 12) rfl (by kernel_rfl) rfl (fun _ => (rd_bits_or_i64 h610 rfl rfl)) ?_
      refine s_rp (i := 13) rfl (by kernel_rfl) rfl (fun _ => (rd_assign rfl)) ?_
      refine s_nil (by kernel_rfl) ?_
      refine qn_then ?_
      refine cw_seq ?_
      refine cw_seq ?_
      refine cw_region ?_
      refine t_rd rfl (rd_move rfl) ?_
      refine t_rd rfl (rd_gtr rfl rfl) ?_
      refine rwt_nil ?_
      refine qn_then ?_
      obtain ⟨hb612, q613⟩ | ⟨hb612, q613⟩ := oi q611 <;> clear q611
      · refine cw_t rfl hb612 ?_
        refine cw_seq ?_
        refine cw_region ?_
        refine t_rd rfl (rd_move rfl) ?_
        refine t_rd rfl (rd_move rfl) ?_
        refine t_rd rfl (rd_assign rfl) ?_
        refine t_rd rfl (rd_assign rfl) ?_
        refine t_rd rfl (rd_assign rfl) ?_
        refine rwt_nil ?_
        refine qn_then ?_
        refine cw_ret ?_
        refine qr_then (qr_block (qr_then ?_))
        obtain rfl := hr575 _ (os q613)
        refine .inl (⟨_, rfl, ⟨rfl, ?_⟩⟩)
        exact ret3 rfl rfl rfl rfl ⟨zs569, v568, rfl, (hm589.pick [1, 0] (by decide) rfl)⟩
      · refine cw_f rfl hb612 ?_
        refine cw_skip ?_
        refine qn_then ?_
        refine cw_seq ?_
        refine cw_seq ?_
        refine cw_region ?_
        refine t_rd rfl (rd_move rfl) ?_
        refine t_rd rfl (rd_lenS tS27 rfl (hv0.of_old hm589)) ?_
        refine t_rd rfl (rd_move rfl) ?_
        obtain ⟨x614, h615, q616⟩ := ob q613; clear q613
        refine t_rd rfl (rd_sub64 h615 rfl rfl) ?_
        obtain ⟨x617, h618, q619⟩ := ob q616; clear q616
        refine t_rd rfl (rd_sub64 h618 rfl rfl) ?_
        refine t_rd rfl (rd_move rfl) ?_
        refine t_rd rfl (rd_lss rfl rfl) ?_
        refine rwt_nil ?_
        refine qn_then ?_
        obtain ⟨hb620, q621⟩ | ⟨hb620, q621⟩ := oi q619 <;> clear q619
        · refine cw_t rfl hb620 ?_
          refine cw_exit ?_
          refine qx_then (qx_other rfl (qx_then ?_))
          obtain rfl := hr575 _ (os q621)
          exact .inr (⟨_, rfl, ⟨rfl, v568, zs569, (by repeat (first | exact Sub.nil _ | refine Sub.cons rfl ?_)), (hm589.pick [0, 1] (by decide) rfl)⟩⟩)
        · refine cw_f rfl hb620 ?_
          refine cw_skip ?_
          refine qn_then ?_
          refine cw_seq ?_
          refine cw_region ?_
          refine t_ef rfl (ef_bslice0 (α := UInt8) hm589 tS27) ?_
          intro v622 w624 hm623
          refine t_rd rfl (rd_move rfl) ?_
          refine t_rd rfl (rd_move rfl) ?_
          obtain ⟨x625, h626, q627⟩ := ob q621; clear q621
          refine t_rd rfl (rd_add64 h626 rfl rfl) ?_
          refine t_rd rfl (rd_move rfl) ?_
          obtain ⟨x628, h629, q630⟩ := ob q627; clear q627
          refine t_rd rfl (rd_add64 h629 rfl rfl) ?_
          refine t_rd rfl (rd_move rfl) ?_
          obtain ⟨x631, h632, q633⟩ := ob q630; clear q630
          refine t_rd rfl (rd_add64 h632 rfl rfl) ?_
          obtain ⟨l634, h635, q636⟩ := ob q633; clear q633
          refine t_rd rfl (rd_slcLH tS27 rfl rfl rfl (hv0.of_old hm623) h635) ?_
          obtain ⟨l637, h638, q639⟩ := ob q636; clear q636
          refine t_ef rfl (ef_append (k := 0) hm623 tS27 tE5 rfl rfl rfl rfl ((hv0.of_old hm623).sub h635) h638) ?_
          intro v640 w642 hm641
          refine t_rd rfl (rd_assign rfl) ?_
          refine rwt_nil ?_
          refine qn_then ?_
          refine cw_seq ?_
          refine cw_seq ?_
          obtain ⟨w644, he646⟩ : ∃ q, q = w642.drew := ⟨_, rfl⟩
          have hm645 := hm641.drew; rw [← he646] at hm645
          refine cw_region_s (fun q => Sl (Old w No) q v0 a0) (cls [9, 11, 12] []) mixed ?_
          rintro _ rfl; rw [← he646]
          refine s_rp (i := 0) rfl (by kernel_rfl) rfl (fun _ => (rd_move rfl)) ?_
          refine s_rp (i := 1) rfl (by kernel_rfl) rfl (fun _ => (rd_move rfl)) ?_
          obtain ⟨x695, h696, q697⟩ := ob q639; clear q639
          refine s_rp (i := 2) rfl (by kernel_rfl) rfl (fun _ => (rd_index tS27 rfl rfl (hv0.of_old hm645) h696)) ?_
          refine s_rd (i := 3) rfl (by kernel_rfl) rfl (fun w643 hS => (rd_ld1 tO5 rfl (hS.cells h696) (off := 0) rfl)) (hv0.of_old hm645) ?_
          refine s_rp (i := 4) rfl (by kernel_rfl) rfl (fun _ => (rd_move rfl)) ?_
          refine s_rp (i := 5) rfl (by kernel_rfl) rfl (fun _ => (rd_move rfl)) ?_
          obtain ⟨x698, h699, q700⟩ := ob q697; clear q697
          refine s_rp (i := 6) rfl (by kernel_rfl) rfl (fun _ => (rd_add64 h699 rfl rfl)) ?_
          obtain ⟨x701, h702, q703⟩ := ob q700; clear q700
          refine s_rp (i := 7) rfl (by kernel_rfl) rfl (fun _ => (rd_index tS27 rfl rfl (hv0.of_old hm645) h702)) ?_
          refine s_rd (i := 8) rfl (by kernel_rfl) rfl (fun w643 hS => (rd_ld1 tO5 rfl (hS.cells h702) (off := 0) rfl)) (hv0.of_old hm645) ?_
          refine s_rp (i := 10) rfl (by kernel_rfl) rfl (fun _ => (rd_move rfl)) ?_
          refine s_rp (i := 13) rfl (by kernel_rfl) rfl (fun _ => (rd_move rfl)) ?_
          refine s_rp (i := 14) rfl (by kernel_rfl) rfl (fun _ => (rd_move rfl)) ?_
          obtain ⟨x704, h705, q706⟩ := ob q703; clear q703
          refine s_rp (i := 15) rfl (by kernel_rfl) rfl (fun _ => (rd_add64 h705 rfl rfl)) ?_
          obtain ⟨x707, h708, q709⟩ := ob q706; clear q706
          refine s_rp (i := 16) rfl (by kernel_rfl) rfl (fun _ => (rd_index tS27 rfl rfl (hv0.of_old hm645) h708)) ?_
          refine s_rd (i := 17) rfl (by kernel_rfl) rfl (fun w643 hS => (rd_ld1 tO5 rfl (hS.cells h708) (off := 0) rfl)) (hv0.of_old hm645) ?_
          obtain ⟨x710, h711, q712⟩ := ob q709; clear q709
          refine s_rp (i := 18) rfl (by kernel_rfl) rfl (fun _ => (rd_cv64 tH5 tI3 h711 rfl)) ?_
          obtain ⟨x713, h714, q715⟩ := ob q712; clear q712
          refine s_rp (i := 19) rfl (by kernel_rfl) rfl (fun _ => (rd_shl_i64 h714 rfl rfl)) ?_
          refine s_rp (i := 20) rfl (by kernel_rfl) rfl (fun _ => (rd_move rfl)) ?_
          refine s_rp (i := 21) rfl (by kernel_rfl) rfl (fun _ => (rd_move rfl)) ?_
          obtain ⟨x716, h717, q718⟩ := ob q715; clear q715
          refine s_rp (i := 22) rfl (by kernel_rfl) rfl (fun _ => (rd_add64 h717 rfl rfl)) ?_
          obtain ⟨x719, h720, q721⟩ := ob q718; clear q718
          refine s_rp (i := 23) rfl (by kernel_rfl) rfl (fun _ => (rd_index tS27 rfl rfl (hv0.of_old hm645) h720)) ?_
          refine s_rd (i := 24) rfl (by kernel_rfl) rfl (fun w643 hS => (rd_ld1 tO5 rfl (hS.cells h720) (off := 0) rfl)) (hv0.of_old hm645) ?_
          obtain ⟨x722, h723, q724⟩ := ob q721; clear q721
          refine s_rp (i := 25) rfl (by kernel_rfl) rfl (fun _ => (rd_cv64 tH5 tI3 h723 rfl)) ?_
          obtain ⟨x725, h726, q727⟩ := ob q724; clear q724
          refine s_rp (i := 26) rfl (by kernel_rfl) rfl (fun _ => (rd_bits_or_i64 h726 rfl rfl)) ?_
          refine s_ef (i := 9) rfl (by kernel_rfl) rfl (ef_bslice (l := ([x695, x701] : List UInt8)) hm645 tS27 rfl (cs := #[(Value.int .u8 (x695.toNat : Int)), (Value.int .u8 (x701.toNat : Int))]) (by unfold bsl; kernel_rfl) rfl rfl) (by decide) ?_ ?_
          · intro v728 w730 hm729
            intro _
            exact (hv0.of_old hm729)
          intro v728 w730 hm729
          obtain ⟨l731, h732, q733⟩ := ob q727; clear q727
          refine s_ef (i := 11) rfl (by kernel_rfl) rfl (ef_append (k := 0) hm729 tS27 tE5 rfl rfl rfl rfl (hm729.sl 1 rfl) h732) (by decide) ?_ ?_
          · intro v734 w736 hm735
            intro _
            exact (hv0.of_old hm735)
          intro v734 w736 hm735
          obtain ⟨r737, h738, q739⟩ := ob q733; clear q733
          refine s_ef (i := 12) rfl (by kernel_rfl) rfl (ef_call tf27 rfl (r43_Check_ok h738 (hm735.sl_call 0 rfl))) (by decide) ?_ ?_
          · rintro _ w741 ⟨e_, hm740⟩
            obtain rfl := e_.symm
            have hm742 := hm735.call hm740
            intro _
            exact (hv0.of_old hm742)
          rintro _ w741 ⟨e_, hm740⟩
          obtain rfl := e_.symm
          have hm742 := hm735.call hm740
          refine s_rp (i := 27) rfl (by kernel_rfl) rfl (fun _ => (rd_neq rfl rfl)) ?_
          refine s_nil (by kernel_rfl) ?_
          refine qn_then ?_
          obtain ⟨hb743, q744⟩ | ⟨hb743, q744⟩ := oi q739 <;> clear q739
          · refine cw_t rfl hb743 ?_
            refine cw_seq ?_
            refine cw_region ?_
            refine t_rd rfl (rd_move rfl) ?_
            refine t_rd rfl (rd_move rfl) ?_
            refine t_rd rfl (rd_assign rfl) ?_
            refine t_rd rfl (rd_assign rfl) ?_
            refine t_rd rfl (rd_assign rfl) ?_
            refine rwt_nil ?_
            refine qn_then ?_
            refine cw_ret ?_
            refine qr_then (qr_block (qr_then ?_))
            obtain rfl := hr575 _ (os q744)
            refine .inl (⟨_, rfl, ⟨rfl, ?_⟩⟩)
            exact ret3 rfl rfl rfl rfl ⟨zs569, v568, rfl, (hm742.pick [3, 2] (by decide) rfl)⟩
          · refine cw_f rfl hb743 ?_
            refine cw_skip ?_
            refine qn_then ?_
            refine cw_seq ?_
            refine cw_region ?_
            refine t_rd rfl (rd_move rfl) ?_
            refine t_rd rfl (rd_move rfl) ?_
            obtain ⟨zd745, ez746⟩ : ∃ z : Hdr, z.1 = v640 := ⟨⟨v640, sl_one (hm742.sl 1 rfl)⟩, rfl⟩
            refine t_ef rfl (ef_bslice (l := ([zd745] : List Hdr)) hm742 tS25 rfl (cs := #[v640]) (by obtain ⟨_, _, e⟩ : ∃ A c, v640 = Value.slice A (List.length l637) c := ((hm742.sl 1 rfl)).val; rw [e]; clear e; unfold bsl; kernel_rfl) (by show [zd745.1] = [v640]; rw [ez746]) rfl) ?_
            intro v747 w749 hm748
            obtain ⟨l750, h751, q752⟩ := ob q744; clear q744
            obtain ⟨ha753, he754⟩ := app_h h751 (hm748.get (k := 3) rfl).1 ((Nl.mk (hm748.sl_call 0 rfl) (Rows.cons (hm748.sl_call 2 rfl) ez746 Rows.nil))).rows.1
            refine t_ef rfl (ef_append (k := 4) hm748 tS25 tE27 rfl rfl rfl rfl ((Nl.mk (hm748.sl_call 0 rfl) (Rows.cons (hm748.sl_call 2 rfl) ez746 Rows.nil))).sp ha753) ?_
            intro v755 w757 hm756
            have hm758 := hm756.pick [3, 2, 0, 1, 4] (L' := [rowsC 5 zs569 (l567 : List (List UInt8)) none, ownL 5 v640 (l637 : List UInt8), ownL 27 v747 ([zd745] : List Hdr), ownL 5 v734 (l731 : List UInt8), ownL 27 v755 ((zs569 ++ [zd745]) : List Hdr)]) (by decide) rfl
            have hm759 := hm758.absorb ez746 he754
            refine t_rd rfl (rd_assign rfl) ?_
            refine rwt_nil ?_
            refine qn_then ?_
            refine cw_region ?_
            refine t_rd rfl (rd_move rfl) ?_
            refine t_rd rfl (rd_move rfl) ?_
            obtain ⟨x760, h761, q762⟩ := ob q752; clear q752
            refine t_rd rfl (rd_add64 h761 rfl rfl) ?_
            obtain ⟨x763, h764, q765⟩ := ob q762; clear q762
            refine t_rd rfl (rd_add64 h764 rfl rfl) ?_
            refine t_rd rfl (rd_assign rfl) ?_
            refine rwt_nil ?_
            refine qn_block (qn_then ?_)
            refine ⟨_, (os q765), v755, (zs569 ++ [zd745]), (by repeat (first | exact Sub.nil _ | refine Sub.cons rfl ?_)), (hm759.pick [0, 3] (by decide) rfl)⟩
    · refine cw_f rfl hb585 ?_
      refine cw_exit ?_
      refine qx_then (qx_then ?_)
      obtain rfl := hr575 _ (os q586)
      exact .inr (⟨_, rfl, ⟨rfl, v568, zs569, (by repeat (first | exact Sub.nil _ | refine Sub.cons rfl ?_)), (hm581.pick [0, 1] (by decide) rfl)⟩⟩)
  · skip
    intro e env766 w767 hX768
    rcases hX768 with hX768 | hX768
    · obtain ⟨p770, rfl, hX768⟩ := hX768
      obtain ⟨rfl, hq772⟩ := hX768
      exact qr_block (qr_then ((by have e := os q578; subst e; exact hq772)))
    · obtain ⟨p773, rfl, hX768⟩ := hX768
      obtain ⟨rfl, v564, zs565, hs774, hm775⟩ := hX768
      refine qx_same (qn_then ?_)
      refine cw_sub hs774 ?_
      refine cw_seq ?_
      refine cw_region ?_
      refine t_rd rfl (rd_move rfl) ?_
      refine t_rd rfl (rd_move rfl) ?_
      refine t_rd rfl (rd_assign rfl) ?_
      refine t_rd rfl (rd_assign rfl) ?_
      refine t_rd rfl (rd_assign rfl) ?_
      refine rwt_nil ?_
      refine qn_then ?_
      refine cw_ret ?_
      obtain rfl := os q578
      exact ret3 rfl rfl rfl rfl ⟨zs565, v564, rfl, (hm775.pick [1, 0] (by decide) rfl)⟩

theorem journal_Mend_ok {N : Nat} {a0 : List UInt8} {res : List UInt8 × Int} (h : journal_Mend N a0 = some res) {w : World} {v0 : Value} (hv0 : Sl (Old w No) w v0 a0) :
    CallsR Try.prog 20 [v0] w (fun u w' => ∃ (y0 : Value), u = (Value.tuple #[y0, (Value.int .i64 res.2)]) ∧ Mem w No [ownL 5 y0 (res.1 : List UInt8)] w') := by
  unfold journal_Mend at h
  refine fn_ok Try.func20 rfl rfl rfl ?_
  have hm0 := Mem.nil w
  refine cw_seq ?_
  refine cw_region ?_
  refine t_rd rfl (rd_assign rfl) ?_
  refine t_rd rfl (rd_assign rfl) ?_
  refine rwt_nil ?_
  refine qn_then ?_
  refine cw_seq ?_
  refine cw_region ?_
  refine t_rd rfl (rd_move rfl) ?_
  obtain ⟨r1, h2, q3⟩ := ob h; clear h
  refine t_ef rfl (ef_call tf11 rfl (journal_Records_ok h2 (hv0.to_call hm0))) ?_
  rintro _ w7 ⟨zs5, v4, e_, hm6⟩
  obtain rfl := e_.symm
  have hm8 := hm0.call hm6
  refine t_rd rfl (rd_move rfl) ?_
  refine t_rd rfl (rd_extract rfl rfl) ?_
  refine t_rd rfl (rd_extract rfl rfl) ?_
  refine t_rd rfl (rd_extract rfl rfl) ?_
  refine t_rd rfl (rd_assign rfl) ?_
  refine t_rd rfl (rd_assign rfl) ?_
  refine t_rd rfl (rd_assign rfl) ?_
  refine rwt_nil ?_
  refine qn_then ?_
  refine cw_seq ?_
  refine cw_seq ?_
  refine cw_region ?_
  refine t_rd rfl (rd_move rfl) ?_
  refine t_rd rfl (rd_neq rfl rfl) ?_
  refine rwt_nil ?_
  refine qn_then ?_
  obtain ⟨hb9, q10⟩ | ⟨hb9, q10⟩ := oi q3 <;> clear q3
  · refine cw_t rfl hb9 ?_
    refine cw_seq ?_
    refine cw_region ?_
    refine t_rd rfl (rd_move rfl) ?_
    refine t_rd rfl (rd_assign rfl) ?_
    refine t_rd rfl (rd_assign rfl) ?_
    refine rwt_nil ?_
    refine qn_then ?_
    refine cw_ret ?_
    refine qr_then ?_
    obtain rfl := os q10
    have hm11 := hm8.addNil (α := UInt8) 5
    exact ret2 rfl rfl rfl ⟨(Value.slice none 0 0), rfl, (hm11.pick [0] (by decide) rfl)⟩
  · refine cw_f rfl hb9 ?_
    refine cw_skip ?_
    refine qn_then ?_
    refine cw_seq ?_
    refine cw_region ?_
    refine t_rd rfl (rd_move rfl) ?_
    refine t_rd rfl (rd_move rfl) ?_
    obtain ⟨l12, h13, q14⟩ := ob q10; clear q10
    refine t_rd rfl (rd_slcH tS27 rfl rfl (hv0.of_old hm8) h13) ?_
    have hm15 := hm8.addNil (α := UInt8) 5
    obtain ⟨l16, h17, q18⟩ := ob q14; clear q14
    refine t_ef rfl (ef_append (k := 0) hm15 tS27 tE5 rfl rfl rfl rfl ((hv0.of_old hm15).sub h13) h17) ?_
    intro v19 w21 hm20
    refine t_rd rfl (rd_assign rfl) ?_
    refine t_rd rfl (rd_assign rfl) ?_
    refine rwt_nil ?_
    refine qn_then ?_
    refine cw_ret ?_
    obtain rfl := os q18
    exact ret2 rfl rfl rfl ⟨v19, rfl, (hm20.pick [0] (by decide) rfl)⟩

theorem r43_Mend_ok {N : Nat} {a0 : List UInt8} {res : List UInt8 × Int} (h : r43_Mend N a0 = some res) {w : World} {v0 : Value} (hv0 : Sl (Old w No) w v0 a0) :
    CallsR Try.prog 26 [v0] w (fun u w' => ∃ (y0 : Value), u = (Value.tuple #[y0, (Value.int .i64 res.2)]) ∧ Mem w No [ownL 5 y0 (res.1 : List UInt8)] w') := by
  unfold r43_Mend at h
  refine fn_ok Try.func26 rfl rfl rfl ?_
  have hm0 := Mem.nil w
  refine cw_seq ?_
  refine cw_region ?_
  refine t_rd rfl (rd_assign rfl) ?_
  refine t_rd rfl (rd_assign rfl) ?_
  refine rwt_nil ?_
  refine qn_then ?_
  refine cw_seq ?_
  refine cw_region ?_
  refine t_rd rfl (rd_move rfl) ?_
  obtain ⟨r1, h2, q3⟩ := ob h; clear h
  refine t_ef rfl (ef_call tf25 rfl (r43_Records_ok h2 (hv0.to_call hm0))) ?_
  rintro _ w7 ⟨zs5, v4, e_, hm6⟩
  obtain rfl := e_.symm
  have hm8 := hm0.call hm6
  refine t_rd rfl (rd_move rfl) ?_
  refine t_rd rfl (rd_extract rfl rfl) ?_
  refine t_rd rfl (rd_extract rfl rfl) ?_
  refine t_rd rfl (rd_extract rfl rfl) ?_
  refine t_rd rfl (rd_assign rfl) ?_
  refine t_rd rfl (rd_assign rfl) ?_
  refine t_rd rfl (rd_assign rfl) ?_
  refine rwt_nil ?_
  refine qn_then ?_
  refine cw_seq ?_
  refine cw_seq ?_
  refine cw_region ?_
  refine t_rd rfl (rd_move rfl) ?_
  refine t_rd rfl (rd_neq rfl rfl) ?_
  refine rwt_nil ?_
  refine qn_then ?_
  obtain ⟨hb9, q10⟩ | ⟨hb9, q10⟩ := oi q3 <;> clear q3
  · refine cw_t rfl hb9 ?_
    refine cw_seq ?_
    refine cw_region ?_
    refine t_rd rfl (rd_move rfl) ?_
    refine t_rd rfl (rd_assign rfl) ?_
    refine t_rd rfl (rd_assign rfl) ?_
    refine rwt_nil ?_
    refine qn_then ?_
    refine cw_ret ?_
    refine qr_then ?_
    obtain rfl := os q10
    have hm11 := hm8.addNil (α := UInt8) 5
    exact ret2 rfl rfl rfl ⟨(Value.slice none 0 0), rfl, (hm11.pick [0] (by decide) rfl)⟩
  · refine cw_f rfl hb9 ?_
    refine cw_skip ?_
    refine qn_then ?_
    refine cw_seq ?_
    refine cw_region ?_
    refine t_ef rfl (ef_bslice0 (α := UInt8) hm8 tS27) ?_
    intro v12 w14 hm13
    refine t_rd rfl (rd_move rfl) ?_
    refine t_rd rfl (rd_move rfl) ?_
    obtain ⟨l15, h16, q17⟩ := ob q10; clear q10
    refine t_rd rfl (rd_slcH tS27 rfl rfl (hv0.of_old hm13) h16) ?_
    obtain ⟨l18, h19, q20⟩ := ob q17; clear q17
    refine t_ef rfl (ef_append (k := 0) hm13 tS27 tE5 rfl rfl rfl rfl ((hv0.of_old hm13).sub h16) h19) ?_
    intro v21 w23 hm22
    refine t_rd rfl (rd_assign rfl) ?_
    refine t_rd rfl (rd_assign rfl) ?_
    refine rwt_nil ?_
    refine qn_then ?_
    refine cw_ret ?_
    obtain rfl := os q20
    exact ret2 rfl rfl rfl ⟨v21, rfl, (hm22.pick [0] (by decide) rfl)⟩

theorem law43_exact_ok {N : Nat} {a0 : List UInt8} {a1 : List UInt8} {res : Bool} (h : law43_exact N a0 a1 = some res) {w : World} {v0 : Value} {v1 : Value} (hv0 : Sl (Old w No) w v0 a0) (hv1 : Sl (Old w No) w v1 a1) :
    CallsR Try.prog 16 [v0, v1] w (fun u w' => u = (Value.bool res) ∧ Mem w No [] w') := by
  unfold law43_exact at h
  refine fn_ok Try.func16 rfl rfl rfl ?_
  have hm0 := Mem.nil w
  refine cw_seq ?_
  refine cw_region ?_
  refine t_rd rfl (rd_assign rfl) ?_
  refine rwt_nil ?_
  refine qn_then ?_
  refine cw_seq ?_
  refine cw_region ?_
  refine t_rd rfl (rd_move rfl) ?_
  refine t_rd rfl (rd_move rfl) ?_
  obtain ⟨r1, h2, q3⟩ := ob h; clear h
  refine t_ef rfl (ef_call tf18 rfl (journal_Append_ok h2 (hv0.to_call hm0) (hv1.to_call hm0))) ?_
  rintro _ w6 ⟨v4, e_, hm5⟩
  obtain rfl := e_.symm
  have hm7 := hm0.call hm5
  refine t_rd rfl (rd_move rfl) ?_
  refine t_rd rfl (rd_extract rfl rfl) ?_
  refine t_rd rfl (rd_extract rfl rfl) ?_
  refine t_rd rfl (rd_assign rfl) ?_
  refine t_rd rfl (rd_assign rfl) ?_
  refine rwt_nil ?_
  refine qn_then ?_
  refine cw_seq ?_
  refine cw_region ?_
  refine t_rd rfl (rd_move rfl) ?_
  refine t_rd rfl (rd_move rfl) ?_
  obtain ⟨r8, h9, q10⟩ := ob q3; clear q3
  refine t_ef rfl (ef_call tf21 rfl (r43_Append_ok h9 (hv0.to_call hm7) (hv1.to_call hm7))) ?_
  rintro _ w13 ⟨v11, e_, hm12⟩
  obtain rfl := e_.symm
  have hm14 := hm7.call hm12
  refine t_rd rfl (rd_move rfl) ?_
  refine t_rd rfl (rd_extract rfl rfl) ?_
  refine t_rd rfl (rd_extract rfl rfl) ?_
  refine t_rd rfl (rd_assign rfl) ?_
  refine t_rd rfl (rd_assign rfl) ?_
  refine rwt_nil ?_
  refine qn_then ?_
  refine cw_seq ?_
  refine cw_region ?_
  refine t_rd rfl (rd_move rfl) ?_
  obtain ⟨r15, h16, q17⟩ := ob q10; clear q10
  refine t_ef rfl (ef_call tf11 rfl (journal_Records_ok h16 (hv0.to_call hm14))) ?_
  rintro _ w21 ⟨zs19, v18, e_, hm20⟩
  obtain rfl := e_.symm
  have hm22 := hm14.call hm20
  refine t_rd rfl (rd_move rfl) ?_
  refine t_rd rfl (rd_extract rfl rfl) ?_
  refine t_rd rfl (rd_extract rfl rfl) ?_
  refine t_rd rfl (rd_extract rfl rfl) ?_
  refine t_rd rfl (rd_assign rfl) ?_
  refine t_rd rfl (rd_assign rfl) ?_
  refine t_rd rfl (rd_assign rfl) ?_
  refine rwt_nil ?_
  refine qn_then ?_
  refine cw_seq ?_
  refine cw_region ?_
  refine t_rd rfl (rd_move rfl) ?_
  obtain ⟨r23, h24, q25⟩ := ob q17; clear q17
  refine t_ef rfl (ef_call tf25 rfl (r43_Records_ok h24 (hv0.to_call hm22))) ?_
  rintro _ w29 ⟨zs27, v26, e_, hm28⟩
  obtain rfl := e_.symm
  have hm30 := hm22.call hm28
  refine t_rd rfl (rd_move rfl) ?_
  refine t_rd rfl (rd_extract rfl rfl) ?_
  refine t_rd rfl (rd_extract rfl rfl) ?_
  refine t_rd rfl (rd_extract rfl rfl) ?_
  refine t_rd rfl (rd_assign rfl) ?_
  refine t_rd rfl (rd_assign rfl) ?_
  refine t_rd rfl (rd_assign rfl) ?_
  refine rwt_nil ?_
  refine qn_then ?_
  refine cw_seq ?_
  refine cw_region ?_
  refine t_rd rfl (rd_move rfl) ?_
  obtain ⟨r31, h32, q33⟩ := ob q25; clear q25
  refine t_ef rfl (ef_call tf20 rfl (journal_Mend_ok h32 (hv0.to_call hm30))) ?_
  rintro _ w36 ⟨v34, e_, hm35⟩
  obtain rfl := e_.symm
  have hm37 := hm30.call hm35
  refine t_rd rfl (rd_move rfl) ?_
  refine t_rd rfl (rd_extract rfl rfl) ?_
  refine t_rd rfl (rd_extract rfl rfl) ?_
  refine t_rd rfl (rd_assign rfl) ?_
  refine t_rd rfl (rd_assign rfl) ?_
  refine rwt_nil ?_
  refine qn_then ?_
  refine cw_seq ?_
  refine cw_region ?_
  refine t_rd rfl (rd_move rfl) ?_
  obtain ⟨r38, h39, q40⟩ := ob q33; clear q33
  refine t_ef rfl (ef_call tf26 rfl (r43_Mend_ok h39 (hv0.to_call hm37))) ?_
  rintro _ w43 ⟨v41, e_, hm42⟩
  obtain rfl := e_.symm
  have hm44 := hm37.call hm42
  refine t_rd rfl (rd_move rfl) ?_
  refine t_rd rfl (rd_extract rfl rfl) ?_
  refine t_rd rfl (rd_extract rfl rfl) ?_
  refine t_rd rfl (rd_assign rfl) ?_
  refine t_rd rfl (rd_assign rfl) ?_
  refine rwt_nil ?_
  refine qn_then ?_
  refine cw_seq ?_
  refine cw_region ?_
  refine t_rd rfl (rd_move rfl) ?_
  refine t_rd rfl (rd_move rfl) ?_
  obtain ⟨r45, h46, q47⟩ := ob q40; clear q40
  refine t_ef rfl (ef_call tf19 rfl (humpgen_Bytes_ok h46 (hm44.sl_call 7 rfl) (hm44.sl_call 6 rfl))) ?_
  rintro _ w49 ⟨e_, hm48⟩
  obtain rfl := e_.symm
  have hm50 := hm44.call hm48
  refine t_rd rfl (rd_move rfl) ?_
  refine t_rdg rfl rfl rfl rfl (gv_t _) (fun hg51 => (rd_move rfl)) ?_
  refine t_rdg rfl rfl rfl rfl (gv_t _) (fun hg52 => (rd_move rfl)) ?_
  refine t_rdg rfl rfl rfl rfl (gv_t _) (fun hg53 => (rd_eql (gvx rfl hg53) (gvx rfl hg53))) ?_
  refine t_rd rfl (rd_and rfl (fun hc54 => (gvx rfl hc54))) ?_
  refine t_rd rfl (rd_move rfl) ?_
  refine t_rdg rfl rfl rfl rfl (gv_t _) (fun hg55 => (rd_move rfl)) ?_
  refine t_rdg rfl rfl rfl rfl (gv_t _) (fun hg56 => (rd_move rfl)) ?_
  obtain ⟨r58, h59, q60⟩ := ob q47; clear q47
  refine t_efg rfl rfl rfl rfl (R := (fun v w' => v = gV (r45 && decide (r1.2 = r8.2)) (Value.bool r58) ∧ Mem w49 No [] w')) (gv_t _) (fun hg57 => (ef_call tf12 (evc (gvx rfl hg57) (evc (gvx rfl hg57) evn)) (law43_same_ok (gO_t h59 hg57) ((Nl.mk (hm50.sl_call 4 rfl) (hm50.rows_call 5 rfl)).sl) ((Nl.mk (hm50.sl_call 2 rfl) (hm50.rows_call 3 rfl)).sl))).mono (by rintro _ _ ⟨rfl, q⟩; exact ⟨(gV_t hg57).symm, q⟩)) (fun q => ⟨(gV_f q).symm, Mem.nil _⟩) ?_
  rintro _ w62 ⟨rfl, hm61⟩
  have hm63 := hm50.call hm61
  refine t_rd rfl (rd_and rfl (fun hc64 => (gvx rfl hc64))) ?_
  refine t_rd rfl (rd_move rfl) ?_
  refine t_rdg rfl rfl rfl rfl (gv_t _) (fun hg65 => (rd_move rfl)) ?_
  refine t_rdg rfl rfl rfl rfl (gv_t _) (fun hg66 => (rd_move rfl)) ?_
  refine t_rdg rfl rfl rfl rfl (gv_t _) (fun hg67 => (rd_eql (gvx rfl hg67) (gvx rfl hg67))) ?_
  refine t_rd rfl (rd_and rfl (fun hc68 => (gvx rfl hc68))) ?_
  refine t_rd rfl (rd_move rfl) ?_
  refine t_rdg rfl rfl rfl rfl (gv_t _) (fun hg69 => (rd_move rfl)) ?_
  refine t_rdg rfl rfl rfl rfl (gv_t _) (fun hg70 => (rd_move rfl)) ?_
  refine t_rdg rfl rfl rfl rfl (gv_t _) (fun hg71 => (rd_eql (gvx rfl hg71) (gvx rfl hg71))) ?_
  refine t_rd rfl (rd_and rfl (fun hc72 => (gvx rfl hc72))) ?_
  refine t_rd rfl (rd_move rfl) ?_
  refine t_rdg rfl rfl rfl rfl (gv_t _) (fun hg73 => (rd_move rfl)) ?_
  refine t_rdg rfl rfl rfl rfl (gv_t _) (fun hg74 => (rd_move rfl)) ?_
  obtain ⟨r76, h77, q78⟩ := ob q60; clear q60
  refine t_efg rfl rfl rfl rfl (R := (fun v w' => v = gV ((((r45 && decide (r1.2 = r8.2)) && r58) && decide (r15.2.1 = r23.2.1)) && decide (r15.2.2 = r23.2.2)) (Value.bool r76) ∧ Mem w62 No [] w')) (gv_t _) (fun hg75 => (ef_call tf19 (evc (gvx rfl hg75) (evc (gvx rfl hg75) evn)) (humpgen_Bytes_ok (gO_t h77 hg75) (hm63.sl_call 1 rfl) (hm63.sl_call 0 rfl))).mono (by rintro _ _ ⟨rfl, q⟩; exact ⟨(gV_t hg75).symm, q⟩)) (fun q => ⟨(gV_f q).symm, Mem.nil _⟩) ?_
  rintro _ w80 ⟨rfl, hm79⟩
  have hm81 := hm63.call hm79
  refine t_rd rfl (rd_and rfl (fun hc82 => (gvx rfl hc82))) ?_
  refine t_rd rfl (rd_move rfl) ?_
  refine t_rdg rfl rfl rfl rfl (gv_t _) (fun hg83 => (rd_move rfl)) ?_
  refine t_rdg rfl rfl rfl rfl (gv_t _) (fun hg84 => (rd_move rfl)) ?_
  refine t_rdg rfl rfl rfl rfl (gv_t _) (fun hg85 => (rd_eql (gvx rfl hg85) (gvx rfl hg85))) ?_
  refine t_rd rfl (rd_and rfl (fun hc86 => (gvx rfl hc86))) ?_
  refine t_rd rfl (rd_move rfl) ?_
  refine t_rdg rfl rfl rfl rfl (gv_t _) (fun hg87 => (rd_move rfl)) ?_
  obtain ⟨r89, h90, q91⟩ := ob q78; clear q78
  refine t_efg rfl rfl rfl rfl (R := (fun v w' => v = gV ((((((r45 && decide (r1.2 = r8.2)) && r58) && decide (r15.2.1 = r23.2.1)) && decide (r15.2.2 = r23.2.2)) && r76) && decide (r31.2 = r38.2)) (Value.int .i64 r89) ∧ Mem w80 No [] w')) (gv_t _) (fun hg88 => (ef_call tf23 (evc (gvx rfl hg88) evn) (journal_Check_ok (gO_t h90 hg88) (hv0.to_call hm81))).mono (by rintro _ _ ⟨rfl, q⟩; exact ⟨(gV_t hg88).symm, q⟩)) (fun q => ⟨(gV_f q).symm, Mem.nil _⟩) ?_
  rintro _ w93 ⟨rfl, hm92⟩
  have hm94 := hm81.call hm92
  refine t_rdg rfl rfl rfl rfl (gv_t _) (fun hg95 => (rd_move rfl)) ?_
  obtain ⟨r97, h98, q99⟩ := ob q91; clear q91
  refine t_efg rfl rfl rfl rfl (R := (fun v w' => v = gV ((((((r45 && decide (r1.2 = r8.2)) && r58) && decide (r15.2.1 = r23.2.1)) && decide (r15.2.2 = r23.2.2)) && r76) && decide (r31.2 = r38.2)) (Value.int .i64 r97) ∧ Mem w93 No [] w')) (gv_t _) (fun hg96 => (ef_call tf27 (evc (gvx rfl hg96) evn) (r43_Check_ok (gO_t h98 hg96) (hv0.to_call hm94))).mono (by rintro _ _ ⟨rfl, q⟩; exact ⟨(gV_t hg96).symm, q⟩)) (fun q => ⟨(gV_f q).symm, Mem.nil _⟩) ?_
  rintro _ w101 ⟨rfl, hm100⟩
  have hm102 := hm94.call hm100
  refine t_rdg rfl rfl rfl rfl (gv_t _) (fun hg103 => (rd_eql (gvx rfl hg103) (gvx rfl hg103))) ?_
  refine t_rd rfl (rd_and rfl (fun hc104 => (gvx rfl hc104))) ?_
  refine t_rd rfl (rd_move rfl) ?_
  refine t_rdg rfl rfl rfl rfl (gv_t _) (fun hg105 => (rd_move rfl)) ?_
  obtain ⟨r107, h108, q109⟩ := ob q99; clear q99
  refine t_efg rfl rfl rfl rfl (R := (fun v w' => v = gV (((((((r45 && decide (r1.2 = r8.2)) && r58) && decide (r15.2.1 = r23.2.1)) && decide (r15.2.2 = r23.2.2)) && r76) && decide (r31.2 = r38.2)) && decide (r89 = r97)) (Value.int .i64 r107) ∧ Mem w101 No [] w')) (gv_t _) (fun hg106 => (ef_call tf23 (evc (gvx rfl hg106) evn) (journal_Check_ok (gO_t h108 hg106) (hv1.to_call hm102))).mono (by rintro _ _ ⟨rfl, q⟩; exact ⟨(gV_t hg106).symm, q⟩)) (fun q => ⟨(gV_f q).symm, Mem.nil _⟩) ?_
  rintro _ w111 ⟨rfl, hm110⟩
  have hm112 := hm102.call hm110
  refine t_rdg rfl rfl rfl rfl (gv_t _) (fun hg113 => (rd_move rfl)) ?_
  obtain ⟨r115, h116, q117⟩ := ob q109; clear q109
  refine t_efg rfl rfl rfl rfl (R := (fun v w' => v = gV (((((((r45 && decide (r1.2 = r8.2)) && r58) && decide (r15.2.1 = r23.2.1)) && decide (r15.2.2 = r23.2.2)) && r76) && decide (r31.2 = r38.2)) && decide (r89 = r97)) (Value.int .i64 r115) ∧ Mem w111 No [] w')) (gv_t _) (fun hg114 => (ef_call tf27 (evc (gvx rfl hg114) evn) (r43_Check_ok (gO_t h116 hg114) (hv1.to_call hm112))).mono (by rintro _ _ ⟨rfl, q⟩; exact ⟨(gV_t hg114).symm, q⟩)) (fun q => ⟨(gV_f q).symm, Mem.nil _⟩) ?_
  rintro _ w119 ⟨rfl, hm118⟩
  have hm120 := hm112.call hm118
  refine t_rdg rfl rfl rfl rfl (gv_t _) (fun hg121 => (rd_eql (gvx rfl hg121) (gvx rfl hg121))) ?_
  refine t_rd rfl (rd_and rfl (fun hc122 => (gvx rfl hc122))) ?_
  refine t_rd rfl (rd_assign rfl) ?_
  refine rwt_nil ?_
  refine qn_then ?_
  refine cw_ret ?_
  obtain rfl := os q117
  exact ret1 rfl rfl ⟨rfl, (hm120.pick [] (by decide) rfl)⟩

theorem law43_JournalExact_ok {N : Nat} {a0 : List Int} {a1 : List UInt8} {a2 : List UInt8} {res : Bool} (h : law43_JournalExact N a0 a1 a2 = some res) {w : World} {v0 : Value} {v1 : Value} {v2 : Value} (hv0 : Sl (Old w No) w v0 a0) (hv1 : Sl (Old w No) w v1 a1) (hv2 : Sl (Old w No) w v2 a2) :
    CallsR Try.prog 4 [v0, v1, v2] w (fun u w' => u = (Value.bool res) ∧ Mem w No [] w') := by
  unfold law43_JournalExact at h
  refine fn_ok Try.func4 rfl rfl rfl ?_
  have hm0 := Mem.nil w
  refine cw_seq ?_
  refine cw_region ?_
  refine t_rd rfl (rd_assign rfl) ?_
  refine rwt_nil ?_
  refine qn_then ?_
  refine cw_seq ?_
  refine cw_region ?_
  refine t_rd rfl (rd_move rfl) ?_
  obtain ⟨r1, h2, q3⟩ := ob h; clear h
  refine t_ef rfl (ef_call tf7 rfl (humpgen_New_ok h2 (hv0.to_call hm0))) ?_
  rintro _ w6 ⟨g4, e_, hm5⟩
  obtain rfl := e_.symm
  have hm7 := hm0.call hm5
  refine t_rd rfl (rd_assign rfl) ?_
  refine rwt_nil ?_
  refine qn_then ?_
  refine cw_seq ?_
  refine cw_seq ?_
  refine cw_region ?_
  refine t_rd rfl (rd_assign rfl) ?_
  refine rwt_nil ?_
  refine qn_then ?_
  refine cw_block ?_
  obtain ⟨r310, hit311, q312⟩ := ob q3; clear q3
  refine cw_loop2 (I := fun q envq wq => Sub [(1, v1), (2, v2), (7, (Value.pointer (some ⟨g4, 0, none⟩))), (8, (Value.int .i64 q.1))] envq ∧ Mem w No [blk g4 49 [v0, (Value.int .i64 q.2)]] wq) (X := fun eq envq wq => (∃ p313, r310 = (Sum.inl p313) ∧ eq = .ret ∧ retQ Try.prog 92 Try.f4 (fun u w' => u = (Value.bool p313) ∧ Mem w No [] w') .ret envq wq) ∨ (∃ p314, r310 = (Sum.inr p314) ∧ eq = .exit 0 ∧ Sub [(1, v1), (2, v2)] envq ∧ Mem w No [] wq)) hit311 ⟨(by repeat (first | exact Sub.nil _ | refine Sub.cons rfl ?_)), (hm7.pick [0] (by decide) rfl)⟩ ?_ ?_
  · rintro ⟨i302, i303⟩ x305 env306 w307 hf308 hr309 ⟨hs_, hm_⟩
    have hs_ : Sub [(1, v1), (2, v2), (7, (Value.pointer (some ⟨g4, 0, none⟩))), (8, (Value.int .i64 i302))] env306 := hs_
    have hm315 : Mem w No [blk g4 49 [v0, (Value.int .i64 i303)]] w307 := hm_
    refine cw_sub hs_ ?_
    clear hs_ hm_ q312
    have h : law43_JournalExact_l1 N a0 i302 i303 = some x305 := hf308
    clear hf308
    refine cw_seq ?_
    refine cw_seq ?_
    refine cw_region ?_
    refine t_rd rfl (rd_move rfl) ?_
    refine t_rd rfl (rd_lss rfl rfl) ?_
    refine rwt_nil ?_
    refine qn_then ?_
    obtain ⟨hb316, q317⟩ | ⟨hb316, q317⟩ := oi h <;> clear h
    · refine cw_t rfl hb316 ?_
      refine cw_skip ?_
      refine qn_then ?_
      refine cw_seq ?_
      refine cw_block ?_
      refine cw_seq ?_
      refine cw_region ?_
      refine t_rd rfl (rd_move rfl) ?_
      obtain ⟨r318, h319, q320⟩ := ob q317; clear q317
      refine t_ef rfl (ef_call tf8 rfl (law43_records_ok h319 (hv0.to_callT (k := 0) hm315 rfl) (hm315.get (k := 0) rfl))) ?_
      rintro _ w324 ⟨zs322, v321, e_, hm323⟩
      obtain rfl := e_.symm
      have hm325 := hm315.callT (k := 0) rfl (fun _ h => h) hm323 (fun _ => Iff.rfl)
      obtain ⟨r326, h327, q328⟩ := ob q320; clear q320
      refine t_ef rfl (ef_call tf9 rfl (law43_written_ok h327 ((Nl.mk (hm325.sl_call 0 rfl) (hm325.rows_call 1 rfl)).sl))) ?_
      rintro _ w332 ⟨v329, v330, e_, hm331⟩
      obtain rfl := e_.symm
      have hm333 := hm325.call hm331
      refine t_rd rfl (rd_move rfl) ?_
      refine t_rd rfl (rd_extract rfl rfl) ?_
      refine t_rd rfl (rd_extract rfl rfl) ?_
      refine t_rd rfl (rd_assign rfl) ?_
      refine t_rd rfl (rd_assign rfl) ?_
      refine rwt_nil ?_
      refine qn_then ?_
      refine cw_seq ?_
      refine cw_seq ?_
      refine cw_region ?_
      refine t_rd rfl (rd_move rfl) ?_
      refine t_rd rfl (rd_gtr rfl rfl) ?_
      refine rwt_nil ?_
      refine qn_then ?_
      have hm343 := hm333.toZ (k := 0) rfl
      obtain ⟨j356, hit357, q358⟩ := ob q328; clear q328
      refine cw_join (X := fun eq envq wq => eq = .normal ∧ ∃ (v355 : Value), Sub [(1, v1), (2, v2), (7, (Value.pointer (some ⟨g4, 0, none⟩))), (8, (Value.int .i64 i302)), (9, v355)] envq ∧ Mem w No [ownZ 5 v355 (j356.2 : List UInt8), blk g4 49 [v0, (Value.int .i64 j356.1)]] wq) ?_ ?_
      · clear q358
        obtain ⟨hb359, q360⟩ | ⟨hb359, q360⟩ := oi hit357 <;> clear hit357
        · refine cw_t rfl hb359 ?_
          refine cw_region ?_
          refine t_rd rfl (rd_move rfl) ?_
          refine t_rd rfl (rd_move rfl) ?_
          obtain ⟨r361, h362, q363⟩ := ob q360; clear q360
          refine t_ef rfl (ef_call tf14 rfl (Maker_SpoilBytes_ok h362 (hv0.to_callT (k := 4) hm343 rfl) (hm343.get (k := 4) rfl) (hm343.slz_callT 0 4 rfl rfl (by decide)))) ?_
          rintro _ w366 ⟨v364, e_, hm365⟩
          obtain rfl := e_.symm
          have hm367 := hm343.callT (k := 4) rfl (fun _ h => h) hm365 (fun _ => Iff.rfl)
          refine t_rd rfl (rd_assign rfl) ?_
          refine rwt_nil ?_
          obtain rfl := os q363
          exact ⟨rfl, v364, (by repeat (first | exact Sub.nil _ | refine Sub.cons rfl ?_)), (hm367.pick [0, 5] (by decide) rfl)⟩
        · refine cw_f rfl hb359 ?_
          refine cw_skip ?_
          obtain rfl := os q360
          exact ⟨rfl, v329, (by repeat (first | exact Sub.nil _ | refine Sub.cons rfl ?_)), (hm343.pick [0, 4] (by decide) rfl)⟩
      · clear hit357
        intro e env368 w369 hX370
        obtain ⟨rfl, v355, hs371, hm372⟩ := hX370
        refine qn_then ?_
        refine cw_sub hs371 ?_
        refine cw_seq ?_
        refine cw_seq ?_
        refine cw_region ?_
        refine t_rd rfl (rd_move rfl) ?_
        refine t_rd rfl (rd_eql rfl rfl) ?_
        refine rwt_nil ?_
        refine qn_then ?_
        obtain ⟨j405, hit406, q407⟩ := ob q358; clear q358
        refine cw_join (X := fun eq envq wq => eq = .normal ∧ ∃ (v404 : Value), Sub [(1, v1), (2, v2), (7, (Value.pointer (some ⟨g4, 0, none⟩))), (8, (Value.int .i64 i302)), (9, v404)] envq ∧ Mem w No [ownZ 5 v404 (j405.2 : List UInt8), blk g4 49 [v0, (Value.int .i64 j405.1)]] wq) ?_ ?_
        · clear q407
          obtain ⟨hb408, q409⟩ | ⟨hb408, q409⟩ := oi hit406 <;> clear hit406
          · refine cw_t rfl hb408 ?_
            refine cw_region ?_
            refine t_rd rfl (rd_move rfl) ?_
            refine t_rd rfl (rd_move rfl) ?_
            refine t_ef rfl (ef_bslice (l := ([0, 31, 32, 33, 255] : List Int)) hm372 tS22 rfl (cs := #[(Value.int .i64 0), (Value.int .i64 31), (Value.int .i64 32), (Value.int .i64 33), (Value.int .i64 255)]) (by unfold bsl; kernel_rfl) rfl rfl) ?_
            intro v410 w412 hm411
            obtain ⟨r413, h414, q415⟩ := ob q409; clear q409
            refine t_ef rfl (ef_call tf15 rfl (Maker_Pick_ok h414 (hv0.to_callT (k := 2) hm411 rfl) (hm411.get (k := 2) rfl) (hm411.sl_callT 0 2 rfl rfl (by decide)))) ?_
            rintro _ w417 ⟨e_, hm416⟩
            obtain rfl := e_.symm
            have hm418 := hm411.callT (k := 2) rfl (fun _ h => h) hm416 (fun _ => Iff.rfl)
            refine t_rd rfl (rd_cv8 tH3 tI5 rfl) ?_
            refine t_rd rfl (rd_move rfl) ?_
            refine t_ef rfl (ef_bslice (l := ([0, 1, 255] : List Int)) hm418 tS22 rfl (cs := #[(Value.int .i64 0), (Value.int .i64 1), (Value.int .i64 255)]) (by unfold bsl; kernel_rfl) rfl rfl) ?_
            intro v419 w421 hm420
            obtain ⟨r422, h423, q424⟩ := ob q415; clear q415
            refine t_ef rfl (ef_call tf15 rfl (Maker_Pick_ok h423 (hv0.to_callT (k := 3) hm420 rfl) (hm420.get (k := 3) rfl) (hm420.sl_callT 0 3 rfl rfl (by decide)))) ?_
            rintro _ w426 ⟨e_, hm425⟩
            obtain rfl := e_.symm
            have hm427 := hm420.callT (k := 3) rfl (fun _ h => h) hm425 (fun _ => Iff.rfl)
            refine t_rd rfl (rd_cv8 tH3 tI5 rfl) ?_
            refine t_ef rfl (ef_bslice (l := ([(toU8 r413.2), (toU8 r422.2), (1 : UInt8), (2 : UInt8), (3 : UInt8)] : List UInt8)) hm427 tS27 rfl (cs := #[(Value.int .u8 ((toU8 r413.2).toNat : Int)), (Value.int .u8 ((toU8 r422.2).toNat : Int)), (Value.int .u8 1), (Value.int .u8 2), (Value.int .u8 3)]) (by unfold bsl; kernel_rfl) rfl rfl) ?_
            intro v428 w430 hm429
            obtain ⟨l431, h432, q433⟩ := ob q424; clear q424
            refine t_ef rfl (ef_appendZ (k := 3) hm429 tS27 tE5 rfl rfl rfl rfl (hm429.sl 0 rfl) h432 (by simp)) ?_
            intro v434 w436 hm435
            refine t_rd rfl (rd_assign rfl) ?_
            refine rwt_nil ?_
            obtain rfl := os q433
            exact ⟨rfl, v434, (by repeat (first | exact Sub.nil _ | refine Sub.cons rfl ?_)), (hm435.pick [3, 4] (by decide) rfl)⟩
          · refine cw_f rfl hb408 ?_
            refine cw_skip ?_
            obtain rfl := os q409
            exact ⟨rfl, v355, (by repeat (first | exact Sub.nil _ | refine Sub.cons rfl ?_)), (hm372.pick [0, 1] (by decide) rfl)⟩
        · clear hit406
          intro e env437 w438 hX439
          obtain ⟨rfl, v404, hs440, hm441⟩ := hX439
          refine qn_then ?_
          refine cw_sub hs440 ?_
          refine cw_seq ?_
          refine cw_region ?_
          refine t_rd rfl (rd_move rfl) ?_
          refine t_rd rfl (rd_move rfl) ?_
          refine t_rd rfl (rd_cv8 tH3 tI5 rfl) ?_
          refine t_rd rfl (rd_move rfl) ?_
          obtain ⟨r442, h443, q444⟩ := ob q407; clear q407
          refine t_ef rfl (ef_call tf17 rfl (Maker_Next_ok h443 (hv0.to_callT (k := 1) hm441 rfl) (hm441.get (k := 1) rfl))) ?_
          rintro _ w446 ⟨e_, hm445⟩
          obtain rfl := e_.symm
          have hm447 := hm441.callT (k := 1) rfl (fun _ h => h) hm445 (fun _ => Iff.rfl)
          refine t_rd rfl (rd_cv8 tH3 tI5 rfl) ?_
          refine t_ef rfl (ef_bslice (l := ([(toU8 i302), (toU8 r442.2)] : List UInt8)) hm447 tS27 rfl (cs := #[(Value.int .u8 ((toU8 i302).toNat : Int)), (Value.int .u8 ((toU8 r442.2).toNat : Int))]) (by unfold bsl; kernel_rfl) rfl rfl) ?_
          intro v448 w450 hm449
          obtain ⟨r451, h452, q453⟩ := ob q444; clear q444
          refine t_ef rfl (ef_call tf16 rfl (law43_exact_ok h452 (hm449.slz_call 1 rfl) (hm449.sl_call 0 rfl))) ?_
          rintro _ w455 ⟨e_, hm454⟩
          obtain rfl := e_.symm
          have hm456 := hm449.call hm454
          refine t_rd rfl (rd_not rfl) ?_
          refine rwt_nil ?_
          refine qn_then ?_
          obtain ⟨hb457, q458⟩ | ⟨hb457, q458⟩ := oi q453 <;> clear q453
          · refine cw_t rfl hb457 ?_
            refine cw_seq ?_
            refine cw_region ?_
            refine t_rd rfl (rd_assign rfl) ?_
            refine rwt_nil ?_
            refine qn_then ?_
            refine cw_ret ?_
            refine qr_block (qr_then (qr_then ?_))
            obtain rfl := hr309 _ (os q458)
            refine .inl (⟨_, rfl, ⟨rfl, ?_⟩⟩)
            exact ret1 rfl rfl ⟨rfl, (hm456.pick [] (by decide) rfl)⟩
          · refine cw_f rfl hb457 ?_
            refine cw_skip ?_
            refine qn_block (qn_then ?_)
            refine cw_region ?_
            refine t_rd rfl (rd_move rfl) ?_
            obtain ⟨x459, h460, q461⟩ := ob q458; clear q458
            refine t_rd rfl (rd_add64 h460 rfl rfl) ?_
            refine t_rd rfl (rd_assign rfl) ?_
            refine rwt_nil ?_
            refine qn_then ?_
            refine ⟨_, (os q461), (by repeat (first | exact Sub.nil _ | refine Sub.cons rfl ?_)), (hm456.pick [2] (by decide) rfl)⟩
    · refine cw_f rfl hb316 ?_
      refine cw_exit ?_
      refine qx_then (qx_then ?_)
      obtain rfl := hr309 _ (os q317)
      exact .inr (⟨_, rfl, ⟨rfl, (by repeat (first | exact Sub.nil _ | refine Sub.cons rfl ?_)), (hm315.pick [] (by decide) rfl)⟩⟩)
  · skip
    intro e env462 w463 hX464
    rcases hX464 with hX464 | hX464
    · obtain ⟨p466, rfl, hX464⟩ := hX464
      obtain ⟨rfl, hq468⟩ := hX464
      exact qr_block (qr_then ((by have e := os q312; subst e; exact hq468)))
    · obtain ⟨p469, rfl, hX464⟩ := hX464
      obtain ⟨rfl, hs470, hm471⟩ := hX464
      refine qx_same (qn_then ?_)
      refine cw_sub hs470 ?_
      refine cw_seq ?_
      refine cw_seq ?_
      refine cw_region ?_
      refine t_rd rfl (rd_move rfl) ?_
      refine t_rd rfl (rd_lenS tS27 rfl (hv1.of_old hm471)) ?_
      refine t_rd rfl (rd_gtr rfl rfl) ?_
      refine t_rd rfl (rd_move rfl) ?_
      refine t_rdg rfl rfl rfl rfl (gv_f _) (fun hg472 => (rd_move rfl)) ?_
      refine t_rdg rfl rfl rfl rfl (gv_f _) (fun hg473 => (rd_lenS tS27 (gvx rfl hg473) (hv2.of_old hm471))) ?_
      refine t_rdg rfl rfl rfl rfl (gv_f _) (fun hg474 => (rd_gtr (gvx rfl hg474) rfl)) ?_
      refine t_rd rfl (rd_or rfl (fun hc475 => (gvx rfl (bnotIt hc475)))) ?_
      refine rwt_nil ?_
      refine qn_then ?_
      obtain ⟨hb476, q477⟩ | ⟨hb476, q477⟩ := oi q312 <;> clear q312
      · refine cw_t rfl hb476 ?_
        refine cw_seq ?_
        refine cw_region ?_
        obtain ⟨r478, h479, q480⟩ := ob q477; clear q477
        refine t_ef rfl (ef_call tf13 rfl (law43_sane_ok h479)) ?_
        rintro _ w482 ⟨e_, hm481⟩
        obtain rfl := e_.symm
        have hm483 := hm471.call hm481
        refine t_rd rfl (rd_assign rfl) ?_
        refine rwt_nil ?_
        refine qn_then ?_
        refine cw_ret ?_
        refine qr_then ?_
        obtain rfl := os q480
        exact ret1 rfl rfl ⟨rfl, (hm483.pick [] (by decide) rfl)⟩
      · refine cw_f rfl hb476 ?_
        refine cw_skip ?_
        refine qn_then ?_
        refine cw_seq ?_
        refine cw_region ?_
        obtain ⟨l484, h485, q486⟩ := ob q477; clear q477
        refine t_ef rfl (ef_make hm471 tS27 tE5 rfl rfl rfl h485) ?_
        intro v487 w489 hm488
        obtain ⟨r490, h491, q492⟩ := ob q486; clear q486
        refine t_ef rfl (ef_call tf18 rfl (journal_Append_ok h491 (Sl.nil _ _) (hm488.sl_call 0 rfl))) ?_
        rintro _ w495 ⟨v493, e_, hm494⟩
        obtain rfl := e_.symm
        have hm496 := hm488.call hm494
        refine t_rd rfl (rd_move rfl) ?_
        refine t_rd rfl (rd_extract rfl rfl) ?_
        refine t_rd rfl (rd_extract rfl rfl) ?_
        refine t_rd rfl (rd_assign rfl) ?_
        refine t_rd rfl (rd_assign rfl) ?_
        refine rwt_nil ?_
        refine qn_then ?_
        refine cw_seq ?_
        refine cw_region ?_
        obtain ⟨l497, h498, q499⟩ := ob q492; clear q492
        refine t_ef rfl (ef_make hm496 tS27 tE5 rfl rfl rfl h498) ?_
        intro v500 w502 hm501
        obtain ⟨r503, h504, q505⟩ := ob q499; clear q499
        refine t_ef rfl (ef_call tf18 rfl (journal_Append_ok h504 (Sl.nil _ _) (hm501.sl_call 0 rfl))) ?_
        rintro _ w508 ⟨v506, e_, hm507⟩
        obtain rfl := e_.symm
        have hm509 := hm501.call hm507
        refine t_rd rfl (rd_move rfl) ?_
        refine t_rd rfl (rd_extract rfl rfl) ?_
        refine t_rd rfl (rd_extract rfl rfl) ?_
        refine t_rd rfl (rd_assign rfl) ?_
        refine t_rd rfl (rd_assign rfl) ?_
        refine rwt_nil ?_
        refine qn_then ?_
        refine cw_seq ?_
        refine cw_region ?_
        refine t_rd rfl (rd_move rfl) ?_
        refine t_rd rfl (rd_eql rfl rfl) ?_
        refine t_rd rfl (rd_move rfl) ?_
        refine t_rdg rfl rfl rfl rfl (gv_t _) (fun hg510 => (rd_move rfl)) ?_
        refine t_rdg rfl rfl rfl rfl (gv_t _) (fun hg511 => (rd_eql (gvx rfl hg511) rfl)) ?_
        refine t_rd rfl (rd_and rfl (fun hc512 => (gvx rfl hc512))) ?_
        refine t_rd rfl (rd_move rfl) ?_
        refine t_rdg rfl rfl rfl rfl (gv_t _) (fun hg513 => (rd_move rfl)) ?_
        refine t_rdg rfl rfl rfl rfl (gv_t _) (fun hg514 => (rd_lenS tS27 (gvx rfl hg514) (hm509.sl 0 rfl))) ?_
        refine t_rdg rfl rfl rfl rfl (gv_t _) (fun hg515 => (rd_eql (gvx rfl hg515) rfl)) ?_
        refine t_rd rfl (rd_and rfl (fun hc516 => (gvx rfl hc516))) ?_
        refine t_rd rfl (rd_move rfl) ?_
        refine t_rdg rfl rfl rfl rfl (gv_t _) (fun hg517 => (rd_move rfl)) ?_
        refine t_rdg rfl rfl rfl rfl (gv_t _) (fun hg518 => (rd_move rfl)) ?_
        obtain ⟨r520, h521, q522⟩ := ob q505; clear q505
        refine t_efg rfl rfl rfl rfl (R := (fun v w' => v = gV ((decide (r490.2 = 3) && decide (r503.2 = 0)) && decide ((List.length r503.1 : Int) = 8196)) (Value.bool r520) ∧ Mem w508 No [] w')) (gv_t _) (fun hg519 => (ef_call tf16 (evc (gvx rfl hg519) (evc (gvx rfl hg519) evn)) (law43_exact_ok (gO_t h521 hg519) (hv1.to_call hm509) (hv2.to_call hm509))).mono (by rintro _ _ ⟨rfl, q⟩; exact ⟨(gV_t hg519).symm, q⟩)) (fun q => ⟨(gV_f q).symm, Mem.nil _⟩) ?_
        rintro _ w524 ⟨rfl, hm523⟩
        have hm525 := hm509.call hm523
        refine t_rd rfl (rd_and rfl (fun hc526 => (gvx rfl hc526))) ?_
        refine t_rd rfl (rd_move rfl) ?_
        obtain ⟨r528, h529, q530⟩ := ob q522; clear q522
        refine t_efg rfl rfl rfl rfl (R := (fun v w' => v = gV (((decide (r490.2 = 3) && decide (r503.2 = 0)) && decide ((List.length r503.1 : Int) = 8196)) && r520) (Value.bool r528) ∧ Mem w524 No [] w')) (gv_t _) (fun hg527 => (ef_call tf13 rfl (law43_sane_ok (gO_t h529 hg527))).mono (by rintro _ _ ⟨rfl, q⟩; exact ⟨(gV_t hg527).symm, q⟩)) (fun q => ⟨(gV_f q).symm, Mem.nil _⟩) ?_
        rintro _ w532 ⟨rfl, hm531⟩
        have hm533 := hm525.call hm531
        refine t_rd rfl (rd_and rfl (fun hc534 => (gvx rfl hc534))) ?_
        refine t_rd rfl (rd_assign rfl) ?_
        refine rwt_nil ?_
        refine qn_then ?_
        refine cw_ret ?_
        obtain rfl := os q530
        exact ret1 rfl rfl ⟨rfl, (hm533.pick [] (by decide) rfl)⟩

theorem law43_JournalReads_ok {N : Nat} {a0 : List Int} {res : Bool} (h : law43_JournalReads N a0 = some res) {w : World} {v0 : Value} (hv0 : Sl (Old w No) w v0 a0) :
    CallsR Try.prog 5 [v0] w (fun u w' => u = (Value.bool res) ∧ Mem w No [] w') := by
  unfold law43_JournalReads at h
  refine fn_ok Try.func5 rfl rfl rfl ?_
  have hm0 := Mem.nil w
  refine cw_seq ?_
  refine cw_region ?_
  refine t_rd rfl (rd_assign rfl) ?_
  refine rwt_nil ?_
  refine qn_then ?_
  refine cw_seq ?_
  refine cw_region ?_
  refine t_rd rfl (rd_move rfl) ?_
  obtain ⟨r1, h2, q3⟩ := ob h; clear h
  refine t_ef rfl (ef_call tf7 rfl (humpgen_New_ok h2 (hv0.to_call hm0))) ?_
  rintro _ w6 ⟨g4, e_, hm5⟩
  obtain rfl := e_.symm
  have hm7 := hm0.call hm5
  refine t_rd rfl (rd_assign rfl) ?_
  refine rwt_nil ?_
  refine qn_then ?_
  refine cw_seq ?_
  refine cw_region ?_
  refine t_rd rfl (rd_move rfl) ?_
  obtain ⟨r8, h9, q10⟩ := ob q3; clear q3
  refine t_ef rfl (ef_call tf8 rfl (law43_records_ok h9 (hv0.to_callT (k := 0) hm7 rfl) (hm7.get (k := 0) rfl))) ?_
  rintro _ w14 ⟨zs12, v11, e_, hm13⟩
  obtain rfl := e_.symm
  have hm15 := hm7.callT (k := 0) rfl (fun _ h => h) hm13 (fun _ => Iff.rfl)
  refine t_rd rfl (rd_assign rfl) ?_
  refine rwt_nil ?_
  refine qn_then ?_
  refine cw_seq ?_
  refine cw_region ?_
  refine t_rd rfl (rd_assign rfl) ?_
  refine rwt_nil ?_
  refine qn_then ?_
  refine cw_seq ?_
  refine cw_seq ?_
  refine cw_region ?_
  refine t_rd rfl (rd_assign rfl) ?_
  refine rwt_nil ?_
  refine qn_then ?_
  refine cw_block ?_
  have hm76 := hm15.addNil (α := UInt8) 5
  obtain ⟨r212, hit213, q214⟩ := ob q10; clear q10
  refine cw_loop2 (I := fun q envq wq => ∃ (v205 : Value), Sub [(4, v11), (5, v205), (6, (Value.int .i64 q.1))] envq ∧ Mem w No [ownL 5 v205 (q.2 : List UInt8), ownL 27 v11 (zs12 : List Hdr), rowsC 5 zs12 (r8.2 : List (List UInt8)) none] wq) (X := fun eq envq wq => (∃ p215, r212 = (Sum.inl p215) ∧ eq = .ret ∧ retQ Try.prog 95 Try.f5 (fun u w' => u = (Value.bool p215) ∧ Mem w No [] w') .ret envq wq) ∨ (∃ p216, r212 = (Sum.inr p216) ∧ eq = .exit 0 ∧ ∃ (v202 : Value), Sub [(4, v11), (5, v202)] envq ∧ Mem w No [ownL 5 v202 (p216 : List UInt8), ownL 27 v11 (zs12 : List Hdr), rowsC 5 zs12 (r8.2 : List (List UInt8)) none] wq)) hit213 ⟨(Value.slice none 0 0), (by repeat (first | exact Sub.nil _ | refine Sub.cons rfl ?_)), (hm76.pick [0, 1, 2] (by decide) rfl)⟩ ?_ ?_
  · rintro ⟨i203, l204⟩ x207 env208 w209 hf210 hr211 ⟨v205, hs_, hm_⟩
    have hs_ : Sub [(4, v11), (5, v205), (6, (Value.int .i64 i203))] env208 := hs_
    have hm217 : Mem w No [ownL 5 v205 (l204 : List UInt8), ownL 27 v11 (zs12 : List Hdr), rowsC 5 zs12 (r8.2 : List (List UInt8)) none] w209 := hm_
    refine cw_sub hs_ ?_
    clear hs_ hm_ q214
    have h : law43_JournalReads_l1 N r8 i203 l204 = some x207 := hf210
    clear hf210
    refine cw_seq ?_
    refine cw_seq ?_
    refine cw_region ?_
    refine t_rd rfl (rd_move rfl) ?_
    refine t_rd rfl (rd_move rfl) ?_
    refine t_rd rfl (rd_lenS tS25 rfl ((Nl.mk (hm217.sl_call 1 rfl) (hm217.rows_call 2 rfl)).sl)) ?_
    refine t_rd rfl (rd_lss rfl rfl) ?_
    refine rwt_nil ?_
    refine qn_then ?_
    obtain ⟨hb218, q219⟩ | ⟨hb218, q219⟩ := oi h <;> clear h
    · refine cw_t rfl hb218 ?_
      refine cw_skip ?_
      refine qn_then ?_
      refine cw_seq ?_
      refine cw_block ?_
      refine cw_seq ?_
      refine cw_region ?_
      refine t_rd rfl (rd_move rfl) ?_
      refine t_rd rfl (rd_move rfl) ?_
      refine t_rd rfl (rd_move rfl) ?_
      obtain ⟨x220, h221, q222⟩ := ob q219; clear q219
      refine t_rd rfl (rd_index tS25 rfl rfl ((Nl.mk (hm217.sl_call 1 rfl) (hm217.rows_call 2 rfl)).sl) h221) ?_
      obtain ⟨zd223, hz224⟩ := (Nl.mk (hm217.sl_call 1 rfl) (hm217.rows_call 2 rfl)).row h221
      refine t_rd rfl (rd_ld1 tO27 rfl ((Nl.mk (hm217.sl_call 1 rfl) (hm217.rows_call 2 rfl)).cells hz224) (off := 0) rfl) ?_
      obtain ⟨r225, h226, q227⟩ := ob q222; clear q222
      refine t_ef rfl (ef_call tf18 rfl (journal_Append_ok h226 (hm217.sl_call 0 rfl) ((Nl.mk (hm217.sl_call 1 rfl) (hm217.rows_call 2 rfl)).get hz224 h221))) ?_
      rintro _ w230 ⟨v228, e_, hm229⟩
      obtain rfl := e_.symm
      have hm231 := hm217.call hm229
      refine t_rd rfl (rd_move rfl) ?_
      refine t_rd rfl (rd_extract rfl rfl) ?_
      refine t_rd rfl (rd_extract rfl rfl) ?_
      refine t_rd rfl (rd_assign rfl) ?_
      refine t_rd rfl (rd_assign rfl) ?_
      refine rwt_nil ?_
      refine qn_then ?_
      refine cw_seq ?_
      refine cw_seq ?_
      refine cw_region ?_
      refine t_rd rfl (rd_move rfl) ?_
      refine t_rd rfl (rd_neq rfl rfl) ?_
      refine t_rd rfl (rd_move rfl) ?_
      refine t_rdg rfl rfl rfl rfl (gv_f _) (fun hg232 => (rd_move rfl)) ?_
      refine t_rdg rfl rfl rfl rfl (gv_f _) (fun hg233 => (rd_lenS tS27 (gvx rfl hg233) (hm231.sl 0 rfl))) ?_
      refine t_rdg rfl rfl rfl rfl (gv_f _) (fun hg234 => (rd_move rfl)) ?_
      refine t_rdg rfl rfl rfl rfl (gv_f _) (fun hg235 => (rd_lenS tS27 (gvx rfl hg235) (hm231.sl 1 rfl))) ?_
      obtain ⟨x237, h238, q239⟩ := ob q227; clear q227
      refine t_rdg rfl rfl rfl rfl (gv_f _) (fun hg236 => (rd_add64 (gO_t h238 hg236) (gvx rfl hg236) rfl)) ?_
      refine t_rdg rfl rfl rfl rfl (gv_f _) (fun hg240 => (rd_move rfl)) ?_
      refine t_rdg rfl rfl rfl rfl (gv_f _) (fun hg241 => (rd_move rfl)) ?_
      obtain ⟨x243, h244, q245⟩ := ob q239; clear q239
      refine t_rdg rfl rfl rfl rfl (gv_f _) (fun hg242 => (rd_index tS25 (gvx rfl hg242) (gvx rfl hg242) ((Nl.mk (hm231.sl_call 2 rfl) (hm231.rows_call 3 rfl)).sl) (gO_t h244 hg242))) ?_
      obtain ⟨zd247, hz248⟩ := (Nl.mk (hm231.sl_call 2 rfl) (hm231.rows_call 3 rfl)).rowg (g := (!(!decide (r225.2 = 0)))) (fun q => gO_t h244 q)
      refine t_rdg rfl rfl rfl rfl (gv_f _) (fun hg246 => (rd_ld1 tO27 (gvx rfl hg246) ((Nl.mk (hm231.sl_call 2 rfl) (hm231.rows_call 3 rfl)).cells (hz248 hg246)) (off := 0) rfl)) ?_
      refine t_rdg rfl rfl rfl rfl (gv_f _) (fun hg249 => (rd_lenS tS27 (gvx rfl hg249) ((Nl.mk (hm231.sl_call 2 rfl) (hm231.rows_call 3 rfl)).get (hz248 hg249) (gO_t h244 hg249)))) ?_
      obtain ⟨x251, h252, q253⟩ := ob q245; clear q245
      refine t_rdg rfl rfl rfl rfl (gv_f _) (fun hg250 => (rd_add64 (gO_t h252 hg250) (gvx rfl hg250) (gvx rfl hg250))) ?_
      refine t_rdg rfl rfl rfl rfl (gv_f _) (fun hg254 => (rd_neq (gvx rfl hg254) (gvx rfl hg254))) ?_
      refine t_rd rfl (rd_or rfl (fun hc255 => (gvx rfl (bnotIt hc255)))) ?_
      refine t_rd rfl (rd_move rfl) ?_
      refine t_rdg rfl rfl rfl rfl (gv_f _) (fun hg256 => (rd_move rfl)) ?_
      refine t_rdg rfl rfl rfl rfl (gv_f _) (fun hg257 => (rd_move rfl)) ?_
      refine t_rdg rfl rfl rfl rfl (gv_f _) (fun hg258 => (rd_lenS tS27 (gvx rfl hg258) (hm231.sl 1 rfl))) ?_
      obtain ⟨l260, h261, q262⟩ := ob q253; clear q253
      refine t_rdg rfl rfl rfl rfl (gv_f _) (fun hg259 => (rd_slcH tS27 (gvx rfl hg259) (gvx rfl hg259) (hm231.sl 0 rfl) (gO_t h261 hg259))) ?_
      refine t_rdg rfl rfl rfl rfl (gv_f _) (fun hg263 => (rd_move rfl)) ?_
      obtain ⟨r265, h266, q267⟩ := ob q262; clear q262
      refine t_efg rfl rfl rfl rfl (R := (fun v w' => v = gV (!((!decide (r225.2 = 0)) || (!decide ((List.length r225.1 : Int) = x251)))) (Value.bool r265) ∧ Mem w230 No [] w')) (gv_f _) (fun hg264 => (ef_call tf19 (evc (gvx rfl hg264) (evc (gvx rfl hg264) evn)) (humpgen_Bytes_ok (gO_t h266 hg264) ((hm231.sl_call 0 rfl).sub (gO_t h261 hg264)) (hm231.sl_call 1 rfl))).mono (by rintro _ _ ⟨rfl, q⟩; exact ⟨(gV_t hg264).symm, q⟩)) (fun q => ⟨(gV_f q).symm, Mem.nil _⟩) ?_
      rintro _ w269 ⟨rfl, hm268⟩
      have hm270 := hm231.call hm268
      refine t_rdg rfl rfl rfl rfl (gv_f _) (fun hg271 => (rd_not (gvx rfl hg271))) ?_
      refine t_rd rfl (rd_or rfl (fun hc272 => (gvx rfl (bnotIt hc272)))) ?_
      refine rwt_nil ?_
      refine qn_then ?_
      obtain ⟨hb273, q274⟩ | ⟨hb273, q274⟩ := oi q267 <;> clear q267
      · refine cw_t rfl hb273 ?_
        refine cw_seq ?_
        refine cw_region ?_
        refine t_rd rfl (rd_assign rfl) ?_
        refine rwt_nil ?_
        refine qn_then ?_
        refine cw_ret ?_
        refine qr_then (qr_block (qr_then (qr_then ?_)))
        obtain rfl := hr211 _ (os q274)
        refine .inl (⟨_, rfl, ⟨rfl, ?_⟩⟩)
        exact ret1 rfl rfl ⟨rfl, (hm270.pick [] (by decide) rfl)⟩
      · refine cw_f rfl hb273 ?_
        refine cw_skip ?_
        refine qn_then ?_
        refine cw_region ?_
        refine t_rd rfl (rd_move rfl) ?_
        refine t_rd rfl (rd_assign rfl) ?_
        refine rwt_nil ?_
        refine qn_block (qn_then ?_)
        refine cw_region ?_
        refine t_rd rfl (rd_move rfl) ?_
        obtain ⟨x275, h276, q277⟩ := ob q274; clear q274
        refine t_rd rfl (rd_add64 h276 rfl rfl) ?_
        refine t_rd rfl (rd_assign rfl) ?_
        refine rwt_nil ?_
        refine qn_then ?_
        refine ⟨_, (os q277), v228, (by repeat (first | exact Sub.nil _ | refine Sub.cons rfl ?_)), (hm270.pick [0, 2, 3] (by decide) rfl)⟩
    · refine cw_f rfl hb218 ?_
      refine cw_exit ?_
      refine qx_then (qx_then ?_)
      obtain rfl := hr211 _ (os q219)
      exact .inr (⟨_, rfl, ⟨rfl, v205, (by repeat (first | exact Sub.nil _ | refine Sub.cons rfl ?_)), (hm217.pick [0, 1, 2] (by decide) rfl)⟩⟩)
  · skip
    intro e env278 w279 hX280
    rcases hX280 with hX280 | hX280
    · obtain ⟨p282, rfl, hX280⟩ := hX280
      obtain ⟨rfl, hq284⟩ := hX280
      exact qr_block (qr_then ((by have e := os q214; subst e; exact hq284)))
    · obtain ⟨p285, rfl, hX280⟩ := hX280
      obtain ⟨rfl, v202, hs286, hm287⟩ := hX280
      refine qx_same (qn_then ?_)
      refine cw_sub hs286 ?_
      refine cw_seq ?_
      refine cw_region ?_
      refine t_rd rfl (rd_move rfl) ?_
      obtain ⟨r288, h289, q290⟩ := ob q214; clear q214
      refine t_ef rfl (ef_call tf11 rfl (journal_Records_ok h289 (hm287.sl_call 0 rfl))) ?_
      rintro _ w294 ⟨zs292, v291, e_, hm293⟩
      obtain rfl := e_.symm
      have hm295 := hm287.call hm293
      refine t_rd rfl (rd_move rfl) ?_
      refine t_rd rfl (rd_extract rfl rfl) ?_
      refine t_rd rfl (rd_extract rfl rfl) ?_
      refine t_rd rfl (rd_extract rfl rfl) ?_
      refine t_rd rfl (rd_assign rfl) ?_
      refine t_rd rfl (rd_assign rfl) ?_
      refine t_rd rfl (rd_assign rfl) ?_
      refine rwt_nil ?_
      refine qn_then ?_
      refine cw_seq ?_
      refine cw_region ?_
      refine t_rd rfl (rd_move rfl) ?_
      obtain ⟨r296, h297, q298⟩ := ob q290; clear q290
      refine t_ef rfl (ef_call tf20 rfl (journal_Mend_ok h297 (hm295.sl_call 2 rfl))) ?_
      rintro _ w301 ⟨v299, e_, hm300⟩
      obtain rfl := e_.symm
      have hm302 := hm295.call hm300
      refine t_rd rfl (rd_move rfl) ?_
      refine t_rd rfl (rd_extract rfl rfl) ?_
      refine t_rd rfl (rd_extract rfl rfl) ?_
      refine t_rd rfl (rd_assign rfl) ?_
      refine t_rd rfl (rd_assign rfl) ?_
      refine rwt_nil ?_
      refine qn_then ?_
      refine cw_seq ?_
      refine cw_region ?_
      refine t_rd rfl (rd_move rfl) ?_
      refine t_rd rfl (rd_eql rfl rfl) ?_
      refine t_rd rfl (rd_move rfl) ?_
      refine t_rdg rfl rfl rfl rfl (gv_t _) (fun hg303 => (rd_move rfl)) ?_
      refine t_rdg rfl rfl rfl rfl (gv_t _) (fun hg304 => (rd_move rfl)) ?_
      refine t_rdg rfl rfl rfl rfl (gv_t _) (fun hg305 => (rd_lenS tS27 (gvx rfl hg305) (hm302.sl 3 rfl))) ?_
      refine t_rdg rfl rfl rfl rfl (gv_t _) (fun hg306 => (rd_eql (gvx rfl hg306) (gvx rfl hg306))) ?_
      refine t_rd rfl (rd_and rfl (fun hc307 => (gvx rfl hc307))) ?_
      refine t_rd rfl (rd_move rfl) ?_
      refine t_rdg rfl rfl rfl rfl (gv_t _) (fun hg308 => (rd_move rfl)) ?_
      refine t_rdg rfl rfl rfl rfl (gv_t _) (fun hg309 => (rd_move rfl)) ?_
      obtain ⟨r311, h312, q313⟩ := ob q298; clear q298
      refine t_efg rfl rfl rfl rfl (R := (fun v w' => v = gV (decide (r288.2.2 = 0) && decide (r288.2.1 = (List.length p285 : Int))) (Value.bool r311) ∧ Mem w301 No [] w')) (gv_t _) (fun hg310 => (ef_call tf12 (evc (gvx rfl hg310) (evc (gvx rfl hg310) evn)) (law43_same_ok (gO_t h312 hg310) ((Nl.mk (hm302.sl_call 1 rfl) (hm302.rows_call 2 rfl)).sl) ((Nl.mk (hm302.sl_call 4 rfl) (hm302.rows_call 5 rfl)).sl))).mono (by rintro _ _ ⟨rfl, q⟩; exact ⟨(gV_t hg310).symm, q⟩)) (fun q => ⟨(gV_f q).symm, Mem.nil _⟩) ?_
      rintro _ w315 ⟨rfl, hm314⟩
      have hm316 := hm302.call hm314
      refine t_rd rfl (rd_and rfl (fun hc317 => (gvx rfl hc317))) ?_
      refine t_rd rfl (rd_move rfl) ?_
      refine t_rdg rfl rfl rfl rfl (gv_t _) (fun hg318 => (rd_move rfl)) ?_
      refine t_rdg rfl rfl rfl rfl (gv_t _) (fun hg319 => (rd_eql (gvx rfl hg319) rfl)) ?_
      refine t_rd rfl (rd_and rfl (fun hc320 => (gvx rfl hc320))) ?_
      refine t_rd rfl (rd_move rfl) ?_
      refine t_rdg rfl rfl rfl rfl (gv_t _) (fun hg321 => (rd_move rfl)) ?_
      refine t_rdg rfl rfl rfl rfl (gv_t _) (fun hg322 => (rd_move rfl)) ?_
      obtain ⟨r324, h325, q326⟩ := ob q313; clear q313
      refine t_efg rfl rfl rfl rfl (R := (fun v w' => v = gV (((decide (r288.2.2 = 0) && decide (r288.2.1 = (List.length p285 : Int))) && r311) && decide (r296.2 = 0)) (Value.bool r324) ∧ Mem w315 No [] w')) (gv_t _) (fun hg323 => (ef_call tf19 (evc (gvx rfl hg323) (evc (gvx rfl hg323) evn)) (humpgen_Bytes_ok (gO_t h325 hg323) (hm316.sl_call 0 rfl) (hm316.sl_call 3 rfl))).mono (by rintro _ _ ⟨rfl, q⟩; exact ⟨(gV_t hg323).symm, q⟩)) (fun q => ⟨(gV_f q).symm, Mem.nil _⟩) ?_
      rintro _ w328 ⟨rfl, hm327⟩
      have hm329 := hm316.call hm327
      refine t_rd rfl (rd_and rfl (fun hc330 => (gvx rfl hc330))) ?_
      refine t_rd rfl (rd_move rfl) ?_
      obtain ⟨r332, h333, q334⟩ := ob q326; clear q326
      refine t_efg rfl rfl rfl rfl (R := (fun v w' => v = gV ((((decide (r288.2.2 = 0) && decide (r288.2.1 = (List.length p285 : Int))) && r311) && decide (r296.2 = 0)) && r324) (Value.bool r332) ∧ Mem w328 No [] w')) (gv_t _) (fun hg331 => (ef_call tf13 rfl (law43_sane_ok (gO_t h333 hg331))).mono (by rintro _ _ ⟨rfl, q⟩; exact ⟨(gV_t hg331).symm, q⟩)) (fun q => ⟨(gV_f q).symm, Mem.nil _⟩) ?_
      rintro _ w336 ⟨rfl, hm335⟩
      have hm337 := hm329.call hm335
      refine t_rd rfl (rd_and rfl (fun hc338 => (gvx rfl hc338))) ?_
      refine t_rd rfl (rd_assign rfl) ?_
      refine rwt_nil ?_
      refine qn_then ?_
      refine cw_ret ?_
      obtain rfl := os q334
      exact ret1 rfl rfl ⟨rfl, (hm337.pick [] (by decide) rfl)⟩

end Go.Proofs.Ytlegmajpgekfcaa
