/- Each call computes what its mirror does; written by a program of mine (gowalk.py). -/
import Derived.Test.YtlfinhdanjbmcaaWka
namespace Go.Proofs.Ytlfinhdanjbmcaa
open Go.Gv Go.RowKit
set_option linter.unusedVariables false
set_option maxRecDepth 100000

theorem r08_Potential_ok {N : Nat} {a0 : List Int} {a1 : List Int} {res : List (List Int) × Int} (h : r08_Potential N a0 a1 = some res) {w : World} {v0 : Value} {v1 : Value} (hv0 : Sl (Old w No) w v0 a0) (hv1 : Sl (Old w No) w v1 a1) :
    CallsR Try.prog 15 [v0, v1] w (fun u w' => ∃ (zy0 : List Hdr) (y1 : Value), u = (Value.tuple #[y1, (Value.int .i64 res.2)]) ∧ Mem w No [ownL 22 y1 (zy0 : List Hdr), rowsC 3 zy0 (res.1 : List (List Int)) none] w') := by
  unfold r08_Potential at h
  refine fn_ok Try.func15 rfl rfl rfl ?_
  have hm0 := Mem.nil w
  refine cw_seq ?_
  refine cw_region ?_
  refine t_rd rfl (rd_assign rfl) ?_
  refine t_rd rfl (rd_assign rfl) ?_
  refine rwt_nil ?_
  refine qn_then ?_
  refine cw_seq ?_
  refine cw_seq ?_
  refine cw_region ?_
  refine t_rd rfl (rd_move rfl) ?_
  refine t_rd rfl (rd_move rfl) ?_
  obtain ⟨r1, h2, q3⟩ := ob h; clear h
  refine t_ef rfl (ef_call tf28 rfl (r08_long_ok h2 (hv0.to_call hm0) (hv1.to_call hm0))) ?_
  rintro _ w5 ⟨e_, hm4⟩
  obtain rfl := e_.symm
  have hm6 := hm0.call hm4
  refine rwt_nil ?_
  refine qn_then ?_
  obtain ⟨hb7, q8⟩ | ⟨hb7, q8⟩ := oi q3 <;> clear q3
  · refine cw_t rfl hb7 ?_
    refine cw_seq ?_
    refine cw_region ?_
    refine t_rd rfl (rd_assign rfl) ?_
    refine t_rd rfl (rd_assign rfl) ?_
    refine rwt_nil ?_
    refine qn_then ?_
    refine cw_ret ?_
    refine qr_then ?_
    obtain rfl := os q8
    have hm9 := hm6.addNil (α := Hdr) 22
    have hm10 := hm9.rowsNil (α := Int) 3
    exact ret2 rfl rfl rfl ⟨[], (Value.slice none 0 0), rfl, (hm10.pick [1, 0] (by decide) rfl)⟩
  · refine cw_f rfl hb7 ?_
    refine cw_skip ?_
    refine qn_then ?_
    refine cw_seq ?_
    refine cw_region ?_
    refine t_rd rfl (rd_move rfl) ?_
    refine t_rd rfl (rd_move rfl) ?_
    obtain ⟨r11, h12, q13⟩ := ob q8; clear q8
    refine t_ef rfl (ef_call tf29 rfl (r08_table_ok h12 (hv0.to_call hm6) (hv1.to_call hm6))) ?_
    rintro _ w17 ⟨zs15, v14, e_, hm16⟩
    obtain rfl := e_.symm
    have hm18 := hm6.call hm16
    refine t_rd rfl (rd_assign rfl) ?_
    refine rwt_nil ?_
    refine qn_then ?_
    refine cw_seq ?_
    refine cw_region ?_
    refine t_rd rfl (rd_move rfl) ?_
    obtain ⟨x19, h20, q21⟩ := ob q13; clear q13
    refine t_rd rfl (rd_index tS33 rfl rfl ((Nl.mk (hm18.sl_call 0 rfl) (hm18.rows_call 1 rfl)).sl) h20) ?_
    obtain ⟨zd22, hz23⟩ := (Nl.mk (hm18.sl_call 0 rfl) (hm18.rows_call 1 rfl)).row h20
    refine t_rd rfl (rd_ld1 tO22 rfl ((Nl.mk (hm18.sl_call 0 rfl) (hm18.rows_call 1 rfl)).cells hz23) (off := 0) rfl) ?_
    obtain ⟨x24, h25, q26⟩ := ob q21; clear q21
    refine t_rd rfl (rd_index tS22 rfl rfl ((Nl.mk (hm18.sl_call 0 rfl) (hm18.rows_call 1 rfl)).get hz23 h20) h25) ?_
    have hm27 := hm18.pick [1, 0] (L' := [rowsC 3 zs15 (r11 : List (List Int)) none, ownL 22 v14 (zs15 : List Hdr)]) (by decide) rfl
    refine t_ef0 (ef_strow (off := 0) (x' := 0) hm27 tO3 hz23 h20 rfl rfl rfl h25 rfl rfl) ?_
    intro _ w29 hm28
    refine rwt_nil ?_
    refine qn_then ?_
    refine cw_seq ?_
    refine cw_seq ?_
    refine cw_region ?_
    refine t_rd rfl (rd_assign rfl) ?_
    refine rwt_nil ?_
    refine qn_then ?_
    refine cw_block ?_
    obtain ⟨r2113, hit2114, q2115⟩ := ob q26; clear q26
    refine cw_loop2 (I := fun q envq wq => ∃ (v2105 : Value) (zs2106 : List Hdr), Sub [(0, v0), (1, v1), (6, v2105), (7, (Value.int .i64 q.1))] envq ∧ Mem w No [rowsC 3 zs2106 (q.2 : List (List Int)) none, ownL 22 v2105 (zs2106 : List Hdr)] wq) (X := fun eq envq wq => eq = .exit 0 ∧ ∃ (v2101 : Value) (zs2102 : List Hdr), Sub [(6, v2101)] envq ∧ Mem w No [rowsC 3 zs2102 (r2113 : List (List Int)) none, ownL 22 v2101 (zs2102 : List Hdr)] wq) hit2114 ⟨v14, zs15, (by repeat (first | exact Sub.nil _ | refine Sub.cons rfl ?_)), (hm28.pick [0, 1] (by decide) rfl)⟩ ?_ ?_
    · rintro ⟨i2103, l2104⟩ x2108 env2109 w2110 hf2111 hr2112 ⟨v2105, zs2106, hs_, hm_⟩
      have hs_ : Sub [(0, v0), (1, v1), (6, v2105), (7, (Value.int .i64 i2103))] env2109 := hs_
      have hm2116 : Mem w No [rowsC 3 zs2106 (l2104 : List (List Int)) none, ownL 22 v2105 (zs2106 : List Hdr)] w2110 := hm_
      refine cw_sub hs_ ?_
      clear hs_ hm_ q2115
      have h : r08_Potential_l9 N a0 a1 i2103 l2104 = some x2108 := hf2111
      clear hf2111
      refine cw_seq ?_
      refine cw_seq ?_
      refine cw_region ?_
      refine t_rd rfl (rd_move rfl) ?_
      refine t_rd rfl (rd_move rfl) ?_
      refine t_rd rfl (rd_lenS tS22 rfl (hv0.of_old hm2116)) ?_
      refine t_rd rfl (rd_leq rfl rfl) ?_
      refine rwt_nil ?_
      refine qn_then ?_
      obtain ⟨hb2117, q2118⟩ | ⟨hb2117, q2118⟩ := oi h <;> clear h
      · refine cw_t rfl hb2117 ?_
        refine cw_skip ?_
        refine qn_then ?_
        refine cw_seq ?_
        refine cw_block ?_
        refine cw_seq ?_
        refine cw_region ?_
        refine t_rd rfl (rd_assign rfl) ?_
        refine rwt_nil ?_
        refine qn_then ?_
        refine cw_block ?_
        obtain ⟨r2804, hit2805, q2806⟩ := ob q2118; clear q2118
        refine cw_loop2 (I := fun q envq wq => ∃ (v2796 : Value) (zs2797 : List Hdr), Sub [(0, v0), (1, v1), (6, v2796), (7, (Value.int .i64 i2103)), (8, (Value.int .i64 q.1))] envq ∧ Mem w No [rowsC 3 zs2797 (q.2 : List (List Int)) none, ownL 22 v2796 (zs2797 : List Hdr)] wq) (X := fun eq envq wq => eq = .exit 2 ∧ ∃ (v2792 : Value) (zs2793 : List Hdr), Sub [(0, v0), (1, v1), (6, v2792), (7, (Value.int .i64 i2103))] envq ∧ Mem w No [rowsC 3 zs2793 (r2804 : List (List Int)) none, ownL 22 v2792 (zs2793 : List Hdr)] wq) hit2805 ⟨v2105, zs2106, (by repeat (first | exact Sub.nil _ | refine Sub.cons rfl ?_)), (hm2116.pick [0, 1] (by decide) rfl)⟩ ?_ ?_
        · rintro ⟨i2794, l2795⟩ x2799 env2800 w2801 hf2802 hr2803 ⟨v2796, zs2797, hs_, hm_⟩
          have hs_ : Sub [(0, v0), (1, v1), (6, v2796), (7, (Value.int .i64 i2103)), (8, (Value.int .i64 i2794))] env2800 := hs_
          have hm2807 : Mem w No [rowsC 3 zs2797 (l2795 : List (List Int)) none, ownL 22 v2796 (zs2797 : List Hdr)] w2801 := hm_
          refine cw_sub hs_ ?_
          clear hs_ hm_ q2806
          have h : r08_Potential_l12 N a0 a1 i2103 i2794 l2795 = some x2799 := hf2802
          clear hf2802
          refine cw_seq ?_
          refine cw_seq ?_
          refine cw_region ?_
          refine t_rd rfl (rd_move rfl) ?_
          refine t_rd rfl (rd_move rfl) ?_
          refine t_rd rfl (rd_lenS tS22 rfl (hv1.of_old hm2807)) ?_
          refine t_rd rfl (rd_leq rfl rfl) ?_
          refine rwt_nil ?_
          refine qn_then ?_
          obtain ⟨hb2808, q2809⟩ | ⟨hb2808, q2809⟩ := oi h <;> clear h
          · refine cw_t rfl hb2808 ?_
            refine cw_skip ?_
            refine qn_then ?_
            refine cw_seq ?_
            refine cw_block ?_
            refine cw_seq ?_
            refine cw_region ?_
            refine t_rd rfl (rd_assign rfl) ?_
            refine rwt_nil ?_
            refine qn_then ?_
            refine cw_block ?_
            obtain ⟨r3029, hit3030, q3031⟩ := ob q2809; clear q2809
            refine cw_loop2 (I := fun q envq wq => ∃ (v3021 : Value) (zs3022 : List Hdr), Sub [(0, v0), (1, v1), (6, v3021), (7, (Value.int .i64 i2103)), (8, (Value.int .i64 i2794)), (9, (Value.int .i64 q.1))] envq ∧ Mem w No [rowsC 3 zs3022 (q.2 : List (List Int)) none, ownL 22 v3021 (zs3022 : List Hdr)] wq) (X := fun eq envq wq => eq = .exit 4 ∧ ∃ (v3017 : Value) (zs3018 : List Hdr), Sub [(0, v0), (1, v1), (6, v3017), (7, (Value.int .i64 i2103)), (8, (Value.int .i64 i2794))] envq ∧ Mem w No [rowsC 3 zs3018 (r3029 : List (List Int)) none, ownL 22 v3017 (zs3018 : List Hdr)] wq) hit3030 ⟨v2796, zs2797, (by repeat (first | exact Sub.nil _ | refine Sub.cons rfl ?_)), (hm2807.pick [0, 1] (by decide) rfl)⟩ ?_ ?_
            · rintro ⟨i3019, l3020⟩ x3024 env3025 w3026 hf3027 hr3028 ⟨v3021, zs3022, hs_, hm_⟩
              have hs_ : Sub [(0, v0), (1, v1), (6, v3021), (7, (Value.int .i64 i2103)), (8, (Value.int .i64 i2794)), (9, (Value.int .i64 i3019))] env3025 := hs_
              have hm3032 : Mem w No [rowsC 3 zs3022 (l3020 : List (List Int)) none, ownL 22 v3021 (zs3022 : List Hdr)] w3026 := hm_
              refine cw_sub hs_ ?_
              clear hs_ hm_ q3031
              have h : r08_Potential_l13 N a0 a1 i2103 i2794 i3019 l3020 = some x3024 := hf3027
              clear hf3027
              refine cw_seq ?_
              refine cw_seq ?_
              refine cw_region ?_
              refine t_rd rfl (rd_move rfl) ?_
              refine t_rd rfl (rd_leq rfl rfl) ?_
              refine rwt_nil ?_
              refine qn_then ?_
              obtain ⟨hb3033, q3034⟩ | ⟨hb3033, q3034⟩ := oi h <;> clear h
              · refine cw_t rfl hb3033 ?_
                refine cw_skip ?_
                refine qn_then ?_
                refine cw_seq ?_
                refine cw_block ?_
                refine cw_seq ?_
                refine cw_region ?_
                refine t_rd rfl (rd_move rfl) ?_
                refine t_rd rfl (rd_move rfl) ?_
                refine t_rd rfl (rd_move rfl) ?_
                refine t_rd rfl (rd_move rfl) ?_
                refine t_rd rfl (rd_move rfl) ?_
                obtain ⟨r3035, h3036, q3037⟩ := ob q3034; clear q3034
                refine t_ef rfl (ef_call tf30 rfl (r08_edit_ok h3036 (hv0.to_call hm3032) (hv1.to_call hm3032))) ?_
                rintro _ w3039 ⟨e_, hm3038⟩
                obtain rfl := e_.symm
                have hm3040 := hm3032.call hm3038
                refine t_rd rfl (rd_move rfl) ?_
                refine t_rd rfl (rd_extract rfl rfl) ?_
                refine t_rd rfl (rd_extract rfl rfl) ?_
                refine t_rd rfl (rd_extract rfl rfl) ?_
                refine t_rd rfl (rd_extract rfl rfl) ?_
                refine t_rd rfl (rd_assign rfl) ?_
                refine t_rd rfl (rd_assign rfl) ?_
                refine t_rd rfl (rd_assign rfl) ?_
                refine t_rd rfl (rd_assign rfl) ?_
                refine rwt_nil ?_
                refine qn_then ?_
                refine cw_seq ?_
                obtain ⟨w3042, he3044⟩ : ∃ q, q = w3039.drew := ⟨_, rfl⟩
                have hm3043 := hm3040.drew; rw [← he3044] at hm3043
                refine cw_region_s (fun q => q = w3042) (cls [] []) mixed ?_
                rintro _ rfl; rw [← he3044]
                refine s_rp (i := 0) rfl (by kernel_rfl) rfl (fun _ => (rd_move rfl)) ?_
                refine s_rp (i := 1) rfl (by kernel_rfl) rfl (fun _ => (rd_move rfl)) ?_
                refine s_rpg (i := 2) rfl (by kernel_rfl) rfl rfl rfl rfl (gv_t _) (fun hg3045 _ => (rd_move rfl)) ?_
                refine s_rpg (i := 3) rfl (by kernel_rfl) rfl rfl rfl rfl (gv_t _) (fun hg3046 _ => (rd_move rfl)) ?_
                obtain ⟨x3048, h3049, q3050⟩ := ob q3037; clear q3037
                refine s_rpg (i := 4) rfl (by kernel_rfl) rfl rfl rfl rfl (gv_t _) (fun hg3047 _ => (rd_index tS33 (gvx rfl hg3047) (gvx rfl hg3047) ((Nl.mk (hm3043.sl_call 1 rfl) (hm3043.rows_call 0 rfl)).sl) (gO_t h3049 hg3047))) ?_
                obtain ⟨zd3052, hz3053⟩ := (Nl.mk (hm3043.sl_call 1 rfl) (hm3043.rows_call 0 rfl)).rowg (g := r3035.2.2.2) (fun q => gO_t h3049 q)
                refine s_rdg (i := 5) rfl (by kernel_rfl) rfl rfl rfl rfl (gv_t _) (fun hg3051 => (fun _ hS => by rw [hS]; exact (rd_ld1 tO22 (gvx rfl hg3051) ((Nl.mk (hm3043.sl_call 1 rfl) (hm3043.rows_call 0 rfl)).cells (hz3053 hg3051)) (off := 0) rfl))) rfl ?_
                refine s_rpg (i := 6) rfl (by kernel_rfl) rfl rfl rfl rfl (gv_t _) (fun hg3054 _ => (rd_move rfl)) ?_
                obtain ⟨x3056, h3057, q3058⟩ := ob q3050; clear q3050
                refine s_rpg (i := 7) rfl (by kernel_rfl) rfl rfl rfl rfl (gv_t _) (fun hg3055 _ => (rd_index tS22 (gvx rfl hg3055) (gvx rfl hg3055) ((Nl.mk (hm3043.sl_call 1 rfl) (hm3043.rows_call 0 rfl)).get (hz3053 hg3055) (gO_t h3049 hg3055)) (gO_t h3057 hg3055))) ?_
                refine s_rdg (i := 8) rfl (by kernel_rfl) rfl rfl rfl rfl (gv_t _) (fun hg3059 => (fun _ hS => by rw [hS]; exact (rd_ld1 tO3 (gvx rfl hg3059) (((Nl.mk (hm3043.sl_call 1 rfl) (hm3043.rows_call 0 rfl)).get (hz3053 hg3059) (gO_t h3049 hg3059)).cells (gO_t h3057 hg3059)) (off := 0) rfl))) rfl ?_
                refine s_rpg (i := 9) rfl (by kernel_rfl) rfl rfl rfl rfl (gv_t _) (fun hg3060 _ => (rd_lss (gvx rfl hg3060) rfl)) ?_
                refine s_rpg (i := 10) rfl (by kernel_rfl) rfl rfl rfl rfl (gv_t _) (fun hg3061 _ => (rd_move (gvx rfl hg3061))) ?_
                refine s_rpg (i := 11) rfl (by kernel_rfl) rfl rfl rfl rfl (gv_nf _ _) (fun hg3062 _ => (rd_move rfl)) ?_
                refine s_rpg (i := 12) rfl (by kernel_rfl) rfl rfl rfl rfl (gv_nf _ _) (fun hg3063 _ => (rd_move rfl)) ?_
                obtain ⟨x3065, h3066, q3067⟩ := ob q3058; clear q3058
                refine s_rpg (i := 13) rfl (by kernel_rfl) rfl rfl rfl rfl (gv_nf _ _) (fun hg3064 _ => (rd_index tS33 (gvx rfl hg3064) (gvx rfl hg3064) ((Nl.mk (hm3043.sl_call 1 rfl) (hm3043.rows_call 0 rfl)).sl) (gO_t h3066 hg3064))) ?_
                obtain ⟨zd3069, hz3070⟩ := (Nl.mk (hm3043.sl_call 1 rfl) (hm3043.rows_call 0 rfl)).rowg (g := (r3035.2.2.2 && (!decide (x3056 < 0)))) (fun q => gO_t h3066 q)
                refine s_rdg (i := 14) rfl (by kernel_rfl) rfl rfl rfl rfl (gv_nf _ _) (fun hg3068 => (fun _ hS => by rw [hS]; exact (rd_ld1 tO22 (gvx rfl hg3068) ((Nl.mk (hm3043.sl_call 1 rfl) (hm3043.rows_call 0 rfl)).cells (hz3070 hg3068)) (off := 0) rfl))) rfl ?_
                refine s_rpg (i := 15) rfl (by kernel_rfl) rfl rfl rfl rfl (gv_nf _ _) (fun hg3071 _ => (rd_move rfl)) ?_
                obtain ⟨x3073, h3074, q3075⟩ := ob q3067; clear q3067
                refine s_rpg (i := 16) rfl (by kernel_rfl) rfl rfl rfl rfl (gv_nf _ _) (fun hg3072 _ => (rd_index tS22 (gvx rfl hg3072) (gvx rfl hg3072) ((Nl.mk (hm3043.sl_call 1 rfl) (hm3043.rows_call 0 rfl)).get (hz3070 hg3072) (gO_t h3066 hg3072)) (gO_t h3074 hg3072))) ?_
                refine s_rdg (i := 17) rfl (by kernel_rfl) rfl rfl rfl rfl (gv_nf _ _) (fun hg3076 => (fun _ hS => by rw [hS]; exact (rd_ld1 tO3 (gvx rfl hg3076) (((Nl.mk (hm3043.sl_call 1 rfl) (hm3043.rows_call 0 rfl)).get (hz3070 hg3076) (gO_t h3066 hg3076)).cells (gO_t h3074 hg3076)) (off := 0) rfl))) rfl ?_
                refine s_rpg (i := 18) rfl (by kernel_rfl) rfl rfl rfl rfl (gv_nf _ _) (fun hg3077 _ => (rd_move rfl)) ?_
                obtain ⟨x3079, h3080, q3081⟩ := ob q3075; clear q3075
                refine s_rpg (i := 19) rfl (by kernel_rfl) rfl rfl rfl rfl (gv_nf _ _) (fun hg3078 _ => (rd_add64 (gO_t h3080 hg3078) (gvx rfl hg3078) (gvx rfl hg3078))) ?_
                refine s_rpg (i := 20) rfl (by kernel_rfl) rfl rfl rfl rfl (gv_nf _ _) (fun hg3082 _ => (rd_move rfl)) ?_
                refine s_rpg (i := 21) rfl (by kernel_rfl) rfl rfl rfl rfl (gv_nf _ _) (fun hg3083 _ => (rd_move rfl)) ?_
                obtain ⟨x3085, h3086, q3087⟩ := ob q3081; clear q3081
                refine s_rpg (i := 22) rfl (by kernel_rfl) rfl rfl rfl rfl (gv_nf _ _) (fun hg3084 _ => (rd_index tS33 (gvx rfl hg3084) (gvx rfl hg3084) ((Nl.mk (hm3043.sl_call 1 rfl) (hm3043.rows_call 0 rfl)).sl) (gO_t h3086 hg3084))) ?_
                obtain ⟨zd3089, hz3090⟩ := (Nl.mk (hm3043.sl_call 1 rfl) (hm3043.rows_call 0 rfl)).rowg (g := (r3035.2.2.2 && (!decide (x3056 < 0)))) (fun q => gO_t h3086 q)
                refine s_rdg (i := 23) rfl (by kernel_rfl) rfl rfl rfl rfl (gv_nf _ _) (fun hg3088 => (fun _ hS => by rw [hS]; exact (rd_ld1 tO22 (gvx rfl hg3088) ((Nl.mk (hm3043.sl_call 1 rfl) (hm3043.rows_call 0 rfl)).cells (hz3090 hg3088)) (off := 0) rfl))) rfl ?_
                refine s_rpg (i := 24) rfl (by kernel_rfl) rfl rfl rfl rfl (gv_nf _ _) (fun hg3091 _ => (rd_move rfl)) ?_
                obtain ⟨x3093, h3094, q3095⟩ := ob q3087; clear q3087
                refine s_rpg (i := 25) rfl (by kernel_rfl) rfl rfl rfl rfl (gv_nf _ _) (fun hg3092 _ => (rd_index tS22 (gvx rfl hg3092) (gvx rfl hg3092) ((Nl.mk (hm3043.sl_call 1 rfl) (hm3043.rows_call 0 rfl)).get (hz3090 hg3092) (gO_t h3086 hg3092)) (gO_t h3094 hg3092))) ?_
                refine s_rdg (i := 26) rfl (by kernel_rfl) rfl rfl rfl rfl (gv_nf _ _) (fun hg3096 => (fun _ hS => by rw [hS]; exact (rd_ld1 tO3 (gvx rfl hg3096) (((Nl.mk (hm3043.sl_call 1 rfl) (hm3043.rows_call 0 rfl)).get (hz3090 hg3096) (gO_t h3086 hg3096)).cells (gO_t h3094 hg3096)) (off := 0) rfl))) rfl ?_
                refine s_rpg (i := 27) rfl (by kernel_rfl) rfl rfl rfl rfl (gv_nf _ _) (fun hg3097 _ => (rd_lss (gvx rfl hg3097) (gvx rfl hg3097))) ?_
                refine s_rpg (i := 28) rfl (by kernel_rfl) rfl rfl rfl rfl (gv_t _) (fun hg3098 _ => (rd_or (gvx rfl hg3098) (fun hc3099 => (gvx rfl (band hg3098 (bnotIt hc3099)))))) ?_
                refine s_rp (i := 29) rfl (by kernel_rfl) rfl (fun _ => (rd_and rfl (fun hc3100 => (gvx rfl hc3100)))) ?_
                refine s_nil (by kernel_rfl) ?_
                refine qn_then ?_
                obtain ⟨hb3101, q3102⟩ | ⟨hb3101, q3102⟩ := oi q3095 <;> clear q3095
                · refine cw_t rfl hb3101 ?_
                  obtain ⟨w3104, he3106⟩ : ∃ q, q = w3042.drew := ⟨_, rfl⟩
                  have hm3105 := hm3043.drew; rw [← he3106] at hm3105
                  refine cw_region_s (fun q => q = w3104) (cls [] [15]) mixed ?_
                  rintro _ rfl; rw [← he3106]
                  refine s_rp (i := 0) rfl (by kernel_rfl) rfl (fun _ => (rd_move rfl)) ?_
                  refine s_rp (i := 1) rfl (by kernel_rfl) rfl (fun _ => (rd_move rfl)) ?_
                  obtain ⟨x3107, h3108, q3109⟩ := ob q3102; clear q3102
                  refine s_rp (i := 2) rfl (by kernel_rfl) rfl (fun _ => (rd_index tS33 rfl rfl ((Nl.mk (hm3105.sl_call 1 rfl) (hm3105.rows_call 0 rfl)).sl) h3108)) ?_
                  obtain ⟨zd3110, hz3111⟩ := (Nl.mk (hm3105.sl_call 1 rfl) (hm3105.rows_call 0 rfl)).row h3108
                  refine s_rd (i := 3) rfl (by kernel_rfl) rfl (fun _ hS => by rw [hS]; exact (rd_ld1 tO22 rfl ((Nl.mk (hm3105.sl_call 1 rfl) (hm3105.rows_call 0 rfl)).cells hz3111) (off := 0) rfl)) rfl ?_
                  refine s_rp (i := 4) rfl (by kernel_rfl) rfl (fun _ => (rd_move rfl)) ?_
                  refine s_rp (i := 5) rfl (by kernel_rfl) rfl (fun _ => (rd_move rfl)) ?_
                  refine s_rp (i := 6) rfl (by kernel_rfl) rfl (fun _ => (rd_move rfl)) ?_
                  obtain ⟨x3112, h3113, q3114⟩ := ob q3109; clear q3109
                  refine s_rp (i := 7) rfl (by kernel_rfl) rfl (fun _ => (rd_index tS33 rfl rfl ((Nl.mk (hm3105.sl_call 1 rfl) (hm3105.rows_call 0 rfl)).sl) h3113)) ?_
                  obtain ⟨zd3115, hz3116⟩ := (Nl.mk (hm3105.sl_call 1 rfl) (hm3105.rows_call 0 rfl)).row h3113
                  refine s_rd (i := 8) rfl (by kernel_rfl) rfl (fun _ hS => by rw [hS]; exact (rd_ld1 tO22 rfl ((Nl.mk (hm3105.sl_call 1 rfl) (hm3105.rows_call 0 rfl)).cells hz3116) (off := 0) rfl)) rfl ?_
                  refine s_rp (i := 9) rfl (by kernel_rfl) rfl (fun _ => (rd_move rfl)) ?_
                  obtain ⟨x3117, h3118, q3119⟩ := ob q3114; clear q3114
                  refine s_rp (i := 10) rfl (by kernel_rfl) rfl (fun _ => (rd_index tS22 rfl rfl ((Nl.mk (hm3105.sl_call 1 rfl) (hm3105.rows_call 0 rfl)).get hz3116 h3113) h3118)) ?_
                  refine s_rd (i := 11) rfl (by kernel_rfl) rfl (fun _ hS => by rw [hS]; exact (rd_ld1 tO3 rfl (((Nl.mk (hm3105.sl_call 1 rfl) (hm3105.rows_call 0 rfl)).get hz3116 h3113).cells h3118) (off := 0) rfl)) rfl ?_
                  refine s_rp (i := 12) rfl (by kernel_rfl) rfl (fun _ => (rd_move rfl)) ?_
                  obtain ⟨x3120, h3121, q3122⟩ := ob q3119; clear q3119
                  refine s_rp (i := 13) rfl (by kernel_rfl) rfl (fun _ => (rd_add64 h3121 rfl rfl)) ?_
                  obtain ⟨x3123, h3124, q3125⟩ := ob q3122; clear q3122
                  refine s_rp (i := 14) rfl (by kernel_rfl) rfl (fun _ => (rd_index tS22 rfl rfl ((Nl.mk (hm3105.sl_call 1 rfl) (hm3105.rows_call 0 rfl)).get hz3111 h3108) h3124)) ?_
                  refine s_ef0 (i := 15) rfl (by kernel_rfl) (ef_strow (off := 0) (x' := x3120) hm3105 tO3 hz3111 h3108 rfl rfl rfl h3124 rfl rfl) (by decide) (fun _ _ _ q => absurd q (by decide)) ?_
                  intro _ w3127 hm3126
                  refine s_nil (by kernel_rfl) ?_
                  refine qn_block (qn_then ?_)
                  refine cw_region ?_
                  refine t_rd rfl (rd_move rfl) ?_
                  obtain ⟨x3128, h3129, q3130⟩ := ob q3125; clear q3125
                  refine t_rd rfl (rd_add64 h3129 rfl rfl) ?_
                  refine t_rd rfl (rd_assign rfl) ?_
                  refine rwt_nil ?_
                  refine qn_then ?_
                  refine ⟨_, (os q3130), v3021, zs3022, (by repeat (first | exact Sub.nil _ | refine Sub.cons rfl ?_)), (hm3126.pick [0, 1] (by decide) rfl)⟩
                · refine cw_f rfl hb3101 ?_
                  refine cw_skip ?_
                  refine qn_block (qn_then ?_)
                  refine cw_region ?_
                  refine t_rd rfl (rd_move rfl) ?_
                  obtain ⟨x3131, h3132, q3133⟩ := ob q3102; clear q3102
                  refine t_rd rfl (rd_add64 h3132 rfl rfl) ?_
                  refine t_rd rfl (rd_assign rfl) ?_
                  refine rwt_nil ?_
                  refine qn_then ?_
                  refine ⟨_, (os q3133), v3021, zs3022, (by repeat (first | exact Sub.nil _ | refine Sub.cons rfl ?_)), (hm3043.pick [0, 1] (by decide) rfl)⟩
              · refine cw_f rfl hb3033 ?_
                refine cw_exit ?_
                refine qx_then (qx_then ?_)
                obtain rfl := hr3028 _ (os q3034)
                exact ⟨rfl, v3021, zs3022, (by repeat (first | exact Sub.nil _ | refine Sub.cons rfl ?_)), (hm3032.pick [0, 1] (by decide) rfl)⟩
            · skip
              intro e env3134 w3135 hX3136
              obtain ⟨rfl, v3017, zs3018, hs3137, hm3138⟩ := hX3136
              refine qx_same (qn_block (qn_then ?_))
              refine cw_sub hs3137 ?_
              refine cw_region ?_
              refine t_rd rfl (rd_move rfl) ?_
              obtain ⟨x3139, h3140, q3141⟩ := ob q3031; clear q3031
              refine t_rd rfl (rd_add64 h3140 rfl rfl) ?_
              refine t_rd rfl (rd_assign rfl) ?_
              refine rwt_nil ?_
              refine qn_then ?_
              refine ⟨_, (os q3141), v3017, zs3018, (by repeat (first | exact Sub.nil _ | refine Sub.cons rfl ?_)), (hm3138.pick [0, 1] (by decide) rfl)⟩
          · refine cw_f rfl hb2808 ?_
            refine cw_exit ?_
            refine qx_then (qx_then ?_)
            obtain rfl := hr2803 _ (os q2809)
            exact ⟨rfl, v2796, zs2797, (by repeat (first | exact Sub.nil _ | refine Sub.cons rfl ?_)), (hm2807.pick [0, 1] (by decide) rfl)⟩
        · skip
          intro e env3142 w3143 hX3144
          obtain ⟨rfl, v2792, zs2793, hs3145, hm3146⟩ := hX3144
          refine qx_same (qn_block (qn_then ?_))
          refine cw_sub hs3145 ?_
          refine cw_region ?_
          refine t_rd rfl (rd_move rfl) ?_
          obtain ⟨x3147, h3148, q3149⟩ := ob q2806; clear q2806
          refine t_rd rfl (rd_add64 h3148 rfl rfl) ?_
          refine t_rd rfl (rd_assign rfl) ?_
          refine rwt_nil ?_
          refine qn_then ?_
          refine ⟨_, (os q3149), v2792, zs2793, (by repeat (first | exact Sub.nil _ | refine Sub.cons rfl ?_)), (hm3146.pick [0, 1] (by decide) rfl)⟩
      · refine cw_f rfl hb2117 ?_
        refine cw_exit ?_
        refine qx_then (qx_then ?_)
        obtain rfl := hr2112 _ (os q2118)
        exact ⟨rfl, v2105, zs2106, (by repeat (first | exact Sub.nil _ | refine Sub.cons rfl ?_)), (hm2116.pick [0, 1] (by decide) rfl)⟩
    · skip
      intro e env3150 w3151 hX3152
      obtain ⟨rfl, v2101, zs2102, hs3153, hm3154⟩ := hX3152
      refine qx_same (qn_then ?_)
      refine cw_sub hs3153 ?_
      refine cw_seq ?_
      refine cw_region ?_
      refine t_rd rfl (rd_move rfl) ?_
      refine t_rd rfl (rd_assign rfl) ?_
      refine t_rd rfl (rd_assign rfl) ?_
      refine rwt_nil ?_
      refine qn_then ?_
      refine cw_ret ?_
      obtain rfl := os q2115
      exact ret2 rfl rfl rfl ⟨zs2102, v2101, rfl, (hm3154.pick [1, 0] (by decide) rfl)⟩

theorem Maker_Pick_ok {N : Nat} {a0_l : List Int} {a0_n : Int} {a1 : List Int} {res : Int × Int} (h : Maker_Pick N a0_l a0_n a1 = some res) {w : World} {v0_l : Value} {g0 : Nat} {v1 : Value} (hv0_l : Sl (Old w (fun k => k = g0)) w v0_l a0_l) (hk0 : (blk g0 48 [v0_l, (Value.int .i64 a0_n)]).φ w) (hv1 : Sl (Old w (fun k => k = g0)) w v1 a1) :
    CallsR Try.prog 17 [(Value.pointer (some ⟨g0, 0, none⟩)), v1] w (fun u w' => u = (Value.int .i64 res.2) ∧ Mem w (fun k => k = g0) [blk g0 48 [v0_l, (Value.int .i64 res.1)]] w') := by
  unfold Maker_Pick at h
  refine fn_ok Try.func17 rfl rfl rfl ?_
  have hm0 := Mem.one hk0
  refine cw_seq ?_
  refine cw_region ?_
  refine t_rd rfl (rd_assign rfl) ?_
  refine rwt_nil ?_
  refine qn_then ?_
  refine cw_seq ?_
  refine cw_region ?_
  refine t_rd rfl (rd_move rfl) ?_
  refine t_rd rfl (rd_move rfl) ?_
  refine t_rd rfl (rd_move rfl) ?_
  refine t_rd rfl (rd_lenS tS22 rfl (hv1.of_old hm0)) ?_
  obtain ⟨r10, h11, q12⟩ := ob h; clear h
  refine t_ef rfl (ef_call tf16 rfl (Maker_Next_ok h11 (hv0_l.to_callT (k := 0) hm0 rfl) (hm0.get (k := 0) rfl))) ?_
  rintro _ w14 ⟨e_, hm13⟩
  obtain rfl := e_.symm
  have hm15 := hm0.callT (k := 0) rfl (fun _ h => h) hm13 (fun _ => Iff.rfl)
  obtain ⟨x16, h17, q18⟩ := ob q12; clear q12
  refine t_rd rfl (rd_index tS22 rfl rfl (hv1.of_old hm15) h17) ?_
  refine t_rd rfl (rd_ld1 tO3 rfl ((hv1.of_old hm15).cells h17) (off := 0) rfl) ?_
  refine t_rd rfl (rd_assign rfl) ?_
  refine rwt_nil ?_
  refine qn_then ?_
  refine cw_ret ?_
  obtain rfl := os q18
  exact ret1 rfl rfl ⟨rfl, (hm15.pick [0] (by decide) rfl)⟩

theorem reconcile_Verify_ok {N : Nat} {a0 : List Int} {a1 : List Int} {a2 : Int} {a3 : List (List Int)} {res : Bool} (h : reconcile_Verify N a0 a1 a2 a3 = some res) {w : World} {v0 : Value} {v1 : Value} {v3 : Value} (hv0 : Sl (Old w No) w v0 a0) (hv1 : Sl (Old w No) w v1 a1) (hv3 : Sl (Old w No) w v3 a3) :
    CallsR Try.prog 18 [v0, v1, (Value.int .i64 a2), v3] w (fun u w' => u = (Value.bool res) ∧ Mem w No [] w') := by
  unfold reconcile_Verify at h
  refine fn_ok Try.func18 rfl rfl rfl ?_
  obtain ⟨zs_a3, hn3⟩ := hv3.nest
  have hm0 := Mem.nil w
  refine cw_seq ?_
  refine cw_region ?_
  refine t_rd rfl (rd_assign rfl) ?_
  refine rwt_nil ?_
  refine qn_then ?_
  refine cw_seq ?_
  refine cw_seq ?_
  refine cw_region ?_
  refine t_rd rfl (rd_move rfl) ?_
  refine t_rd rfl (rd_move rfl) ?_
  obtain ⟨r1, h2, q3⟩ := ob h; clear h
  refine t_ef rfl (ef_call tf24 rfl (reconcile_long_ok h2 (hv0.to_call hm0) (hv1.to_call hm0))) ?_
  rintro _ w5 ⟨e_, hm4⟩
  obtain rfl := e_.symm
  have hm6 := hm0.call hm4
  refine t_rd rfl (rd_move rfl) ?_
  refine t_rdg rfl rfl rfl rfl (gv_f _) (fun hg7 => (rd_move rfl)) ?_
  refine t_rdg rfl rfl rfl rfl (gv_f _) (fun hg8 => (rd_lenS tS33 (gvx rfl hg8) ((hn3.of_old hm6).sl))) ?_
  refine t_rdg rfl rfl rfl rfl (gv_f _) (fun hg9 => (rd_move rfl)) ?_
  refine t_rdg rfl rfl rfl rfl (gv_f _) (fun hg10 => (rd_lenS tS22 (gvx rfl hg10) (hv0.of_old hm6))) ?_
  obtain ⟨x12, h13, q14⟩ := ob q3; clear q3
  refine t_rdg rfl rfl rfl rfl (gv_f _) (fun hg11 => (rd_add64 (gO_t h13 hg11) (gvx rfl hg11) rfl)) ?_
  refine t_rdg rfl rfl rfl rfl (gv_f _) (fun hg15 => (rd_neq (gvx rfl hg15) (gvx rfl hg15))) ?_
  refine t_rd rfl (rd_or rfl (fun hc16 => (gvx rfl (bnotIt hc16)))) ?_
  refine rwt_nil ?_
  refine qn_then ?_
  obtain ⟨hb17, q18⟩ | ⟨hb17, q18⟩ := oi q14 <;> clear q14
  · refine cw_t rfl hb17 ?_
    refine cw_seq ?_
    refine cw_region ?_
    refine t_rd rfl (rd_assign rfl) ?_
    refine rwt_nil ?_
    refine qn_then ?_
    refine cw_ret ?_
    refine qr_then ?_
    obtain rfl := os q18
    exact ret1 rfl rfl ⟨rfl, (hm6.pick [] (by decide) rfl)⟩
  · refine cw_f rfl hb17 ?_
    refine cw_skip ?_
    refine qn_then ?_
    refine cw_seq ?_
    refine cw_seq ?_
    refine cw_region ?_
    refine t_rd rfl (rd_move rfl) ?_
    refine t_rd rfl (rd_lenS tS33 rfl ((hn3.of_old hm6).sl)) ?_
    refine t_rd rfl (rd_move rfl) ?_
    refine rwt_nil ?_
    refine qn_then ?_
    refine cw_block ?_
    obtain ⟨r57, hit58, q59⟩ := ob q18; clear q18
    refine cw_loop2 (I := fun q envq wq => Sub [(0, v0), (1, v1), (2, (Value.int .i64 a2)), (3, v3), (28, (Value.int .i64 (List.length a3 : Int))), (29, (Value.int .i64 q))] envq ∧ Mem w No [] wq) (X := fun eq envq wq => (∃ p60, r57 = (Sum.inl p60) ∧ eq = .ret ∧ retQ Try.prog 122 Try.f18 (fun u w' => u = (Value.bool p60) ∧ Mem w No [] w') .ret envq wq) ∨ (∃ p61, r57 = (Sum.inr p61) ∧ eq = .exit 0 ∧ Sub [(0, v0), (1, v1), (2, (Value.int .i64 a2)), (3, v3)] envq ∧ Mem w No [] wq)) hit58 ⟨(by repeat (first | exact Sub.nil _ | refine Sub.cons rfl ?_)), (hm6.pick [] (by decide) rfl)⟩ ?_ ?_
    · rintro i50 x52 env53 w54 hf55 hr56 ⟨hs_, hm_⟩
      have hs_ : Sub [(0, v0), (1, v1), (2, (Value.int .i64 a2)), (3, v3), (28, (Value.int .i64 (List.length a3 : Int))), (29, (Value.int .i64 i50))] env53 := hs_
      have hm62 : Mem w No [] w54 := hm_
      refine cw_sub hs_ ?_
      clear hs_ hm_ q59
      have h : reconcile_Verify_l1 N a1 a3 i50 = some x52 := hf55
      clear hf55
      refine cw_seq ?_
      refine cw_region ?_
      refine t_rd rfl (rd_lss rfl rfl) ?_
      refine rwt_nil ?_
      refine qn_then ?_
      refine cw_seq ?_
      obtain ⟨hb63, q64⟩ | ⟨hb63, q64⟩ := oi h <;> clear h
      · refine cw_t rfl hb63 ?_
        refine cw_skip ?_
        refine qn_then ?_
        refine cw_seq ?_
        refine cw_block ?_
        refine cw_seq ?_
        refine cw_region ?_
        refine t_rd rfl (rd_move rfl) ?_
        refine t_rd rfl (rd_assign rfl) ?_
        refine rwt_nil ?_
        refine qn_then ?_
        refine cw_seq ?_
        refine cw_region ?_
        refine t_rd rfl (rd_move rfl) ?_
        refine t_rd rfl (rd_move rfl) ?_
        obtain ⟨x65, h66, q67⟩ := ob q64; clear q64
        refine t_rd rfl (rd_index tS33 rfl rfl ((hn3.of_old hm62).sl) h66) ?_
        obtain ⟨zd68, hz69⟩ := (hn3.of_old hm62).row h66
        refine t_rd rfl (rd_ld1 tO22 rfl ((hn3.of_old hm62).cells hz69) (off := 0) rfl) ?_
        refine t_rd rfl (rd_lenS tS22 rfl ((hn3.of_old hm62).get hz69 h66)) ?_
        refine t_rd rfl (rd_move rfl) ?_
        refine t_rd rfl (rd_lenS tS22 rfl (hv1.of_old hm62)) ?_
        obtain ⟨x70, h71, q72⟩ := ob q67; clear q67
        refine t_rd rfl (rd_add64 h71 rfl rfl) ?_
        refine t_rd rfl (rd_neq rfl rfl) ?_
        refine rwt_nil ?_
        refine qn_then ?_
        obtain ⟨hb73, q74⟩ | ⟨hb73, q74⟩ := oi q72 <;> clear q72
        · refine cw_t rfl hb73 ?_
          refine cw_seq ?_
          refine cw_region ?_
          refine t_rd rfl (rd_assign rfl) ?_
          refine rwt_nil ?_
          refine qn_then ?_
          refine cw_ret ?_
          refine qr_block (qr_then (qr_then ?_))
          obtain rfl := hr56 _ (os q74)
          refine .inl (⟨_, rfl, ⟨rfl, ?_⟩⟩)
          exact ret1 rfl rfl ⟨rfl, (hm62.pick [] (by decide) rfl)⟩
        · refine cw_f rfl hb73 ?_
          refine cw_skip ?_
          refine qn_block (qn_then ?_)
          refine cw_region ?_
          obtain ⟨x75, h76, q77⟩ := ob q74; clear q74
          refine t_rd rfl (rd_add64 h76 rfl rfl) ?_
          refine t_rd rfl (rd_move rfl) ?_
          refine rwt_nil ?_
          refine qn_then ?_
          refine ⟨_, (os q77), (by repeat (first | exact Sub.nil _ | refine Sub.cons rfl ?_)), (hm62.pick [] (by decide) rfl)⟩
      · refine cw_f rfl hb63 ?_
        refine cw_exit ?_
        refine qx_then (qx_then ?_)
        obtain rfl := hr56 _ (os q64)
        exact .inr (⟨_, rfl, ⟨rfl, (by repeat (first | exact Sub.nil _ | refine Sub.cons rfl ?_)), (hm62.pick [] (by decide) rfl)⟩⟩)
    · skip
      intro e env78 w79 hX80
      rcases hX80 with hX80 | hX80
      · obtain ⟨p82, rfl, hX80⟩ := hX80
        obtain ⟨rfl, hq84⟩ := hX80
        exact qr_block (qr_then ((by have e := os q59; subst e; exact hq84)))
      · obtain ⟨p85, rfl, hX80⟩ := hX80
        obtain ⟨rfl, hs86, hm87⟩ := hX80
        refine qx_same (qn_then ?_)
        refine cw_sub hs86 ?_
        refine cw_seq ?_
        refine cw_seq ?_
        refine cw_region ?_
        refine t_rd rfl (rd_move rfl) ?_
        obtain ⟨x88, h89, q90⟩ := ob q59; clear q59
        refine t_rd rfl (rd_index tS33 rfl rfl ((hn3.of_old hm87).sl) h89) ?_
        obtain ⟨zd91, hz92⟩ := (hn3.of_old hm87).row h89
        refine t_rd rfl (rd_ld1 tO22 rfl ((hn3.of_old hm87).cells hz92) (off := 0) rfl) ?_
        obtain ⟨x93, h94, q95⟩ := ob q90; clear q90
        refine t_rd rfl (rd_index tS22 rfl rfl ((hn3.of_old hm87).get hz92 h89) h94) ?_
        refine t_rd rfl (rd_ld1 tO3 rfl (((hn3.of_old hm87).get hz92 h89).cells h94) (off := 0) rfl) ?_
        refine t_rd rfl (rd_neq rfl rfl) ?_
        refine rwt_nil ?_
        refine qn_then ?_
        obtain ⟨hb96, q97⟩ | ⟨hb96, q97⟩ := oi q95 <;> clear q95
        · refine cw_t rfl hb96 ?_
          refine cw_seq ?_
          refine cw_region ?_
          refine t_rd rfl (rd_assign rfl) ?_
          refine rwt_nil ?_
          refine qn_then ?_
          refine cw_ret ?_
          refine qr_then ?_
          obtain rfl := os q97
          exact ret1 rfl rfl ⟨rfl, (hm87.pick [] (by decide) rfl)⟩
        · refine cw_f rfl hb96 ?_
          refine cw_skip ?_
          refine qn_then ?_
          refine cw_seq ?_
          refine cw_seq ?_
          refine cw_region ?_
          refine t_rd rfl (rd_move rfl) ?_
          refine t_rd rfl (rd_lenS tS33 rfl ((hn3.of_old hm87).sl)) ?_
          refine t_rd rfl (rd_move rfl) ?_
          refine rwt_nil ?_
          refine qn_then ?_
          refine cw_block ?_
          obtain ⟨r3282, hit3283, q3284⟩ := ob q97; clear q97
          refine cw_loop2 (I := fun q envq wq => Sub [(0, v0), (1, v1), (2, (Value.int .i64 a2)), (3, v3), (49, (Value.int .i64 (List.length a3 : Int))), (50, (Value.int .i64 q))] envq ∧ Mem w No [] wq) (X := fun eq envq wq => (∃ p3285, r3282 = (Sum.inl p3285) ∧ eq = .ret ∧ retQ Try.prog 122 Try.f18 (fun u w' => u = (Value.bool p3285) ∧ Mem w No [] w') .ret envq wq) ∨ (∃ p3286, r3282 = (Sum.inr p3286) ∧ eq = .exit 2 ∧ Sub [(0, v0), (1, v1), (2, (Value.int .i64 a2)), (3, v3)] envq ∧ Mem w No [] wq)) hit3283 ⟨(by repeat (first | exact Sub.nil _ | refine Sub.cons rfl ?_)), (hm87.pick [] (by decide) rfl)⟩ ?_ ?_
          · rintro i3275 x3277 env3278 w3279 hf3280 hr3281 ⟨hs_, hm_⟩
            have hs_ : Sub [(0, v0), (1, v1), (2, (Value.int .i64 a2)), (3, v3), (49, (Value.int .i64 (List.length a3 : Int))), (50, (Value.int .i64 i3275))] env3278 := hs_
            have hm3287 : Mem w No [] w3279 := hm_
            refine cw_sub hs_ ?_
            clear hs_ hm_ q3284
            have h : reconcile_Verify_l10 N a0 a1 a3 i3275 = some x3277 := hf3280
            clear hf3280
            refine cw_seq ?_
            refine cw_region ?_
            refine t_rd rfl (rd_lss rfl rfl) ?_
            refine rwt_nil ?_
            refine qn_then ?_
            refine cw_seq ?_
            obtain ⟨hb3288, q3289⟩ | ⟨hb3288, q3289⟩ := oi h <;> clear h
            · refine cw_t rfl hb3288 ?_
              refine cw_skip ?_
              refine qn_then ?_
              refine cw_seq ?_
              refine cw_block ?_
              refine cw_seq ?_
              refine cw_region ?_
              refine t_rd rfl (rd_move rfl) ?_
              refine t_rd rfl (rd_assign rfl) ?_
              refine rwt_nil ?_
              refine qn_then ?_
              refine cw_seq ?_
              refine cw_region ?_
              refine t_rd rfl (rd_move rfl) ?_
              refine t_rd rfl (rd_move rfl) ?_
              obtain ⟨x3290, h3291, q3292⟩ := ob q3289; clear q3289
              refine t_rd rfl (rd_index tS33 rfl rfl ((hn3.of_old hm3287).sl) h3291) ?_
              obtain ⟨zd3293, hz3294⟩ := (hn3.of_old hm3287).row h3291
              refine t_rd rfl (rd_ld1 tO22 rfl ((hn3.of_old hm3287).cells hz3294) (off := 0) rfl) ?_
              refine t_rd rfl (rd_lenS tS22 rfl ((hn3.of_old hm3287).get hz3294 h3291)) ?_
              refine t_rd rfl (rd_move rfl) ?_
              refine rwt_nil ?_
              refine qn_then ?_
              refine cw_block ?_
              obtain ⟨r4339, hit4340, q4341⟩ := ob q3292; clear q3292
              refine cw_loop2 (I := fun q envq wq => Sub [(0, v0), (1, v1), (2, (Value.int .i64 a2)), (3, v3), (10, (Value.int .i64 i3275)), (49, (Value.int .i64 (List.length a3 : Int))), (50, (Value.int .i64 i3275)), (57, (Value.int .i64 (List.length x3290 : Int))), (58, (Value.int .i64 q))] envq ∧ Mem w No [] wq) (X := fun eq envq wq => (∃ p4342, r4339 = (Sum.inl p4342) ∧ eq = .ret ∧ retQ Try.prog 122 Try.f18 (fun u w' => u = (Value.bool p4342) ∧ Mem w No [] w') .ret envq wq) ∨ (∃ p4343, r4339 = (Sum.inr p4343) ∧ eq = .exit 4 ∧ Sub [(0, v0), (1, v1), (2, (Value.int .i64 a2)), (3, v3), (49, (Value.int .i64 (List.length a3 : Int))), (50, (Value.int .i64 i3275))] envq ∧ Mem w No [] wq)) hit4340 ⟨(by repeat (first | exact Sub.nil _ | refine Sub.cons rfl ?_)), (hm3287.pick [] (by decide) rfl)⟩ ?_ ?_
              · rintro i4332 x4334 env4335 w4336 hf4337 hr4338 ⟨hs_, hm_⟩
                have hs_ : Sub [(0, v0), (1, v1), (2, (Value.int .i64 a2)), (3, v3), (10, (Value.int .i64 i3275)), (49, (Value.int .i64 (List.length a3 : Int))), (50, (Value.int .i64 i3275)), (57, (Value.int .i64 (List.length x3290 : Int))), (58, (Value.int .i64 i4332))] env4335 := hs_
                have hm4344 : Mem w No [] w4336 := hm_
                refine cw_sub hs_ ?_
                clear hs_ hm_ q4341
                have h : reconcile_Verify_l13 N a0 a1 a3 i3275 x3290 i4332 = some x4334 := hf4337
                clear hf4337
                refine cw_seq ?_
                refine cw_region ?_
                refine t_rd rfl (rd_lss rfl rfl) ?_
                refine rwt_nil ?_
                refine qn_then ?_
                refine cw_seq ?_
                obtain ⟨hb4345, q4346⟩ | ⟨hb4345, q4346⟩ := oi h <;> clear h
                · refine cw_t rfl hb4345 ?_
                  refine cw_skip ?_
                  refine qn_then ?_
                  refine cw_seq ?_
                  refine cw_block ?_
                  refine cw_seq ?_
                  refine cw_region ?_
                  refine t_rd rfl (rd_move rfl) ?_
                  refine t_rd rfl (rd_assign rfl) ?_
                  refine rwt_nil ?_
                  refine qn_then ?_
                  refine cw_seq ?_
                  refine cw_region ?_
                  refine t_rd rfl (rd_move rfl) ?_
                  refine rwt_nil ?_
                  refine qn_then ?_
                  refine cw_block ?_
                  obtain ⟨r4681, hit4682, q4683⟩ := ob q4346; clear q4346
                  refine cw_loop2 (I := fun q envq wq => Sub [(0, v0), (1, v1), (2, (Value.int .i64 a2)), (3, v3), (10, (Value.int .i64 i3275)), (11, (Value.int .i64 i4332)), (49, (Value.int .i64 (List.length a3 : Int))), (50, (Value.int .i64 i3275)), (57, (Value.int .i64 (List.length x3290 : Int))), (58, (Value.int .i64 i4332)), (61, (Value.int .i64 q))] envq ∧ Mem w No [] wq) (X := fun eq envq wq => (∃ p4684, r4681 = (Sum.inl p4684) ∧ eq = .ret ∧ retQ Try.prog 122 Try.f18 (fun u w' => u = (Value.bool p4684) ∧ Mem w No [] w') .ret envq wq) ∨ (∃ p4685, r4681 = (Sum.inr p4685) ∧ eq = .exit 6 ∧ Sub [(0, v0), (1, v1), (2, (Value.int .i64 a2)), (3, v3), (10, (Value.int .i64 i3275)), (49, (Value.int .i64 (List.length a3 : Int))), (50, (Value.int .i64 i3275)), (57, (Value.int .i64 (List.length x3290 : Int))), (58, (Value.int .i64 i4332))] envq ∧ Mem w No [] wq)) hit4682 ⟨(by repeat (first | exact Sub.nil _ | refine Sub.cons rfl ?_)), (hm4344.pick [] (by decide) rfl)⟩ ?_ ?_
                  · rintro i4674 x4676 env4677 w4678 hf4679 hr4680 ⟨hs_, hm_⟩
                    have hs_ : Sub [(0, v0), (1, v1), (2, (Value.int .i64 a2)), (3, v3), (10, (Value.int .i64 i3275)), (11, (Value.int .i64 i4332)), (49, (Value.int .i64 (List.length a3 : Int))), (50, (Value.int .i64 i3275)), (57, (Value.int .i64 (List.length x3290 : Int))), (58, (Value.int .i64 i4332)), (61, (Value.int .i64 i4674))] env4677 := hs_
                    have hm4686 : Mem w No [] w4678 := hm_
                    refine cw_sub hs_ ?_
                    clear hs_ hm_ q4683
                    have h : reconcile_Verify_l14 N a0 a1 a3 i3275 i4332 i4674 = some x4676 := hf4679
                    clear hf4679
                    refine cw_seq ?_
                    refine cw_region ?_
                    refine t_rd rfl (rd_lss rfl rfl) ?_
                    refine rwt_nil ?_
                    refine qn_then ?_
                    refine cw_seq ?_
                    obtain ⟨hb4687, q4688⟩ | ⟨hb4687, q4688⟩ := oi h <;> clear h
                    · refine cw_t rfl hb4687 ?_
                      refine cw_skip ?_
                      refine qn_then ?_
                      refine cw_seq ?_
                      refine cw_block ?_
                      refine cw_seq ?_
                      refine cw_region ?_
                      refine t_rd rfl (rd_move rfl) ?_
                      refine t_rd rfl (rd_assign rfl) ?_
                      refine rwt_nil ?_
                      refine qn_then ?_
                      refine cw_seq ?_
                      refine cw_region ?_
                      refine t_rd rfl (rd_move rfl) ?_
                      refine t_rd rfl (rd_move rfl) ?_
                      refine t_rd rfl (rd_move rfl) ?_
                      refine t_rd rfl (rd_move rfl) ?_
                      refine t_rd rfl (rd_move rfl) ?_
                      obtain ⟨r4689, h4690, q4691⟩ := ob q4688; clear q4688
                      refine t_ef rfl (ef_call tf26 rfl (reconcile_step_ok h4690 (hv0.to_call hm4686) (hv1.to_call hm4686))) ?_
                      rintro _ w4693 ⟨e_, hm4692⟩
                      obtain rfl := e_.symm
                      have hm4694 := hm4686.call hm4692
                      refine t_rd rfl (rd_move rfl) ?_
                      refine t_rd rfl (rd_extract rfl rfl) ?_
                      refine t_rd rfl (rd_extract rfl rfl) ?_
                      refine t_rd rfl (rd_extract rfl rfl) ?_
                      refine t_rd rfl (rd_assign rfl) ?_
                      refine t_rd rfl (rd_assign rfl) ?_
                      refine t_rd rfl (rd_assign rfl) ?_
                      refine rwt_nil ?_
                      refine qn_then ?_
                      refine cw_seq ?_
                      obtain ⟨w4696, he4698⟩ : ∃ q, q = w4693.drew := ⟨_, rfl⟩
                      have hm4697 := hm4694.drew; rw [← he4698] at hm4697
                      refine cw_region_s (fun q => Nl (Old w No) q v3 zs_a3 a3) (cls [10, 30] []) mixed ?_
                      rintro _ rfl; rw [← he4698]
                      refine s_rp (i := 0) rfl (by kernel_rfl) rfl (fun _ => (rd_move rfl)) ?_
                      refine s_rp (i := 1) rfl (by kernel_rfl) rfl (fun _ => (rd_move rfl)) ?_
                      refine s_rpg (i := 2) rfl (by kernel_rfl) rfl rfl rfl rfl (gv_t _) (fun hg4772 _ => (rd_move rfl)) ?_
                      refine s_rpg (i := 3) rfl (by kernel_rfl) rfl rfl rfl rfl (gv_t _) (fun hg4773 _ => (rd_move rfl)) ?_
                      obtain ⟨x4775, h4776, q4777⟩ := ob q4691; clear q4691
                      refine s_rpg (i := 4) rfl (by kernel_rfl) rfl rfl rfl rfl (gv_t _) (fun hg4774 _ => (rd_index tS33 (gvx rfl hg4774) (gvx rfl hg4774) ((hn3.of_old hm4697).sl) (gO_t h4776 hg4774))) ?_
                      obtain ⟨zd4779, hz4780⟩ := (hn3.of_old hm4697).rowg (g := r4689.2.2) (fun q => gO_t h4776 q)
                      refine s_rdg (i := 5) rfl (by kernel_rfl) rfl rfl rfl rfl (gv_t _) (fun hg4778 => (fun w4695 hS => (rd_ld1 tO22 (gvx rfl hg4778) (hS.cells (hz4780 hg4778)) (off := 0) rfl))) (hn3.of_old hm4697) ?_
                      refine s_rpg (i := 6) rfl (by kernel_rfl) rfl rfl rfl rfl (gv_t _) (fun hg4781 _ => (rd_move rfl)) ?_
                      obtain ⟨x4783, h4784, q4785⟩ := ob q4777; clear q4777
                      refine s_rpg (i := 7) rfl (by kernel_rfl) rfl rfl rfl rfl (gv_t _) (fun hg4782 _ => (rd_index tS22 (gvx rfl hg4782) (gvx rfl hg4782) ((hn3.of_old hm4697).get (hz4780 hg4782) (gO_t h4776 hg4782)) (gO_t h4784 hg4782))) ?_
                      refine s_rdg (i := 8) rfl (by kernel_rfl) rfl rfl rfl rfl (gv_t _) (fun hg4786 => (fun w4695 hS => (rd_ld1 tO3 (gvx rfl hg4786) ((hS.get (hz4780 hg4786) (gO_t h4776 hg4786)).cells (gO_t h4784 hg4786)) (off := 0) rfl))) (hn3.of_old hm4697) ?_
                      refine s_rpg (i := 9) rfl (by kernel_rfl) rfl rfl rfl rfl (gv_t _) (fun hg4787 _ => (rd_move rfl)) ?_
                      obtain ⟨r4789, h4790, q4791⟩ := ob q4785; clear q4785
                      refine s_efg (i := 10) rfl (by kernel_rfl) rfl rfl rfl rfl (R := (fun v w' => v = gV r4689.2.2 (Value.int .i64 r4789) ∧ Mem w4696 No [] w')) (gv_t _) (fun hg4788 => (ef_call tf27 (evc (gvx rfl hg4788) evn) (reconcile_cost_ok (gO_t h4790 hg4788))).mono (by rintro _ _ ⟨rfl, q⟩; exact ⟨(gV_t hg4788).symm, q⟩)) (fun q => ⟨(gV_f q).symm, Mem.nil _⟩) (by decide) ?_ ?_
                      · rintro _ w4793 ⟨rfl, hm4792⟩
                        have hm4794 := hm4697.call hm4792
                        intro _
                        exact (hn3.of_old hm4794)
                      rintro _ w4793 ⟨rfl, hm4792⟩
                      have hm4794 := hm4697.call hm4792
                      obtain ⟨x4796, h4797, q4798⟩ := ob q4791; clear q4791
                      refine s_rpg (i := 11) rfl (by kernel_rfl) rfl rfl rfl rfl (gv_t _) (fun hg4795 _ => (rd_sub64 (gO_t h4797 hg4795) rfl (gvx rfl hg4795))) ?_
                      refine s_rpg (i := 12) rfl (by kernel_rfl) rfl rfl rfl rfl (gv_t _) (fun hg4799 _ => (rd_leq (gvx rfl hg4799) (gvx rfl hg4799))) ?_
                      refine s_rp (i := 13) rfl (by kernel_rfl) rfl (fun _ => (rd_and rfl (fun hc4800 => (gvx rfl hc4800)))) ?_
                      refine s_rp (i := 14) rfl (by kernel_rfl) rfl (fun _ => (rd_move rfl)) ?_
                      refine s_rpg (i := 15) rfl (by kernel_rfl) rfl rfl rfl rfl (gv_t _) (fun hg4801 _ => (rd_move rfl)) ?_
                      refine s_rpg (i := 16) rfl (by kernel_rfl) rfl rfl rfl rfl (gv_t _) (fun hg4802 _ => (rd_move rfl)) ?_
                      obtain ⟨x4804, h4805, q4806⟩ := ob q4798; clear q4798
                      refine s_rpg (i := 17) rfl (by kernel_rfl) rfl rfl rfl rfl (gv_t _) (fun hg4803 _ => (rd_index tS33 (gvx rfl hg4803) (gvx rfl hg4803) ((hn3.of_old hm4794).sl) (gO_t h4805 hg4803))) ?_
                      obtain ⟨zd4808, hz4809⟩ := (hn3.of_old hm4794).rowg (g := (r4689.2.2 && decide (x4783 ≤ x4796))) (fun q => gO_t h4805 q)
                      refine s_rdg (i := 18) rfl (by kernel_rfl) rfl rfl rfl rfl (gv_t _) (fun hg4807 => (fun w4695 hS => (rd_ld1 tO22 (gvx rfl hg4807) (hS.cells (hz4809 hg4807)) (off := 0) rfl))) (hn3.of_old hm4794) ?_
                      refine s_rpg (i := 19) rfl (by kernel_rfl) rfl rfl rfl rfl (gv_t _) (fun hg4810 _ => (rd_move rfl)) ?_
                      obtain ⟨x4812, h4813, q4814⟩ := ob q4806; clear q4806
                      refine s_rpg (i := 20) rfl (by kernel_rfl) rfl rfl rfl rfl (gv_t _) (fun hg4811 _ => (rd_index tS22 (gvx rfl hg4811) (gvx rfl hg4811) ((hn3.of_old hm4794).get (hz4809 hg4811) (gO_t h4805 hg4811)) (gO_t h4813 hg4811))) ?_
                      refine s_rdg (i := 21) rfl (by kernel_rfl) rfl rfl rfl rfl (gv_t _) (fun hg4815 => (fun w4695 hS => (rd_ld1 tO3 (gvx rfl hg4815) ((hS.get (hz4809 hg4815) (gO_t h4805 hg4815)).cells (gO_t h4813 hg4815)) (off := 0) rfl))) (hn3.of_old hm4794) ?_
                      refine s_rpg (i := 22) rfl (by kernel_rfl) rfl rfl rfl rfl (gv_t _) (fun hg4816 _ => (rd_move rfl)) ?_
                      refine s_rpg (i := 23) rfl (by kernel_rfl) rfl rfl rfl rfl (gv_t _) (fun hg4817 _ => (rd_move rfl)) ?_
                      obtain ⟨x4819, h4820, q4821⟩ := ob q4814; clear q4814
                      refine s_rpg (i := 24) rfl (by kernel_rfl) rfl rfl rfl rfl (gv_t _) (fun hg4818 _ => (rd_index tS33 (gvx rfl hg4818) (gvx rfl hg4818) ((hn3.of_old hm4794).sl) (gO_t h4820 hg4818))) ?_
                      obtain ⟨zd4823, hz4824⟩ := (hn3.of_old hm4794).rowg (g := (r4689.2.2 && decide (x4783 ≤ x4796))) (fun q => gO_t h4820 q)
                      refine s_rdg (i := 25) rfl (by kernel_rfl) rfl rfl rfl rfl (gv_t _) (fun hg4822 => (fun w4695 hS => (rd_ld1 tO22 (gvx rfl hg4822) (hS.cells (hz4824 hg4822)) (off := 0) rfl))) (hn3.of_old hm4794) ?_
                      refine s_rpg (i := 26) rfl (by kernel_rfl) rfl rfl rfl rfl (gv_t _) (fun hg4825 _ => (rd_move rfl)) ?_
                      obtain ⟨x4827, h4828, q4829⟩ := ob q4821; clear q4821
                      refine s_rpg (i := 27) rfl (by kernel_rfl) rfl rfl rfl rfl (gv_t _) (fun hg4826 _ => (rd_index tS22 (gvx rfl hg4826) (gvx rfl hg4826) ((hn3.of_old hm4794).get (hz4824 hg4826) (gO_t h4820 hg4826)) (gO_t h4828 hg4826))) ?_
                      refine s_rdg (i := 28) rfl (by kernel_rfl) rfl rfl rfl rfl (gv_t _) (fun hg4830 => (fun w4695 hS => (rd_ld1 tO3 (gvx rfl hg4830) ((hS.get (hz4824 hg4830) (gO_t h4820 hg4830)).cells (gO_t h4828 hg4830)) (off := 0) rfl))) (hn3.of_old hm4794) ?_
                      refine s_rpg (i := 29) rfl (by kernel_rfl) rfl rfl rfl rfl (gv_t _) (fun hg4831 _ => (rd_move rfl)) ?_
                      obtain ⟨r4833, h4834, q4835⟩ := ob q4829; clear q4829
                      refine s_efg (i := 30) rfl (by kernel_rfl) rfl rfl rfl rfl (R := (fun v w' => v = gV (r4689.2.2 && decide (x4783 ≤ x4796)) (Value.int .i64 r4833) ∧ Mem w4793 No [] w')) (gv_t _) (fun hg4832 => (ef_call tf27 (evc (gvx rfl hg4832) evn) (reconcile_cost_ok (gO_t h4834 hg4832))).mono (by rintro _ _ ⟨rfl, q⟩; exact ⟨(gV_t hg4832).symm, q⟩)) (fun q => ⟨(gV_f q).symm, Mem.nil _⟩) (by decide) ?_ ?_
                      · rintro _ w4837 ⟨rfl, hm4836⟩
                        have hm4838 := hm4794.call hm4836
                        intro _
                        exact (hn3.of_old hm4838)
                      rintro _ w4837 ⟨rfl, hm4836⟩
                      have hm4838 := hm4794.call hm4836
                      obtain ⟨x4840, h4841, q4842⟩ := ob q4835; clear q4835
                      refine s_rpg (i := 31) rfl (by kernel_rfl) rfl rfl rfl rfl (gv_t _) (fun hg4839 _ => (rd_add64 (gO_t h4841 hg4839) (gvx rfl hg4839) (gvx rfl hg4839))) ?_
                      refine s_rpg (i := 32) rfl (by kernel_rfl) rfl rfl rfl rfl (gv_t _) (fun hg4843 _ => (rd_gtr (gvx rfl hg4843) (gvx rfl hg4843))) ?_
                      refine s_rp (i := 33) rfl (by kernel_rfl) rfl (fun _ => (rd_and rfl (fun hc4844 => (gvx rfl hc4844)))) ?_
                      refine s_nil (by kernel_rfl) ?_
                      refine qn_then ?_
                      obtain ⟨hb4845, q4846⟩ | ⟨hb4845, q4846⟩ := oi q4842 <;> clear q4842
                      · refine cw_t rfl hb4845 ?_
                        refine cw_seq ?_
                        refine cw_region ?_
                        refine t_rd rfl (rd_assign rfl) ?_
                        refine rwt_nil ?_
                        refine qn_then ?_
                        refine cw_ret ?_
                        refine qr_block (qr_then (qr_then ?_))
                        obtain rfl := hr4680 _ (os q4846)
                        refine .inl (⟨_, rfl, ⟨rfl, ?_⟩⟩)
                        exact ret1 rfl rfl ⟨rfl, (hm4838.pick [] (by decide) rfl)⟩
                      · refine cw_f rfl hb4845 ?_
                        refine cw_skip ?_
                        refine qn_block (qn_then ?_)
                        refine cw_region ?_
                        obtain ⟨x4847, h4848, q4849⟩ := ob q4846; clear q4846
                        refine t_rd rfl (rd_add64 h4848 rfl rfl) ?_
                        refine t_rd rfl (rd_move rfl) ?_
                        refine rwt_nil ?_
                        refine qn_then ?_
                        refine ⟨_, (os q4849), (by repeat (first | exact Sub.nil _ | refine Sub.cons rfl ?_)), (hm4838.pick [] (by decide) rfl)⟩
                    · refine cw_f rfl hb4687 ?_
                      refine cw_exit ?_
                      refine qx_then (qx_then ?_)
                      obtain rfl := hr4680 _ (os q4688)
                      exact .inr (⟨_, rfl, ⟨rfl, (by repeat (first | exact Sub.nil _ | refine Sub.cons rfl ?_)), (hm4686.pick [] (by decide) rfl)⟩⟩)
                  · skip
                    intro e env4850 w4851 hX4852
                    rcases hX4852 with hX4852 | hX4852
                    · obtain ⟨p4854, rfl, hX4852⟩ := hX4852
                      obtain ⟨rfl, hq4856⟩ := hX4852
                      obtain rfl := hr4338 _ (os q4683)
                      exact qr_block (qr_block (qr_then (qr_then (.inl (⟨_, rfl, ⟨rfl, hq4856⟩⟩)))))
                    · obtain ⟨p4857, rfl, hX4852⟩ := hX4852
                      obtain ⟨rfl, hs4858, hm4859⟩ := hX4852
                      refine qx_same (qn_block (qn_then ?_))
                      refine cw_sub hs4858 ?_
                      refine cw_region ?_
                      obtain ⟨x4860, h4861, q4862⟩ := ob q4683; clear q4683
                      refine t_rd rfl (rd_add64 h4861 rfl rfl) ?_
                      refine t_rd rfl (rd_move rfl) ?_
                      refine rwt_nil ?_
                      refine qn_then ?_
                      refine ⟨_, (os q4862), (by repeat (first | exact Sub.nil _ | refine Sub.cons rfl ?_)), (hm4859.pick [] (by decide) rfl)⟩
                · refine cw_f rfl hb4345 ?_
                  refine cw_exit ?_
                  refine qx_then (qx_then ?_)
                  obtain rfl := hr4338 _ (os q4346)
                  exact .inr (⟨_, rfl, ⟨rfl, (by repeat (first | exact Sub.nil _ | refine Sub.cons rfl ?_)), (hm4344.pick [] (by decide) rfl)⟩⟩)
              · skip
                intro e env4863 w4864 hX4865
                rcases hX4865 with hX4865 | hX4865
                · obtain ⟨p4867, rfl, hX4865⟩ := hX4865
                  obtain ⟨rfl, hq4869⟩ := hX4865
                  obtain rfl := hr3281 _ (os q4341)
                  exact qr_block (qr_block (qr_then (qr_then (.inl (⟨_, rfl, ⟨rfl, hq4869⟩⟩)))))
                · obtain ⟨p4870, rfl, hX4865⟩ := hX4865
                  obtain ⟨rfl, hs4871, hm4872⟩ := hX4865
                  refine qx_same (qn_block (qn_then ?_))
                  refine cw_sub hs4871 ?_
                  refine cw_region ?_
                  obtain ⟨x4873, h4874, q4875⟩ := ob q4341; clear q4341
                  refine t_rd rfl (rd_add64 h4874 rfl rfl) ?_
                  refine t_rd rfl (rd_move rfl) ?_
                  refine rwt_nil ?_
                  refine qn_then ?_
                  refine ⟨_, (os q4875), (by repeat (first | exact Sub.nil _ | refine Sub.cons rfl ?_)), (hm4872.pick [] (by decide) rfl)⟩
            · refine cw_f rfl hb3288 ?_
              refine cw_exit ?_
              refine qx_then (qx_then ?_)
              obtain rfl := hr3281 _ (os q3289)
              exact .inr (⟨_, rfl, ⟨rfl, (by repeat (first | exact Sub.nil _ | refine Sub.cons rfl ?_)), (hm3287.pick [] (by decide) rfl)⟩⟩)
          · skip
            intro e env4876 w4877 hX4878
            rcases hX4878 with hX4878 | hX4878
            · obtain ⟨p4880, rfl, hX4878⟩ := hX4878
              obtain ⟨rfl, hq4882⟩ := hX4878
              exact qr_block (qr_then ((by have e := os q3284; subst e; exact hq4882)))
            · obtain ⟨p4883, rfl, hX4878⟩ := hX4878
              obtain ⟨rfl, hs4884, hm4885⟩ := hX4878
              refine qx_same (qn_then ?_)
              refine cw_sub hs4884 ?_
              refine cw_seq ?_
              refine cw_region ?_
              refine t_rd rfl (rd_move rfl) ?_
              refine t_rd rfl (rd_move rfl) ?_
              refine t_rd rfl (rd_lenS tS22 rfl (hv0.of_old hm4885)) ?_
              obtain ⟨x4886, h4887, q4888⟩ := ob q3284; clear q3284
              refine t_rd rfl (rd_index tS33 rfl rfl ((hn3.of_old hm4885).sl) h4887) ?_
              obtain ⟨zd4889, hz4890⟩ := (hn3.of_old hm4885).row h4887
              refine t_rd rfl (rd_ld1 tO22 rfl ((hn3.of_old hm4885).cells hz4890) (off := 0) rfl) ?_
              refine t_rd rfl (rd_move rfl) ?_
              refine t_rd rfl (rd_lenS tS22 rfl (hv1.of_old hm4885)) ?_
              obtain ⟨x4891, h4892, q4893⟩ := ob q4888; clear q4888
              refine t_rd rfl (rd_index tS22 rfl rfl ((hn3.of_old hm4885).get hz4890 h4887) h4892) ?_
              refine t_rd rfl (rd_ld1 tO3 rfl (((hn3.of_old hm4885).get hz4890 h4887).cells h4892) (off := 0) rfl) ?_
              refine t_rd rfl (rd_move rfl) ?_
              refine t_rd rfl (rd_geq rfl rfl) ?_
              refine t_rd rfl (rd_assign rfl) ?_
              refine rwt_nil ?_
              refine qn_then ?_
              refine cw_ret ?_
              obtain rfl := os q4893
              exact ret1 rfl rfl ⟨rfl, (hm4885.pick [] (by decide) rfl)⟩

theorem r08_near_ok {N : Nat} {a0 : Int} {a1 : Int} {a2 : Int} {res : Bool} (h : r08_near N a0 a1 a2 = some res) {w : World}   :
    CallsR Try.prog 31 [(Value.int .i64 a0), (Value.int .i64 a1), (Value.int .i64 a2)] w (fun u w' => u = (Value.bool res) ∧ Mem w No [] w') := by
  unfold r08_near at h
  refine fn_ok Try.func31 rfl rfl rfl ?_
  have hm0 := Mem.nil w
  refine cw_seq ?_
  refine cw_region ?_
  refine t_rd rfl (rd_assign rfl) ?_
  refine rwt_nil ?_
  refine qn_then ?_
  refine cw_seq ?_
  refine cw_region ?_
  refine t_rd rfl (rd_move rfl) ?_
  refine t_rd rfl (rd_move rfl) ?_
  refine t_rd rfl (rd_leq rfl rfl) ?_
  refine t_rd rfl (rd_move rfl) ?_
  refine t_rdg rfl rfl rfl rfl (gv_f _) (fun hg1 => (rd_move rfl)) ?_
  refine t_rdg rfl rfl rfl rfl (gv_f _) (fun hg2 => (rd_cvu64 tH3 tI57 (gvx rfl hg2))) ?_
  refine t_rdg rfl rfl rfl rfl (gv_f _) (fun hg3 => (rd_move rfl)) ?_
  refine t_rdg rfl rfl rfl rfl (gv_f _) (fun hg4 => (rd_cvu64 tH3 tI57 (gvx rfl hg4))) ?_
  refine t_rdg rfl rfl rfl rfl (gv_f _) (fun hg5 => (rd_sub_u64 (gvx rfl hg5) (gvx rfl hg5))) ?_
  refine t_rdg rfl rfl rfl rfl (gv_f _) (fun hg6 => (rd_move rfl)) ?_
  refine t_rdg rfl rfl rfl rfl (gv_f _) (fun hg7 => (rd_cvu64 tH3 tI57 (gvx rfl hg7))) ?_
  refine t_rdg rfl rfl rfl rfl (gv_f _) (fun hg8 => (rd_leq (gvx rfl hg8) (gvx rfl hg8))) ?_
  refine t_rd rfl (rd_or rfl (fun hc9 => (gvx rfl (bnotIt hc9)))) ?_
  refine t_rd rfl (rd_assign rfl) ?_
  refine rwt_nil ?_
  refine qn_then ?_
  refine cw_ret ?_
  obtain rfl := os h
  exact ret1 rfl rfl ⟨rfl, (hm0.pick [] (by decide) rfl)⟩

theorem r08_Verify_ok {N : Nat} {a0 : List Int} {a1 : List Int} {a2 : Int} {a3 : List (List Int)} {res : Bool} (h : r08_Verify N a0 a1 a2 a3 = some res) {w : World} {v0 : Value} {v1 : Value} {v3 : Value} (hv0 : Sl (Old w No) w v0 a0) (hv1 : Sl (Old w No) w v1 a1) (hv3 : Sl (Old w No) w v3 a3) :
    CallsR Try.prog 19 [v0, v1, (Value.int .i64 a2), v3] w (fun u w' => u = (Value.bool res) ∧ Mem w No [] w') := by
  unfold r08_Verify at h
  refine fn_ok Try.func19 rfl rfl rfl ?_
  obtain ⟨zs_a3, hn3⟩ := hv3.nest
  have hm0 := Mem.nil w
  refine cw_seq ?_
  refine cw_region ?_
  refine t_rd rfl (rd_assign rfl) ?_
  refine rwt_nil ?_
  refine qn_then ?_
  refine cw_seq ?_
  refine cw_seq ?_
  refine cw_region ?_
  refine t_rd rfl (rd_move rfl) ?_
  refine t_rd rfl (rd_move rfl) ?_
  obtain ⟨r1, h2, q3⟩ := ob h; clear h
  refine t_ef rfl (ef_call tf28 rfl (r08_long_ok h2 (hv0.to_call hm0) (hv1.to_call hm0))) ?_
  rintro _ w5 ⟨e_, hm4⟩
  obtain rfl := e_.symm
  have hm6 := hm0.call hm4
  refine t_rd rfl (rd_move rfl) ?_
  refine t_rdg rfl rfl rfl rfl (gv_f _) (fun hg7 => (rd_move rfl)) ?_
  refine t_rdg rfl rfl rfl rfl (gv_f _) (fun hg8 => (rd_lenS tS33 (gvx rfl hg8) ((hn3.of_old hm6).sl))) ?_
  refine t_rdg rfl rfl rfl rfl (gv_f _) (fun hg9 => (rd_move rfl)) ?_
  refine t_rdg rfl rfl rfl rfl (gv_f _) (fun hg10 => (rd_lenS tS22 (gvx rfl hg10) (hv0.of_old hm6))) ?_
  obtain ⟨x12, h13, q14⟩ := ob q3; clear q3
  refine t_rdg rfl rfl rfl rfl (gv_f _) (fun hg11 => (rd_add64 (gO_t h13 hg11) (gvx rfl hg11) rfl)) ?_
  refine t_rdg rfl rfl rfl rfl (gv_f _) (fun hg15 => (rd_neq (gvx rfl hg15) (gvx rfl hg15))) ?_
  refine t_rd rfl (rd_or rfl (fun hc16 => (gvx rfl (bnotIt hc16)))) ?_
  refine rwt_nil ?_
  refine qn_then ?_
  obtain ⟨hb17, q18⟩ | ⟨hb17, q18⟩ := oi q14 <;> clear q14
  · refine cw_t rfl hb17 ?_
    refine cw_seq ?_
    refine cw_region ?_
    refine t_rd rfl (rd_assign rfl) ?_
    refine rwt_nil ?_
    refine qn_then ?_
    refine cw_ret ?_
    refine qr_then ?_
    obtain rfl := os q18
    exact ret1 rfl rfl ⟨rfl, (hm6.pick [] (by decide) rfl)⟩
  · refine cw_f rfl hb17 ?_
    refine cw_skip ?_
    refine qn_then ?_
    refine cw_seq ?_
    refine cw_seq ?_
    refine cw_region ?_
    refine t_rd rfl (rd_assign rfl) ?_
    refine rwt_nil ?_
    refine qn_then ?_
    refine cw_block ?_
    obtain ⟨r57, hit58, q59⟩ := ob q18; clear q18
    refine cw_loop2 (I := fun q envq wq => Sub [(0, v0), (1, v1), (2, (Value.int .i64 a2)), (3, v3), (9, (Value.int .i64 q))] envq ∧ Mem w No [] wq) (X := fun eq envq wq => (∃ p60, r57 = (Sum.inl p60) ∧ eq = .ret ∧ retQ Try.prog 107 Try.f19 (fun u w' => u = (Value.bool p60) ∧ Mem w No [] w') .ret envq wq) ∨ (∃ p61, r57 = (Sum.inr p61) ∧ eq = .exit 0 ∧ Sub [(0, v0), (1, v1), (2, (Value.int .i64 a2)), (3, v3)] envq ∧ Mem w No [] wq)) hit58 ⟨(by repeat (first | exact Sub.nil _ | refine Sub.cons rfl ?_)), (hm6.pick [] (by decide) rfl)⟩ ?_ ?_
    · rintro i50 x52 env53 w54 hf55 hr56 ⟨hs_, hm_⟩
      have hs_ : Sub [(0, v0), (1, v1), (2, (Value.int .i64 a2)), (3, v3), (9, (Value.int .i64 i50))] env53 := hs_
      have hm62 : Mem w No [] w54 := hm_
      refine cw_sub hs_ ?_
      clear hs_ hm_ q59
      have h : r08_Verify_l1 N a0 a1 a3 i50 = some x52 := hf55
      clear hf55
      refine cw_seq ?_
      refine cw_seq ?_
      refine cw_region ?_
      refine t_rd rfl (rd_move rfl) ?_
      refine t_rd rfl (rd_move rfl) ?_
      refine t_rd rfl (rd_lenS tS22 rfl (hv0.of_old hm62)) ?_
      refine t_rd rfl (rd_leq rfl rfl) ?_
      refine rwt_nil ?_
      refine qn_then ?_
      obtain ⟨hb63, q64⟩ | ⟨hb63, q64⟩ := oi h <;> clear h
      · refine cw_t rfl hb63 ?_
        refine cw_skip ?_
        refine qn_then ?_
        refine cw_seq ?_
        refine cw_block ?_
        refine cw_seq ?_
        refine cw_region ?_
        refine t_rd rfl (rd_move rfl) ?_
        refine t_rd rfl (rd_move rfl) ?_
        obtain ⟨x65, h66, q67⟩ := ob q64; clear q64
        refine t_rd rfl (rd_index tS33 rfl rfl ((hn3.of_old hm62).sl) h66) ?_
        obtain ⟨zd68, hz69⟩ := (hn3.of_old hm62).row h66
        refine t_rd rfl (rd_ld1 tO22 rfl ((hn3.of_old hm62).cells hz69) (off := 0) rfl) ?_
        refine t_rd rfl (rd_lenS tS22 rfl ((hn3.of_old hm62).get hz69 h66)) ?_
        refine t_rd rfl (rd_move rfl) ?_
        refine t_rd rfl (rd_lenS tS22 rfl (hv1.of_old hm62)) ?_
        obtain ⟨x70, h71, q72⟩ := ob q67; clear q67
        refine t_rd rfl (rd_add64 h71 rfl rfl) ?_
        refine t_rd rfl (rd_neq rfl rfl) ?_
        refine rwt_nil ?_
        refine qn_then ?_
        obtain ⟨hb73, q74⟩ | ⟨hb73, q74⟩ := oi q72 <;> clear q72
        · refine cw_t rfl hb73 ?_
          refine cw_seq ?_
          refine cw_region ?_
          refine t_rd rfl (rd_assign rfl) ?_
          refine rwt_nil ?_
          refine qn_then ?_
          refine cw_ret ?_
          refine qr_block (qr_then (qr_then ?_))
          obtain rfl := hr56 _ (os q74)
          refine .inl (⟨_, rfl, ⟨rfl, ?_⟩⟩)
          exact ret1 rfl rfl ⟨rfl, (hm62.pick [] (by decide) rfl)⟩
        · refine cw_f rfl hb73 ?_
          refine cw_skip ?_
          refine qn_block (qn_then ?_)
          refine cw_region ?_
          refine t_rd rfl (rd_move rfl) ?_
          obtain ⟨x75, h76, q77⟩ := ob q74; clear q74
          refine t_rd rfl (rd_add64 h76 rfl rfl) ?_
          refine t_rd rfl (rd_assign rfl) ?_
          refine rwt_nil ?_
          refine qn_then ?_
          refine ⟨_, (os q77), (by repeat (first | exact Sub.nil _ | refine Sub.cons rfl ?_)), (hm62.pick [] (by decide) rfl)⟩
      · refine cw_f rfl hb63 ?_
        refine cw_exit ?_
        refine qx_then (qx_then ?_)
        obtain rfl := hr56 _ (os q64)
        exact .inr (⟨_, rfl, ⟨rfl, (by repeat (first | exact Sub.nil _ | refine Sub.cons rfl ?_)), (hm62.pick [] (by decide) rfl)⟩⟩)
    · skip
      intro e env78 w79 hX80
      rcases hX80 with hX80 | hX80
      · obtain ⟨p82, rfl, hX80⟩ := hX80
        obtain ⟨rfl, hq84⟩ := hX80
        exact qr_block (qr_then ((by have e := os q59; subst e; exact hq84)))
      · obtain ⟨p85, rfl, hX80⟩ := hX80
        obtain ⟨rfl, hs86, hm87⟩ := hX80
        refine qx_same (qn_then ?_)
        refine cw_sub hs86 ?_
        refine cw_seq ?_
        refine cw_seq ?_
        refine cw_region ?_
        refine t_rd rfl (rd_move rfl) ?_
        obtain ⟨x88, h89, q90⟩ := ob q59; clear q59
        refine t_rd rfl (rd_index tS33 rfl rfl ((hn3.of_old hm87).sl) h89) ?_
        obtain ⟨zd91, hz92⟩ := (hn3.of_old hm87).row h89
        refine t_rd rfl (rd_ld1 tO22 rfl ((hn3.of_old hm87).cells hz92) (off := 0) rfl) ?_
        obtain ⟨x93, h94, q95⟩ := ob q90; clear q90
        refine t_rd rfl (rd_index tS22 rfl rfl ((hn3.of_old hm87).get hz92 h89) h94) ?_
        refine t_rd rfl (rd_ld1 tO3 rfl (((hn3.of_old hm87).get hz92 h89).cells h94) (off := 0) rfl) ?_
        refine t_rd rfl (rd_neq rfl rfl) ?_
        refine rwt_nil ?_
        refine qn_then ?_
        obtain ⟨hb96, q97⟩ | ⟨hb96, q97⟩ := oi q95 <;> clear q95
        · refine cw_t rfl hb96 ?_
          refine cw_seq ?_
          refine cw_region ?_
          refine t_rd rfl (rd_assign rfl) ?_
          refine rwt_nil ?_
          refine qn_then ?_
          refine cw_ret ?_
          refine qr_then ?_
          obtain rfl := os q97
          exact ret1 rfl rfl ⟨rfl, (hm87.pick [] (by decide) rfl)⟩
        · refine cw_f rfl hb96 ?_
          refine cw_skip ?_
          refine qn_then ?_
          refine cw_seq ?_
          refine cw_seq ?_
          refine cw_region ?_
          refine t_rd rfl (rd_assign rfl) ?_
          refine rwt_nil ?_
          refine qn_then ?_
          refine cw_block ?_
          obtain ⟨r1364, hit1365, q1366⟩ := ob q97; clear q97
          refine cw_loop2 (I := fun q envq wq => Sub [(0, v0), (1, v1), (2, (Value.int .i64 a2)), (3, v3), (10, (Value.int .i64 q))] envq ∧ Mem w No [] wq) (X := fun eq envq wq => (∃ p1367, r1364 = (Sum.inl p1367) ∧ eq = .ret ∧ retQ Try.prog 107 Try.f19 (fun u w' => u = (Value.bool p1367) ∧ Mem w No [] w') .ret envq wq) ∨ (∃ p1368, r1364 = (Sum.inr p1368) ∧ eq = .exit 2 ∧ Sub [(0, v0), (1, v1), (2, (Value.int .i64 a2)), (3, v3)] envq ∧ Mem w No [] wq)) hit1365 ⟨(by repeat (first | exact Sub.nil _ | refine Sub.cons rfl ?_)), (hm87.pick [] (by decide) rfl)⟩ ?_ ?_
          · rintro i1357 x1359 env1360 w1361 hf1362 hr1363 ⟨hs_, hm_⟩
            have hs_ : Sub [(0, v0), (1, v1), (2, (Value.int .i64 a2)), (3, v3), (10, (Value.int .i64 i1357))] env1360 := hs_
            have hm1369 : Mem w No [] w1361 := hm_
            refine cw_sub hs_ ?_
            clear hs_ hm_ q1366
            have h : r08_Verify_l10 N a0 a1 a3 i1357 = some x1359 := hf1362
            clear hf1362
            refine cw_seq ?_
            refine cw_seq ?_
            refine cw_region ?_
            refine t_rd rfl (rd_move rfl) ?_
            refine t_rd rfl (rd_move rfl) ?_
            refine t_rd rfl (rd_lenS tS22 rfl (hv0.of_old hm1369)) ?_
            refine t_rd rfl (rd_leq rfl rfl) ?_
            refine rwt_nil ?_
            refine qn_then ?_
            obtain ⟨hb1370, q1371⟩ | ⟨hb1370, q1371⟩ := oi h <;> clear h
            · refine cw_t rfl hb1370 ?_
              refine cw_skip ?_
              refine qn_then ?_
              refine cw_seq ?_
              refine cw_block ?_
              refine cw_seq ?_
              refine cw_region ?_
              refine t_rd rfl (rd_assign rfl) ?_
              refine rwt_nil ?_
              refine qn_then ?_
              refine cw_block ?_
              obtain ⟨r1780, hit1781, q1782⟩ := ob q1371; clear q1371
              refine cw_loop2 (I := fun q envq wq => Sub [(0, v0), (1, v1), (2, (Value.int .i64 a2)), (3, v3), (10, (Value.int .i64 i1357)), (11, (Value.int .i64 q))] envq ∧ Mem w No [] wq) (X := fun eq envq wq => (∃ p1783, r1780 = (Sum.inl p1783) ∧ eq = .ret ∧ retQ Try.prog 107 Try.f19 (fun u w' => u = (Value.bool p1783) ∧ Mem w No [] w') .ret envq wq) ∨ (∃ p1784, r1780 = (Sum.inr p1784) ∧ eq = .exit 4 ∧ Sub [(0, v0), (1, v1), (2, (Value.int .i64 a2)), (3, v3), (10, (Value.int .i64 i1357))] envq ∧ Mem w No [] wq)) hit1781 ⟨(by repeat (first | exact Sub.nil _ | refine Sub.cons rfl ?_)), (hm1369.pick [] (by decide) rfl)⟩ ?_ ?_
              · rintro i1773 x1775 env1776 w1777 hf1778 hr1779 ⟨hs_, hm_⟩
                have hs_ : Sub [(0, v0), (1, v1), (2, (Value.int .i64 a2)), (3, v3), (10, (Value.int .i64 i1357)), (11, (Value.int .i64 i1773))] env1776 := hs_
                have hm1785 : Mem w No [] w1777 := hm_
                refine cw_sub hs_ ?_
                clear hs_ hm_ q1782
                have h : r08_Verify_l13 N a0 a1 a3 i1357 i1773 = some x1775 := hf1778
                clear hf1778
                refine cw_seq ?_
                refine cw_seq ?_
                refine cw_region ?_
                refine t_rd rfl (rd_move rfl) ?_
                refine t_rd rfl (rd_move rfl) ?_
                refine t_rd rfl (rd_lenS tS22 rfl (hv1.of_old hm1785)) ?_
                refine t_rd rfl (rd_leq rfl rfl) ?_
                refine rwt_nil ?_
                refine qn_then ?_
                obtain ⟨hb1786, q1787⟩ | ⟨hb1786, q1787⟩ := oi h <;> clear h
                · refine cw_t rfl hb1786 ?_
                  refine cw_skip ?_
                  refine qn_then ?_
                  refine cw_seq ?_
                  refine cw_block ?_
                  refine cw_seq ?_
                  refine cw_region ?_
                  refine t_rd rfl (rd_assign rfl) ?_
                  refine rwt_nil ?_
                  refine qn_then ?_
                  refine cw_block ?_
                  obtain ⟨r1910, hit1911, q1912⟩ := ob q1787; clear q1787
                  refine cw_loop2 (I := fun q envq wq => Sub [(0, v0), (1, v1), (2, (Value.int .i64 a2)), (3, v3), (10, (Value.int .i64 i1357)), (11, (Value.int .i64 i1773)), (12, (Value.int .i64 q))] envq ∧ Mem w No [] wq) (X := fun eq envq wq => (∃ p1913, r1910 = (Sum.inl p1913) ∧ eq = .ret ∧ retQ Try.prog 107 Try.f19 (fun u w' => u = (Value.bool p1913) ∧ Mem w No [] w') .ret envq wq) ∨ (∃ p1914, r1910 = (Sum.inr p1914) ∧ eq = .exit 6 ∧ Sub [(0, v0), (1, v1), (2, (Value.int .i64 a2)), (3, v3), (10, (Value.int .i64 i1357)), (11, (Value.int .i64 i1773))] envq ∧ Mem w No [] wq)) hit1911 ⟨(by repeat (first | exact Sub.nil _ | refine Sub.cons rfl ?_)), (hm1785.pick [] (by decide) rfl)⟩ ?_ ?_
                  · rintro i1903 x1905 env1906 w1907 hf1908 hr1909 ⟨hs_, hm_⟩
                    have hs_ : Sub [(0, v0), (1, v1), (2, (Value.int .i64 a2)), (3, v3), (10, (Value.int .i64 i1357)), (11, (Value.int .i64 i1773)), (12, (Value.int .i64 i1903))] env1906 := hs_
                    have hm1915 : Mem w No [] w1907 := hm_
                    refine cw_sub hs_ ?_
                    clear hs_ hm_ q1912
                    have h : r08_Verify_l14 N a0 a1 a3 i1357 i1773 i1903 = some x1905 := hf1908
                    clear hf1908
                    refine cw_seq ?_
                    refine cw_seq ?_
                    refine cw_region ?_
                    refine t_rd rfl (rd_move rfl) ?_
                    refine t_rd rfl (rd_leq rfl rfl) ?_
                    refine rwt_nil ?_
                    refine qn_then ?_
                    obtain ⟨hb1916, q1917⟩ | ⟨hb1916, q1917⟩ := oi h <;> clear h
                    · refine cw_t rfl hb1916 ?_
                      refine cw_skip ?_
                      refine qn_then ?_
                      refine cw_seq ?_
                      refine cw_block ?_
                      refine cw_seq ?_
                      refine cw_region ?_
                      refine t_rd rfl (rd_move rfl) ?_
                      refine t_rd rfl (rd_move rfl) ?_
                      refine t_rd rfl (rd_move rfl) ?_
                      refine t_rd rfl (rd_move rfl) ?_
                      refine t_rd rfl (rd_move rfl) ?_
                      obtain ⟨r1918, h1919, q1920⟩ := ob q1917; clear q1917
                      refine t_ef rfl (ef_call tf30 rfl (r08_edit_ok h1919 (hv0.to_call hm1915) (hv1.to_call hm1915))) ?_
                      rintro _ w1922 ⟨e_, hm1921⟩
                      obtain rfl := e_.symm
                      have hm1923 := hm1915.call hm1921
                      refine t_rd rfl (rd_move rfl) ?_
                      refine t_rd rfl (rd_extract rfl rfl) ?_
                      refine t_rd rfl (rd_extract rfl rfl) ?_
                      refine t_rd rfl (rd_extract rfl rfl) ?_
                      refine t_rd rfl (rd_extract rfl rfl) ?_
                      refine t_rd rfl (rd_assign rfl) ?_
                      refine t_rd rfl (rd_assign rfl) ?_
                      refine t_rd rfl (rd_assign rfl) ?_
                      refine t_rd rfl (rd_assign rfl) ?_
                      refine rwt_nil ?_
                      refine qn_then ?_
                      refine cw_seq ?_
                      obtain ⟨w1925, he1927⟩ : ∃ q, q = w1922.drew := ⟨_, rfl⟩
                      have hm1926 := hm1923.drew; rw [← he1927] at hm1926
                      refine cw_region_s (fun q => q = w1925) (cls [] [17]) mixed ?_
                      rintro _ rfl; rw [← he1927]
                      refine s_rp (i := 0) rfl (by kernel_rfl) rfl (fun _ => (rd_move rfl)) ?_
                      refine s_rp (i := 1) rfl (by kernel_rfl) rfl (fun _ => (rd_move rfl)) ?_
                      refine s_rpg (i := 2) rfl (by kernel_rfl) rfl rfl rfl rfl (gv_t _) (fun hg1928 _ => (rd_move rfl)) ?_
                      refine s_rpg (i := 3) rfl (by kernel_rfl) rfl rfl rfl rfl (gv_t _) (fun hg1929 _ => (rd_move rfl)) ?_
                      obtain ⟨x1931, h1932, q1933⟩ := ob q1920; clear q1920
                      refine s_rpg (i := 4) rfl (by kernel_rfl) rfl rfl rfl rfl (gv_t _) (fun hg1930 _ => (rd_index tS33 (gvx rfl hg1930) (gvx rfl hg1930) ((hn3.of_old hm1926).sl) (gO_t h1932 hg1930))) ?_
                      obtain ⟨zd1935, hz1936⟩ := (hn3.of_old hm1926).rowg (g := r1918.2.2.2) (fun q => gO_t h1932 q)
                      refine s_rdg (i := 5) rfl (by kernel_rfl) rfl rfl rfl rfl (gv_t _) (fun hg1934 => (fun _ hS => by rw [hS]; exact (rd_ld1 tO22 (gvx rfl hg1934) ((hn3.of_old hm1926).cells (hz1936 hg1934)) (off := 0) rfl))) rfl ?_
                      refine s_rpg (i := 6) rfl (by kernel_rfl) rfl rfl rfl rfl (gv_t _) (fun hg1937 _ => (rd_move rfl)) ?_
                      obtain ⟨x1939, h1940, q1941⟩ := ob q1933; clear q1933
                      refine s_rpg (i := 7) rfl (by kernel_rfl) rfl rfl rfl rfl (gv_t _) (fun hg1938 _ => (rd_index tS22 (gvx rfl hg1938) (gvx rfl hg1938) ((hn3.of_old hm1926).get (hz1936 hg1938) (gO_t h1932 hg1938)) (gO_t h1940 hg1938))) ?_
                      refine s_rdg (i := 8) rfl (by kernel_rfl) rfl rfl rfl rfl (gv_t _) (fun hg1942 => (fun _ hS => by rw [hS]; exact (rd_ld1 tO3 (gvx rfl hg1942) (((hn3.of_old hm1926).get (hz1936 hg1942) (gO_t h1932 hg1942)).cells (gO_t h1940 hg1942)) (off := 0) rfl))) rfl ?_
                      refine s_rpg (i := 9) rfl (by kernel_rfl) rfl rfl rfl rfl (gv_t _) (fun hg1943 _ => (rd_move rfl)) ?_
                      refine s_rpg (i := 10) rfl (by kernel_rfl) rfl rfl rfl rfl (gv_t _) (fun hg1944 _ => (rd_move rfl)) ?_
                      obtain ⟨x1946, h1947, q1948⟩ := ob q1941; clear q1941
                      refine s_rpg (i := 11) rfl (by kernel_rfl) rfl rfl rfl rfl (gv_t _) (fun hg1945 _ => (rd_index tS33 (gvx rfl hg1945) (gvx rfl hg1945) ((hn3.of_old hm1926).sl) (gO_t h1947 hg1945))) ?_
                      obtain ⟨zd1950, hz1951⟩ := (hn3.of_old hm1926).rowg (g := r1918.2.2.2) (fun q => gO_t h1947 q)
                      refine s_rdg (i := 12) rfl (by kernel_rfl) rfl rfl rfl rfl (gv_t _) (fun hg1949 => (fun _ hS => by rw [hS]; exact (rd_ld1 tO22 (gvx rfl hg1949) ((hn3.of_old hm1926).cells (hz1951 hg1949)) (off := 0) rfl))) rfl ?_
                      refine s_rpg (i := 13) rfl (by kernel_rfl) rfl rfl rfl rfl (gv_t _) (fun hg1952 _ => (rd_move rfl)) ?_
                      obtain ⟨x1954, h1955, q1956⟩ := ob q1948; clear q1948
                      refine s_rpg (i := 14) rfl (by kernel_rfl) rfl rfl rfl rfl (gv_t _) (fun hg1953 _ => (rd_index tS22 (gvx rfl hg1953) (gvx rfl hg1953) ((hn3.of_old hm1926).get (hz1951 hg1953) (gO_t h1947 hg1953)) (gO_t h1955 hg1953))) ?_
                      refine s_rdg (i := 15) rfl (by kernel_rfl) rfl rfl rfl rfl (gv_t _) (fun hg1957 => (fun _ hS => by rw [hS]; exact (rd_ld1 tO3 (gvx rfl hg1957) (((hn3.of_old hm1926).get (hz1951 hg1957) (gO_t h1947 hg1957)).cells (gO_t h1955 hg1957)) (off := 0) rfl))) rfl ?_
                      refine s_rpg (i := 16) rfl (by kernel_rfl) rfl rfl rfl rfl (gv_t _) (fun hg1958 _ => (rd_move rfl)) ?_
                      obtain ⟨r1960, h1961, q1962⟩ := ob q1956; clear q1956
                      refine s_efg (i := 17) rfl (by kernel_rfl) rfl rfl rfl rfl (R := (fun v w' => v = gV r1918.2.2.2 (Value.bool r1960) ∧ Mem w1925 No [] w')) (gv_t _) (fun hg1959 => (ef_call tf31 (evc (gvx rfl hg1959) (evc (gvx rfl hg1959) (evc (gvx rfl hg1959) evn))) (r08_near_ok (gO_t h1961 hg1959))).mono (by rintro _ _ ⟨rfl, q⟩; exact ⟨(gV_t hg1959).symm, q⟩)) (fun q => ⟨(gV_f q).symm, Mem.nil _⟩) (by decide) (fun _ _ _ q => absurd q (by decide)) ?_
                      rintro _ w1964 ⟨rfl, hm1963⟩
                      have hm1965 := hm1926.call hm1963
                      refine s_rpg (i := 18) rfl (by kernel_rfl) rfl rfl rfl rfl (gv_t _) (fun hg1966 _ => (rd_not (gvx rfl hg1966))) ?_
                      refine s_rp (i := 19) rfl (by kernel_rfl) rfl (fun _ => (rd_and rfl (fun hc1967 => (gvx rfl hc1967)))) ?_
                      refine s_nil (by kernel_rfl) ?_
                      refine qn_then ?_
                      obtain ⟨hb1968, q1969⟩ | ⟨hb1968, q1969⟩ := oi q1962 <;> clear q1962
                      · refine cw_t rfl hb1968 ?_
                        refine cw_seq ?_
                        refine cw_region ?_
                        refine t_rd rfl (rd_assign rfl) ?_
                        refine rwt_nil ?_
                        refine qn_then ?_
                        refine cw_ret ?_
                        refine qr_block (qr_then (qr_then ?_))
                        obtain rfl := hr1909 _ (os q1969)
                        refine .inl (⟨_, rfl, ⟨rfl, ?_⟩⟩)
                        exact ret1 rfl rfl ⟨rfl, (hm1965.pick [] (by decide) rfl)⟩
                      · refine cw_f rfl hb1968 ?_
                        refine cw_skip ?_
                        refine qn_block (qn_then ?_)
                        refine cw_region ?_
                        refine t_rd rfl (rd_move rfl) ?_
                        obtain ⟨x1970, h1971, q1972⟩ := ob q1969; clear q1969
                        refine t_rd rfl (rd_add64 h1971 rfl rfl) ?_
                        refine t_rd rfl (rd_assign rfl) ?_
                        refine rwt_nil ?_
                        refine qn_then ?_
                        refine ⟨_, (os q1972), (by repeat (first | exact Sub.nil _ | refine Sub.cons rfl ?_)), (hm1965.pick [] (by decide) rfl)⟩
                    · refine cw_f rfl hb1916 ?_
                      refine cw_exit ?_
                      refine qx_then (qx_then ?_)
                      obtain rfl := hr1909 _ (os q1917)
                      exact .inr (⟨_, rfl, ⟨rfl, (by repeat (first | exact Sub.nil _ | refine Sub.cons rfl ?_)), (hm1915.pick [] (by decide) rfl)⟩⟩)
                  · skip
                    intro e env1973 w1974 hX1975
                    rcases hX1975 with hX1975 | hX1975
                    · obtain ⟨p1977, rfl, hX1975⟩ := hX1975
                      obtain ⟨rfl, hq1979⟩ := hX1975
                      obtain rfl := hr1779 _ (os q1912)
                      exact qr_block (qr_block (qr_then (qr_then (.inl (⟨_, rfl, ⟨rfl, hq1979⟩⟩)))))
                    · obtain ⟨p1980, rfl, hX1975⟩ := hX1975
                      obtain ⟨rfl, hs1981, hm1982⟩ := hX1975
                      refine qx_same (qn_block (qn_then ?_))
                      refine cw_sub hs1981 ?_
                      refine cw_region ?_
                      refine t_rd rfl (rd_move rfl) ?_
                      obtain ⟨x1983, h1984, q1985⟩ := ob q1912; clear q1912
                      refine t_rd rfl (rd_add64 h1984 rfl rfl) ?_
                      refine t_rd rfl (rd_assign rfl) ?_
                      refine rwt_nil ?_
                      refine qn_then ?_
                      refine ⟨_, (os q1985), (by repeat (first | exact Sub.nil _ | refine Sub.cons rfl ?_)), (hm1982.pick [] (by decide) rfl)⟩
                · refine cw_f rfl hb1786 ?_
                  refine cw_exit ?_
                  refine qx_then (qx_then ?_)
                  obtain rfl := hr1779 _ (os q1787)
                  exact .inr (⟨_, rfl, ⟨rfl, (by repeat (first | exact Sub.nil _ | refine Sub.cons rfl ?_)), (hm1785.pick [] (by decide) rfl)⟩⟩)
              · skip
                intro e env1986 w1987 hX1988
                rcases hX1988 with hX1988 | hX1988
                · obtain ⟨p1990, rfl, hX1988⟩ := hX1988
                  obtain ⟨rfl, hq1992⟩ := hX1988
                  obtain rfl := hr1363 _ (os q1782)
                  exact qr_block (qr_block (qr_then (qr_then (.inl (⟨_, rfl, ⟨rfl, hq1992⟩⟩)))))
                · obtain ⟨p1993, rfl, hX1988⟩ := hX1988
                  obtain ⟨rfl, hs1994, hm1995⟩ := hX1988
                  refine qx_same (qn_block (qn_then ?_))
                  refine cw_sub hs1994 ?_
                  refine cw_region ?_
                  refine t_rd rfl (rd_move rfl) ?_
                  obtain ⟨x1996, h1997, q1998⟩ := ob q1782; clear q1782
                  refine t_rd rfl (rd_add64 h1997 rfl rfl) ?_
                  refine t_rd rfl (rd_assign rfl) ?_
                  refine rwt_nil ?_
                  refine qn_then ?_
                  refine ⟨_, (os q1998), (by repeat (first | exact Sub.nil _ | refine Sub.cons rfl ?_)), (hm1995.pick [] (by decide) rfl)⟩
            · refine cw_f rfl hb1370 ?_
              refine cw_exit ?_
              refine qx_then (qx_then ?_)
              obtain rfl := hr1363 _ (os q1371)
              exact .inr (⟨_, rfl, ⟨rfl, (by repeat (first | exact Sub.nil _ | refine Sub.cons rfl ?_)), (hm1369.pick [] (by decide) rfl)⟩⟩)
          · skip
            intro e env1999 w2000 hX2001
            rcases hX2001 with hX2001 | hX2001
            · obtain ⟨p2003, rfl, hX2001⟩ := hX2001
              obtain ⟨rfl, hq2005⟩ := hX2001
              exact qr_block (qr_then ((by have e := os q1366; subst e; exact hq2005)))
            · obtain ⟨p2006, rfl, hX2001⟩ := hX2001
              obtain ⟨rfl, hs2007, hm2008⟩ := hX2001
              refine qx_same (qn_then ?_)
              refine cw_sub hs2007 ?_
              refine cw_seq ?_
              refine cw_region ?_
              refine t_rd rfl (rd_move rfl) ?_
              refine t_rd rfl (rd_move rfl) ?_
              refine t_rd rfl (rd_lenS tS22 rfl (hv0.of_old hm2008)) ?_
              obtain ⟨x2009, h2010, q2011⟩ := ob q1366; clear q1366
              refine t_rd rfl (rd_index tS33 rfl rfl ((hn3.of_old hm2008).sl) h2010) ?_
              obtain ⟨zd2012, hz2013⟩ := (hn3.of_old hm2008).row h2010
              refine t_rd rfl (rd_ld1 tO22 rfl ((hn3.of_old hm2008).cells hz2013) (off := 0) rfl) ?_
              refine t_rd rfl (rd_move rfl) ?_
              refine t_rd rfl (rd_lenS tS22 rfl (hv1.of_old hm2008)) ?_
              obtain ⟨x2014, h2015, q2016⟩ := ob q2011; clear q2011
              refine t_rd rfl (rd_index tS22 rfl rfl ((hn3.of_old hm2008).get hz2013 h2010) h2015) ?_
              refine t_rd rfl (rd_ld1 tO3 rfl (((hn3.of_old hm2008).get hz2013 h2010).cells h2015) (off := 0) rfl) ?_
              refine t_rd rfl (rd_move rfl) ?_
              refine t_rd rfl (rd_geq rfl rfl) ?_
              refine t_rd rfl (rd_assign rfl) ?_
              refine rwt_nil ?_
              refine qn_then ?_
              refine cw_ret ?_
              obtain rfl := os q2016
              exact ret1 rfl rfl ⟨rfl, (hm2008.pick [] (by decide) rfl)⟩

theorem law08_ReconcileVerifies_ok {N : Nat} {a0 : List Int} {a1 : Int} {a2 : List (List Int)} {res : Bool} (h : law08_ReconcileVerifies N a0 a1 a2 = some res) {w : World} {v0 : Value} {v2 : Value} (hv0 : Sl (Old w No) w v0 a0) (hv2 : Sl (Old w No) w v2 a2) :
    CallsR Try.prog 4 [v0, (Value.int .i64 a1), v2] w (fun u w' => u = (Value.bool res) ∧ Mem w No [] w') := by
  unfold law08_ReconcileVerifies at h
  refine fn_ok Try.func4 rfl rfl rfl ?_
  obtain ⟨zs_a2, hn2⟩ := hv2.nest
  have hm0 := Mem.nil w
  refine cw_seq ?_
  refine cw_region ?_
  refine t_rd rfl (rd_assign rfl) ?_
  refine rwt_nil ?_
  refine qn_then ?_
  refine cw_seq ?_
  refine cw_region ?_
  refine t_rd rfl (rd_move rfl) ?_
  obtain ⟨r1, h2, q3⟩ := ob h; clear h
  refine t_ef rfl (ef_call tf9 rfl (humpgen_New_ok h2 (hv0.to_call hm0))) ?_
  rintro _ w6 ⟨g4, e_, hm5⟩
  obtain rfl := e_.symm
  have hm7 := hm0.call hm5
  refine t_rd rfl (rd_assign rfl) ?_
  refine rwt_nil ?_
  refine qn_then ?_
  refine cw_seq ?_
  refine cw_seq ?_
  refine cw_region ?_
  refine t_rd rfl (rd_assign rfl) ?_
  refine rwt_nil ?_
  refine qn_then ?_
  refine cw_block ?_
  obtain ⟨r768, hit769, q770⟩ := ob q3; clear q3
  refine cw_loop2 (I := fun q envq wq => Sub [(1, (Value.int .i64 a1)), (2, v2), (7, (Value.pointer (some ⟨g4, 0, none⟩))), (8, (Value.int .i64 q.1))] envq ∧ Mem w No [blk g4 48 [v0, (Value.int .i64 q.2)]] wq) (X := fun eq envq wq => (∃ p771, r768 = (Sum.inl p771) ∧ eq = .ret ∧ retQ Try.prog 121 Try.f4 (fun u w' => u = (Value.bool p771) ∧ Mem w No [] w') .ret envq wq) ∨ (∃ p772, r768 = (Sum.inr p772) ∧ eq = .exit 0 ∧ Sub [] envq ∧ Mem w No [] wq)) hit769 ⟨(by repeat (first | exact Sub.nil _ | refine Sub.cons rfl ?_)), (hm7.pick [0] (by decide) rfl)⟩ ?_ ?_
  · rintro ⟨i760, i761⟩ x763 env764 w765 hf766 hr767 ⟨hs_, hm_⟩
    have hs_ : Sub [(1, (Value.int .i64 a1)), (2, v2), (7, (Value.pointer (some ⟨g4, 0, none⟩))), (8, (Value.int .i64 i760))] env764 := hs_
    have hm773 : Mem w No [blk g4 48 [v0, (Value.int .i64 i761)]] w765 := hm_
    refine cw_sub hs_ ?_
    clear hs_ hm_ q770
    have h : law08_ReconcileVerifies_l3 N a0 a1 a2 i760 i761 = some x763 := hf766
    clear hf766
    refine cw_seq ?_
    refine cw_seq ?_
    refine cw_region ?_
    refine t_rd rfl (rd_move rfl) ?_
    refine t_rd rfl (rd_lss rfl rfl) ?_
    refine rwt_nil ?_
    refine qn_then ?_
    obtain ⟨hb774, q775⟩ | ⟨hb774, q775⟩ := oi h <;> clear h
    · refine cw_t rfl hb774 ?_
      refine cw_skip ?_
      refine qn_then ?_
      refine cw_seq ?_
      refine cw_block ?_
      refine cw_seq ?_
      refine cw_region ?_
      refine t_rd rfl (rd_move rfl) ?_
      obtain ⟨r776, h777, q778⟩ := ob q775; clear q775
      refine t_ef rfl (ef_call tf10 rfl (law08_lists_ok h777 (hv0.to_callT (k := 0) hm773 rfl) (hm773.get (k := 0) rfl))) ?_
      rintro _ w782 ⟨v779, v780, e_, hm781⟩
      obtain rfl := e_.symm
      have hm783 := hm773.callT (k := 0) rfl (fun _ h => h) hm781 (fun _ => Iff.rfl)
      refine t_rd rfl (rd_move rfl) ?_
      refine t_rd rfl (rd_extract rfl rfl) ?_
      refine t_rd rfl (rd_extract rfl rfl) ?_
      refine t_rd rfl (rd_assign rfl) ?_
      refine t_rd rfl (rd_assign rfl) ?_
      refine rwt_nil ?_
      refine qn_then ?_
      refine cw_seq ?_
      refine cw_region ?_
      refine t_rd rfl (rd_move rfl) ?_
      refine t_rd rfl (rd_move rfl) ?_
      obtain ⟨r784, h785, q786⟩ := ob q778; clear q778
      refine t_ef rfl (ef_call tf14 rfl (r08_Align_ok h785 (hm783.sl_call 0 rfl) (hm783.sl_call 1 rfl))) ?_
      rintro _ w789 ⟨v787, e_, hm788⟩
      obtain rfl := e_.symm
      have hm790 := hm783.call hm788
      refine t_rd rfl (rd_move rfl) ?_
      refine t_rd rfl (rd_extract rfl rfl) ?_
      refine t_rd rfl (rd_extract rfl rfl) ?_
      refine t_rd rfl (rd_extract rfl rfl) ?_
      refine t_rd rfl (rd_assign rfl) ?_
      refine t_rd rfl (rd_assign rfl) ?_
      refine t_rd rfl (rd_assign rfl) ?_
      refine rwt_nil ?_
      refine qn_then ?_
      refine cw_seq ?_
      refine cw_region ?_
      refine t_rd rfl (rd_move rfl) ?_
      refine t_rd rfl (rd_move rfl) ?_
      obtain ⟨r791, h792, q793⟩ := ob q786; clear q786
      refine t_ef rfl (ef_call tf15 rfl (r08_Potential_ok h792 (hm790.sl_call 1 rfl) (hm790.sl_call 2 rfl))) ?_
      rintro _ w797 ⟨zs795, v794, e_, hm796⟩
      obtain rfl := e_.symm
      have hm798 := hm790.call hm796
      refine t_rd rfl (rd_move rfl) ?_
      refine t_rd rfl (rd_extract rfl rfl) ?_
      refine t_rd rfl (rd_extract rfl rfl) ?_
      refine t_rd rfl (rd_assign rfl) ?_
      refine t_rd rfl (rd_assign rfl) ?_
      refine rwt_nil ?_
      refine qn_then ?_
      refine cw_seq ?_
      refine cw_seq ?_
      refine cw_region ?_
      refine t_rd rfl (rd_move rfl) ?_
      refine t_rd rfl (rd_gtr rfl rfl) ?_
      refine rwt_nil ?_
      refine qn_then ?_
      obtain ⟨j908, hit909, q910⟩ := ob q793; clear q793
      refine cw_join (X := fun eq envq wq => eq = .normal ∧ ∃ (v906 : Value) (zs907 : List Hdr), Sub [(1, (Value.int .i64 a1)), (2, v2), (7, (Value.pointer (some ⟨g4, 0, none⟩))), (8, (Value.int .i64 i760)), (9, v779), (10, v780), (12, (Value.int .i64 r784.2.1)), (14, v906)] envq ∧ Mem w No [ownL 22 v906 (zs907 : List Hdr), rowsC 3 zs907 (j908.2 : List (List Int)) none, ownL 3 v779 (r776.2.1 : List Int), ownL 3 v780 (r776.2.2 : List Int), blk g4 48 [v0, (Value.int .i64 j908.1)]] wq) ?_ ?_
      · clear q910
        obtain ⟨hb911, q912⟩ | ⟨hb911, q912⟩ := oi hit909 <;> clear hit909
        · refine cw_t rfl hb911 ?_
          refine cw_seq ?_
          refine cw_region ?_
          refine t_rd rfl (rd_move rfl) ?_
          refine t_rd rfl (rd_move rfl) ?_
          refine t_rd rfl (rd_lenS tS33 rfl ((Nl.mk (hm798.sl_call 0 rfl) (hm798.rows_call 1 rfl)).sl)) ?_
          obtain ⟨r913, h914, q915⟩ := ob q912; clear q912
          refine t_ef rfl (ef_call tf16 rfl (Maker_Next_ok h914 (hv0.to_callT (k := 5) hm798 rfl) (hm798.get (k := 5) rfl))) ?_
          rintro _ w917 ⟨e_, hm916⟩
          obtain rfl := e_.symm
          have hm918 := hm798.callT (k := 5) rfl (fun _ h => h) hm916 (fun _ => Iff.rfl)
          refine t_rd rfl (rd_assign rfl) ?_
          refine t_rd rfl (rd_assign rfl) ?_
          refine rwt_nil ?_
          refine qn_then ?_
          refine cw_seq ?_
          refine cw_region ?_
          refine t_rd rfl (rd_move rfl) ?_
          refine t_rd rfl (rd_move rfl) ?_
          refine t_rd rfl (rd_move rfl) ?_
          obtain ⟨x919, h920, q921⟩ := ob q915; clear q915
          refine t_rd rfl (rd_index tS33 rfl rfl ((Nl.mk (hm918.sl_call 0 rfl) (hm918.rows_call 1 rfl)).sl) h920) ?_
          obtain ⟨zd922, hz923⟩ := (Nl.mk (hm918.sl_call 0 rfl) (hm918.rows_call 1 rfl)).row h920
          refine t_rd rfl (rd_ld1 tO22 rfl ((Nl.mk (hm918.sl_call 0 rfl) (hm918.rows_call 1 rfl)).cells hz923) (off := 0) rfl) ?_
          refine t_rd rfl (rd_lenS tS22 rfl ((Nl.mk (hm918.sl_call 0 rfl) (hm918.rows_call 1 rfl)).get hz923 h920)) ?_
          obtain ⟨r924, h925, q926⟩ := ob q921; clear q921
          refine t_ef rfl (ef_call tf16 rfl (Maker_Next_ok h925 (hv0.to_callT (k := 5) hm918 rfl) (hm918.get (k := 5) rfl))) ?_
          rintro _ w928 ⟨e_, hm927⟩
          obtain rfl := e_.symm
          have hm929 := hm918.callT (k := 5) rfl (fun _ h => h) hm927 (fun _ => Iff.rfl)
          refine t_rd rfl (rd_assign rfl) ?_
          refine rwt_nil ?_
          refine qn_then ?_
          refine cw_seq ?_
          obtain ⟨w931, he933⟩ : ∃ q, q = w928.drew := ⟨_, rfl⟩
          have hm932 := hm929.drew; rw [← he933] at hm932
          refine cw_region_s (fun q => (ownL 22 v794 (zs795 : List Hdr)).φ q ∧ (rowsC 3 zs795 (r791.1 : List (List Int)) none).φ q) (cls [8, 9] [12]) mixed ?_
          rintro _ rfl; rw [← he933]
          refine s_rp (i := 0) rfl (by kernel_rfl) rfl (fun _ => (rd_move rfl)) ?_
          refine s_rp (i := 1) rfl (by kernel_rfl) rfl (fun _ => (rd_move rfl)) ?_
          obtain ⟨x960, h961, q962⟩ := ob q926; clear q926
          refine s_rp (i := 2) rfl (by kernel_rfl) rfl (fun _ => (rd_index tS33 rfl rfl ((Nl.mk (hm932.sl_call 0 rfl) (hm932.rows_call 1 rfl)).sl) h961)) ?_
          obtain ⟨zd963, hz964⟩ := (Nl.mk (hm932.sl_call 0 rfl) (hm932.rows_call 1 rfl)).row h961
          refine s_rd (i := 3) rfl (by kernel_rfl) rfl (fun w930 hS => (rd_ld1 tO22 rfl ((nl_φ hS.1 hS.2).cells hz964) (off := 0) rfl)) ⟨(hm932.get (k := 0) rfl), (hm932.get (k := 1) rfl)⟩ ?_
          refine s_rp (i := 4) rfl (by kernel_rfl) rfl (fun _ => (rd_move rfl)) ?_
          obtain ⟨x965, h966, q967⟩ := ob q962; clear q962
          refine s_rp (i := 5) rfl (by kernel_rfl) rfl (fun _ => (rd_index tS22 rfl rfl ((Nl.mk (hm932.sl_call 0 rfl) (hm932.rows_call 1 rfl)).get hz964 h961) h966)) ?_
          refine s_rd (i := 6) rfl (by kernel_rfl) rfl (fun w930 hS => (rd_ld1 tO3 rfl (((nl_φ hS.1 hS.2).get hz964 h961).cells h966) (off := 0) rfl)) ⟨(hm932.get (k := 0) rfl), (hm932.get (k := 1) rfl)⟩ ?_
          refine s_rp (i := 7) rfl (by kernel_rfl) rfl (fun _ => (rd_move rfl)) ?_
          refine s_ef (i := 8) rfl (by kernel_rfl) rfl (ef_bslice (l := ([(-5), (-1), 0, 1, 2] : List Int)) hm932 tS22 rfl (cs := #[(Value.int .i64 (-5)), (Value.int .i64 (-1)), (Value.int .i64 0), (Value.int .i64 1), (Value.int .i64 2)]) (by unfold bsl; kernel_rfl) rfl rfl) (by decide) ?_ ?_
          · intro v968 w970 hm969
            intro _
            exact ⟨(hm969.get (k := 1) rfl), (hm969.get (k := 2) rfl)⟩
          intro v968 w970 hm969
          obtain ⟨r971, h972, q973⟩ := ob q967; clear q967
          refine s_ef (i := 9) rfl (by kernel_rfl) rfl (ef_call tf17 rfl (Maker_Pick_ok h972 (hv0.to_callT (k := 6) hm969 rfl) (hm969.get (k := 6) rfl) (hm969.sl_callT 0 6 rfl rfl (by decide)))) (by decide) ?_ ?_
          · rintro _ w975 ⟨e_, hm974⟩
            obtain rfl := e_.symm
            have hm976 := hm969.callT (k := 6) rfl (fun _ h => h) hm974 (fun _ => Iff.rfl)
            intro _
            exact ⟨(hm976.get (k := 1) rfl), (hm976.get (k := 2) rfl)⟩
          rintro _ w975 ⟨e_, hm974⟩
          obtain rfl := e_.symm
          have hm976 := hm969.callT (k := 6) rfl (fun _ h => h) hm974 (fun _ => Iff.rfl)
          obtain ⟨x977, h978, q979⟩ := ob q973; clear q973
          refine s_rp (i := 10) rfl (by kernel_rfl) rfl (fun _ => (rd_add64 h978 rfl rfl)) ?_
          obtain ⟨x980, h981, q982⟩ := ob q979; clear q979
          refine s_rp (i := 11) rfl (by kernel_rfl) rfl (fun _ => (rd_index tS22 rfl rfl ((Nl.mk (hm976.sl_call 1 rfl) (hm976.rows_call 2 rfl)).get hz964 h961) h981)) ?_
          have hm983 := hm976.pick [2, 0, 1, 3, 4, 5, 6] (L' := [rowsC 3 zs795 (r791.1 : List (List Int)) none, ownL 3 v968 ([(-5), (-1), 0, 1, 2] : List Int), ownL 22 v794 (zs795 : List Hdr), ownL 3 v787 (r784.1 : List Int), ownL 3 v779 (r776.2.1 : List Int), ownL 3 v780 (r776.2.2 : List Int), blk g4 48 [v0, (Value.int .i64 r971.1)]]) (by decide) rfl
          refine s_ef0 (i := 12) rfl (by kernel_rfl) (ef_strow (off := 0) (x' := x977) hm983 tO3 hz964 h961 rfl rfl rfl h981 rfl rfl) (by decide) (fun _ _ _ q => absurd q (by decide)) ?_
          intro _ w985 hm984
          refine s_nil (by kernel_rfl) ?_
          refine qn_then ?_
          refine cw_seq ?_
          refine cw_region ?_
          refine t_rd rfl (rd_move rfl) ?_
          refine t_rd rfl (rd_eql rfl rfl) ?_
          refine rwt_nil ?_
          refine qn_then ?_
          obtain ⟨hb986, q987⟩ | ⟨hb986, q987⟩ := oi q982 <;> clear q982
          · refine cw_t rfl hb986 ?_
            refine cw_region ?_
            refine t_rd rfl (rd_move rfl) ?_
            refine t_rd rfl (rd_move rfl) ?_
            refine t_rd rfl (rd_move rfl) ?_
            refine t_rd rfl (rd_move rfl) ?_
            obtain ⟨x988, h989, q990⟩ := ob q987; clear q987
            refine t_rd rfl (rd_index tS33 rfl rfl ((Nl.mk (hm984.sl_call 2 rfl) (hm984.rows_call 0 rfl)).sl) h989) ?_
            obtain ⟨zd991, hz992⟩ := (Nl.mk (hm984.sl_call 2 rfl) (hm984.rows_call 0 rfl)).row h989
            refine t_rd rfl (rd_ld1 tO22 rfl ((Nl.mk (hm984.sl_call 2 rfl) (hm984.rows_call 0 rfl)).cells hz992) (off := 0) rfl) ?_
            refine t_ef rfl (ef_bslice (l := ([0] : List Int)) hm984 tS22 rfl (cs := #[(Value.int .i64 0)]) (by unfold bsl; kernel_rfl) rfl rfl) ?_
            intro v993 w995 hm994
            have hm996 := hm994.pick [1, 0, 2, 3, 4, 5, 6, 7] (L' := [rowsC 3 zs795 ((List.set r791.1 (Int.toNat r913.2) (List.set x960 (Int.toNat r924.2) x977)) : List (List Int)) none, ownL 3 v993 ([0] : List Int), ownL 3 v968 ([(-5), (-1), 0, 1, 2] : List Int), ownL 22 v794 (zs795 : List Hdr), ownL 3 v787 (r784.1 : List Int), ownL 3 v779 (r776.2.1 : List Int), ownL 3 v780 (r776.2.2 : List Int), blk g4 48 [v0, (Value.int .i64 r971.1)]]) (by decide) rfl
            have hm997 := hm996.focus hz992 h989
            obtain ⟨l998, h999, q1000⟩ := ob q990; clear q990
            refine t_ef rfl (ef_append (k := 1) hm997 tS22 tE3 rfl rfl rfl rfl (hm997.sl 2 rfl) h999) ?_
            intro v1001 w1003 hm1002
            obtain ⟨x1004, h1005, q1006⟩ := ob q1000; clear q1000
            obtain ⟨zd1007, hz1008⟩ := rowI (hm1002.get (k := 0) rfl).1 h1005
            refine t_rd rfl (rd_index (α := Hdr) tS33 rfl rfl (hm1002.sl 4 rfl) hz1008) ?_
            obtain ⟨zd1009, ez1010⟩ : ∃ z : Hdr, z.1 = v1001 := ⟨⟨v1001, sl_one (hm1002.sl 1 rfl)⟩, rfl⟩
            obtain ⟨zd1011, hz1012⟩ := rowI (hm1002.get (k := 0) rfl).1 h1005
            refine t_ef0 (ef_stl (k := 4) (off := 0) (x' := zd1009) hm1002 tO22 rfl rfl (sl_one (hm1002.sl 1 rfl)) rfl hz1012 (by show [v1001] = [zd1009.1]; rw [ez1010]) rfl) ?_
            intro _ w1014 hm1013
            have hm1015 := hm1013.fill ez1010
            refine rwt_nil ?_
            obtain rfl := os q1006
            exact ⟨rfl, v794, (List.set zs795 (Int.toNat r913.2) zd1009), (by repeat (first | exact Sub.nil _ | refine Sub.cons rfl ?_)), (hm1015.pick [3, 0, 5, 6, 7] (by decide) rfl)⟩
          · refine cw_f rfl hb986 ?_
            refine cw_skip ?_
            obtain rfl := os q987
            exact ⟨rfl, v794, zs795, (by repeat (first | exact Sub.nil _ | refine Sub.cons rfl ?_)), (hm984.pick [2, 0, 4, 5, 6] (by decide) rfl)⟩
        · refine cw_f rfl hb911 ?_
          refine cw_skip ?_
          obtain rfl := os q912
          exact ⟨rfl, v794, zs795, (by repeat (first | exact Sub.nil _ | refine Sub.cons rfl ?_)), (hm798.pick [0, 1, 3, 4, 5] (by decide) rfl)⟩
      · clear hit909
        intro e env1016 w1017 hX1018
        obtain ⟨rfl, v906, zs907, hs1019, hm1020⟩ := hX1018
        refine qn_then ?_
        refine cw_sub hs1019 ?_
        refine cw_seq ?_
        refine cw_seq ?_
        refine cw_region ?_
        refine t_rd rfl (rd_move rfl) ?_
        refine t_rd rfl (rd_move rfl) ?_
        obtain ⟨x1021, h1022, q1023⟩ := ob q910; clear q910
        refine t_rd rfl (rd_sub64 h1022 rfl rfl) ?_
        refine t_rd rfl (rd_move rfl) ?_
        obtain ⟨x1024, h1025, q1026⟩ := ob q1023; clear q1023
        refine t_rd rfl (rd_add64 h1025 rfl rfl) ?_
        refine t_rd rfl (rd_move rfl) ?_
        refine t_ef rfl (ef_bslice (l := ([r784.2.1, x1021, x1024, a1] : List Int)) hm1020 tS22 rfl (cs := #[(Value.int .i64 r784.2.1), (Value.int .i64 x1021), (Value.int .i64 x1024), (Value.int .i64 a1)]) (by unfold bsl; kernel_rfl) rfl rfl) ?_
        intro v1027 w1029 hm1028
        refine t_rd rfl (rd_lenS tS22 rfl (hm1028.sl 0 rfl)) ?_
        refine t_rd rfl (rd_move rfl) ?_
        refine rwt_nil ?_
        refine qn_then ?_
        refine cw_block ?_
        obtain ⟨r1082, hit1083, q1084⟩ := ob q1026; clear q1026
        refine cw_loop2 (I := fun q envq wq => Sub [(1, (Value.int .i64 a1)), (2, v2), (7, (Value.pointer (some ⟨g4, 0, none⟩))), (8, (Value.int .i64 i760)), (9, v779), (10, v780), (14, v906), (86, v1027), (87, (Value.int .i64 (List.length ([r784.2.1, x1021, x1024, a1]) : Int))), (88, (Value.int .i64 q))] envq ∧ Mem w No [ownL 3 v1027 ([r784.2.1, x1021, x1024, a1] : List Int), ownL 22 v906 (zs907 : List Hdr), rowsC 3 zs907 (j908.2 : List (List Int)) none, ownL 3 v779 (r776.2.1 : List Int), ownL 3 v780 (r776.2.2 : List Int), blk g4 48 [v0, (Value.int .i64 j908.1)]] wq) (X := fun eq envq wq => (∃ p1085, r1082 = (Sum.inl p1085) ∧ eq = .ret ∧ retQ Try.prog 121 Try.f4 (fun u w' => u = (Value.bool p1085) ∧ Mem w No [] w') .ret envq wq) ∨ (∃ p1086, r1082 = (Sum.inr p1086) ∧ eq = .exit 2 ∧ Sub [(1, (Value.int .i64 a1)), (2, v2), (7, (Value.pointer (some ⟨g4, 0, none⟩))), (8, (Value.int .i64 i760)), (9, v779), (10, v780)] envq ∧ Mem w No [ownL 3 v779 (r776.2.1 : List Int), ownL 3 v780 (r776.2.2 : List Int), blk g4 48 [v0, (Value.int .i64 j908.1)]] wq)) hit1083 ⟨(by repeat (first | exact Sub.nil _ | refine Sub.cons rfl ?_)), (hm1028.pick [0, 1, 2, 3, 4, 5] (by decide) rfl)⟩ ?_ ?_
        · rintro i1075 x1077 env1078 w1079 hf1080 hr1081 ⟨hs_, hm_⟩
          have hs_ : Sub [(1, (Value.int .i64 a1)), (2, v2), (7, (Value.pointer (some ⟨g4, 0, none⟩))), (8, (Value.int .i64 i760)), (9, v779), (10, v780), (14, v906), (86, v1027), (87, (Value.int .i64 (List.length ([r784.2.1, x1021, x1024, a1]) : Int))), (88, (Value.int .i64 i1075))] env1078 := hs_
          have hm1087 : Mem w No [ownL 3 v1027 ([r784.2.1, x1021, x1024, a1] : List Int), ownL 22 v906 (zs907 : List Hdr), rowsC 3 zs907 (j908.2 : List (List Int)) none, ownL 3 v779 (r776.2.1 : List Int), ownL 3 v780 (r776.2.2 : List Int), blk g4 48 [v0, (Value.int .i64 j908.1)]] w1079 := hm_
          refine cw_sub hs_ ?_
          clear hs_ hm_ q1084
          have h : law08_ReconcileVerifies_l4 N a1 r776 r784 j908 x1021 x1024 i1075 = some x1077 := hf1080
          clear hf1080
          refine cw_seq ?_
          refine cw_region ?_
          refine t_rd rfl (rd_lss rfl rfl) ?_
          refine rwt_nil ?_
          refine qn_then ?_
          refine cw_seq ?_
          obtain ⟨hb1088, q1089⟩ | ⟨hb1088, q1089⟩ := oi h <;> clear h
          · refine cw_t rfl hb1088 ?_
            refine cw_skip ?_
            refine qn_then ?_
            refine cw_seq ?_
            refine cw_block ?_
            refine cw_seq ?_
            refine cw_region ?_
            obtain ⟨x1090, h1091, q1092⟩ := ob q1089; clear q1089
            refine t_rd rfl (rd_index tS22 rfl rfl (hm1087.sl 0 rfl) h1091) ?_
            refine t_rd rfl (rd_ld1 tO3 rfl ((hm1087.sl 0 rfl).cells h1091) (off := 0) rfl) ?_
            refine t_rd rfl (rd_assign rfl) ?_
            refine rwt_nil ?_
            refine qn_then ?_
            refine cw_seq ?_
            refine cw_region ?_
            refine t_rd rfl (rd_move rfl) ?_
            refine t_rd rfl (rd_move rfl) ?_
            refine t_rd rfl (rd_move rfl) ?_
            refine t_rd rfl (rd_move rfl) ?_
            obtain ⟨r1093, h1094, q1095⟩ := ob q1092; clear q1092
            refine t_ef rfl (ef_call tf18 rfl (reconcile_Verify_ok h1094 (hm1087.sl_call 3 rfl) (hm1087.sl_call 4 rfl) ((Nl.mk (hm1087.sl_call 1 rfl) (hm1087.rows_call 2 rfl)).sl))) ?_
            rintro _ w1097 ⟨e_, hm1096⟩
            obtain rfl := e_.symm
            have hm1098 := hm1087.call hm1096
            refine t_rd rfl (rd_move rfl) ?_
            refine t_rd rfl (rd_move rfl) ?_
            refine t_rd rfl (rd_move rfl) ?_
            refine t_rd rfl (rd_move rfl) ?_
            obtain ⟨r1099, h1100, q1101⟩ := ob q1095; clear q1095
            refine t_ef rfl (ef_call tf19 rfl (r08_Verify_ok h1100 (hm1098.sl_call 3 rfl) (hm1098.sl_call 4 rfl) ((Nl.mk (hm1098.sl_call 1 rfl) (hm1098.rows_call 2 rfl)).sl))) ?_
            rintro _ w1103 ⟨e_, hm1102⟩
            obtain rfl := e_.symm
            have hm1104 := hm1098.call hm1102
            refine t_rd rfl (rd_neqb tB4 rfl rfl) ?_
            refine rwt_nil ?_
            refine qn_then ?_
            obtain ⟨hb1105, q1106⟩ | ⟨hb1105, q1106⟩ := oi q1101 <;> clear q1101
            · refine cw_t rfl hb1105 ?_
              refine cw_seq ?_
              refine cw_region ?_
              refine t_rd rfl (rd_assign rfl) ?_
              refine rwt_nil ?_
              refine qn_then ?_
              refine cw_ret ?_
              refine qr_block (qr_then (qr_then ?_))
              obtain rfl := hr1081 _ (os q1106)
              refine .inl (⟨_, rfl, ⟨rfl, ?_⟩⟩)
              exact ret1 rfl rfl ⟨rfl, (hm1104.pick [] (by decide) rfl)⟩
            · refine cw_f rfl hb1105 ?_
              refine cw_skip ?_
              refine qn_block (qn_then ?_)
              refine cw_region ?_
              obtain ⟨x1107, h1108, q1109⟩ := ob q1106; clear q1106
              refine t_rd rfl (rd_add64 h1108 rfl rfl) ?_
              refine t_rd rfl (rd_move rfl) ?_
              refine rwt_nil ?_
              refine qn_then ?_
              refine ⟨_, (os q1109), (by repeat (first | exact Sub.nil _ | refine Sub.cons rfl ?_)), (hm1104.pick [0, 1, 2, 3, 4, 5] (by decide) rfl)⟩
          · refine cw_f rfl hb1088 ?_
            refine cw_exit ?_
            refine qx_then (qx_then ?_)
            obtain rfl := hr1081 _ (os q1089)
            exact .inr (⟨_, rfl, ⟨rfl, (by repeat (first | exact Sub.nil _ | refine Sub.cons rfl ?_)), (hm1087.pick [3, 4, 5] (by decide) rfl)⟩⟩)
        · skip
          intro e env1110 w1111 hX1112
          rcases hX1112 with hX1112 | hX1112
          · obtain ⟨p1114, rfl, hX1112⟩ := hX1112
            obtain ⟨rfl, hq1116⟩ := hX1112
            obtain rfl := hr767 _ (os q1084)
            exact qr_block (qr_then (qr_block (qr_then (qr_then (.inl (⟨_, rfl, ⟨rfl, hq1116⟩⟩))))))
          · obtain ⟨p1117, rfl, hX1112⟩ := hX1112
            obtain ⟨rfl, hs1118, hm1119⟩ := hX1112
            refine qx_same (qn_then ?_)
            refine cw_sub hs1118 ?_
            refine cw_seq ?_
            refine cw_region ?_
            refine t_rd rfl (rd_move rfl) ?_
            refine t_rd rfl (rd_lenS tS33 rfl ((hn2.of_old hm1119).sl)) ?_
            refine t_rd rfl (rd_leq rfl rfl) ?_
            refine t_rd rfl (rd_move rfl) ?_
            refine t_rdg rfl rfl rfl rfl (gv_t _) (fun hg1120 => (rd_move rfl)) ?_
            refine t_rdg rfl rfl rfl rfl (gv_t _) (fun hg1121 => (rd_move rfl)) ?_
            refine t_rdg rfl rfl rfl rfl (gv_t _) (fun hg1122 => (rd_move rfl)) ?_
            refine t_rdg rfl rfl rfl rfl (gv_t _) (fun hg1123 => (rd_move rfl)) ?_
            obtain ⟨r1125, h1126, q1127⟩ := ob q1084; clear q1084
            refine t_efg rfl rfl rfl rfl (R := (fun v w' => v = gV (decide ((List.length a2 : Int) ≤ 40)) (Value.bool r1125) ∧ Mem w1111 No [] w')) (gv_t _) (fun hg1124 => (ef_call tf18 (evc (gvx rfl hg1124) (evc (gvx rfl hg1124) (evc (gvx rfl hg1124) (evc (gvx rfl hg1124) evn)))) (reconcile_Verify_ok (gO_t h1126 hg1124) (hm1119.sl_call 0 rfl) (hm1119.sl_call 1 rfl) ((hn2.to_call hm1119).sl))).mono (by rintro _ _ ⟨rfl, q⟩; exact ⟨(gV_t hg1124).symm, q⟩)) (fun q => ⟨(gV_f q).symm, Mem.nil _⟩) ?_
            rintro _ w1129 ⟨rfl, hm1128⟩
            have hm1130 := hm1119.call hm1128
            refine t_rdg rfl rfl rfl rfl (gv_t _) (fun hg1131 => (rd_move rfl)) ?_
            refine t_rdg rfl rfl rfl rfl (gv_t _) (fun hg1132 => (rd_move rfl)) ?_
            refine t_rdg rfl rfl rfl rfl (gv_t _) (fun hg1133 => (rd_move rfl)) ?_
            refine t_rdg rfl rfl rfl rfl (gv_t _) (fun hg1134 => (rd_move rfl)) ?_
            obtain ⟨r1136, h1137, q1138⟩ := ob q1127; clear q1127
            refine t_efg rfl rfl rfl rfl (R := (fun v w' => v = gV (decide ((List.length a2 : Int) ≤ 40)) (Value.bool r1136) ∧ Mem w1129 No [] w')) (gv_t _) (fun hg1135 => (ef_call tf19 (evc (gvx rfl hg1135) (evc (gvx rfl hg1135) (evc (gvx rfl hg1135) (evc (gvx rfl hg1135) evn)))) (r08_Verify_ok (gO_t h1137 hg1135) (hm1130.sl_call 0 rfl) (hm1130.sl_call 1 rfl) ((hn2.to_call hm1130).sl))).mono (by rintro _ _ ⟨rfl, q⟩; exact ⟨(gV_t hg1135).symm, q⟩)) (fun q => ⟨(gV_f q).symm, Mem.nil _⟩) ?_
            rintro _ w1140 ⟨rfl, hm1139⟩
            have hm1141 := hm1130.call hm1139
            refine t_rdg rfl rfl rfl rfl (gv_t _) (fun hg1142 => (rd_neqb tB4 (gvx rfl hg1142) (gvx rfl hg1142))) ?_
            refine t_rd rfl (rd_and rfl (fun hc1143 => (gvx rfl hc1143))) ?_
            refine rwt_nil ?_
            refine qn_then ?_
            obtain ⟨hb1144, q1145⟩ | ⟨hb1144, q1145⟩ := oi q1138 <;> clear q1138
            · refine cw_t rfl hb1144 ?_
              refine cw_seq ?_
              refine cw_region ?_
              refine t_rd rfl (rd_assign rfl) ?_
              refine rwt_nil ?_
              refine qn_then ?_
              refine cw_ret ?_
              refine qr_block (qr_then (qr_then ?_))
              obtain rfl := hr767 _ (os q1145)
              refine .inl (⟨_, rfl, ⟨rfl, ?_⟩⟩)
              exact ret1 rfl rfl ⟨rfl, (hm1141.pick [] (by decide) rfl)⟩
            · refine cw_f rfl hb1144 ?_
              refine cw_skip ?_
              refine qn_block (qn_then ?_)
              refine cw_region ?_
              refine t_rd rfl (rd_move rfl) ?_
              obtain ⟨x1146, h1147, q1148⟩ := ob q1145; clear q1145
              refine t_rd rfl (rd_add64 h1147 rfl rfl) ?_
              refine t_rd rfl (rd_assign rfl) ?_
              refine rwt_nil ?_
              refine qn_then ?_
              refine ⟨_, (os q1148), (by repeat (first | exact Sub.nil _ | refine Sub.cons rfl ?_)), (hm1141.pick [2] (by decide) rfl)⟩
    · refine cw_f rfl hb774 ?_
      refine cw_exit ?_
      refine qx_then (qx_then ?_)
      obtain rfl := hr767 _ (os q775)
      exact .inr (⟨_, rfl, ⟨rfl, (by repeat (first | exact Sub.nil _ | refine Sub.cons rfl ?_)), (hm773.pick [] (by decide) rfl)⟩⟩)
  · skip
    intro e env1149 w1150 hX1151
    rcases hX1151 with hX1151 | hX1151
    · obtain ⟨p1153, rfl, hX1151⟩ := hX1151
      obtain ⟨rfl, hq1155⟩ := hX1151
      exact qr_block (qr_then ((by have e := os q770; subst e; exact hq1155)))
    · obtain ⟨p1156, rfl, hX1151⟩ := hX1151
      obtain ⟨rfl, hs1157, hm1158⟩ := hX1151
      refine qx_same (qn_then ?_)
      refine cw_sub hs1157 ?_
      refine cw_seq ?_
      refine cw_region ?_
      obtain ⟨r1159, h1160, q1161⟩ := ob q770; clear q770
      refine t_ef rfl (ef_call tf13 rfl (law08_sane_ok h1160)) ?_
      rintro _ w1163 ⟨e_, hm1162⟩
      obtain rfl := e_.symm
      have hm1164 := hm1158.call hm1162
      refine t_rd rfl (rd_assign rfl) ?_
      refine rwt_nil ?_
      refine qn_then ?_
      refine cw_ret ?_
      obtain rfl := os q1161
      exact ret1 rfl rfl ⟨rfl, (hm1164.pick [] (by decide) rfl)⟩

theorem reconcile_Potential_ok {N : Nat} {a0 : List Int} {a1 : List Int} {res : List (List Int) × Int} (h : reconcile_Potential N a0 a1 = some res) {w : World} {v0 : Value} {v1 : Value} (hv0 : Sl (Old w No) w v0 a0) (hv1 : Sl (Old w No) w v1 a1) :
    CallsR Try.prog 20 [v0, v1] w (fun u w' => ∃ (zy0 : List Hdr) (y1 : Value), u = (Value.tuple #[y1, (Value.int .i64 res.2)]) ∧ Mem w No [ownL 22 y1 (zy0 : List Hdr), rowsC 3 zy0 (res.1 : List (List Int)) none] w') := by
  unfold reconcile_Potential at h
  refine fn_ok Try.func20 rfl rfl rfl ?_
  have hm0 := Mem.nil w
  refine cw_seq ?_
  refine cw_region ?_
  refine t_rd rfl (rd_assign rfl) ?_
  refine t_rd rfl (rd_assign rfl) ?_
  refine rwt_nil ?_
  refine qn_then ?_
  refine cw_seq ?_
  refine cw_seq ?_
  refine cw_region ?_
  refine t_rd rfl (rd_move rfl) ?_
  refine t_rd rfl (rd_move rfl) ?_
  obtain ⟨r1, h2, q3⟩ := ob h; clear h
  refine t_ef rfl (ef_call tf24 rfl (reconcile_long_ok h2 (hv0.to_call hm0) (hv1.to_call hm0))) ?_
  rintro _ w5 ⟨e_, hm4⟩
  obtain rfl := e_.symm
  have hm6 := hm0.call hm4
  refine rwt_nil ?_
  refine qn_then ?_
  obtain ⟨hb7, q8⟩ | ⟨hb7, q8⟩ := oi q3 <;> clear q3
  · refine cw_t rfl hb7 ?_
    refine cw_seq ?_
    refine cw_region ?_
    refine t_rd rfl (rd_assign rfl) ?_
    refine t_rd rfl (rd_assign rfl) ?_
    refine rwt_nil ?_
    refine qn_then ?_
    refine cw_ret ?_
    refine qr_then ?_
    obtain rfl := os q8
    have hm9 := hm6.addNil (α := Hdr) 22
    have hm10 := hm9.rowsNil (α := Int) 3
    exact ret2 rfl rfl rfl ⟨[], (Value.slice none 0 0), rfl, (hm10.pick [1, 0] (by decide) rfl)⟩
  · refine cw_f rfl hb7 ?_
    refine cw_skip ?_
    refine qn_then ?_
    refine cw_seq ?_
    refine cw_region ?_
    refine t_rd rfl (rd_move rfl) ?_
    refine t_rd rfl (rd_move rfl) ?_
    obtain ⟨r11, h12, q13⟩ := ob q8; clear q8
    refine t_ef rfl (ef_call tf25 rfl (reconcile_table_ok h12 (hv0.to_call hm6) (hv1.to_call hm6))) ?_
    rintro _ w17 ⟨zs15, v14, e_, hm16⟩
    obtain rfl := e_.symm
    have hm18 := hm6.call hm16
    refine t_rd rfl (rd_assign rfl) ?_
    refine rwt_nil ?_
    refine qn_then ?_
    refine cw_seq ?_
    refine cw_region ?_
    refine t_rd rfl (rd_move rfl) ?_
    obtain ⟨x19, h20, q21⟩ := ob q13; clear q13
    refine t_rd rfl (rd_index tS33 rfl rfl ((Nl.mk (hm18.sl_call 0 rfl) (hm18.rows_call 1 rfl)).sl) h20) ?_
    obtain ⟨zd22, hz23⟩ := (Nl.mk (hm18.sl_call 0 rfl) (hm18.rows_call 1 rfl)).row h20
    refine t_rd rfl (rd_ld1 tO22 rfl ((Nl.mk (hm18.sl_call 0 rfl) (hm18.rows_call 1 rfl)).cells hz23) (off := 0) rfl) ?_
    obtain ⟨x24, h25, q26⟩ := ob q21; clear q21
    refine t_rd rfl (rd_index tS22 rfl rfl ((Nl.mk (hm18.sl_call 0 rfl) (hm18.rows_call 1 rfl)).get hz23 h20) h25) ?_
    have hm27 := hm18.pick [1, 0] (L' := [rowsC 3 zs15 (r11 : List (List Int)) none, ownL 22 v14 (zs15 : List Hdr)]) (by decide) rfl
    refine t_ef0 (ef_strow (off := 0) (x' := 0) hm27 tO3 hz23 h20 rfl rfl rfl h25 rfl rfl) ?_
    intro _ w29 hm28
    refine rwt_nil ?_
    refine qn_then ?_
    refine cw_seq ?_
    refine cw_seq ?_
    refine cw_region ?_
    refine t_rd rfl (rd_move rfl) ?_
    refine t_rd rfl (rd_lenS tS33 rfl ((Nl.mk (hm28.sl_call 1 rfl) (hm28.rows_call 0 rfl)).sl)) ?_
    refine t_rd rfl (rd_move rfl) ?_
    refine rwt_nil ?_
    refine qn_then ?_
    refine cw_block ?_
    obtain ⟨r1925, hit1926, q1927⟩ := ob q26; clear q26
    refine cw_loop2 (I := fun q envq wq => ∃ (v1917 : Value) (zs1918 : List Hdr), Sub [(0, v0), (1, v1), (6, v1917), (24, (Value.int .i64 (List.length (List.set r11 (Int.toNat 0) (List.set x19 (Int.toNat 0) 0)) : Int))), (25, (Value.int .i64 q.1))] envq ∧ Mem w No [rowsC 3 zs1918 (q.2 : List (List Int)) none, ownL 22 v1917 (zs1918 : List Hdr)] wq) (X := fun eq envq wq => eq = .exit 0 ∧ ∃ (v1913 : Value) (zs1914 : List Hdr), Sub [(6, v1913)] envq ∧ Mem w No [rowsC 3 zs1914 (r1925 : List (List Int)) none, ownL 22 v1913 (zs1914 : List Hdr)] wq) hit1926 ⟨v14, zs15, (by repeat (first | exact Sub.nil _ | refine Sub.cons rfl ?_)), (hm28.pick [0, 1] (by decide) rfl)⟩ ?_ ?_
    · rintro ⟨i1915, l1916⟩ x1920 env1921 w1922 hf1923 hr1924 ⟨v1917, zs1918, hs_, hm_⟩
      have hs_ : Sub [(0, v0), (1, v1), (6, v1917), (24, (Value.int .i64 (List.length (List.set r11 (Int.toNat 0) (List.set x19 (Int.toNat 0) 0)) : Int))), (25, (Value.int .i64 i1915))] env1921 := hs_
      have hm1928 : Mem w No [rowsC 3 zs1918 (l1916 : List (List Int)) none, ownL 22 v1917 (zs1918 : List Hdr)] w1922 := hm_
      refine cw_sub hs_ ?_
      clear hs_ hm_ q1927
      have h : reconcile_Potential_l9 N a0 a1 r11 x19 i1915 l1916 = some x1920 := hf1923
      clear hf1923
      refine cw_seq ?_
      refine cw_region ?_
      refine t_rd rfl (rd_lss rfl rfl) ?_
      refine rwt_nil ?_
      refine qn_then ?_
      refine cw_seq ?_
      obtain ⟨hb1929, q1930⟩ | ⟨hb1929, q1930⟩ := oi h <;> clear h
      · refine cw_t rfl hb1929 ?_
        refine cw_skip ?_
        refine qn_then ?_
        refine cw_seq ?_
        refine cw_block ?_
        refine cw_seq ?_
        refine cw_region ?_
        refine t_rd rfl (rd_move rfl) ?_
        refine t_rd rfl (rd_assign rfl) ?_
        refine rwt_nil ?_
        refine qn_then ?_
        refine cw_seq ?_
        refine cw_region ?_
        refine t_rd rfl (rd_move rfl) ?_
        refine t_rd rfl (rd_move rfl) ?_
        obtain ⟨x1931, h1932, q1933⟩ := ob q1930; clear q1930
        refine t_rd rfl (rd_index tS33 rfl rfl ((Nl.mk (hm1928.sl_call 1 rfl) (hm1928.rows_call 0 rfl)).sl) h1932) ?_
        obtain ⟨zd1934, hz1935⟩ := (Nl.mk (hm1928.sl_call 1 rfl) (hm1928.rows_call 0 rfl)).row h1932
        refine t_rd rfl (rd_ld1 tO22 rfl ((Nl.mk (hm1928.sl_call 1 rfl) (hm1928.rows_call 0 rfl)).cells hz1935) (off := 0) rfl) ?_
        refine t_rd rfl (rd_lenS tS22 rfl ((Nl.mk (hm1928.sl_call 1 rfl) (hm1928.rows_call 0 rfl)).get hz1935 h1932)) ?_
        refine t_rd rfl (rd_move rfl) ?_
        refine rwt_nil ?_
        refine qn_then ?_
        refine cw_block ?_
        obtain ⟨r2555, hit2556, q2557⟩ := ob q1933; clear q1933
        refine cw_loop2 (I := fun q envq wq => ∃ (v2547 : Value) (zs2548 : List Hdr), Sub [(0, v0), (1, v1), (6, v2547), (7, (Value.int .i64 i1915)), (24, (Value.int .i64 (List.length (List.set r11 (Int.toNat 0) (List.set x19 (Int.toNat 0) 0)) : Int))), (25, (Value.int .i64 i1915)), (32, (Value.int .i64 (List.length x1931 : Int))), (33, (Value.int .i64 q.1))] envq ∧ Mem w No [rowsC 3 zs2548 (q.2 : List (List Int)) none, ownL 22 v2547 (zs2548 : List Hdr)] wq) (X := fun eq envq wq => eq = .exit 2 ∧ ∃ (v2543 : Value) (zs2544 : List Hdr), Sub [(0, v0), (1, v1), (6, v2543), (24, (Value.int .i64 (List.length (List.set r11 (Int.toNat 0) (List.set x19 (Int.toNat 0) 0)) : Int))), (25, (Value.int .i64 i1915))] envq ∧ Mem w No [rowsC 3 zs2544 (r2555 : List (List Int)) none, ownL 22 v2543 (zs2544 : List Hdr)] wq) hit2556 ⟨v1917, zs1918, (by repeat (first | exact Sub.nil _ | refine Sub.cons rfl ?_)), (hm1928.pick [0, 1] (by decide) rfl)⟩ ?_ ?_
        · rintro ⟨i2545, l2546⟩ x2550 env2551 w2552 hf2553 hr2554 ⟨v2547, zs2548, hs_, hm_⟩
          have hs_ : Sub [(0, v0), (1, v1), (6, v2547), (7, (Value.int .i64 i1915)), (24, (Value.int .i64 (List.length (List.set r11 (Int.toNat 0) (List.set x19 (Int.toNat 0) 0)) : Int))), (25, (Value.int .i64 i1915)), (32, (Value.int .i64 (List.length x1931 : Int))), (33, (Value.int .i64 i2545))] env2551 := hs_
          have hm2558 : Mem w No [rowsC 3 zs2548 (l2546 : List (List Int)) none, ownL 22 v2547 (zs2548 : List Hdr)] w2552 := hm_
          refine cw_sub hs_ ?_
          clear hs_ hm_ q2557
          have h : reconcile_Potential_l12 N a0 a1 i1915 x1931 i2545 l2546 = some x2550 := hf2553
          clear hf2553
          refine cw_seq ?_
          refine cw_region ?_
          refine t_rd rfl (rd_lss rfl rfl) ?_
          refine rwt_nil ?_
          refine qn_then ?_
          refine cw_seq ?_
          obtain ⟨hb2559, q2560⟩ | ⟨hb2559, q2560⟩ := oi h <;> clear h
          · refine cw_t rfl hb2559 ?_
            refine cw_skip ?_
            refine qn_then ?_
            refine cw_seq ?_
            refine cw_block ?_
            refine cw_seq ?_
            refine cw_region ?_
            refine t_rd rfl (rd_move rfl) ?_
            refine t_rd rfl (rd_assign rfl) ?_
            refine rwt_nil ?_
            refine qn_then ?_
            refine cw_seq ?_
            refine cw_region ?_
            refine t_rd rfl (rd_move rfl) ?_
            refine rwt_nil ?_
            refine qn_then ?_
            refine cw_block ?_
            obtain ⟨r2758, hit2759, q2760⟩ := ob q2560; clear q2560
            refine cw_loop2 (I := fun q envq wq => ∃ (v2750 : Value) (zs2751 : List Hdr), Sub [(0, v0), (1, v1), (6, v2750), (7, (Value.int .i64 i1915)), (8, (Value.int .i64 i2545)), (24, (Value.int .i64 (List.length (List.set r11 (Int.toNat 0) (List.set x19 (Int.toNat 0) 0)) : Int))), (25, (Value.int .i64 i1915)), (32, (Value.int .i64 (List.length x1931 : Int))), (33, (Value.int .i64 i2545)), (36, (Value.int .i64 q.1))] envq ∧ Mem w No [rowsC 3 zs2751 (q.2 : List (List Int)) none, ownL 22 v2750 (zs2751 : List Hdr)] wq) (X := fun eq envq wq => eq = .exit 4 ∧ ∃ (v2746 : Value) (zs2747 : List Hdr), Sub [(0, v0), (1, v1), (6, v2746), (7, (Value.int .i64 i1915)), (24, (Value.int .i64 (List.length (List.set r11 (Int.toNat 0) (List.set x19 (Int.toNat 0) 0)) : Int))), (25, (Value.int .i64 i1915)), (32, (Value.int .i64 (List.length x1931 : Int))), (33, (Value.int .i64 i2545))] envq ∧ Mem w No [rowsC 3 zs2747 (r2758 : List (List Int)) none, ownL 22 v2746 (zs2747 : List Hdr)] wq) hit2759 ⟨v2547, zs2548, (by repeat (first | exact Sub.nil _ | refine Sub.cons rfl ?_)), (hm2558.pick [0, 1] (by decide) rfl)⟩ ?_ ?_
            · rintro ⟨i2748, l2749⟩ x2753 env2754 w2755 hf2756 hr2757 ⟨v2750, zs2751, hs_, hm_⟩
              have hs_ : Sub [(0, v0), (1, v1), (6, v2750), (7, (Value.int .i64 i1915)), (8, (Value.int .i64 i2545)), (24, (Value.int .i64 (List.length (List.set r11 (Int.toNat 0) (List.set x19 (Int.toNat 0) 0)) : Int))), (25, (Value.int .i64 i1915)), (32, (Value.int .i64 (List.length x1931 : Int))), (33, (Value.int .i64 i2545)), (36, (Value.int .i64 i2748))] env2754 := hs_
              have hm2761 : Mem w No [rowsC 3 zs2751 (l2749 : List (List Int)) none, ownL 22 v2750 (zs2751 : List Hdr)] w2755 := hm_
              refine cw_sub hs_ ?_
              clear hs_ hm_ q2760
              have h : reconcile_Potential_l13 N a0 a1 i1915 i2545 i2748 l2749 = some x2753 := hf2756
              clear hf2756
              refine cw_seq ?_
              refine cw_region ?_
              refine t_rd rfl (rd_lss rfl rfl) ?_
              refine rwt_nil ?_
              refine qn_then ?_
              refine cw_seq ?_
              obtain ⟨hb2762, q2763⟩ | ⟨hb2762, q2763⟩ := oi h <;> clear h
              · refine cw_t rfl hb2762 ?_
                refine cw_skip ?_
                refine qn_then ?_
                refine cw_seq ?_
                refine cw_block ?_
                refine cw_seq ?_
                refine cw_region ?_
                refine t_rd rfl (rd_move rfl) ?_
                refine t_rd rfl (rd_assign rfl) ?_
                refine rwt_nil ?_
                refine qn_then ?_
                refine cw_seq ?_
                refine cw_region ?_
                refine t_rd rfl (rd_move rfl) ?_
                refine t_rd rfl (rd_move rfl) ?_
                refine t_rd rfl (rd_move rfl) ?_
                refine t_rd rfl (rd_move rfl) ?_
                refine t_rd rfl (rd_move rfl) ?_
                obtain ⟨r2764, h2765, q2766⟩ := ob q2763; clear q2763
                refine t_ef rfl (ef_call tf26 rfl (reconcile_step_ok h2765 (hv0.to_call hm2761) (hv1.to_call hm2761))) ?_
                rintro _ w2768 ⟨e_, hm2767⟩
                obtain rfl := e_.symm
                have hm2769 := hm2761.call hm2767
                refine t_rd rfl (rd_move rfl) ?_
                refine t_rd rfl (rd_extract rfl rfl) ?_
                refine t_rd rfl (rd_extract rfl rfl) ?_
                refine t_rd rfl (rd_extract rfl rfl) ?_
                refine t_rd rfl (rd_assign rfl) ?_
                refine t_rd rfl (rd_assign rfl) ?_
                refine t_rd rfl (rd_assign rfl) ?_
                refine rwt_nil ?_
                refine qn_then ?_
                refine cw_seq ?_
                refine cw_region ?_
                refine t_rd rfl (rd_move rfl) ?_
                refine rwt_nil ?_
                refine qn_then ?_
                obtain ⟨hb2770, q2771⟩ | ⟨hb2770, q2771⟩ := oi q2766 <;> clear q2766
                · refine cw_t rfl hb2770 ?_
                  obtain ⟨w2773, he2775⟩ : ∃ q, q = w2768.drew := ⟨_, rfl⟩
                  have hm2774 := hm2769.drew; rw [← he2775] at hm2774
                  refine cw_region_s (fun q => (ownL 22 v2750 (zs2751 : List Hdr)).φ q ∧ (rowsC 3 zs2751 (l2749 : List (List Int)) none).φ q) (cls [20] [24]) mixed ?_
                  rintro _ rfl; rw [← he2775]
                  refine s_rp (i := 0) rfl (by kernel_rfl) rfl (fun _ => (rd_move rfl)) ?_
                  refine s_rp (i := 1) rfl (by kernel_rfl) rfl (fun _ => (rd_move rfl)) ?_
                  obtain ⟨x2811, h2812, q2813⟩ := ob q2771; clear q2771
                  refine s_rp (i := 2) rfl (by kernel_rfl) rfl (fun _ => (rd_index tS33 rfl rfl ((Nl.mk (hm2774.sl_call 1 rfl) (hm2774.rows_call 0 rfl)).sl) h2812)) ?_
                  obtain ⟨zd2814, hz2815⟩ := (Nl.mk (hm2774.sl_call 1 rfl) (hm2774.rows_call 0 rfl)).row h2812
                  refine s_rd (i := 3) rfl (by kernel_rfl) rfl (fun w2772 hS => (rd_ld1 tO22 rfl ((nl_φ hS.1 hS.2).cells hz2815) (off := 0) rfl)) ⟨(hm2774.get (k := 1) rfl), (hm2774.get (k := 0) rfl)⟩ ?_
                  refine s_rp (i := 4) rfl (by kernel_rfl) rfl (fun _ => (rd_move rfl)) ?_
                  refine s_rp (i := 5) rfl (by kernel_rfl) rfl (fun _ => (rd_move rfl)) ?_
                  refine s_rp (i := 6) rfl (by kernel_rfl) rfl (fun _ => (rd_move rfl)) ?_
                  obtain ⟨x2816, h2817, q2818⟩ := ob q2813; clear q2813
                  refine s_rp (i := 7) rfl (by kernel_rfl) rfl (fun _ => (rd_index tS33 rfl rfl ((Nl.mk (hm2774.sl_call 1 rfl) (hm2774.rows_call 0 rfl)).sl) h2817)) ?_
                  obtain ⟨zd2819, hz2820⟩ := (Nl.mk (hm2774.sl_call 1 rfl) (hm2774.rows_call 0 rfl)).row h2817
                  refine s_rd (i := 8) rfl (by kernel_rfl) rfl (fun w2772 hS => (rd_ld1 tO22 rfl ((nl_φ hS.1 hS.2).cells hz2820) (off := 0) rfl)) ⟨(hm2774.get (k := 1) rfl), (hm2774.get (k := 0) rfl)⟩ ?_
                  refine s_rp (i := 9) rfl (by kernel_rfl) rfl (fun _ => (rd_move rfl)) ?_
                  obtain ⟨x2821, h2822, q2823⟩ := ob q2818; clear q2818
                  refine s_rp (i := 10) rfl (by kernel_rfl) rfl (fun _ => (rd_index tS22 rfl rfl ((Nl.mk (hm2774.sl_call 1 rfl) (hm2774.rows_call 0 rfl)).get hz2820 h2817) h2822)) ?_
                  refine s_rd (i := 11) rfl (by kernel_rfl) rfl (fun w2772 hS => (rd_ld1 tO3 rfl (((nl_φ hS.1 hS.2).get hz2820 h2817).cells h2822) (off := 0) rfl)) ⟨(hm2774.get (k := 1) rfl), (hm2774.get (k := 0) rfl)⟩ ?_
                  refine s_rp (i := 12) rfl (by kernel_rfl) rfl (fun _ => (rd_move rfl)) ?_
                  refine s_rp (i := 13) rfl (by kernel_rfl) rfl (fun _ => (rd_move rfl)) ?_
                  obtain ⟨x2824, h2825, q2826⟩ := ob q2823; clear q2823
                  refine s_rp (i := 14) rfl (by kernel_rfl) rfl (fun _ => (rd_index tS33 rfl rfl ((Nl.mk (hm2774.sl_call 1 rfl) (hm2774.rows_call 0 rfl)).sl) h2825)) ?_
                  obtain ⟨zd2827, hz2828⟩ := (Nl.mk (hm2774.sl_call 1 rfl) (hm2774.rows_call 0 rfl)).row h2825
                  refine s_rd (i := 15) rfl (by kernel_rfl) rfl (fun w2772 hS => (rd_ld1 tO22 rfl ((nl_φ hS.1 hS.2).cells hz2828) (off := 0) rfl)) ⟨(hm2774.get (k := 1) rfl), (hm2774.get (k := 0) rfl)⟩ ?_
                  refine s_rp (i := 16) rfl (by kernel_rfl) rfl (fun _ => (rd_move rfl)) ?_
                  obtain ⟨x2829, h2830, q2831⟩ := ob q2826; clear q2826
                  refine s_rp (i := 17) rfl (by kernel_rfl) rfl (fun _ => (rd_index tS22 rfl rfl ((Nl.mk (hm2774.sl_call 1 rfl) (hm2774.rows_call 0 rfl)).get hz2828 h2825) h2830)) ?_
                  refine s_rd (i := 18) rfl (by kernel_rfl) rfl (fun w2772 hS => (rd_ld1 tO3 rfl (((nl_φ hS.1 hS.2).get hz2828 h2825).cells h2830) (off := 0) rfl)) ⟨(hm2774.get (k := 1) rfl), (hm2774.get (k := 0) rfl)⟩ ?_
                  refine s_rp (i := 19) rfl (by kernel_rfl) rfl (fun _ => (rd_move rfl)) ?_
                  obtain ⟨r2832, h2833, q2834⟩ := ob q2831; clear q2831
                  refine s_ef (i := 20) rfl (by kernel_rfl) rfl (ef_call tf27 rfl (reconcile_cost_ok h2833)) (by decide) ?_ ?_
                  · rintro _ w2836 ⟨e_, hm2835⟩
                    obtain rfl := e_.symm
                    have hm2837 := hm2774.call hm2835
                    intro _
                    exact ⟨(hm2837.get (k := 1) rfl), (hm2837.get (k := 0) rfl)⟩
                  rintro _ w2836 ⟨e_, hm2835⟩
                  obtain rfl := e_.symm
                  have hm2837 := hm2774.call hm2835
                  obtain ⟨x2838, h2839, q2840⟩ := ob q2834; clear q2834
                  refine s_rp (i := 21) rfl (by kernel_rfl) rfl (fun _ => (rd_add64 h2839 rfl rfl)) ?_
                  refine s_rp (i := 22) rfl (by kernel_rfl) rfl (fun _ => (rd_min rfl rfl)) ?_
                  obtain ⟨x2841, h2842, q2843⟩ := ob q2840; clear q2840
                  refine s_rp (i := 23) rfl (by kernel_rfl) rfl (fun _ => (rd_index tS22 rfl rfl ((Nl.mk (hm2837.sl_call 1 rfl) (hm2837.rows_call 0 rfl)).get hz2815 h2812) h2842)) ?_
                  refine s_ef0 (i := 24) rfl (by kernel_rfl) (ef_strow (off := 0) (x' := (min x2821 x2838)) hm2837 tO3 hz2815 h2812 rfl rfl rfl h2842 rfl rfl) (by decide) (fun _ _ _ q => absurd q (by decide)) ?_
                  intro _ w2845 hm2844
                  refine s_nil (by kernel_rfl) ?_
                  refine qn_block (qn_then ?_)
                  refine cw_region ?_
                  obtain ⟨x2846, h2847, q2848⟩ := ob q2843; clear q2843
                  refine t_rd rfl (rd_add64 h2847 rfl rfl) ?_
                  refine t_rd rfl (rd_move rfl) ?_
                  refine rwt_nil ?_
                  refine qn_then ?_
                  refine ⟨_, (os q2848), v2750, zs2751, (by repeat (first | exact Sub.nil _ | refine Sub.cons rfl ?_)), (hm2844.pick [0, 1] (by decide) rfl)⟩
                · refine cw_f rfl hb2770 ?_
                  refine cw_skip ?_
                  refine qn_block (qn_then ?_)
                  refine cw_region ?_
                  obtain ⟨x2849, h2850, q2851⟩ := ob q2771; clear q2771
                  refine t_rd rfl (rd_add64 h2850 rfl rfl) ?_
                  refine t_rd rfl (rd_move rfl) ?_
                  refine rwt_nil ?_
                  refine qn_then ?_
                  refine ⟨_, (os q2851), v2750, zs2751, (by repeat (first | exact Sub.nil _ | refine Sub.cons rfl ?_)), (hm2769.pick [0, 1] (by decide) rfl)⟩
              · refine cw_f rfl hb2762 ?_
                refine cw_exit ?_
                refine qx_then (qx_then ?_)
                obtain rfl := hr2757 _ (os q2763)
                exact ⟨rfl, v2750, zs2751, (by repeat (first | exact Sub.nil _ | refine Sub.cons rfl ?_)), (hm2761.pick [0, 1] (by decide) rfl)⟩
            · skip
              intro e env2852 w2853 hX2854
              obtain ⟨rfl, v2746, zs2747, hs2855, hm2856⟩ := hX2854
              refine qx_same (qn_block (qn_then ?_))
              refine cw_sub hs2855 ?_
              refine cw_region ?_
              obtain ⟨x2857, h2858, q2859⟩ := ob q2760; clear q2760
              refine t_rd rfl (rd_add64 h2858 rfl rfl) ?_
              refine t_rd rfl (rd_move rfl) ?_
              refine rwt_nil ?_
              refine qn_then ?_
              refine ⟨_, (os q2859), v2746, zs2747, (by repeat (first | exact Sub.nil _ | refine Sub.cons rfl ?_)), (hm2856.pick [0, 1] (by decide) rfl)⟩
          · refine cw_f rfl hb2559 ?_
            refine cw_exit ?_
            refine qx_then (qx_then ?_)
            obtain rfl := hr2554 _ (os q2560)
            exact ⟨rfl, v2547, zs2548, (by repeat (first | exact Sub.nil _ | refine Sub.cons rfl ?_)), (hm2558.pick [0, 1] (by decide) rfl)⟩
        · skip
          intro e env2860 w2861 hX2862
          obtain ⟨rfl, v2543, zs2544, hs2863, hm2864⟩ := hX2862
          refine qx_same (qn_block (qn_then ?_))
          refine cw_sub hs2863 ?_
          refine cw_region ?_
          obtain ⟨x2865, h2866, q2867⟩ := ob q2557; clear q2557
          refine t_rd rfl (rd_add64 h2866 rfl rfl) ?_
          refine t_rd rfl (rd_move rfl) ?_
          refine rwt_nil ?_
          refine qn_then ?_
          refine ⟨_, (os q2867), v2543, zs2544, (by repeat (first | exact Sub.nil _ | refine Sub.cons rfl ?_)), (hm2864.pick [0, 1] (by decide) rfl)⟩
      · refine cw_f rfl hb1929 ?_
        refine cw_exit ?_
        refine qx_then (qx_then ?_)
        obtain rfl := hr1924 _ (os q1930)
        exact ⟨rfl, v1917, zs1918, (by repeat (first | exact Sub.nil _ | refine Sub.cons rfl ?_)), (hm1928.pick [0, 1] (by decide) rfl)⟩
    · skip
      intro e env2868 w2869 hX2870
      obtain ⟨rfl, v1913, zs1914, hs2871, hm2872⟩ := hX2870
      refine qx_same (qn_then ?_)
      refine cw_sub hs2871 ?_
      refine cw_seq ?_
      refine cw_region ?_
      refine t_rd rfl (rd_move rfl) ?_
      refine t_rd rfl (rd_assign rfl) ?_
      refine t_rd rfl (rd_assign rfl) ?_
      refine rwt_nil ?_
      refine qn_then ?_
      refine cw_ret ?_
      obtain rfl := os q1927
      exact ret2 rfl rfl rfl ⟨zs1914, v1913, rfl, (hm2872.pick [1, 0] (by decide) rfl)⟩

theorem humpgen_Lists_ok {N : Nat} {a0 : List (List Int)} {a1 : List (List Int)} {res : Bool} (h : humpgen_Lists N a0 a1 = some res) {w : World} {v0 : Value} {v1 : Value} (hv0 : Sl (Old w No) w v0 a0) (hv1 : Sl (Old w No) w v1 a1) :
    CallsR Try.prog 21 [v0, v1] w (fun u w' => u = (Value.bool res) ∧ Mem w No [] w') := by
  unfold humpgen_Lists at h
  refine fn_ok Try.func21 rfl rfl rfl ?_
  obtain ⟨zs_a0, hn0⟩ := hv0.nest
  obtain ⟨zs_a1, hn1⟩ := hv1.nest
  have hm0 := Mem.nil w
  refine cw_seq ?_
  refine cw_region ?_
  refine t_rd rfl (rd_assign rfl) ?_
  refine rwt_nil ?_
  refine qn_then ?_
  refine cw_seq ?_
  refine cw_seq ?_
  refine cw_region ?_
  refine t_rd rfl (rd_move rfl) ?_
  refine t_rd rfl (rd_lenS tS33 rfl ((hn0.of_old hm0).sl)) ?_
  refine t_rd rfl (rd_move rfl) ?_
  refine t_rd rfl (rd_lenS tS33 rfl ((hn1.of_old hm0).sl)) ?_
  refine t_rd rfl (rd_neq rfl rfl) ?_
  refine rwt_nil ?_
  refine qn_then ?_
  obtain ⟨hb1, q2⟩ | ⟨hb1, q2⟩ := oi h <;> clear h
  · refine cw_t rfl hb1 ?_
    refine cw_seq ?_
    refine cw_region ?_
    refine t_rd rfl (rd_assign rfl) ?_
    refine rwt_nil ?_
    refine qn_then ?_
    refine cw_ret ?_
    refine qr_then ?_
    obtain rfl := os q2
    exact ret1 rfl rfl ⟨rfl, (hm0.pick [] (by decide) rfl)⟩
  · refine cw_f rfl hb1 ?_
    refine cw_skip ?_
    refine qn_then ?_
    refine cw_seq ?_
    refine cw_seq ?_
    refine cw_region ?_
    refine t_rd rfl (rd_assign rfl) ?_
    refine rwt_nil ?_
    refine qn_then ?_
    refine cw_block ?_
    obtain ⟨r65, hit66, q67⟩ := ob q2; clear q2
    refine cw_loop2 (I := fun q envq wq => Sub [(0, v0), (1, v1), (5, (Value.int .i64 q))] envq ∧ Mem w No [] wq) (X := fun eq envq wq => (∃ p68, r65 = (Sum.inl p68) ∧ eq = .ret ∧ retQ Try.prog 27 Try.f21 (fun u w' => u = (Value.bool p68) ∧ Mem w No [] w') .ret envq wq) ∨ (∃ p69, r65 = (Sum.inr p69) ∧ eq = .exit 0 ∧ Sub [] envq ∧ Mem w No [] wq)) hit66 ⟨(by repeat (first | exact Sub.nil _ | refine Sub.cons rfl ?_)), (hm0.pick [] (by decide) rfl)⟩ ?_ ?_
    · rintro i58 x60 env61 w62 hf63 hr64 ⟨hs_, hm_⟩
      have hs_ : Sub [(0, v0), (1, v1), (5, (Value.int .i64 i58))] env61 := hs_
      have hm70 : Mem w No [] w62 := hm_
      refine cw_sub hs_ ?_
      clear hs_ hm_ q67
      have h : humpgen_Lists_l1 N a0 a1 i58 = some x60 := hf63
      clear hf63
      refine cw_seq ?_
      refine cw_seq ?_
      refine cw_region ?_
      refine t_rd rfl (rd_move rfl) ?_
      refine t_rd rfl (rd_move rfl) ?_
      refine t_rd rfl (rd_lenS tS33 rfl ((hn0.of_old hm70).sl)) ?_
      refine t_rd rfl (rd_lss rfl rfl) ?_
      refine rwt_nil ?_
      refine qn_then ?_
      obtain ⟨hb71, q72⟩ | ⟨hb71, q72⟩ := oi h <;> clear h
      · refine cw_t rfl hb71 ?_
        refine cw_skip ?_
        refine qn_then ?_
        refine cw_seq ?_
        refine cw_block ?_
        refine cw_seq ?_
        obtain ⟨w74, he76⟩ : ∃ q, q = w62.drew := ⟨_, rfl⟩
        have hm75 := hm70.drew; rw [← he76] at hm75
        refine cw_region_s (fun q => q = w74) (cls [] [8]) mixed ?_
        rintro _ rfl; rw [← he76]
        refine s_rp (i := 0) rfl (by kernel_rfl) rfl (fun _ => (rd_move rfl)) ?_
        refine s_rp (i := 1) rfl (by kernel_rfl) rfl (fun _ => (rd_move rfl)) ?_
        obtain ⟨x77, h78, q79⟩ := ob q72; clear q72
        refine s_rp (i := 2) rfl (by kernel_rfl) rfl (fun _ => (rd_index tS33 rfl rfl ((hn0.of_old hm75).sl) h78)) ?_
        obtain ⟨zd80, hz81⟩ := (hn0.of_old hm75).row h78
        refine s_rd (i := 3) rfl (by kernel_rfl) rfl (fun _ hS => by rw [hS]; exact (rd_ld1 tO22 rfl ((hn0.of_old hm75).cells hz81) (off := 0) rfl)) rfl ?_
        refine s_rp (i := 4) rfl (by kernel_rfl) rfl (fun _ => (rd_move rfl)) ?_
        refine s_rp (i := 5) rfl (by kernel_rfl) rfl (fun _ => (rd_move rfl)) ?_
        obtain ⟨x82, h83, q84⟩ := ob q79; clear q79
        refine s_rp (i := 6) rfl (by kernel_rfl) rfl (fun _ => (rd_index tS33 rfl rfl ((hn1.of_old hm75).sl) h83)) ?_
        obtain ⟨zd85, hz86⟩ := (hn1.of_old hm75).row h83
        refine s_rd (i := 7) rfl (by kernel_rfl) rfl (fun _ hS => by rw [hS]; exact (rd_ld1 tO22 rfl ((hn1.of_old hm75).cells hz86) (off := 0) rfl)) rfl ?_
        obtain ⟨r87, h88, q89⟩ := ob q84; clear q84
        refine s_ef (i := 8) rfl (by kernel_rfl) rfl (ef_call tf12 rfl (humpgen_Ints_ok h88 ((hn0.to_call hm75).get hz81 h78) ((hn1.to_call hm75).get hz86 h83))) (by decide) (fun _ _ _ q => absurd q (by decide)) ?_
        rintro _ w91 ⟨e_, hm90⟩
        obtain rfl := e_.symm
        have hm92 := hm75.call hm90
        refine s_rp (i := 9) rfl (by kernel_rfl) rfl (fun _ => (rd_not rfl)) ?_
        refine s_nil (by kernel_rfl) ?_
        refine qn_then ?_
        obtain ⟨hb93, q94⟩ | ⟨hb93, q94⟩ := oi q89 <;> clear q89
        · refine cw_t rfl hb93 ?_
          refine cw_seq ?_
          refine cw_region ?_
          refine t_rd rfl (rd_assign rfl) ?_
          refine rwt_nil ?_
          refine qn_then ?_
          refine cw_ret ?_
          refine qr_block (qr_then (qr_then ?_))
          obtain rfl := hr64 _ (os q94)
          refine .inl (⟨_, rfl, ⟨rfl, ?_⟩⟩)
          exact ret1 rfl rfl ⟨rfl, (hm92.pick [] (by decide) rfl)⟩
        · refine cw_f rfl hb93 ?_
          refine cw_skip ?_
          refine qn_block (qn_then ?_)
          refine cw_region ?_
          refine t_rd rfl (rd_move rfl) ?_
          obtain ⟨x95, h96, q97⟩ := ob q94; clear q94
          refine t_rd rfl (rd_add64 h96 rfl rfl) ?_
          refine t_rd rfl (rd_assign rfl) ?_
          refine rwt_nil ?_
          refine qn_then ?_
          refine ⟨_, (os q97), (by repeat (first | exact Sub.nil _ | refine Sub.cons rfl ?_)), (hm92.pick [] (by decide) rfl)⟩
      · refine cw_f rfl hb71 ?_
        refine cw_exit ?_
        refine qx_then (qx_then ?_)
        obtain rfl := hr64 _ (os q72)
        exact .inr (⟨_, rfl, ⟨rfl, (by repeat (first | exact Sub.nil _ | refine Sub.cons rfl ?_)), (hm70.pick [] (by decide) rfl)⟩⟩)
    · skip
      intro e env98 w99 hX100
      rcases hX100 with hX100 | hX100
      · obtain ⟨p102, rfl, hX100⟩ := hX100
        obtain ⟨rfl, hq104⟩ := hX100
        exact qr_block (qr_then ((by have e := os q67; subst e; exact hq104)))
      · obtain ⟨p105, rfl, hX100⟩ := hX100
        obtain ⟨rfl, hs106, hm107⟩ := hX100
        refine qx_same (qn_then ?_)
        refine cw_sub hs106 ?_
        refine cw_seq ?_
        refine cw_region ?_
        refine t_rd rfl (rd_assign rfl) ?_
        refine rwt_nil ?_
        refine qn_then ?_
        refine cw_ret ?_
        obtain rfl := os q67
        exact ret1 rfl rfl ⟨rfl, (hm107.pick [] (by decide) rfl)⟩

theorem reconcile_Cost_ok {N : Nat} {a0 : List Int} {a1 : List Int} {a2 : List Int} {res : Int × Int} (h : reconcile_Cost N a0 a1 a2 = some res) {w : World} {v0 : Value} {v1 : Value} {v2 : Value} (hv0 : Sl (Old w No) w v0 a0) (hv1 : Sl (Old w No) w v1 a1) (hv2 : Sl (Old w No) w v2 a2) :
    CallsR Try.prog 22 [v0, v1, v2] w (fun u w' => u = (Value.tuple #[(Value.int .i64 res.1), (Value.int .i64 res.2)]) ∧ Mem w No [] w') := by
  unfold reconcile_Cost at h
  refine fn_ok Try.func22 rfl rfl rfl ?_
  have hm0 := Mem.nil w
  refine cw_seq ?_
  refine cw_region ?_
  refine t_rd rfl (rd_assign rfl) ?_
  refine t_rd rfl (rd_assign rfl) ?_
  refine rwt_nil ?_
  refine qn_then ?_
  refine cw_seq ?_
  refine cw_seq ?_
  refine cw_region ?_
  refine t_rd rfl (rd_move rfl) ?_
  refine t_rd rfl (rd_move rfl) ?_
  obtain ⟨r1, h2, q3⟩ := ob h; clear h
  refine t_ef rfl (ef_call tf24 rfl (reconcile_long_ok h2 (hv0.to_call hm0) (hv1.to_call hm0))) ?_
  rintro _ w5 ⟨e_, hm4⟩
  obtain rfl := e_.symm
  have hm6 := hm0.call hm4
  refine rwt_nil ?_
  refine qn_then ?_
  obtain ⟨hb7, q8⟩ | ⟨hb7, q8⟩ := oi q3 <;> clear q3
  · refine cw_t rfl hb7 ?_
    refine cw_seq ?_
    refine cw_region ?_
    refine t_rd rfl (rd_assign rfl) ?_
    refine t_rd rfl (rd_assign rfl) ?_
    refine rwt_nil ?_
    refine qn_then ?_
    refine cw_ret ?_
    refine qr_then ?_
    obtain rfl := os q8
    exact ret2 rfl rfl rfl ⟨rfl, (hm6.pick [] (by decide) rfl)⟩
  · refine cw_f rfl hb7 ?_
    refine cw_skip ?_
    refine qn_then ?_
    refine cw_seq ?_
    refine cw_region ?_
    refine t_rd rfl (rd_assign rfl) ?_
    refine t_rd rfl (rd_assign rfl) ?_
    refine t_rd rfl (rd_assign rfl) ?_
    refine rwt_nil ?_
    refine qn_then ?_
    refine cw_seq ?_
    refine cw_seq ?_
    refine cw_region ?_
    refine t_rd rfl (rd_move rfl) ?_
    refine t_rd rfl (rd_lenS tS22 rfl (hv2.of_old hm6)) ?_
    refine t_rd rfl (rd_move rfl) ?_
    refine rwt_nil ?_
    refine qn_then ?_
    refine cw_block ?_
    obtain ⟨r76, hit77, q78⟩ := ob q8; clear q8
    refine cw_loop2 (I := fun q envq wq => Sub [(0, v0), (1, v1), (8, (Value.int .i64 q.1)), (9, (Value.int .i64 q.2.1)), (10, (Value.int .i64 q.2.2.1)), (19, v2), (20, (Value.int .i64 (List.length a2 : Int))), (21, (Value.int .i64 q.2.2.2))] envq ∧ Mem w No [] wq) (X := fun eq envq wq => (∃ p79, r76 = (Sum.inl p79) ∧ eq = .ret ∧ retQ Try.prog 55 Try.f22 (fun u w' => u = (Value.tuple #[(Value.int .i64 p79.1), (Value.int .i64 p79.2)]) ∧ Mem w No [] w') .ret envq wq) ∨ (∃ p80, r76 = (Sum.inr p80) ∧ eq = .exit 0 ∧ Sub [(0, v0), (1, v1), (8, (Value.int .i64 p80.1)), (9, (Value.int .i64 p80.2.1)), (10, (Value.int .i64 p80.2.2))] envq ∧ Mem w No [] wq)) hit77 ⟨(by repeat (first | exact Sub.nil _ | refine Sub.cons rfl ?_)), (hm6.pick [] (by decide) rfl)⟩ ?_ ?_
    · rintro ⟨i66, i67, i68, i69⟩ x71 env72 w73 hf74 hr75 ⟨hs_, hm_⟩
      have hs_ : Sub [(0, v0), (1, v1), (8, (Value.int .i64 i66)), (9, (Value.int .i64 i67)), (10, (Value.int .i64 i68)), (19, v2), (20, (Value.int .i64 (List.length a2 : Int))), (21, (Value.int .i64 i69))] env72 := hs_
      have hm81 : Mem w No [] w73 := hm_
      refine cw_sub hs_ ?_
      clear hs_ hm_ q78
      have h : reconcile_Cost_l1 N a0 a1 a2 i66 i67 i68 i69 = some x71 := hf74
      clear hf74
      refine cw_seq ?_
      refine cw_region ?_
      refine t_rd rfl (rd_lss rfl rfl) ?_
      refine rwt_nil ?_
      refine qn_then ?_
      refine cw_seq ?_
      obtain ⟨hb82, q83⟩ | ⟨hb82, q83⟩ := oi h <;> clear h
      · refine cw_t rfl hb82 ?_
        refine cw_skip ?_
        refine qn_then ?_
        refine cw_seq ?_
        refine cw_block ?_
        refine cw_seq ?_
        refine cw_region ?_
        obtain ⟨x84, h85, q86⟩ := ob q83; clear q83
        refine t_rd rfl (rd_index tS22 rfl rfl (hv2.of_old hm81) h85) ?_
        refine t_rd rfl (rd_ld1 tO3 rfl ((hv2.of_old hm81).cells h85) (off := 0) rfl) ?_
        refine t_rd rfl (rd_assign rfl) ?_
        refine rwt_nil ?_
        refine qn_then ?_
        refine cw_seq ?_
        refine cw_region ?_
        refine t_rd rfl (rd_move rfl) ?_
        refine t_rd rfl (rd_move rfl) ?_
        refine t_rd rfl (rd_move rfl) ?_
        refine t_rd rfl (rd_move rfl) ?_
        refine t_rd rfl (rd_move rfl) ?_
        obtain ⟨r87, h88, q89⟩ := ob q86; clear q86
        refine t_ef rfl (ef_call tf26 rfl (reconcile_step_ok h88 (hv0.to_call hm81) (hv1.to_call hm81))) ?_
        rintro _ w91 ⟨e_, hm90⟩
        obtain rfl := e_.symm
        have hm92 := hm81.call hm90
        refine t_rd rfl (rd_move rfl) ?_
        refine t_rd rfl (rd_extract rfl rfl) ?_
        refine t_rd rfl (rd_extract rfl rfl) ?_
        refine t_rd rfl (rd_extract rfl rfl) ?_
        refine t_rd rfl (rd_assign rfl) ?_
        refine t_rd rfl (rd_assign rfl) ?_
        refine t_rd rfl (rd_assign rfl) ?_
        refine rwt_nil ?_
        refine qn_then ?_
        refine cw_seq ?_
        refine cw_seq ?_
        refine cw_region ?_
        refine t_rd rfl (rd_move rfl) ?_
        refine t_rd rfl (rd_not rfl) ?_
        refine rwt_nil ?_
        refine qn_then ?_
        obtain ⟨hb93, q94⟩ | ⟨hb93, q94⟩ := oi q89 <;> clear q89
        · refine cw_t rfl hb93 ?_
          refine cw_seq ?_
          refine cw_region ?_
          refine t_rd rfl (rd_assign rfl) ?_
          refine t_rd rfl (rd_assign rfl) ?_
          refine rwt_nil ?_
          refine qn_then ?_
          refine cw_ret ?_
          refine qr_then (qr_block (qr_then (qr_then ?_)))
          obtain rfl := hr75 _ (os q94)
          refine .inl (⟨_, rfl, ⟨rfl, ?_⟩⟩)
          exact ret2 rfl rfl rfl ⟨rfl, (hm92.pick [] (by decide) rfl)⟩
        · refine cw_f rfl hb93 ?_
          refine cw_skip ?_
          refine qn_then ?_
          refine cw_seq ?_
          refine cw_region ?_
          refine t_rd rfl (rd_move rfl) ?_
          refine t_rd rfl (rd_move rfl) ?_
          refine t_rd rfl (rd_assign rfl) ?_
          refine t_rd rfl (rd_assign rfl) ?_
          refine rwt_nil ?_
          refine qn_then ?_
          refine cw_region ?_
          refine t_rd rfl (rd_move rfl) ?_
          refine t_rd rfl (rd_move rfl) ?_
          obtain ⟨r95, h96, q97⟩ := ob q94; clear q94
          refine t_ef rfl (ef_call tf27 rfl (reconcile_cost_ok h96)) ?_
          rintro _ w99 ⟨e_, hm98⟩
          obtain rfl := e_.symm
          have hm100 := hm92.call hm98
          obtain ⟨x101, h102, q103⟩ := ob q97; clear q97
          refine t_rd rfl (rd_add64 h102 rfl rfl) ?_
          refine t_rd rfl (rd_assign rfl) ?_
          refine rwt_nil ?_
          refine qn_block (qn_then ?_)
          refine cw_region ?_
          obtain ⟨x104, h105, q106⟩ := ob q103; clear q103
          refine t_rd rfl (rd_add64 h105 rfl rfl) ?_
          refine t_rd rfl (rd_move rfl) ?_
          refine rwt_nil ?_
          refine qn_then ?_
          refine ⟨_, (os q106), (by repeat (first | exact Sub.nil _ | refine Sub.cons rfl ?_)), (hm100.pick [] (by decide) rfl)⟩
      · refine cw_f rfl hb82 ?_
        refine cw_exit ?_
        refine qx_then (qx_then ?_)
        obtain rfl := hr75 _ (os q83)
        exact .inr (⟨_, rfl, ⟨rfl, (by repeat (first | exact Sub.nil _ | refine Sub.cons rfl ?_)), (hm81.pick [] (by decide) rfl)⟩⟩)
    · skip
      intro e env107 w108 hX109
      rcases hX109 with hX109 | hX109
      · obtain ⟨p111, rfl, hX109⟩ := hX109
        obtain ⟨rfl, hq113⟩ := hX109
        exact qr_block (qr_then ((by have e := os q78; subst e; exact hq113)))
      · obtain ⟨p114, rfl, hX109⟩ := hX109
        obtain ⟨rfl, hs115, hm116⟩ := hX109
        refine qx_same (qn_then ?_)
        refine cw_sub hs115 ?_
        refine cw_seq ?_
        refine cw_seq ?_
        refine cw_region ?_
        refine t_rd rfl (rd_move rfl) ?_
        refine t_rd rfl (rd_move rfl) ?_
        refine t_rd rfl (rd_lenS tS22 rfl (hv0.of_old hm116)) ?_
        refine t_rd rfl (rd_neq rfl rfl) ?_
        refine t_rd rfl (rd_move rfl) ?_
        refine t_rdg rfl rfl rfl rfl (gv_f _) (fun hg117 => (rd_move rfl)) ?_
        refine t_rdg rfl rfl rfl rfl (gv_f _) (fun hg118 => (rd_move rfl)) ?_
        refine t_rdg rfl rfl rfl rfl (gv_f _) (fun hg119 => (rd_lenS tS22 (gvx rfl hg119) (hv1.of_old hm116))) ?_
        refine t_rdg rfl rfl rfl rfl (gv_f _) (fun hg120 => (rd_neq (gvx rfl hg120) (gvx rfl hg120))) ?_
        refine t_rd rfl (rd_or rfl (fun hc121 => (gvx rfl (bnotIt hc121)))) ?_
        refine rwt_nil ?_
        refine qn_then ?_
        obtain ⟨hb122, q123⟩ | ⟨hb122, q123⟩ := oi q78 <;> clear q78
        · refine cw_t rfl hb122 ?_
          refine cw_seq ?_
          refine cw_region ?_
          refine t_rd rfl (rd_assign rfl) ?_
          refine t_rd rfl (rd_assign rfl) ?_
          refine rwt_nil ?_
          refine qn_then ?_
          refine cw_ret ?_
          refine qr_then ?_
          obtain rfl := os q123
          exact ret2 rfl rfl rfl ⟨rfl, (hm116.pick [] (by decide) rfl)⟩
        · refine cw_f rfl hb122 ?_
          refine cw_skip ?_
          refine qn_then ?_
          refine cw_seq ?_
          refine cw_region ?_
          refine t_rd rfl (rd_move rfl) ?_
          refine t_rd rfl (rd_assign rfl) ?_
          refine t_rd rfl (rd_assign rfl) ?_
          refine rwt_nil ?_
          refine qn_then ?_
          refine cw_ret ?_
          obtain rfl := os q123
          exact ret2 rfl rfl rfl ⟨rfl, (hm116.pick [] (by decide) rfl)⟩

theorem r08_Cost_ok {N : Nat} {a0 : List Int} {a1 : List Int} {a2 : List Int} {res : Int × Int} (h : r08_Cost N a0 a1 a2 = some res) {w : World} {v0 : Value} {v1 : Value} {v2 : Value} (hv0 : Sl (Old w No) w v0 a0) (hv1 : Sl (Old w No) w v1 a1) (hv2 : Sl (Old w No) w v2 a2) :
    CallsR Try.prog 23 [v0, v1, v2] w (fun u w' => u = (Value.tuple #[(Value.int .i64 res.1), (Value.int .i64 res.2)]) ∧ Mem w No [] w') := by
  unfold r08_Cost at h
  refine fn_ok Try.func23 rfl rfl rfl ?_
  have hm0 := Mem.nil w
  refine cw_seq ?_
  refine cw_region ?_
  refine t_rd rfl (rd_assign rfl) ?_
  refine t_rd rfl (rd_assign rfl) ?_
  refine rwt_nil ?_
  refine qn_then ?_
  refine cw_seq ?_
  refine cw_seq ?_
  refine cw_region ?_
  refine t_rd rfl (rd_move rfl) ?_
  refine t_rd rfl (rd_move rfl) ?_
  obtain ⟨r1, h2, q3⟩ := ob h; clear h
  refine t_ef rfl (ef_call tf28 rfl (r08_long_ok h2 (hv0.to_call hm0) (hv1.to_call hm0))) ?_
  rintro _ w5 ⟨e_, hm4⟩
  obtain rfl := e_.symm
  have hm6 := hm0.call hm4
  refine rwt_nil ?_
  refine qn_then ?_
  obtain ⟨hb7, q8⟩ | ⟨hb7, q8⟩ := oi q3 <;> clear q3
  · refine cw_t rfl hb7 ?_
    refine cw_seq ?_
    refine cw_region ?_
    refine t_rd rfl (rd_assign rfl) ?_
    refine t_rd rfl (rd_assign rfl) ?_
    refine rwt_nil ?_
    refine qn_then ?_
    refine cw_ret ?_
    refine qr_then ?_
    obtain rfl := os q8
    exact ret2 rfl rfl rfl ⟨rfl, (hm6.pick [] (by decide) rfl)⟩
  · refine cw_f rfl hb7 ?_
    refine cw_skip ?_
    refine qn_then ?_
    refine cw_seq ?_
    refine cw_region ?_
    refine t_rd rfl (rd_assign rfl) ?_
    refine t_rd rfl (rd_assign rfl) ?_
    refine t_rd rfl (rd_assign rfl) ?_
    refine rwt_nil ?_
    refine qn_then ?_
    refine cw_seq ?_
    refine cw_seq ?_
    refine cw_region ?_
    refine t_rd rfl (rd_assign rfl) ?_
    refine rwt_nil ?_
    refine qn_then ?_
    refine cw_block ?_
    obtain ⟨r64, hit65, q66⟩ := ob q8; clear q8
    refine cw_loop2 (I := fun q envq wq => Sub [(0, v0), (1, v1), (2, v2), (8, (Value.int .i64 q.1)), (9, (Value.int .i64 q.2.1)), (10, (Value.int .i64 q.2.2.1)), (11, (Value.int .i64 q.2.2.2))] envq ∧ Mem w No [] wq) (X := fun eq envq wq => (∃ p67, r64 = (Sum.inl p67) ∧ eq = .ret ∧ retQ Try.prog 57 Try.f23 (fun u w' => u = (Value.tuple #[(Value.int .i64 p67.1), (Value.int .i64 p67.2)]) ∧ Mem w No [] w') .ret envq wq) ∨ (∃ p68, r64 = (Sum.inr p68) ∧ eq = .exit 0 ∧ Sub [(0, v0), (1, v1), (8, (Value.int .i64 p68.1)), (9, (Value.int .i64 p68.2.1)), (10, (Value.int .i64 p68.2.2))] envq ∧ Mem w No [] wq)) hit65 ⟨(by repeat (first | exact Sub.nil _ | refine Sub.cons rfl ?_)), (hm6.pick [] (by decide) rfl)⟩ ?_ ?_
    · rintro ⟨i54, i55, i56, i57⟩ x59 env60 w61 hf62 hr63 ⟨hs_, hm_⟩
      have hs_ : Sub [(0, v0), (1, v1), (2, v2), (8, (Value.int .i64 i54)), (9, (Value.int .i64 i55)), (10, (Value.int .i64 i56)), (11, (Value.int .i64 i57))] env60 := hs_
      have hm69 : Mem w No [] w61 := hm_
      refine cw_sub hs_ ?_
      clear hs_ hm_ q66
      have h : r08_Cost_l1 N a0 a1 a2 i54 i55 i56 i57 = some x59 := hf62
      clear hf62
      refine cw_seq ?_
      refine cw_seq ?_
      refine cw_region ?_
      refine t_rd rfl (rd_move rfl) ?_
      refine t_rd rfl (rd_move rfl) ?_
      refine t_rd rfl (rd_lenS tS22 rfl (hv2.of_old hm69)) ?_
      refine t_rd rfl (rd_lss rfl rfl) ?_
      refine rwt_nil ?_
      refine qn_then ?_
      obtain ⟨hb70, q71⟩ | ⟨hb70, q71⟩ := oi h <;> clear h
      · refine cw_t rfl hb70 ?_
        refine cw_skip ?_
        refine qn_then ?_
        refine cw_seq ?_
        refine cw_block ?_
        refine cw_seq ?_
        refine cw_region ?_
        refine t_rd rfl (rd_move rfl) ?_
        refine t_rd rfl (rd_move rfl) ?_
        refine t_rd rfl (rd_move rfl) ?_
        refine t_rd rfl (rd_move rfl) ?_
        refine t_rd rfl (rd_move rfl) ?_
        refine t_rd rfl (rd_move rfl) ?_
        obtain ⟨x72, h73, q74⟩ := ob q71; clear q71
        refine t_rd rfl (rd_index tS22 rfl rfl (hv2.of_old hm69) h73) ?_
        refine t_rd rfl (rd_ld1 tO3 rfl ((hv2.of_old hm69).cells h73) (off := 0) rfl) ?_
        obtain ⟨r75, h76, q77⟩ := ob q74; clear q74
        refine t_ef rfl (ef_call tf30 rfl (r08_edit_ok h76 (hv0.to_call hm69) (hv1.to_call hm69))) ?_
        rintro _ w79 ⟨e_, hm78⟩
        obtain rfl := e_.symm
        have hm80 := hm69.call hm78
        refine t_rd rfl (rd_move rfl) ?_
        refine t_rd rfl (rd_extract rfl rfl) ?_
        refine t_rd rfl (rd_extract rfl rfl) ?_
        refine t_rd rfl (rd_extract rfl rfl) ?_
        refine t_rd rfl (rd_extract rfl rfl) ?_
        refine t_rd rfl (rd_assign rfl) ?_
        refine t_rd rfl (rd_assign rfl) ?_
        refine t_rd rfl (rd_assign rfl) ?_
        refine t_rd rfl (rd_assign rfl) ?_
        refine rwt_nil ?_
        refine qn_then ?_
        refine cw_seq ?_
        refine cw_seq ?_
        refine cw_region ?_
        refine t_rd rfl (rd_move rfl) ?_
        refine t_rd rfl (rd_not rfl) ?_
        refine rwt_nil ?_
        refine qn_then ?_
        obtain ⟨hb81, q82⟩ | ⟨hb81, q82⟩ := oi q77 <;> clear q77
        · refine cw_t rfl hb81 ?_
          refine cw_seq ?_
          refine cw_region ?_
          refine t_rd rfl (rd_assign rfl) ?_
          refine t_rd rfl (rd_assign rfl) ?_
          refine rwt_nil ?_
          refine qn_then ?_
          refine cw_ret ?_
          refine qr_then (qr_block (qr_then (qr_then ?_)))
          obtain rfl := hr63 _ (os q82)
          refine .inl (⟨_, rfl, ⟨rfl, ?_⟩⟩)
          exact ret2 rfl rfl rfl ⟨rfl, (hm80.pick [] (by decide) rfl)⟩
        · refine cw_f rfl hb81 ?_
          refine cw_skip ?_
          refine qn_then ?_
          refine cw_region ?_
          refine t_rd rfl (rd_move rfl) ?_
          refine t_rd rfl (rd_move rfl) ?_
          refine t_rd rfl (rd_move rfl) ?_
          refine t_rd rfl (rd_move rfl) ?_
          obtain ⟨x83, h84, q85⟩ := ob q82; clear q82
          refine t_rd rfl (rd_add64 h84 rfl rfl) ?_
          refine t_rd rfl (rd_assign rfl) ?_
          refine t_rd rfl (rd_assign rfl) ?_
          refine t_rd rfl (rd_assign rfl) ?_
          refine rwt_nil ?_
          refine qn_block (qn_then ?_)
          refine cw_region ?_
          refine t_rd rfl (rd_move rfl) ?_
          obtain ⟨x86, h87, q88⟩ := ob q85; clear q85
          refine t_rd rfl (rd_add64 h87 rfl rfl) ?_
          refine t_rd rfl (rd_assign rfl) ?_
          refine rwt_nil ?_
          refine qn_then ?_
          refine ⟨_, (os q88), (by repeat (first | exact Sub.nil _ | refine Sub.cons rfl ?_)), (hm80.pick [] (by decide) rfl)⟩
      · refine cw_f rfl hb70 ?_
        refine cw_exit ?_
        refine qx_then (qx_then ?_)
        obtain rfl := hr63 _ (os q71)
        exact .inr (⟨_, rfl, ⟨rfl, (by repeat (first | exact Sub.nil _ | refine Sub.cons rfl ?_)), (hm69.pick [] (by decide) rfl)⟩⟩)
    · skip
      intro e env89 w90 hX91
      rcases hX91 with hX91 | hX91
      · obtain ⟨p93, rfl, hX91⟩ := hX91
        obtain ⟨rfl, hq95⟩ := hX91
        exact qr_block (qr_then ((by have e := os q66; subst e; exact hq95)))
      · obtain ⟨p96, rfl, hX91⟩ := hX91
        obtain ⟨rfl, hs97, hm98⟩ := hX91
        refine qx_same (qn_then ?_)
        refine cw_sub hs97 ?_
        refine cw_seq ?_
        refine cw_seq ?_
        refine cw_region ?_
        refine t_rd rfl (rd_move rfl) ?_
        refine t_rd rfl (rd_move rfl) ?_
        refine t_rd rfl (rd_lenS tS22 rfl (hv0.of_old hm98)) ?_
        refine t_rd rfl (rd_neq rfl rfl) ?_
        refine t_rd rfl (rd_move rfl) ?_
        refine t_rdg rfl rfl rfl rfl (gv_f _) (fun hg99 => (rd_move rfl)) ?_
        refine t_rdg rfl rfl rfl rfl (gv_f _) (fun hg100 => (rd_move rfl)) ?_
        refine t_rdg rfl rfl rfl rfl (gv_f _) (fun hg101 => (rd_lenS tS22 (gvx rfl hg101) (hv1.of_old hm98))) ?_
        refine t_rdg rfl rfl rfl rfl (gv_f _) (fun hg102 => (rd_neq (gvx rfl hg102) (gvx rfl hg102))) ?_
        refine t_rd rfl (rd_or rfl (fun hc103 => (gvx rfl (bnotIt hc103)))) ?_
        refine rwt_nil ?_
        refine qn_then ?_
        obtain ⟨hb104, q105⟩ | ⟨hb104, q105⟩ := oi q66 <;> clear q66
        · refine cw_t rfl hb104 ?_
          refine cw_seq ?_
          refine cw_region ?_
          refine t_rd rfl (rd_assign rfl) ?_
          refine t_rd rfl (rd_assign rfl) ?_
          refine rwt_nil ?_
          refine qn_then ?_
          refine cw_ret ?_
          refine qr_then ?_
          obtain rfl := os q105
          exact ret2 rfl rfl rfl ⟨rfl, (hm98.pick [] (by decide) rfl)⟩
        · refine cw_f rfl hb104 ?_
          refine cw_skip ?_
          refine qn_then ?_
          refine cw_seq ?_
          refine cw_region ?_
          refine t_rd rfl (rd_move rfl) ?_
          refine t_rd rfl (rd_assign rfl) ?_
          refine t_rd rfl (rd_assign rfl) ?_
          refine rwt_nil ?_
          refine qn_then ?_
          refine cw_ret ?_
          obtain rfl := os q105
          exact ret2 rfl rfl rfl ⟨rfl, (hm98.pick [] (by decide) rfl)⟩

end Go.Proofs.Ytlfinhdanjbmcaa
