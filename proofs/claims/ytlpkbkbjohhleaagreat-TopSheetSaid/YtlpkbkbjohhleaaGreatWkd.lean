/- Each call computes what its mirror does; written by a program of mine (gowalk.py). -/
import Derived.Test.YtlpkbkbjohhleaaGreatWkc
namespace Go.Proofs.YtlpkbkbjohhleaaGreat
open Go.Gv Go.RowKit
set_option linter.unusedVariables false
set_option maxRecDepth 100000

theorem g_slices_insertionSortCmpFunc_int_ok {N : Nat} {a0 : List Int} {a1 : Int} {a2 : Int} {a3 : List (List Int)} {res : List Int} (h : g_slices_insertionSortCmpFunc_int N a0 a1 a2 a3 = some res) {w : World} {v0 : Value} {v3 : Value} (hk0 : (ownL 3 v0 (a0 : List Int)).φ w) (hv3 : Sl (Old w (ownL 3 v0 (a0 : List Int)).D) w v3 a3) :
  CallsR Tryz.prog 111 [v0, (Value.int .i64 a1), (Value.int .i64 a2), (Value.func (.func 109) #[] #[(Value.pointer (some ⟨pB v3, pO v3, none⟩))])] w (fun u w' => u = (Value.tuple #[]) ∧ Mem w (ownL 3 v0 (a0 : List Int)).D [ownL 3 v0 (res : List Int)] w') := by
 unfold g_slices_insertionSortCmpFunc_int at h
 refine fn_ok Tryz.func111 rfl rfl rfl ?_
 obtain ⟨zs_a3, hn3⟩ := hv3.nest
 have hm0 := Mem.one hk0
 refine cw_sr (t_mv rfl rfl ?_)
 obtain ⟨x1, h2, q3⟩ := ob h; clear h
 refine t_rd rfl (rd_add64 h2 rfl rfl) (t_as rfl rfl (rwt_n (cw_block ?_)))
 obtain ⟨r743, hit744, q745⟩ := ob q3; clear q3
 refine cw_loop2 (I := fun q envq wq => Sub [(0, v0), (1, (Value.int .i64 a1)), (2, (Value.int .i64 a2)), (3, (Value.func (.func 109) #[] #[(Value.pointer (some ⟨pB v3, pO v3, none⟩))])), (8, (Value.int .i64 q.1))] envq ∧ Mem w (ownL 3 v0 (a0 : List Int)).D [ownL 3 v0 (q.2 : List Int)] wq) (X := fun eq envq wq => eq = .exit 0 ∧ Sub [] envq ∧ Mem w (ownL 3 v0 (a0 : List Int)).D [ownL 3 v0 (r743 : List Int)] wq) hit744 ⟨(by repeat (first | exact Sub.nil _ | refine Sub.cons rfl ?_)), (hm0.pick [0] (by decide) rfl)⟩ ?_ ?_
 ·rintro ⟨i735, l736⟩ x738 env739 w740 hf741 hr742 ⟨hs_, hm_⟩
  have hs_ : Sub [(0, v0), (1, (Value.int .i64 a1)), (2, (Value.int .i64 a2)), (3, (Value.func (.func 109) #[] #[(Value.pointer (some ⟨pB v3, pO v3, none⟩))])), (8, (Value.int .i64 i735))] env739 := hs_
  have hm746 : Mem w (ownL 3 v0 (a0 : List Int)).D [ownL 3 v0 (l736 : List Int)] w740 := hm_
  refine cw_sub hs_ ?_
  clear hs_ hm_ q745
  have h : g_slices_insertionSortCmpFunc_int_l3 N a1 a2 a3 i735 l736 = some x738 := hf741
  clear hf741
  refine cw_seq (cw_sr (t_mv rfl rfl (t_mv rfl rfl (t_rd rfl (rd_lss rfl rfl) (rwt_n ?_)))))
  obtain ⟨hb747, q748⟩ | ⟨hb747, q748⟩ := oi h <;> clear h
  ·refine cw_t rfl hb747 (cw_skip (qn_then (cw_seq (cw_block (cw_sr ?_)))))
   refine t_mv rfl rfl (t_as rfl rfl (rwt_n (cw_block ?_)))
   obtain ⟨r986, hit987, q988⟩ := ob q748; clear q748
   refine cw_loop2 (I := fun q envq wq => Sub [(0, v0), (1, (Value.int .i64 a1)), (2, (Value.int .i64 a2)), (3, (Value.func (.func 109) #[] #[(Value.pointer (some ⟨pB v3, pO v3, none⟩))])), (8, (Value.int .i64 i735)), (9, (Value.int .i64 q.1))] envq ∧ Mem w (ownL 3 v0 (a0 : List Int)).D [ownL 3 v0 (q.2 : List Int)] wq) (X := fun eq envq wq => eq = .exit 2 ∧ Sub [(0, v0), (1, (Value.int .i64 a1)), (2, (Value.int .i64 a2)), (3, (Value.func (.func 109) #[] #[(Value.pointer (some ⟨pB v3, pO v3, none⟩))])), (8, (Value.int .i64 i735))] envq ∧ Mem w (ownL 3 v0 (a0 : List Int)).D [ownL 3 v0 (r986 : List Int)] wq) hit987 ⟨(by repeat (first | exact Sub.nil _ | refine Sub.cons rfl ?_)), (hm746.pick [0] (by decide) rfl)⟩ ?_ ?_
   ·rintro ⟨i978, l979⟩ x981 env982 w983 hf984 hr985 ⟨hs_, hm_⟩
    have hs_ : Sub [(0, v0), (1, (Value.int .i64 a1)), (2, (Value.int .i64 a2)), (3, (Value.func (.func 109) #[] #[(Value.pointer (some ⟨pB v3, pO v3, none⟩))])), (8, (Value.int .i64 i735)), (9, (Value.int .i64 i978))] env982 := hs_
    have hm989 : Mem w (ownL 3 v0 (a0 : List Int)).D [ownL 3 v0 (l979 : List Int)] w983 := hm_
    refine cw_sub hs_ ?_
    clear hs_ hm_ q988
    have h : g_slices_insertionSortCmpFunc_int_l4 N a1 a3 i978 l979 = some x981 := hf984
    clear hf984
    refine cw_seq (cw_seq ?_)
    obtain ⟨w1019, he1021⟩ : ∃ q, q = w983.drew := ⟨_, rfl⟩
    have hm1020 := hm989.drew; rw [← he1021] at hm1020
    refine cw_region_s (fun q => q = w1019) (cls [] [14]) mixed ?_
    rintro _ rfl; rw [← he1021]
    refine s_rp (i := 0) rfl (by kernel_rfl) rfl (fun _ => (rd_move rfl)) ?_
    refine s_rp (i := 1) rfl (by kernel_rfl) rfl (fun _ => (rd_move rfl)) ?_
    refine s_rp (i := 2) rfl (by kernel_rfl) rfl (fun _ => (rd_gtr rfl rfl)) ?_
    refine s_rp (i := 3) rfl (by kernel_rfl) rfl (fun _ => (rd_move rfl)) ?_
    refine s_rpg (i := 4) rfl (by kernel_rfl) rfl rfl rfl rfl (gv_t _) (fun hg1022 _ => (rd_move rfl)) ?_
    refine s_rpg (i := 5) rfl (by kernel_rfl) rfl rfl rfl rfl (gv_t _) (fun hg1023 _ => (rd_move rfl)) ?_
    refine s_rpg (i := 6) rfl (by kernel_rfl) rfl rfl rfl rfl (gv_t _) (fun hg1024 _ => (rd_move rfl)) ?_
    obtain ⟨x1026, h1027, q1028⟩ := ob h; clear h
    refine s_rpg (i := 7) rfl (by kernel_rfl) rfl rfl rfl rfl (gv_t _) (fun hg1025 _ => (rd_index tS22 (gvx rfl hg1025) (gvx rfl hg1025) (hm1020.sl 0 rfl) (gO_t h1027 hg1025))) ?_
    refine s_rdg (i := 8) rfl (by kernel_rfl) rfl rfl rfl rfl (gv_t _) (fun hg1029 => (fun _ hS => by rw [hS]; exact (rd_ld1 tO3 (gvx rfl hg1029) ((hm1020.sl 0 rfl).cells (gO_t h1027 hg1029)) (off := 0) rfl))) rfl ?_
    refine s_rpg (i := 9) rfl (by kernel_rfl) rfl rfl rfl rfl (gv_t _) (fun hg1030 _ => (rd_move rfl)) ?_
    refine s_rpg (i := 10) rfl (by kernel_rfl) rfl rfl rfl rfl (gv_t _) (fun hg1031 _ => (rd_move rfl)) ?_
    obtain ⟨x1033, h1034, q1035⟩ := ob q1028; clear q1028
    refine s_rpg (i := 11) rfl (by kernel_rfl) rfl rfl rfl rfl (gv_t _) (fun hg1032 _ => (rd_sub64 (gO_t h1034 hg1032) (gvx rfl hg1032) rfl)) ?_
    obtain ⟨x1037, h1038, q1039⟩ := ob q1035; clear q1035
    refine s_rpg (i := 12) rfl (by kernel_rfl) rfl rfl rfl rfl (gv_t _) (fun hg1036 _ => (rd_index tS22 (gvx rfl hg1036) (gvx rfl hg1036) (hm1020.sl 0 rfl) (gO_t h1038 hg1036))) ?_
    refine s_rdg (i := 13) rfl (by kernel_rfl) rfl rfl rfl rfl (gv_t _) (fun hg1040 => (fun _ hS => by rw [hS]; exact (rd_ld1 tO3 (gvx rfl hg1040) ((hm1020.sl 0 rfl).cells (gO_t h1038 hg1040)) (off := 0) rfl))) rfl ?_
    obtain ⟨r1042, h1043, q1044⟩ := ob q1039; clear q1039
    refine s_efg (i := 14) rfl (by kernel_rfl) rfl rfl rfl rfl (R := (fun v w' => v = gV (decide (a1 < i978)) (Value.int .i64 r1042) ∧ Mem w1019 No [] w')) (gv_t _) (fun hg1041 => (ef_callv tf109 (gvx rfl hg1041) (evc (gvx rfl hg1041) (evc (gvx rfl hg1041) evn)) (assign_order_1_ok (gO_t h1043 hg1041) ((hn3.to_call hm1020).sl))).mono (by rintro _ _ ⟨rfl, q⟩; exact ⟨(gV_t hg1041).symm, q⟩)) (fun q => ⟨(gV_f q).symm, Mem.nil _⟩) (by decide) (fun _ _ _ q => absurd q (by decide)) ?_
    rintro _ w1046 ⟨rfl, hm1045⟩
    have hm1047 := hm1020.call hm1045
    refine s_rpg (i := 15) rfl (by kernel_rfl) rfl rfl rfl rfl (gv_t _) (fun hg1048 _ => (rd_lss (gvx rfl hg1048) rfl)) ?_
    refine s_rp (i := 16) rfl (by kernel_rfl) rfl (fun _ => (rd_and rfl (fun hc1049 => (gvx rfl hc1049)))) ?_
    refine s_nil (by kernel_rfl) ?_
    refine qn_then ?_
    obtain ⟨hb1050, q1051⟩ | ⟨hb1050, q1051⟩ := oi q1044 <;> clear q1044
    ·refine cw_t rfl hb1050 (cw_skip (qn_then (cw_seq (cw_block ?_))))
     obtain ⟨w1075, he1077⟩ : ∃ q, q = w1046.drew := ⟨_, rfl⟩
     have hm1076 := hm1047.drew; rw [← he1077] at hm1076
     refine cw_region_s (fun q => q = w1075) (cls [] [15, 17]) mixed ?_
     rintro _ rfl; rw [← he1077]
     refine s_rp (i := 0) rfl (by kernel_rfl) rfl (fun _ => (rd_move rfl)) ?_
     refine s_rp (i := 1) rfl (by kernel_rfl) rfl (fun _ => (rd_move rfl)) ?_
     refine s_rp (i := 2) rfl (by kernel_rfl) rfl (fun _ => (rd_move rfl)) ?_
     refine s_rp (i := 3) rfl (by kernel_rfl) rfl (fun _ => (rd_move rfl)) ?_
     obtain ⟨x1078, h1079, q1080⟩ := ob q1051; clear q1051
     refine s_rp (i := 4) rfl (by kernel_rfl) rfl (fun _ => (rd_sub64 h1079 rfl rfl)) ?_
     refine s_rp (i := 5) rfl (by kernel_rfl) rfl (fun _ => (rd_move rfl)) ?_
     refine s_rp (i := 6) rfl (by kernel_rfl) rfl (fun _ => (rd_move rfl)) ?_
     obtain ⟨x1081, h1082, q1083⟩ := ob q1080; clear q1080
     refine s_rp (i := 7) rfl (by kernel_rfl) rfl (fun _ => (rd_sub64 h1082 rfl rfl)) ?_
     obtain ⟨x1084, h1085, q1086⟩ := ob q1083; clear q1083
     refine s_rp (i := 8) rfl (by kernel_rfl) rfl (fun _ => (rd_index tS22 rfl rfl (hm1076.sl 0 rfl) h1085)) ?_
     refine s_rd (i := 9) rfl (by kernel_rfl) rfl (fun _ hS => by rw [hS]; exact (rd_ld1 tO3 rfl ((hm1076.sl 0 rfl).cells h1085) (off := 0) rfl)) rfl ?_
     refine s_rp (i := 10) rfl (by kernel_rfl) rfl (fun _ => (rd_move rfl)) ?_
     refine s_rp (i := 11) rfl (by kernel_rfl) rfl (fun _ => (rd_move rfl)) ?_
     obtain ⟨x1087, h1088, q1089⟩ := ob q1086; clear q1086
     refine s_rp (i := 12) rfl (by kernel_rfl) rfl (fun _ => (rd_index tS22 rfl rfl (hm1076.sl 0 rfl) h1088)) ?_
     refine s_rd (i := 13) rfl (by kernel_rfl) rfl (fun _ hS => by rw [hS]; exact (rd_ld1 tO3 rfl ((hm1076.sl 0 rfl).cells h1088) (off := 0) rfl)) rfl ?_
     obtain ⟨x1090, h1091, q1092⟩ := ob q1089; clear q1089
     refine s_rp (i := 14) rfl (by kernel_rfl) rfl (fun _ => (rd_index tS22 rfl rfl (hm1076.sl 0 rfl) h1091)) ?_
     refine s_ef0 (i := 15) rfl (by kernel_rfl) (ef_stl (k := 0) (off := 0) (x' := x1084) hm1076 tO3 rfl rfl rfl rfl h1091 rfl rfl) (by decide) (fun _ _ _ q => absurd q (by decide)) ?_
     intro _ w1094 hm1093
     obtain ⟨x1095, h1096, q1097⟩ := ob q1092; clear q1092
     refine s_rp (i := 16) rfl (by kernel_rfl) rfl (fun _ => (rd_index tS22 rfl rfl (hm1093.sl 0 rfl) h1096)) ?_
     refine s_ef0 (i := 17) rfl (by kernel_rfl) (ef_stl (k := 0) (off := 0) (x' := x1087) hm1093 tO3 rfl rfl rfl rfl h1096 rfl rfl) (by decide) (fun _ _ _ q => absurd q (by decide)) ?_
     intro _ w1099 hm1098
     refine s_nil (by kernel_rfl) ?_
     refine qn_block (qn_then ?_)
     refine cw_region ?_
     refine t_mv rfl rfl ?_
     obtain ⟨x1100, h1101, q1102⟩ := ob q1097; clear q1097
     refine t_rd rfl (rd_sub64 h1101 rfl rfl) ?_
     refine t_as rfl rfl (rwt_n ?_)
     refine ⟨_, (os q1102), (by repeat (first | exact Sub.nil _ | refine Sub.cons rfl ?_)), (hm1098.pick [0] (by decide) rfl)⟩
    ·refine cw_f rfl hb1050 ?_
     refine cw_exit ?_
     refine qx_then (qx_then ?_)
     obtain rfl := hr985 _ (os q1051)
     exact ⟨rfl, (by repeat (first | exact Sub.nil _ | refine Sub.cons rfl ?_)), (hm1047.pick [0] (by decide) rfl)⟩
   ·skip
    intro e env1103 w1104 hX1105
    obtain ⟨rfl, hs1106, hm1107⟩ := hX1105
    refine qx_same (qn_block (qn_then ?_))
    refine cw_sub hs1106 ?_
    refine cw_region ?_
    refine t_mv rfl rfl ?_
    obtain ⟨x1108, h1109, q1110⟩ := ob q988; clear q988
    refine t_rd rfl (rd_add64 h1109 rfl rfl) (t_as rfl rfl (rwt_n ?_))
    refine ⟨_, (os q1110), (by repeat (first | exact Sub.nil _ | refine Sub.cons rfl ?_)), (hm1107.pick [0] (by decide) rfl)⟩
  ·refine cw_f rfl hb747 ?_
   refine cw_exit ?_
   refine qx_then (qx_then ?_)
   obtain rfl := hr742 _ (os q748)
   exact ⟨rfl, (by repeat (first | exact Sub.nil _ | refine Sub.cons rfl ?_)), (hm746.pick [0] (by decide) rfl)⟩
 ·skip
  intro e env1111 w1112 hX1113
  obtain ⟨rfl, hs1114, hm1115⟩ := hX1113
  refine qx_same ?_
  obtain rfl := os q745
  refine retn ?_
  refine ret_sub hs1114 ?_
  exact ret0 rfl ⟨rfl, (hm1115.pick [0] (by decide) rfl)⟩

theorem g_slices_swapRangeCmpFunc_int_ok {N : Nat} {a0 : List Int} {a1 : Int} {a2 : Int} {a3 : Int} {a4 : List (List Int)} {res : List Int} (h : g_slices_swapRangeCmpFunc_int N a0 a1 a2 a3 a4 = some res) {w : World} {v0 : Value} {v4 : Value} (hk0 : (ownL 3 v0 (a0 : List Int)).φ w) (hv4 : Sl (Old w (ownL 3 v0 (a0 : List Int)).D) w v4 a4) :
  CallsR Tryz.prog 146 [v0, (Value.int .i64 a1), (Value.int .i64 a2), (Value.int .i64 a3), (Value.func (.func 109) #[] #[(Value.pointer (some ⟨pB v4, pO v4, none⟩))])] w (fun u w' => u = (Value.tuple #[]) ∧ Mem w (ownL 3 v0 (a0 : List Int)).D [ownL 3 v0 (res : List Int)] w') := by
 unfold g_slices_swapRangeCmpFunc_int at h
 refine fn_ok Tryz.func146 rfl rfl rfl ?_
 obtain ⟨zs_a4, hn4⟩ := hv4.nest
 have hm0 := Mem.one hk0
 refine cw_sr (t_as rfl rfl (rwt_n (cw_block ?_)))
 obtain ⟨r142, hit143, q144⟩ := ob h; clear h
 refine cw_loop2 (I := fun q envq wq => Sub [(0, v0), (1, (Value.int .i64 a1)), (2, (Value.int .i64 a2)), (3, (Value.int .i64 a3)), (10, (Value.int .i64 q.1))] envq ∧ Mem w (ownL 3 v0 (a0 : List Int)).D [ownL 3 v0 (q.2 : List Int)] wq) (X := fun eq envq wq => eq = .exit 0 ∧ Sub [] envq ∧ Mem w (ownL 3 v0 (a0 : List Int)).D [ownL 3 v0 (r142 : List Int)] wq) hit143 ⟨(by repeat (first | exact Sub.nil _ | refine Sub.cons rfl ?_)), (hm0.pick [0] (by decide) rfl)⟩ ?_ ?_
 ·rintro ⟨i134, l135⟩ x137 env138 w139 hf140 hr141 ⟨hs_, hm_⟩
  have hs_ : Sub [(0, v0), (1, (Value.int .i64 a1)), (2, (Value.int .i64 a2)), (3, (Value.int .i64 a3)), (10, (Value.int .i64 i134))] env138 := hs_
  have hm145 : Mem w (ownL 3 v0 (a0 : List Int)).D [ownL 3 v0 (l135 : List Int)] w139 := hm_
  refine cw_sub hs_ ?_
  clear hs_ hm_ q144
  have h : g_slices_swapRangeCmpFunc_int_l1 N a1 a2 a3 i134 l135 = some x137 := hf140
  clear hf140
  refine cw_seq (cw_sr (t_mv rfl rfl (t_mv rfl rfl (t_rd rfl (rd_lss rfl rfl) (rwt_n ?_)))))
  obtain ⟨hb146, q147⟩ | ⟨hb146, q147⟩ := oi h <;> clear h
  ·refine cw_t rfl hb146 (cw_skip (qn_then (cw_seq (cw_block ?_))))
   obtain ⟨w177, he179⟩ : ∃ q, q = w139.drew := ⟨_, rfl⟩
   have hm178 := hm145.drew; rw [← he179] at hm178
   refine cw_region_s (fun q => q = w177) (cls [] [21, 23]) mixed ?_
   rintro _ rfl; rw [← he179]
   refine s_rp (i := 0) rfl (by kernel_rfl) rfl (fun _ => (rd_move rfl)) ?_
   refine s_rp (i := 1) rfl (by kernel_rfl) rfl (fun _ => (rd_move rfl)) ?_
   refine s_rp (i := 2) rfl (by kernel_rfl) rfl (fun _ => (rd_move rfl)) ?_
   obtain ⟨x180, h181, q182⟩ := ob q147; clear q147
   refine s_rp (i := 3) rfl (by kernel_rfl) rfl (fun _ => (rd_add64 h181 rfl rfl)) ?_
   refine s_rp (i := 4) rfl (by kernel_rfl) rfl (fun _ => (rd_move rfl)) ?_
   refine s_rp (i := 5) rfl (by kernel_rfl) rfl (fun _ => (rd_move rfl)) ?_
   refine s_rp (i := 6) rfl (by kernel_rfl) rfl (fun _ => (rd_move rfl)) ?_
   obtain ⟨x183, h184, q185⟩ := ob q182; clear q182
   refine s_rp (i := 7) rfl (by kernel_rfl) rfl (fun _ => (rd_add64 h184 rfl rfl)) ?_
   refine s_rp (i := 8) rfl (by kernel_rfl) rfl (fun _ => (rd_move rfl)) ?_
   refine s_rp (i := 9) rfl (by kernel_rfl) rfl (fun _ => (rd_move rfl)) ?_
   refine s_rp (i := 10) rfl (by kernel_rfl) rfl (fun _ => (rd_move rfl)) ?_
   obtain ⟨x186, h187, q188⟩ := ob q185; clear q185
   refine s_rp (i := 11) rfl (by kernel_rfl) rfl (fun _ => (rd_add64 h187 rfl rfl)) ?_
   obtain ⟨x189, h190, q191⟩ := ob q188; clear q188
   refine s_rp (i := 12) rfl (by kernel_rfl) rfl (fun _ => (rd_index tS22 rfl rfl (hm178.sl 0 rfl) h190)) ?_
   refine s_rd (i := 13) rfl (by kernel_rfl) rfl (fun _ hS => by rw [hS]; exact (rd_ld1 tO3 rfl ((hm178.sl 0 rfl).cells h190) (off := 0) rfl)) rfl ?_
   refine s_rp (i := 14) rfl (by kernel_rfl) rfl (fun _ => (rd_move rfl)) ?_
   refine s_rp (i := 15) rfl (by kernel_rfl) rfl (fun _ => (rd_move rfl)) ?_
   refine s_rp (i := 16) rfl (by kernel_rfl) rfl (fun _ => (rd_move rfl)) ?_
   obtain ⟨x192, h193, q194⟩ := ob q191; clear q191
   refine s_rp (i := 17) rfl (by kernel_rfl) rfl (fun _ => (rd_add64 h193 rfl rfl)) ?_
   obtain ⟨x195, h196, q197⟩ := ob q194; clear q194
   refine s_rp (i := 18) rfl (by kernel_rfl) rfl (fun _ => (rd_index tS22 rfl rfl (hm178.sl 0 rfl) h196)) ?_
   refine s_rd (i := 19) rfl (by kernel_rfl) rfl (fun _ hS => by rw [hS]; exact (rd_ld1 tO3 rfl ((hm178.sl 0 rfl).cells h196) (off := 0) rfl)) rfl ?_
   obtain ⟨x198, h199, q200⟩ := ob q197; clear q197
   refine s_rp (i := 20) rfl (by kernel_rfl) rfl (fun _ => (rd_index tS22 rfl rfl (hm178.sl 0 rfl) h199)) ?_
   refine s_ef0 (i := 21) rfl (by kernel_rfl) (ef_stl (k := 0) (off := 0) (x' := x189) hm178 tO3 rfl rfl rfl rfl h199 rfl rfl) (by decide) (fun _ _ _ q => absurd q (by decide)) ?_
   intro _ w202 hm201
   obtain ⟨x203, h204, q205⟩ := ob q200; clear q200
   refine s_rp (i := 22) rfl (by kernel_rfl) rfl (fun _ => (rd_index tS22 rfl rfl (hm201.sl 0 rfl) h204)) ?_
   refine s_ef0 (i := 23) rfl (by kernel_rfl) (ef_stl (k := 0) (off := 0) (x' := x195) hm201 tO3 rfl rfl rfl rfl h204 rfl rfl) (by decide) (fun _ _ _ q => absurd q (by decide)) ?_
   intro _ w207 hm206
   refine s_nil (by kernel_rfl) ?_
   refine qn_block (qn_then ?_)
   refine cw_region ?_
   refine t_mv rfl rfl ?_
   obtain ⟨x208, h209, q210⟩ := ob q205; clear q205
   refine t_rd rfl (rd_add64 h209 rfl rfl) (t_as rfl rfl (rwt_n ?_))
   refine ⟨_, (os q210), (by repeat (first | exact Sub.nil _ | refine Sub.cons rfl ?_)), (hm206.pick [0] (by decide) rfl)⟩
  ·refine cw_f rfl hb146 ?_
   refine cw_exit ?_
   refine qx_then (qx_then ?_)
   obtain rfl := hr141 _ (os q147)
   exact ⟨rfl, (by repeat (first | exact Sub.nil _ | refine Sub.cons rfl ?_)), (hm145.pick [0] (by decide) rfl)⟩
 ·skip
  intro e env211 w212 hX213
  obtain ⟨rfl, hs214, hm215⟩ := hX213
  refine qx_same ?_
  obtain rfl := os q144
  refine retn ?_
  refine ret_sub hs214 ?_
  exact ret0 rfl ⟨rfl, (hm215.pick [0] (by decide) rfl)⟩

theorem g_slices_rotateCmpFunc_int_ok {N : Nat} {a0 : List Int} {a1 : Int} {a2 : Int} {a3 : Int} {a4 : List (List Int)} {res : List Int} (h : g_slices_rotateCmpFunc_int N a0 a1 a2 a3 a4 = some res) {w : World} {v0 : Value} {v4 : Value} (hk0 : (ownL 3 v0 (a0 : List Int)).φ w) (hv4 : Sl (Old w (ownL 3 v0 (a0 : List Int)).D) w v4 a4) :
  CallsR Tryz.prog 144 [v0, (Value.int .i64 a1), (Value.int .i64 a2), (Value.int .i64 a3), (Value.func (.func 109) #[] #[(Value.pointer (some ⟨pB v4, pO v4, none⟩))])] w (fun u w' => u = (Value.tuple #[]) ∧ Mem w (ownL 3 v0 (a0 : List Int)).D [ownL 3 v0 (res : List Int)] w') := by
 unfold g_slices_rotateCmpFunc_int at h
 refine fn_ok Tryz.func144 rfl rfl rfl ?_
 obtain ⟨zs_a4, hn4⟩ := hv4.nest
 have hm0 := Mem.one hk0
 refine cw_sr (t_mv rfl rfl (t_mv rfl rfl ?_))
 obtain ⟨x1, h2, q3⟩ := ob h; clear h
 refine t_rd rfl (rd_sub64 h2 rfl rfl) ?_
 refine t_as rfl rfl (rwt_n (cw_sr (t_mv rfl rfl (t_mv rfl rfl ?_))))
 obtain ⟨x4, h5, q6⟩ := ob q3; clear q3
 refine t_rd rfl (rd_sub64 h5 rfl rfl) ?_
 refine t_as rfl rfl (rwt_n (cw_seq (cw_block ?_)))
 obtain ⟨r89, hit90, q91⟩ := ob q6; clear q6
 refine cw_loop2 (I := fun q envq wq => Sub [(0, v0), (2, (Value.int .i64 a2)), (4, (Value.func (.func 109) #[] #[(Value.pointer (some ⟨pB v4, pO v4, none⟩))])), (10, (Value.int .i64 q.1)), (11, (Value.int .i64 q.2.1))] envq ∧ Mem w (ownL 3 v0 (a0 : List Int)).D [ownL 3 v0 (q.2.2 : List Int)] wq) (X := fun eq envq wq => eq = .exit 0 ∧ Sub [(0, v0), (2, (Value.int .i64 a2)), (4, (Value.func (.func 109) #[] #[(Value.pointer (some ⟨pB v4, pO v4, none⟩))])), (10, (Value.int .i64 r89.1))] envq ∧ Mem w (ownL 3 v0 (a0 : List Int)).D [ownL 3 v0 (r89.2 : List Int)] wq) hit90 ⟨(by repeat (first | exact Sub.nil _ | refine Sub.cons rfl ?_)), (hm0.pick [0] (by decide) rfl)⟩ ?_ ?_
 ·rintro ⟨i80, i81, l82⟩ x84 env85 w86 hf87 hr88 ⟨hs_, hm_⟩
  have hs_ : Sub [(0, v0), (2, (Value.int .i64 a2)), (4, (Value.func (.func 109) #[] #[(Value.pointer (some ⟨pB v4, pO v4, none⟩))])), (10, (Value.int .i64 i80)), (11, (Value.int .i64 i81))] env85 := hs_
  have hm92 : Mem w (ownL 3 v0 (a0 : List Int)).D [ownL 3 v0 (l82 : List Int)] w86 := hm_
  refine cw_sub hs_ ?_
  clear hs_ hm_ q91
  have h : g_slices_rotateCmpFunc_int_l1 N a2 a4 i80 i81 l82 = some x84 := hf87
  clear hf87
  refine cw_seq (cw_sr (t_mv rfl rfl (t_mv rfl rfl ?_)))
  refine t_rd rfl (rd_neq rfl rfl) ?_
  refine rwt_n ?_
  obtain ⟨hb93, q94⟩ | ⟨hb93, q94⟩ := oi h <;> clear h
  ·refine cw_t rfl hb93 (cw_skip (qn_then (cw_block (cw_sr (t_mv rfl rfl ?_)))))
   refine t_mv rfl rfl ?_
   refine t_rd rfl (rd_gtr rfl rfl) ?_
   refine rwt_n ?_
   obtain ⟨hb95, q96⟩ | ⟨hb95, q96⟩ := oi q94 <;> clear q94
   ·refine cw_t rfl hb95 (cw_sr (t_mv rfl rfl (t_mv rfl rfl (t_mv rfl rfl ?_))))
    obtain ⟨x97, h98, q99⟩ := ob q96; clear q96
    refine t_rd rfl (rd_sub64 h98 rfl rfl) ?_
    refine t_mv rfl rfl (t_mv rfl rfl (t_mv rfl rfl ?_))
    obtain ⟨r100, h101, q102⟩ := ob q99; clear q99
    refine t_ef rfl (ef_call tf146 rfl (g_slices_swapRangeCmpFunc_int_ok h101 (hm92.get (k := 0) rfl) ((hn4.to_callT (k := 0) hm92 rfl).sl))) ?_
    rintro _ w104 ⟨e_, hm103⟩
    obtain rfl := e_.symm
    have hm105 := hm92.callT (k := 0) rfl (fun _ h => h) hm103 (fun _ => Iff.rfl)
    refine rwt_n ?_
    refine cw_region ?_
    refine t_mv rfl rfl (t_mv rfl rfl ?_)
    obtain ⟨x106, h107, q108⟩ := ob q102; clear q102
    refine t_rd rfl (rd_sub64 h107 rfl rfl) ?_
    refine t_as rfl rfl ?_
    refine rwt_nil ?_
    refine qn_block (qn_then ?_)
    refine ⟨_, (os q108), (by repeat (first | exact Sub.nil _ | refine Sub.cons rfl ?_)), (hm105.pick [0] (by decide) rfl)⟩
   ·refine cw_f rfl hb95 (cw_sr (t_mv rfl rfl (t_mv rfl rfl (t_mv rfl rfl ?_))))
    obtain ⟨x109, h110, q111⟩ := ob q96; clear q96
    refine t_rd rfl (rd_sub64 h110 rfl rfl) ?_
    refine t_mv rfl rfl (t_mv rfl rfl ?_)
    obtain ⟨x112, h113, q114⟩ := ob q111; clear q111
    refine t_rd rfl (rd_add64 h113 rfl rfl) (t_mv rfl rfl ?_)
    obtain ⟨x115, h116, q117⟩ := ob q114; clear q114
    refine t_rd rfl (rd_sub64 h116 rfl rfl) ?_
    refine t_mv rfl rfl (t_mv rfl rfl ?_)
    obtain ⟨r118, h119, q120⟩ := ob q117; clear q117
    refine t_ef rfl (ef_call tf146 rfl (g_slices_swapRangeCmpFunc_int_ok h119 (hm92.get (k := 0) rfl) ((hn4.to_callT (k := 0) hm92 rfl).sl))) ?_
    rintro _ w122 ⟨e_, hm121⟩
    obtain rfl := e_.symm
    have hm123 := hm92.callT (k := 0) rfl (fun _ h => h) hm121 (fun _ => Iff.rfl)
    refine rwt_n ?_
    refine cw_region ?_
    refine t_mv rfl rfl (t_mv rfl rfl ?_)
    obtain ⟨x124, h125, q126⟩ := ob q120; clear q120
    refine t_rd rfl (rd_sub64 h125 rfl rfl) ?_
    refine t_as rfl rfl ?_
    refine rwt_nil ?_
    refine qn_block (qn_then ?_)
    refine ⟨_, (os q126), (by repeat (first | exact Sub.nil _ | refine Sub.cons rfl ?_)), (hm123.pick [0] (by decide) rfl)⟩
  ·refine cw_f rfl hb93 ?_
   refine cw_exit ?_
   refine qx_then (qx_then ?_)
   obtain rfl := hr88 _ (os q94)
   exact ⟨rfl, (by repeat (first | exact Sub.nil _ | refine Sub.cons rfl ?_)), (hm92.pick [0] (by decide) rfl)⟩
 ·skip
  intro e env127 w128 hX129
  obtain ⟨rfl, hs130, hm131⟩ := hX129
  refine qx_same (qn_then ?_)
  refine cw_sub hs130 ?_
  refine cw_region ?_
  refine t_mv rfl rfl (t_mv rfl rfl (t_mv rfl rfl ?_))
  obtain ⟨x132, h133, q134⟩ := ob q91; clear q91
  refine t_rd rfl (rd_sub64 h133 rfl rfl) ?_
  refine t_mv rfl rfl (t_mv rfl rfl (t_mv rfl rfl ?_))
  obtain ⟨r135, h136, q137⟩ := ob q134; clear q134
  refine t_ef rfl (ef_call tf146 rfl (g_slices_swapRangeCmpFunc_int_ok h136 (hm131.get (k := 0) rfl) ((hn4.to_callT (k := 0) hm131 rfl).sl))) ?_
  rintro _ w139 ⟨e_, hm138⟩
  obtain rfl := e_.symm
  have hm140 := hm131.callT (k := 0) rfl (fun _ h => h) hm138 (fun _ => Iff.rfl)
  refine rwt_nil ?_
  obtain rfl := os q137
  refine retn ?_
  exact ret0 rfl ⟨rfl, (hm140.pick [0] (by decide) rfl)⟩

theorem g_slices_symMergeCmpFunc_int_r_ok {N : Nat} (M : Nat) : ∀ {a0 : List Int} {a1 : Int} {a2 : Int} {a3 : Int} {a4 : List (List Int)} {res : List Int} (h : g_slices_symMergeCmpFunc_int_r N M a0 a1 a2 a3 a4 = some res) {w : World} {v0 : Value} {v4 : Value} (hk0 : (ownL 3 v0 (a0 : List Int)).φ w) (hv4 : Sl (Old w (ownL 3 v0 (a0 : List Int)).D) w v4 a4),
  CallsR Tryz.prog 138 [v0, (Value.int .i64 a1), (Value.int .i64 a2), (Value.int .i64 a3), (Value.func (.func 109) #[] #[(Value.pointer (some ⟨pB v4, pO v4, none⟩))])] w (fun u w' => u = (Value.tuple #[]) ∧ Mem w (ownL 3 v0 (a0 : List Int)).D [ownL 3 v0 (res : List Int)] w') := by
 induction M with
 | zero =>
  intro a0 a1 a2 a3 a4 res h
  rw [g_slices_symMergeCmpFunc_int_r] at h
  cases h
 | succ M ih =>
 intro a0 a1 a2 a3 a4 res h w v0 v4 hk0 hv4
 rw [g_slices_symMergeCmpFunc_int_r] at h
 refine fn_ok Tryz.func138 rfl rfl rfl ?_
 obtain ⟨zs_a4, hn4⟩ := hv4.nest
 have hm0 := Mem.one hk0
 refine cw_seq (cw_sr (t_mv rfl rfl (t_mv rfl rfl ?_)))
 obtain ⟨x1, h2, q3⟩ := ob h; clear h
 refine t_rd rfl (rd_sub64 h2 rfl rfl) ?_
 refine t_rd rfl (rd_eql rfl rfl) ?_
 refine rwt_n ?_
 obtain ⟨hb4, q5⟩ | ⟨hb4, q5⟩ := oi q3 <;> clear q3
 ·refine cw_t rfl hb4 (cw_sr (t_mv rfl rfl (t_as rfl rfl (rwt_n (cw_sr (t_mv rfl rfl ?_))))))
  refine t_as rfl rfl (rwt_n (cw_seq (cw_block ?_)))
  obtain ⟨r105, hit106, q107⟩ := ob q5; clear q5
  refine cw_loop2 (I := fun q envq wq => Sub [(0, v0), (1, (Value.int .i64 a1)), (4, (Value.func (.func 109) #[] #[(Value.pointer (some ⟨pB v4, pO v4, none⟩))])), (10, (Value.int .i64 q.1)), (11, (Value.int .i64 q.2))] envq ∧ Mem w (ownL 3 v0 (a0 : List Int)).D [ownL 3 v0 (a0 : List Int)] wq) (X := fun eq envq wq => eq = .exit 0 ∧ Sub [(0, v0), (1, (Value.int .i64 a1)), (10, (Value.int .i64 r105))] envq ∧ Mem w (ownL 3 v0 (a0 : List Int)).D [ownL 3 v0 (a0 : List Int)] wq) hit106 ⟨(by repeat (first | exact Sub.nil _ | refine Sub.cons rfl ?_)), (hm0.pick [0] (by decide) rfl)⟩ ?_ ?_
  ·rintro ⟨i97, i98⟩ x100 env101 w102 hf103 hr104 ⟨hs_, hm_⟩
   have hs_ : Sub [(0, v0), (1, (Value.int .i64 a1)), (4, (Value.func (.func 109) #[] #[(Value.pointer (some ⟨pB v4, pO v4, none⟩))])), (10, (Value.int .i64 i97)), (11, (Value.int .i64 i98))] env101 := hs_
   have hm108 : Mem w (ownL 3 v0 (a0 : List Int)).D [ownL 3 v0 (a0 : List Int)] w102 := hm_
   refine cw_sub hs_ ?_
   clear hs_ hm_ q107
   have h : g_slices_symMergeCmpFunc_int_l1 N a0 a1 a4 i97 i98 = some x100 := hf103
   clear hf103
   refine cw_seq (cw_sr (t_mv rfl rfl (t_mv rfl rfl (t_rd rfl (rd_lss rfl rfl) (rwt_n ?_)))))
   obtain ⟨hb109, q110⟩ | ⟨hb109, q110⟩ := oi h <;> clear h
   ·refine cw_t rfl hb109 (cw_skip (qn_then (cw_block (cw_sr (t_mv rfl rfl ?_)))))
    refine t_mv rfl rfl ?_
    obtain ⟨x111, h112, q113⟩ := ob q110; clear q110
    refine t_rd rfl (rd_add64 h112 rfl rfl) ?_
    refine t_rd rfl (rd_cvu64 tH3 tI107 rfl) ?_
    obtain ⟨x114, h115, q116⟩ := ob q113; clear q113
    refine t_rd rfl (rd_shr_u64 h115 rfl rfl) ?_
    obtain ⟨x117, h118, q119⟩ := ob q116; clear q116
    refine t_rd rfl (rd_cv64 tH107 tI3 h118 rfl) ?_
    refine t_as rfl rfl (rwt_n (cw_seq ?_))
    obtain ⟨w133, he135⟩ : ∃ q, q = w102.drew := ⟨_, rfl⟩
    have hm134 := hm108.drew; rw [← he135] at hm134
    refine cw_region_s (fun q => q = w133) (cls [] [9]) mixed ?_
    rintro _ rfl; rw [← he135]
    refine s_rp (i := 0) rfl (by kernel_rfl) rfl (fun _ => (rd_move rfl)) ?_
    refine s_rp (i := 1) rfl (by kernel_rfl) rfl (fun _ => (rd_move rfl)) ?_
    refine s_rp (i := 2) rfl (by kernel_rfl) rfl (fun _ => (rd_move rfl)) ?_
    obtain ⟨x136, h137, q138⟩ := ob q119; clear q119
    refine s_rp (i := 3) rfl (by kernel_rfl) rfl (fun _ => (rd_index tS22 rfl rfl (hm134.sl 0 rfl) h137)) ?_
    refine s_rd (i := 4) rfl (by kernel_rfl) rfl (fun _ hS => by rw [hS]; exact (rd_ld1 tO3 rfl ((hm134.sl 0 rfl).cells h137) (off := 0) rfl)) rfl ?_
    refine s_rp (i := 5) rfl (by kernel_rfl) rfl (fun _ => (rd_move rfl)) ?_
    refine s_rp (i := 6) rfl (by kernel_rfl) rfl (fun _ => (rd_move rfl)) ?_
    obtain ⟨x139, h140, q141⟩ := ob q138; clear q138
    refine s_rp (i := 7) rfl (by kernel_rfl) rfl (fun _ => (rd_index tS22 rfl rfl (hm134.sl 0 rfl) h140)) ?_
    refine s_rd (i := 8) rfl (by kernel_rfl) rfl (fun _ hS => by rw [hS]; exact (rd_ld1 tO3 rfl ((hm134.sl 0 rfl).cells h140) (off := 0) rfl)) rfl ?_
    obtain ⟨r142, h143, q144⟩ := ob q141; clear q141
    refine s_ef (i := 9) rfl (by kernel_rfl) rfl (ef_callv tf109 rfl rfl (assign_order_1_ok h143 ((hn4.to_call hm134).sl))) (by decide) (fun _ _ _ q => absurd q (by decide)) ?_
    rintro _ w146 ⟨e_, hm145⟩
    obtain rfl := e_.symm
    have hm147 := hm134.call hm145
    refine s_rp (i := 10) rfl (by kernel_rfl) rfl (fun _ => (rd_lss rfl rfl)) ?_
    refine s_nil (by kernel_rfl) ?_
    refine qn_then ?_
    obtain ⟨hb148, q149⟩ | ⟨hb148, q149⟩ := oi q144 <;> clear q144
    ·refine cw_t rfl hb148 ?_
     refine cw_region ?_
     refine t_mv rfl rfl ?_
     obtain ⟨x150, h151, q152⟩ := ob q149; clear q149
     refine t_rd rfl (rd_add64 h151 rfl rfl) (t_as rfl rfl ?_)
     refine rwt_nil ?_
     refine qn_block (qn_then ?_)
     refine ⟨_, (os q152), (by repeat (first | exact Sub.nil _ | refine Sub.cons rfl ?_)), (hm147.pick [0] (by decide) rfl)⟩
    ·refine cw_f rfl hb148 ?_
     refine cw_region ?_
     refine t_mv rfl rfl (t_as rfl rfl ?_)
     refine rwt_nil ?_
     refine qn_block (qn_then ?_)
     refine ⟨_, (os q149), (by repeat (first | exact Sub.nil _ | refine Sub.cons rfl ?_)), (hm147.pick [0] (by decide) rfl)⟩
   ·refine cw_f rfl hb109 ?_
    refine cw_exit ?_
    refine qx_then (qx_then ?_)
    obtain rfl := hr104 _ (os q110)
    exact ⟨rfl, (by repeat (first | exact Sub.nil _ | refine Sub.cons rfl ?_)), (hm108.pick [0] (by decide) rfl)⟩
  ·skip
   intro e env153 w154 hX155
   obtain ⟨rfl, hs156, hm157⟩ := hX155
   refine qx_same (qn_then ?_)
   refine cw_sub hs156 ?_
   refine cw_seq (cw_sr (t_mv rfl rfl (t_as rfl rfl (rwt_n (cw_block ?_)))))
   obtain ⟨r281, hit282, q283⟩ := ob q107; clear q107
   refine cw_loop2 (I := fun q envq wq => Sub [(0, v0), (10, (Value.int .i64 r105)), (13, (Value.int .i64 q.1))] envq ∧ Mem w (ownL 3 v0 (a0 : List Int)).D [ownL 3 v0 (q.2 : List Int)] wq) (X := fun eq envq wq => eq = .exit 2 ∧ Sub [] envq ∧ Mem w (ownL 3 v0 (a0 : List Int)).D [ownL 3 v0 (r281 : List Int)] wq) hit282 ⟨(by repeat (first | exact Sub.nil _ | refine Sub.cons rfl ?_)), (hm157.pick [0] (by decide) rfl)⟩ ?_ ?_
   ·rintro ⟨i273, l274⟩ x276 env277 w278 hf279 hr280 ⟨hs_, hm_⟩
    have hs_ : Sub [(0, v0), (10, (Value.int .i64 r105)), (13, (Value.int .i64 i273))] env277 := hs_
    have hm284 : Mem w (ownL 3 v0 (a0 : List Int)).D [ownL 3 v0 (l274 : List Int)] w278 := hm_
    refine cw_sub hs_ ?_
    clear hs_ hm_ q283
    have h : g_slices_symMergeCmpFunc_int_l2 N r105 i273 l274 = some x276 := hf279
    clear hf279
    refine cw_seq (cw_sr (t_mv rfl rfl (t_mv rfl rfl ?_)))
    obtain ⟨x285, h286, q287⟩ := ob h; clear h
    refine t_rd rfl (rd_sub64 h286 rfl rfl) ?_
    refine t_rd rfl (rd_lss rfl rfl) (rwt_n ?_)
    obtain ⟨hb288, q289⟩ | ⟨hb288, q289⟩ := oi q287 <;> clear q287
    ·refine cw_t rfl hb288 (cw_skip (qn_then (cw_seq (cw_block ?_))))
     obtain ⟨w313, he315⟩ : ∃ q, q = w278.drew := ⟨_, rfl⟩
     have hm314 := hm284.drew; rw [← he315] at hm314
     refine cw_region_s (fun q => q = w313) (cls [] [15, 17]) mixed ?_
     rintro _ rfl; rw [← he315]
     refine s_rp (i := 0) rfl (by kernel_rfl) rfl (fun _ => (rd_move rfl)) ?_
     refine s_rp (i := 1) rfl (by kernel_rfl) rfl (fun _ => (rd_move rfl)) ?_
     refine s_rp (i := 2) rfl (by kernel_rfl) rfl (fun _ => (rd_move rfl)) ?_
     refine s_rp (i := 3) rfl (by kernel_rfl) rfl (fun _ => (rd_move rfl)) ?_
     obtain ⟨x316, h317, q318⟩ := ob q289; clear q289
     refine s_rp (i := 4) rfl (by kernel_rfl) rfl (fun _ => (rd_add64 h317 rfl rfl)) ?_
     refine s_rp (i := 5) rfl (by kernel_rfl) rfl (fun _ => (rd_move rfl)) ?_
     refine s_rp (i := 6) rfl (by kernel_rfl) rfl (fun _ => (rd_move rfl)) ?_
     obtain ⟨x319, h320, q321⟩ := ob q318; clear q318
     refine s_rp (i := 7) rfl (by kernel_rfl) rfl (fun _ => (rd_add64 h320 rfl rfl)) ?_
     obtain ⟨x322, h323, q324⟩ := ob q321; clear q321
     refine s_rp (i := 8) rfl (by kernel_rfl) rfl (fun _ => (rd_index tS22 rfl rfl (hm314.sl 0 rfl) h323)) ?_
     refine s_rd (i := 9) rfl (by kernel_rfl) rfl (fun _ hS => by rw [hS]; exact (rd_ld1 tO3 rfl ((hm314.sl 0 rfl).cells h323) (off := 0) rfl)) rfl ?_
     refine s_rp (i := 10) rfl (by kernel_rfl) rfl (fun _ => (rd_move rfl)) ?_
     refine s_rp (i := 11) rfl (by kernel_rfl) rfl (fun _ => (rd_move rfl)) ?_
     obtain ⟨x325, h326, q327⟩ := ob q324; clear q324
     refine s_rp (i := 12) rfl (by kernel_rfl) rfl (fun _ => (rd_index tS22 rfl rfl (hm314.sl 0 rfl) h326)) ?_
     refine s_rd (i := 13) rfl (by kernel_rfl) rfl (fun _ hS => by rw [hS]; exact (rd_ld1 tO3 rfl ((hm314.sl 0 rfl).cells h326) (off := 0) rfl)) rfl ?_
     obtain ⟨x328, h329, q330⟩ := ob q327; clear q327
     refine s_rp (i := 14) rfl (by kernel_rfl) rfl (fun _ => (rd_index tS22 rfl rfl (hm314.sl 0 rfl) h329)) ?_
     refine s_ef0 (i := 15) rfl (by kernel_rfl) (ef_stl (k := 0) (off := 0) (x' := x322) hm314 tO3 rfl rfl rfl rfl h329 rfl rfl) (by decide) (fun _ _ _ q => absurd q (by decide)) ?_
     intro _ w332 hm331
     obtain ⟨x333, h334, q335⟩ := ob q330; clear q330
     refine s_rp (i := 16) rfl (by kernel_rfl) rfl (fun _ => (rd_index tS22 rfl rfl (hm331.sl 0 rfl) h334)) ?_
     refine s_ef0 (i := 17) rfl (by kernel_rfl) (ef_stl (k := 0) (off := 0) (x' := x325) hm331 tO3 rfl rfl rfl rfl h334 rfl rfl) (by decide) (fun _ _ _ q => absurd q (by decide)) ?_
     intro _ w337 hm336
     refine s_nil (by kernel_rfl) ?_
     refine qn_block (qn_then ?_)
     refine cw_region ?_
     refine t_mv rfl rfl ?_
     obtain ⟨x338, h339, q340⟩ := ob q335; clear q335
     refine t_rd rfl (rd_add64 h339 rfl rfl) (t_as rfl rfl (rwt_n ?_))
     refine ⟨_, (os q340), (by repeat (first | exact Sub.nil _ | refine Sub.cons rfl ?_)), (hm336.pick [0] (by decide) rfl)⟩
    ·refine cw_f rfl hb288 ?_
     refine cw_exit ?_
     refine qx_then (qx_then ?_)
     obtain rfl := hr280 _ (os q289)
     exact ⟨rfl, (by repeat (first | exact Sub.nil _ | refine Sub.cons rfl ?_)), (hm284.pick [0] (by decide) rfl)⟩
   ·skip
    intro e env341 w342 hX343
    obtain ⟨rfl, hs344, hm345⟩ := hX343
    refine qx_same (qn_then ?_)
    refine cw_sub hs344 ?_
    refine cw_ret ?_
    refine qr_then ?_
    obtain rfl := os q283
    exact ret0 rfl ⟨rfl, (hm345.pick [0] (by decide) rfl)⟩
 ·refine cw_f rfl hb4 (cw_skip (qn_then (cw_seq (cw_sr (t_mv rfl rfl ?_)))))
  refine t_mv rfl rfl ?_
  obtain ⟨x346, h347, q348⟩ := ob q5; clear q5
  refine t_rd rfl (rd_sub64 h347 rfl rfl) ?_
  refine t_rd rfl (rd_eql rfl rfl) ?_
  refine rwt_n ?_
  obtain ⟨hb349, q350⟩ | ⟨hb349, q350⟩ := oi q348 <;> clear q348
  ·refine cw_t rfl hb349 (cw_sr (t_mv rfl rfl (t_as rfl rfl (rwt_n (cw_sr (t_mv rfl rfl ?_))))))
   refine t_as rfl rfl (rwt_n (cw_seq (cw_block ?_)))
   obtain ⟨r450, hit451, q452⟩ := ob q350; clear q350
   refine cw_loop2 (I := fun q envq wq => Sub [(0, v0), (2, (Value.int .i64 a2)), (4, (Value.func (.func 109) #[] #[(Value.pointer (some ⟨pB v4, pO v4, none⟩))])), (14, (Value.int .i64 q.1)), (15, (Value.int .i64 q.2))] envq ∧ Mem w (ownL 3 v0 (a0 : List Int)).D [ownL 3 v0 (a0 : List Int)] wq) (X := fun eq envq wq => eq = .exit 4 ∧ Sub [(0, v0), (2, (Value.int .i64 a2)), (14, (Value.int .i64 r450))] envq ∧ Mem w (ownL 3 v0 (a0 : List Int)).D [ownL 3 v0 (a0 : List Int)] wq) hit451 ⟨(by repeat (first | exact Sub.nil _ | refine Sub.cons rfl ?_)), (hm0.pick [0] (by decide) rfl)⟩ ?_ ?_
   ·rintro ⟨i442, i443⟩ x445 env446 w447 hf448 hr449 ⟨hs_, hm_⟩
    have hs_ : Sub [(0, v0), (2, (Value.int .i64 a2)), (4, (Value.func (.func 109) #[] #[(Value.pointer (some ⟨pB v4, pO v4, none⟩))])), (14, (Value.int .i64 i442)), (15, (Value.int .i64 i443))] env446 := hs_
    have hm453 : Mem w (ownL 3 v0 (a0 : List Int)).D [ownL 3 v0 (a0 : List Int)] w447 := hm_
    refine cw_sub hs_ ?_
    clear hs_ hm_ q452
    have h : g_slices_symMergeCmpFunc_int_l3 N a0 a2 a4 i442 i443 = some x445 := hf448
    clear hf448
    refine cw_seq (cw_sr (t_mv rfl rfl (t_mv rfl rfl (t_rd rfl (rd_lss rfl rfl) (rwt_n ?_)))))
    obtain ⟨hb454, q455⟩ | ⟨hb454, q455⟩ := oi h <;> clear h
    ·refine cw_t rfl hb454 (cw_skip (qn_then (cw_block (cw_sr (t_mv rfl rfl ?_)))))
     refine t_mv rfl rfl ?_
     obtain ⟨x456, h457, q458⟩ := ob q455; clear q455
     refine t_rd rfl (rd_add64 h457 rfl rfl) ?_
     refine t_rd rfl (rd_cvu64 tH3 tI107 rfl) ?_
     obtain ⟨x459, h460, q461⟩ := ob q458; clear q458
     refine t_rd rfl (rd_shr_u64 h460 rfl rfl) ?_
     obtain ⟨x462, h463, q464⟩ := ob q461; clear q461
     refine t_rd rfl (rd_cv64 tH107 tI3 h463 rfl) ?_
     refine t_as rfl rfl (rwt_n (cw_seq ?_))
     obtain ⟨w478, he480⟩ : ∃ q, q = w447.drew := ⟨_, rfl⟩
     have hm479 := hm453.drew; rw [← he480] at hm479
     refine cw_region_s (fun q => q = w478) (cls [] [9]) mixed ?_
     rintro _ rfl; rw [← he480]
     refine s_rp (i := 0) rfl (by kernel_rfl) rfl (fun _ => (rd_move rfl)) ?_
     refine s_rp (i := 1) rfl (by kernel_rfl) rfl (fun _ => (rd_move rfl)) ?_
     refine s_rp (i := 2) rfl (by kernel_rfl) rfl (fun _ => (rd_move rfl)) ?_
     obtain ⟨x481, h482, q483⟩ := ob q464; clear q464
     refine s_rp (i := 3) rfl (by kernel_rfl) rfl (fun _ => (rd_index tS22 rfl rfl (hm479.sl 0 rfl) h482)) ?_
     refine s_rd (i := 4) rfl (by kernel_rfl) rfl (fun _ hS => by rw [hS]; exact (rd_ld1 tO3 rfl ((hm479.sl 0 rfl).cells h482) (off := 0) rfl)) rfl ?_
     refine s_rp (i := 5) rfl (by kernel_rfl) rfl (fun _ => (rd_move rfl)) ?_
     refine s_rp (i := 6) rfl (by kernel_rfl) rfl (fun _ => (rd_move rfl)) ?_
     obtain ⟨x484, h485, q486⟩ := ob q483; clear q483
     refine s_rp (i := 7) rfl (by kernel_rfl) rfl (fun _ => (rd_index tS22 rfl rfl (hm479.sl 0 rfl) h485)) ?_
     refine s_rd (i := 8) rfl (by kernel_rfl) rfl (fun _ hS => by rw [hS]; exact (rd_ld1 tO3 rfl ((hm479.sl 0 rfl).cells h485) (off := 0) rfl)) rfl ?_
     obtain ⟨r487, h488, q489⟩ := ob q486; clear q486
     refine s_ef (i := 9) rfl (by kernel_rfl) rfl (ef_callv tf109 rfl rfl (assign_order_1_ok h488 ((hn4.to_call hm479).sl))) (by decide) (fun _ _ _ q => absurd q (by decide)) ?_
     rintro _ w491 ⟨e_, hm490⟩
     obtain rfl := e_.symm
     have hm492 := hm479.call hm490
     refine s_rp (i := 10) rfl (by kernel_rfl) rfl (fun _ => (rd_lss rfl rfl)) ?_
     refine s_rp (i := 11) rfl (by kernel_rfl) rfl (fun _ => (rd_not rfl)) ?_
     refine s_nil (by kernel_rfl) ?_
     refine qn_then ?_
     obtain ⟨hb493, q494⟩ | ⟨hb493, q494⟩ := oi q489 <;> clear q489
     ·refine cw_t rfl hb493 ?_
      refine cw_region ?_
      refine t_mv rfl rfl ?_
      obtain ⟨x495, h496, q497⟩ := ob q494; clear q494
      refine t_rd rfl (rd_add64 h496 rfl rfl) (t_as rfl rfl ?_)
      refine rwt_nil ?_
      refine qn_block (qn_then ?_)
      refine ⟨_, (os q497), (by repeat (first | exact Sub.nil _ | refine Sub.cons rfl ?_)), (hm492.pick [0] (by decide) rfl)⟩
     ·refine cw_f rfl hb493 ?_
      refine cw_region ?_
      refine t_mv rfl rfl (t_as rfl rfl ?_)
      refine rwt_nil ?_
      refine qn_block (qn_then ?_)
      refine ⟨_, (os q494), (by repeat (first | exact Sub.nil _ | refine Sub.cons rfl ?_)), (hm492.pick [0] (by decide) rfl)⟩
    ·refine cw_f rfl hb454 ?_
     refine cw_exit ?_
     refine qx_then (qx_then ?_)
     obtain rfl := hr449 _ (os q455)
     exact ⟨rfl, (by repeat (first | exact Sub.nil _ | refine Sub.cons rfl ?_)), (hm453.pick [0] (by decide) rfl)⟩
   ·skip
    intro e env498 w499 hX500
    obtain ⟨rfl, hs501, hm502⟩ := hX500
    refine qx_same (qn_then ?_)
    refine cw_sub hs501 ?_
    refine cw_seq (cw_sr (t_mv rfl rfl (t_as rfl rfl (rwt_n (cw_block ?_)))))
    obtain ⟨r620, hit621, q622⟩ := ob q452; clear q452
    refine cw_loop2 (I := fun q envq wq => Sub [(0, v0), (14, (Value.int .i64 r450)), (17, (Value.int .i64 q.1))] envq ∧ Mem w (ownL 3 v0 (a0 : List Int)).D [ownL 3 v0 (q.2 : List Int)] wq) (X := fun eq envq wq => eq = .exit 6 ∧ Sub [] envq ∧ Mem w (ownL 3 v0 (a0 : List Int)).D [ownL 3 v0 (r620 : List Int)] wq) hit621 ⟨(by repeat (first | exact Sub.nil _ | refine Sub.cons rfl ?_)), (hm502.pick [0] (by decide) rfl)⟩ ?_ ?_
    ·rintro ⟨i612, l613⟩ x615 env616 w617 hf618 hr619 ⟨hs_, hm_⟩
     have hs_ : Sub [(0, v0), (14, (Value.int .i64 r450)), (17, (Value.int .i64 i612))] env616 := hs_
     have hm623 : Mem w (ownL 3 v0 (a0 : List Int)).D [ownL 3 v0 (l613 : List Int)] w617 := hm_
     refine cw_sub hs_ ?_
     clear hs_ hm_ q622
     have h : g_slices_symMergeCmpFunc_int_l4 N r450 i612 l613 = some x615 := hf618
     clear hf618
     refine cw_seq (cw_sr (t_mv rfl rfl (t_mv rfl rfl ?_)))
     refine t_rd rfl (rd_gtr rfl rfl) ?_
     refine rwt_n ?_
     obtain ⟨hb624, q625⟩ | ⟨hb624, q625⟩ := oi h <;> clear h
     ·refine cw_t rfl hb624 (cw_skip (qn_then (cw_seq (cw_block ?_))))
      obtain ⟨w649, he651⟩ : ∃ q, q = w617.drew := ⟨_, rfl⟩
      have hm650 := hm623.drew; rw [← he651] at hm650
      refine cw_region_s (fun q => q = w649) (cls [] [15, 17]) mixed ?_
      rintro _ rfl; rw [← he651]
      refine s_rp (i := 0) rfl (by kernel_rfl) rfl (fun _ => (rd_move rfl)) ?_
      refine s_rp (i := 1) rfl (by kernel_rfl) rfl (fun _ => (rd_move rfl)) ?_
      refine s_rp (i := 2) rfl (by kernel_rfl) rfl (fun _ => (rd_move rfl)) ?_
      refine s_rp (i := 3) rfl (by kernel_rfl) rfl (fun _ => (rd_move rfl)) ?_
      obtain ⟨x652, h653, q654⟩ := ob q625; clear q625
      refine s_rp (i := 4) rfl (by kernel_rfl) rfl (fun _ => (rd_sub64 h653 rfl rfl)) ?_
      refine s_rp (i := 5) rfl (by kernel_rfl) rfl (fun _ => (rd_move rfl)) ?_
      refine s_rp (i := 6) rfl (by kernel_rfl) rfl (fun _ => (rd_move rfl)) ?_
      obtain ⟨x655, h656, q657⟩ := ob q654; clear q654
      refine s_rp (i := 7) rfl (by kernel_rfl) rfl (fun _ => (rd_sub64 h656 rfl rfl)) ?_
      obtain ⟨x658, h659, q660⟩ := ob q657; clear q657
      refine s_rp (i := 8) rfl (by kernel_rfl) rfl (fun _ => (rd_index tS22 rfl rfl (hm650.sl 0 rfl) h659)) ?_
      refine s_rd (i := 9) rfl (by kernel_rfl) rfl (fun _ hS => by rw [hS]; exact (rd_ld1 tO3 rfl ((hm650.sl 0 rfl).cells h659) (off := 0) rfl)) rfl ?_
      refine s_rp (i := 10) rfl (by kernel_rfl) rfl (fun _ => (rd_move rfl)) ?_
      refine s_rp (i := 11) rfl (by kernel_rfl) rfl (fun _ => (rd_move rfl)) ?_
      obtain ⟨x661, h662, q663⟩ := ob q660; clear q660
      refine s_rp (i := 12) rfl (by kernel_rfl) rfl (fun _ => (rd_index tS22 rfl rfl (hm650.sl 0 rfl) h662)) ?_
      refine s_rd (i := 13) rfl (by kernel_rfl) rfl (fun _ hS => by rw [hS]; exact (rd_ld1 tO3 rfl ((hm650.sl 0 rfl).cells h662) (off := 0) rfl)) rfl ?_
      obtain ⟨x664, h665, q666⟩ := ob q663; clear q663
      refine s_rp (i := 14) rfl (by kernel_rfl) rfl (fun _ => (rd_index tS22 rfl rfl (hm650.sl 0 rfl) h665)) ?_
      refine s_ef0 (i := 15) rfl (by kernel_rfl) (ef_stl (k := 0) (off := 0) (x' := x658) hm650 tO3 rfl rfl rfl rfl h665 rfl rfl) (by decide) (fun _ _ _ q => absurd q (by decide)) ?_
      intro _ w668 hm667
      obtain ⟨x669, h670, q671⟩ := ob q666; clear q666
      refine s_rp (i := 16) rfl (by kernel_rfl) rfl (fun _ => (rd_index tS22 rfl rfl (hm667.sl 0 rfl) h670)) ?_
      refine s_ef0 (i := 17) rfl (by kernel_rfl) (ef_stl (k := 0) (off := 0) (x' := x661) hm667 tO3 rfl rfl rfl rfl h670 rfl rfl) (by decide) (fun _ _ _ q => absurd q (by decide)) ?_
      intro _ w673 hm672
      refine s_nil (by kernel_rfl) ?_
      refine qn_block (qn_then ?_)
      refine cw_region ?_
      refine t_mv rfl rfl ?_
      obtain ⟨x674, h675, q676⟩ := ob q671; clear q671
      refine t_rd rfl (rd_sub64 h675 rfl rfl) ?_
      refine t_as rfl rfl (rwt_n ?_)
      refine ⟨_, (os q676), (by repeat (first | exact Sub.nil _ | refine Sub.cons rfl ?_)), (hm672.pick [0] (by decide) rfl)⟩
     ·refine cw_f rfl hb624 ?_
      refine cw_exit ?_
      refine qx_then (qx_then ?_)
      obtain rfl := hr619 _ (os q625)
      exact ⟨rfl, (by repeat (first | exact Sub.nil _ | refine Sub.cons rfl ?_)), (hm623.pick [0] (by decide) rfl)⟩
    ·skip
     intro e env677 w678 hX679
     obtain ⟨rfl, hs680, hm681⟩ := hX679
     refine qx_same (qn_then ?_)
     refine cw_sub hs680 ?_
     refine cw_ret ?_
     refine qr_then ?_
     obtain rfl := os q622
     exact ret0 rfl ⟨rfl, (hm681.pick [0] (by decide) rfl)⟩
  ·refine cw_f rfl hb349 (cw_skip (qn_then (cw_sr (t_mv rfl rfl (t_mv rfl rfl ?_)))))
   obtain ⟨x682, h683, q684⟩ := ob q350; clear q350
   refine t_rd rfl (rd_add64 h683 rfl rfl) ?_
   refine t_rd rfl (rd_cvu64 tH3 tI107 rfl) ?_
   obtain ⟨x685, h686, q687⟩ := ob q684; clear q684
   refine t_rd rfl (rd_shr_u64 h686 rfl rfl) ?_
   obtain ⟨x688, h689, q690⟩ := ob q687; clear q687
   refine t_rd rfl (rd_cv64 tH107 tI3 h689 rfl) ?_
   refine t_as rfl rfl (rwt_n (cw_sr (t_mv rfl rfl (t_mv rfl rfl ?_))))
   obtain ⟨x691, h692, q693⟩ := ob q690; clear q690
   refine t_rd rfl (rd_add64 h692 rfl rfl) (t_as rfl rfl (rwt_n (cw_sr (t_as rfl rfl (t_as rfl rfl (rwt_n ?_))))))
   refine cw_seq (cw_sr (t_mv rfl rfl (t_mv rfl rfl ?_)))
   refine t_rd rfl (rd_gtr rfl rfl) ?_
   refine rwt_n ?_
   obtain ⟨j701, hit702, q703⟩ := ob q693; clear q693
   refine cw_join (X := fun eq envq wq => eq = .normal ∧ Sub [(0, v0), (1, (Value.int .i64 a1)), (2, (Value.int .i64 a2)), (3, (Value.int .i64 a3)), (4, (Value.func (.func 109) #[] #[(Value.pointer (some ⟨pB v4, pO v4, none⟩))])), (18, (Value.int .i64 x688)), (19, (Value.int .i64 x691)), (20, (Value.int .i64 j701.1)), (21, (Value.int .i64 j701.2))] envq ∧ Mem w (ownL 3 v0 (a0 : List Int)).D [ownL 3 v0 (a0 : List Int)] wq) ?_ ?_
   ·clear q703
    obtain ⟨hb704, q705⟩ | ⟨hb704, q705⟩ := oi hit702 <;> clear hit702
    ·refine cw_t rfl hb704 (cw_sr (t_mv rfl rfl (t_mv rfl rfl ?_)))
     obtain ⟨x706, h707, q708⟩ := ob q705; clear q705
     refine t_rd rfl (rd_sub64 h707 rfl rfl) ?_
     refine t_as rfl rfl (rwt_n ?_)
     refine cw_region ?_
     refine t_mv rfl rfl (t_as rfl rfl ?_)
     refine rwt_nil ?_
     obtain rfl := os q708
     exact ⟨rfl, (by repeat (first | exact Sub.nil _ | refine Sub.cons rfl ?_)), (hm0.pick [0] (by decide) rfl)⟩
    ·refine cw_f rfl hb704 (cw_sr (t_mv rfl rfl (t_as rfl rfl (rwt_n ?_))))
     refine cw_region ?_
     refine t_mv rfl rfl (t_as rfl rfl ?_)
     refine rwt_nil ?_
     obtain rfl := os q705
     exact ⟨rfl, (by repeat (first | exact Sub.nil _ | refine Sub.cons rfl ?_)), (hm0.pick [0] (by decide) rfl)⟩
   ·clear hit702
    intro e env709 w710 hX711
    obtain ⟨rfl, hs712, hm713⟩ := hX711
    refine qn_then ?_
    refine cw_sub hs712 ?_
    refine cw_sr (t_mv rfl rfl ?_)
    obtain ⟨x714, h715, q716⟩ := ob q703; clear q703
    refine t_rd rfl (rd_sub64 h715 rfl rfl) ?_
    refine t_as rfl rfl (rwt_n (cw_seq (cw_block ?_)))
    obtain ⟨r828, hit829, q830⟩ := ob q716; clear q716
    refine cw_loop2 (I := fun q envq wq => Sub [(0, v0), (1, (Value.int .i64 a1)), (2, (Value.int .i64 a2)), (3, (Value.int .i64 a3)), (4, (Value.func (.func 109) #[] #[(Value.pointer (some ⟨pB v4, pO v4, none⟩))])), (18, (Value.int .i64 x688)), (19, (Value.int .i64 x691)), (20, (Value.int .i64 q.1)), (21, (Value.int .i64 q.2)), (22, (Value.int .i64 x714))] envq ∧ Mem w (ownL 3 v0 (a0 : List Int)).D [ownL 3 v0 (a0 : List Int)] wq) (X := fun eq envq wq => eq = .exit 8 ∧ Sub [(0, v0), (1, (Value.int .i64 a1)), (2, (Value.int .i64 a2)), (3, (Value.int .i64 a3)), (4, (Value.func (.func 109) #[] #[(Value.pointer (some ⟨pB v4, pO v4, none⟩))])), (18, (Value.int .i64 x688)), (19, (Value.int .i64 x691)), (20, (Value.int .i64 r828))] envq ∧ Mem w (ownL 3 v0 (a0 : List Int)).D [ownL 3 v0 (a0 : List Int)] wq) hit829 ⟨(by repeat (first | exact Sub.nil _ | refine Sub.cons rfl ?_)), (hm713.pick [0] (by decide) rfl)⟩ ?_ ?_
    ·rintro ⟨i820, i821⟩ x823 env824 w825 hf826 hr827 ⟨hs_, hm_⟩
     have hs_ : Sub [(0, v0), (1, (Value.int .i64 a1)), (2, (Value.int .i64 a2)), (3, (Value.int .i64 a3)), (4, (Value.func (.func 109) #[] #[(Value.pointer (some ⟨pB v4, pO v4, none⟩))])), (18, (Value.int .i64 x688)), (19, (Value.int .i64 x691)), (20, (Value.int .i64 i820)), (21, (Value.int .i64 i821)), (22, (Value.int .i64 x714))] env824 := hs_
     have hm831 : Mem w (ownL 3 v0 (a0 : List Int)).D [ownL 3 v0 (a0 : List Int)] w825 := hm_
     refine cw_sub hs_ ?_
     clear hs_ hm_ q830
     have h : g_slices_symMergeCmpFunc_int_l5 N a0 a4 x714 i820 i821 = some x823 := hf826
     clear hf826
     refine cw_seq (cw_sr (t_mv rfl rfl (t_mv rfl rfl (t_rd rfl (rd_lss rfl rfl) (rwt_n ?_)))))
     obtain ⟨hb832, q833⟩ | ⟨hb832, q833⟩ := oi h <;> clear h
     ·refine cw_t rfl hb832 (cw_skip (qn_then (cw_block (cw_sr (t_mv rfl rfl ?_)))))
      refine t_mv rfl rfl ?_
      obtain ⟨x834, h835, q836⟩ := ob q833; clear q833
      refine t_rd rfl (rd_add64 h835 rfl rfl) ?_
      refine t_rd rfl (rd_cvu64 tH3 tI107 rfl) ?_
      obtain ⟨x837, h838, q839⟩ := ob q836; clear q836
      refine t_rd rfl (rd_shr_u64 h838 rfl rfl) ?_
      obtain ⟨x840, h841, q842⟩ := ob q839; clear q839
      refine t_rd rfl (rd_cv64 tH107 tI3 h841 rfl) ?_
      refine t_as rfl rfl (rwt_n (cw_seq ?_))
      obtain ⟨w859, he861⟩ : ∃ q, q = w825.drew := ⟨_, rfl⟩
      have hm860 := hm831.drew; rw [← he861] at hm860
      refine cw_region_s (fun q => q = w859) (cls [] [11]) mixed ?_
      rintro _ rfl; rw [← he861]
      refine s_rp (i := 0) rfl (by kernel_rfl) rfl (fun _ => (rd_move rfl)) ?_
      refine s_rp (i := 1) rfl (by kernel_rfl) rfl (fun _ => (rd_move rfl)) ?_
      refine s_rp (i := 2) rfl (by kernel_rfl) rfl (fun _ => (rd_move rfl)) ?_
      refine s_rp (i := 3) rfl (by kernel_rfl) rfl (fun _ => (rd_move rfl)) ?_
      obtain ⟨x862, h863, q864⟩ := ob q842; clear q842
      refine s_rp (i := 4) rfl (by kernel_rfl) rfl (fun _ => (rd_sub64 h863 rfl rfl)) ?_
      obtain ⟨x865, h866, q867⟩ := ob q864; clear q864
      refine s_rp (i := 5) rfl (by kernel_rfl) rfl (fun _ => (rd_index tS22 rfl rfl (hm860.sl 0 rfl) h866)) ?_
      refine s_rd (i := 6) rfl (by kernel_rfl) rfl (fun _ hS => by rw [hS]; exact (rd_ld1 tO3 rfl ((hm860.sl 0 rfl).cells h866) (off := 0) rfl)) rfl ?_
      refine s_rp (i := 7) rfl (by kernel_rfl) rfl (fun _ => (rd_move rfl)) ?_
      refine s_rp (i := 8) rfl (by kernel_rfl) rfl (fun _ => (rd_move rfl)) ?_
      obtain ⟨x868, h869, q870⟩ := ob q867; clear q867
      refine s_rp (i := 9) rfl (by kernel_rfl) rfl (fun _ => (rd_index tS22 rfl rfl (hm860.sl 0 rfl) h869)) ?_
      refine s_rd (i := 10) rfl (by kernel_rfl) rfl (fun _ hS => by rw [hS]; exact (rd_ld1 tO3 rfl ((hm860.sl 0 rfl).cells h869) (off := 0) rfl)) rfl ?_
      obtain ⟨r871, h872, q873⟩ := ob q870; clear q870
      refine s_ef (i := 11) rfl (by kernel_rfl) rfl (ef_callv tf109 rfl rfl (assign_order_1_ok h872 ((hn4.to_call hm860).sl))) (by decide) (fun _ _ _ q => absurd q (by decide)) ?_
      rintro _ w875 ⟨e_, hm874⟩
      obtain rfl := e_.symm
      have hm876 := hm860.call hm874
      refine s_rp (i := 12) rfl (by kernel_rfl) rfl (fun _ => (rd_lss rfl rfl)) ?_
      refine s_rp (i := 13) rfl (by kernel_rfl) rfl (fun _ => (rd_not rfl)) ?_
      refine s_nil (by kernel_rfl) ?_
      refine qn_then ?_
      obtain ⟨hb877, q878⟩ | ⟨hb877, q878⟩ := oi q873 <;> clear q873
      ·refine cw_t rfl hb877 ?_
       refine cw_region ?_
       refine t_mv rfl rfl ?_
       obtain ⟨x879, h880, q881⟩ := ob q878; clear q878
       refine t_rd rfl (rd_add64 h880 rfl rfl) (t_as rfl rfl ?_)
       refine rwt_nil ?_
       refine qn_block (qn_then ?_)
       refine ⟨_, (os q881), (by repeat (first | exact Sub.nil _ | refine Sub.cons rfl ?_)), (hm876.pick [0] (by decide) rfl)⟩
      ·refine cw_f rfl hb877 ?_
       refine cw_region ?_
       refine t_mv rfl rfl (t_as rfl rfl ?_)
       refine rwt_nil ?_
       refine qn_block (qn_then ?_)
       refine ⟨_, (os q878), (by repeat (first | exact Sub.nil _ | refine Sub.cons rfl ?_)), (hm876.pick [0] (by decide) rfl)⟩
     ·refine cw_f rfl hb832 ?_
      refine cw_exit ?_
      refine qx_then (qx_then ?_)
      obtain rfl := hr827 _ (os q833)
      exact ⟨rfl, (by repeat (first | exact Sub.nil _ | refine Sub.cons rfl ?_)), (hm831.pick [0] (by decide) rfl)⟩
    ·skip
     intro e env882 w883 hX884
     obtain ⟨rfl, hs885, hm886⟩ := hX884
     refine qx_same (qn_then ?_)
     refine cw_sub hs885 ?_
     refine cw_sr (t_mv rfl rfl (t_mv rfl rfl ?_))
     obtain ⟨x887, h888, q889⟩ := ob q830; clear q830
     refine t_rd rfl (rd_sub64 h888 rfl rfl) ?_
     refine t_as rfl rfl (rwt_n (cw_seq (cw_sr (t_mv rfl rfl (t_mv rfl rfl ?_)))))
     refine t_rd rfl (rd_lss rfl rfl) (t_mv rfl rfl ?_)
     refine t_rdg rfl rfl rfl rfl (gv_t _) (fun hg890 => (rd_move rfl)) ?_
     refine t_rdg rfl rfl rfl rfl (gv_t _) (fun hg891 => (rd_move rfl)) ?_
     refine t_rdg rfl rfl rfl rfl (gv_t _) (fun hg892 => (rd_lss (gvx rfl hg892) (gvx rfl hg892))) ?_
     refine t_rd rfl (rd_and rfl (fun hc893 => (gvx rfl hc893))) ?_
     refine rwt_n ?_
     obtain ⟨j903, hit904, q905⟩ := ob q889; clear q889
     refine cw_join (X := fun eq envq wq => eq = .normal ∧ Sub [(0, v0), (1, (Value.int .i64 a1)), (3, (Value.int .i64 a3)), (4, (Value.func (.func 109) #[] #[(Value.pointer (some ⟨pB v4, pO v4, none⟩))])), (18, (Value.int .i64 x688)), (20, (Value.int .i64 r828)), (24, (Value.int .i64 x887))] envq ∧ Mem w (ownL 3 v0 (a0 : List Int)).D [ownL 3 v0 (j903 : List Int)] wq) ?_ ?_
     ·clear q905
      obtain ⟨hb906, q907⟩ | ⟨hb906, q907⟩ := oi hit904 <;> clear hit904
      ·refine cw_t rfl hb906 ?_
       refine cw_region ?_
       refine t_mv rfl rfl (t_mv rfl rfl (t_mv rfl rfl (t_mv rfl rfl (t_mv rfl rfl ?_))))
       obtain ⟨r908, h909, q910⟩ := ob q907; clear q907
       refine t_ef rfl (ef_call tf144 rfl (g_slices_rotateCmpFunc_int_ok h909 (hm886.get (k := 0) rfl) ((hn4.to_callT (k := 0) hm886 rfl).sl))) ?_
       rintro _ w912 ⟨e_, hm911⟩
       obtain rfl := e_.symm
       have hm913 := hm886.callT (k := 0) rfl (fun _ h => h) hm911 (fun _ => Iff.rfl)
       refine rwt_nil ?_
       obtain rfl := os q910
       exact ⟨rfl, (by repeat (first | exact Sub.nil _ | refine Sub.cons rfl ?_)), (hm913.pick [0] (by decide) rfl)⟩
      ·refine cw_f rfl hb906 (cw_skip ?_)
       obtain rfl := os q907
       exact ⟨rfl, (by repeat (first | exact Sub.nil _ | refine Sub.cons rfl ?_)), (hm886.pick [0] (by decide) rfl)⟩
     ·clear hit904
      intro e env914 w915 hX916
      obtain ⟨rfl, hs917, hm918⟩ := hX916
      refine qn_then ?_
      refine cw_sub hs917 ?_
      refine cw_seq (cw_sr (t_mv rfl rfl (t_mv rfl rfl (t_rd rfl (rd_lss rfl rfl) (t_mv rfl rfl ?_)))))
      refine t_rdg rfl rfl rfl rfl (gv_t _) (fun hg919 => (rd_move rfl)) ?_
      refine t_rdg rfl rfl rfl rfl (gv_t _) (fun hg920 => (rd_move rfl)) ?_
      refine t_rdg rfl rfl rfl rfl (gv_t _) (fun hg921 => (rd_lss (gvx rfl hg921) (gvx rfl hg921))) ?_
      refine t_rd rfl (rd_and rfl (fun hc922 => (gvx rfl hc922))) ?_
      refine rwt_n ?_
      obtain ⟨j932, hit933, q934⟩ := ob q905; clear q905
      refine cw_join (X := fun eq envq wq => eq = .normal ∧ Sub [(0, v0), (3, (Value.int .i64 a3)), (4, (Value.func (.func 109) #[] #[(Value.pointer (some ⟨pB v4, pO v4, none⟩))])), (18, (Value.int .i64 x688)), (24, (Value.int .i64 x887))] envq ∧ Mem w (ownL 3 v0 (a0 : List Int)).D [ownL 3 v0 (j932 : List Int)] wq) ?_ ?_
      ·clear q934
       obtain ⟨hb935, q936⟩ | ⟨hb935, q936⟩ := oi hit933 <;> clear hit933
       ·refine cw_t rfl hb935 ?_
        refine cw_region ?_
        refine t_mv rfl rfl (t_mv rfl rfl (t_mv rfl rfl (t_mv rfl rfl (t_mv rfl rfl ?_))))
        obtain ⟨r937, h938, q939⟩ := ob q936; clear q936
        refine t_ef rfl (ef_call tf138 rfl (ih h938 (hm918.get (k := 0) rfl) ((hn4.to_callT (k := 0) hm918 rfl).sl))) ?_
        rintro _ w941 ⟨e_, hm940⟩
        obtain rfl := e_.symm
        have hm942 := hm918.callT (k := 0) rfl (fun _ h => h) hm940 (fun _ => Iff.rfl)
        refine rwt_nil ?_
        obtain rfl := os q939
        exact ⟨rfl, (by repeat (first | exact Sub.nil _ | refine Sub.cons rfl ?_)), (hm942.pick [0] (by decide) rfl)⟩
       ·refine cw_f rfl hb935 (cw_skip ?_)
        obtain rfl := os q936
        exact ⟨rfl, (by repeat (first | exact Sub.nil _ | refine Sub.cons rfl ?_)), (hm918.pick [0] (by decide) rfl)⟩
      ·clear hit933
       intro e env943 w944 hX945
       obtain ⟨rfl, hs946, hm947⟩ := hX945
       refine qn_then ?_
       refine cw_sub hs946 ?_
       refine cw_sr (t_mv rfl rfl (t_mv rfl rfl (t_rd rfl (rd_lss rfl rfl) (t_mv rfl rfl ?_))))
       refine t_rdg rfl rfl rfl rfl (gv_t _) (fun hg948 => (rd_move rfl)) ?_
       refine t_rdg rfl rfl rfl rfl (gv_t _) (fun hg949 => (rd_move rfl)) ?_
       refine t_rdg rfl rfl rfl rfl (gv_t _) (fun hg950 => (rd_lss (gvx rfl hg950) (gvx rfl hg950))) ?_
       refine t_rd rfl (rd_and rfl (fun hc951 => (gvx rfl hc951))) ?_
       refine rwt_n ?_
       obtain ⟨hb952, q953⟩ | ⟨hb952, q953⟩ := oi q934 <;> clear q934
       ·refine cw_t rfl hb952 ?_
        refine cw_region ?_
        refine t_mv rfl rfl (t_mv rfl rfl (t_mv rfl rfl (t_mv rfl rfl (t_mv rfl rfl ?_))))
        obtain ⟨r954, h955, q956⟩ := ob q953; clear q953
        refine t_ef rfl (ef_call tf138 rfl (ih h955 (hm947.get (k := 0) rfl) ((hn4.to_callT (k := 0) hm947 rfl).sl))) ?_
        rintro _ w958 ⟨e_, hm957⟩
        obtain rfl := e_.symm
        have hm959 := hm947.callT (k := 0) rfl (fun _ h => h) hm957 (fun _ => Iff.rfl)
        refine rwt_nil ?_
        obtain rfl := os q956
        refine retn ?_
        exact ret0 rfl ⟨rfl, (hm959.pick [0] (by decide) rfl)⟩
       ·refine cw_f rfl hb952 (cw_skip ?_)
        obtain rfl := os q953
        refine retn ?_
        exact ret0 rfl ⟨rfl, (hm947.pick [0] (by decide) rfl)⟩

theorem g_slices_symMergeCmpFunc_int_ok {N : Nat} {a0 : List Int} {a1 : Int} {a2 : Int} {a3 : Int} {a4 : List (List Int)} {res : List Int} (h : g_slices_symMergeCmpFunc_int N a0 a1 a2 a3 a4 = some res) {w : World} {v0 : Value} {v4 : Value} (hk0 : (ownL 3 v0 (a0 : List Int)).φ w) (hv4 : Sl (Old w (ownL 3 v0 (a0 : List Int)).D) w v4 a4) :
  CallsR Tryz.prog 138 [v0, (Value.int .i64 a1), (Value.int .i64 a2), (Value.int .i64 a3), (Value.func (.func 109) #[] #[(Value.pointer (some ⟨pB v4, pO v4, none⟩))])] w (fun u w' => u = (Value.tuple #[]) ∧ Mem w (ownL 3 v0 (a0 : List Int)).D [ownL 3 v0 (res : List Int)] w') := g_slices_symMergeCmpFunc_int_r_ok N h hk0 hv4

theorem g_slices_stableCmpFunc_int_ok {N : Nat} {a0 : List Int} {a1 : Int} {a2 : List (List Int)} {res : List Int} (h : g_slices_stableCmpFunc_int N a0 a1 a2 = some res) {w : World} {v0 : Value} {v2 : Value} (hk0 : (ownL 3 v0 (a0 : List Int)).φ w) (hv2 : Sl (Old w (ownL 3 v0 (a0 : List Int)).D) w v2 a2) :
  CallsR Tryz.prog 122 [v0, (Value.int .i64 a1), (Value.func (.func 109) #[] #[(Value.pointer (some ⟨pB v2, pO v2, none⟩))])] w (fun u w' => u = (Value.tuple #[]) ∧ Mem w (ownL 3 v0 (a0 : List Int)).D [ownL 3 v0 (res : List Int)] w') := by
 unfold g_slices_stableCmpFunc_int at h
 refine fn_ok Tryz.func122 rfl rfl rfl ?_
 obtain ⟨zs_a2, hn2⟩ := hv2.nest
 have hm0 := Mem.one hk0
 refine cw_sr (t_as rfl rfl (rwt_n (cw_sr (t_mv rfl rfl (t_as rfl rfl (t_as rfl rfl ?_))))))
 refine rwt_n (cw_seq (cw_block ?_))
 obtain ⟨r37, hit38, q39⟩ := ob h; clear h
 refine cw_loop2 (I := fun q envq wq => Sub [(0, v0), (1, (Value.int .i64 a1)), (2, (Value.func (.func 109) #[] #[(Value.pointer (some ⟨pB v2, pO v2, none⟩))])), (6, (Value.int .i64 20)), (7, (Value.int .i64 q.1)), (8, (Value.int .i64 q.2.1))] envq ∧ Mem w (ownL 3 v0 (a0 : List Int)).D [ownL 3 v0 (q.2.2 : List Int)] wq) (X := fun eq envq wq => eq = .exit 0 ∧ Sub [(0, v0), (1, (Value.int .i64 a1)), (2, (Value.func (.func 109) #[] #[(Value.pointer (some ⟨pB v2, pO v2, none⟩))])), (6, (Value.int .i64 20)), (7, (Value.int .i64 r37.1))] envq ∧ Mem w (ownL 3 v0 (a0 : List Int)).D [ownL 3 v0 (r37.2 : List Int)] wq) hit38 ⟨(by repeat (first | exact Sub.nil _ | refine Sub.cons rfl ?_)), (hm0.pick [0] (by decide) rfl)⟩ ?_ ?_
 ·rintro ⟨i28, i29, l30⟩ x32 env33 w34 hf35 hr36 ⟨hs_, hm_⟩
  have hs_ : Sub [(0, v0), (1, (Value.int .i64 a1)), (2, (Value.func (.func 109) #[] #[(Value.pointer (some ⟨pB v2, pO v2, none⟩))])), (6, (Value.int .i64 20)), (7, (Value.int .i64 i28)), (8, (Value.int .i64 i29))] env33 := hs_
  have hm40 : Mem w (ownL 3 v0 (a0 : List Int)).D [ownL 3 v0 (l30 : List Int)] w34 := hm_
  refine cw_sub hs_ ?_
  clear hs_ hm_ q39
  have h : g_slices_stableCmpFunc_int_l1 N a1 a2 i28 i29 l30 = some x32 := hf35
  clear hf35
  refine cw_seq (cw_sr (t_mv rfl rfl (t_mv rfl rfl ?_)))
  refine t_rd rfl (rd_leq rfl rfl) ?_
  refine rwt_n ?_
  obtain ⟨hb41, q42⟩ | ⟨hb41, q42⟩ := oi h <;> clear h
  ·refine cw_t rfl hb41 (cw_skip (qn_then (cw_block (cw_sr (t_mv rfl rfl ?_)))))
   refine t_mv rfl rfl (t_mv rfl rfl (t_mv rfl rfl ?_))
   obtain ⟨r43, h44, q45⟩ := ob q42; clear q42
   refine t_ef rfl (ef_call tf111 rfl (g_slices_insertionSortCmpFunc_int_ok h44 (hm40.get (k := 0) rfl) ((hn2.to_callT (k := 0) hm40 rfl).sl))) ?_
   rintro _ w47 ⟨e_, hm46⟩
   obtain rfl := e_.symm
   have hm48 := hm40.callT (k := 0) rfl (fun _ h => h) hm46 (fun _ => Iff.rfl)
   refine rwt_n (cw_sr (t_mv rfl rfl (t_as rfl rfl (rwt_n ?_))))
   refine cw_region ?_
   refine t_mv rfl rfl (t_mv rfl rfl ?_)
   obtain ⟨x49, h50, q51⟩ := ob q45; clear q45
   refine t_rd rfl (rd_add64 h50 rfl rfl) (t_as rfl rfl ?_)
   refine rwt_nil ?_
   refine qn_block (qn_then ?_)
   refine ⟨_, (os q51), (by repeat (first | exact Sub.nil _ | refine Sub.cons rfl ?_)), (hm48.pick [0] (by decide) rfl)⟩
  ·refine cw_f rfl hb41 ?_
   refine cw_exit ?_
   refine qx_then (qx_then ?_)
   obtain rfl := hr36 _ (os q42)
   exact ⟨rfl, (by repeat (first | exact Sub.nil _ | refine Sub.cons rfl ?_)), (hm40.pick [0] (by decide) rfl)⟩
 ·skip
  intro e env52 w53 hX54
  obtain ⟨rfl, hs55, hm56⟩ := hX54
  refine qx_same (qn_then ?_)
  refine cw_sub hs55 ?_
  refine cw_sr (t_mv rfl rfl (t_mv rfl rfl (t_mv rfl rfl (t_mv rfl rfl ?_))))
  obtain ⟨r57, h58, q59⟩ := ob q39; clear q39
  refine t_ef rfl (ef_call tf111 rfl (g_slices_insertionSortCmpFunc_int_ok h58 (hm56.get (k := 0) rfl) ((hn2.to_callT (k := 0) hm56 rfl).sl))) ?_
  rintro _ w61 ⟨e_, hm60⟩
  obtain rfl := e_.symm
  have hm62 := hm56.callT (k := 0) rfl (fun _ h => h) hm60 (fun _ => Iff.rfl)
  refine rwt_n (cw_block ?_)
  obtain ⟨r266, hit267, q268⟩ := ob q59; clear q59
  refine cw_loop2 (I := fun q envq wq => Sub [(0, v0), (1, (Value.int .i64 a1)), (2, (Value.func (.func 109) #[] #[(Value.pointer (some ⟨pB v2, pO v2, none⟩))])), (6, (Value.int .i64 q.1))] envq ∧ Mem w (ownL 3 v0 (a0 : List Int)).D [ownL 3 v0 (q.2 : List Int)] wq) (X := fun eq envq wq => eq = .exit 2 ∧ Sub [] envq ∧ Mem w (ownL 3 v0 (a0 : List Int)).D [ownL 3 v0 (r266 : List Int)] wq) hit267 ⟨(by repeat (first | exact Sub.nil _ | refine Sub.cons rfl ?_)), (hm62.pick [0] (by decide) rfl)⟩ ?_ ?_
  ·rintro ⟨i258, l259⟩ x261 env262 w263 hf264 hr265 ⟨hs_, hm_⟩
   have hs_ : Sub [(0, v0), (1, (Value.int .i64 a1)), (2, (Value.func (.func 109) #[] #[(Value.pointer (some ⟨pB v2, pO v2, none⟩))])), (6, (Value.int .i64 i258))] env262 := hs_
   have hm269 : Mem w (ownL 3 v0 (a0 : List Int)).D [ownL 3 v0 (l259 : List Int)] w263 := hm_
   refine cw_sub hs_ ?_
   clear hs_ hm_ q268
   have h : g_slices_stableCmpFunc_int_l4 N a1 a2 i258 l259 = some x261 := hf264
   clear hf264
   refine cw_seq (cw_sr (t_mv rfl rfl (t_mv rfl rfl (t_rd rfl (rd_lss rfl rfl) (rwt_n ?_)))))
   obtain ⟨hb270, q271⟩ | ⟨hb270, q271⟩ := oi h <;> clear h
   ·refine cw_t rfl hb270 (cw_skip (qn_then (cw_block (cw_sr (t_mv rfl rfl ?_)))))
    obtain ⟨x272, h273, q274⟩ := ob q271; clear q271
    refine t_rd rfl (rd_mul64 h273 rfl rfl) ?_
    refine t_as rfl rfl (t_as rfl rfl (rwt_n (cw_seq (cw_block ?_))))
    obtain ⟨r323, hit324, q325⟩ := ob q274; clear q274
    refine cw_loop2 (I := fun q envq wq => Sub [(0, v0), (1, (Value.int .i64 a1)), (2, (Value.func (.func 109) #[] #[(Value.pointer (some ⟨pB v2, pO v2, none⟩))])), (6, (Value.int .i64 i258)), (7, (Value.int .i64 q.1)), (8, (Value.int .i64 q.2.1))] envq ∧ Mem w (ownL 3 v0 (a0 : List Int)).D [ownL 3 v0 (q.2.2 : List Int)] wq) (X := fun eq envq wq => eq = .exit 4 ∧ Sub [(0, v0), (1, (Value.int .i64 a1)), (2, (Value.func (.func 109) #[] #[(Value.pointer (some ⟨pB v2, pO v2, none⟩))])), (6, (Value.int .i64 i258)), (7, (Value.int .i64 r323.1))] envq ∧ Mem w (ownL 3 v0 (a0 : List Int)).D [ownL 3 v0 (r323.2 : List Int)] wq) hit324 ⟨(by repeat (first | exact Sub.nil _ | refine Sub.cons rfl ?_)), (hm269.pick [0] (by decide) rfl)⟩ ?_ ?_
    ·rintro ⟨i314, i315, l316⟩ x318 env319 w320 hf321 hr322 ⟨hs_, hm_⟩
     have hs_ : Sub [(0, v0), (1, (Value.int .i64 a1)), (2, (Value.func (.func 109) #[] #[(Value.pointer (some ⟨pB v2, pO v2, none⟩))])), (6, (Value.int .i64 i258)), (7, (Value.int .i64 i314)), (8, (Value.int .i64 i315))] env319 := hs_
     have hm326 : Mem w (ownL 3 v0 (a0 : List Int)).D [ownL 3 v0 (l316 : List Int)] w320 := hm_
     refine cw_sub hs_ ?_
     clear hs_ hm_ q325
     have h : g_slices_stableCmpFunc_int_l5 N a1 a2 i258 i314 i315 l316 = some x318 := hf321
     clear hf321
     refine cw_seq (cw_sr (t_mv rfl rfl (t_mv rfl rfl ?_)))
     refine t_rd rfl (rd_leq rfl rfl) ?_
     refine rwt_n ?_
     obtain ⟨hb327, q328⟩ | ⟨hb327, q328⟩ := oi h <;> clear h
     ·refine cw_t rfl hb327 (cw_skip (qn_then (cw_block (cw_sr (t_mv rfl rfl ?_)))))
      refine t_mv rfl rfl (t_mv rfl rfl (t_mv rfl rfl ?_))
      obtain ⟨x329, h330, q331⟩ := ob q328; clear q328
      refine t_rd rfl (rd_add64 h330 rfl rfl) (t_mv rfl rfl (t_mv rfl rfl ?_))
      obtain ⟨r332, h333, q334⟩ := ob q331; clear q331
      refine t_ef rfl (ef_call tf138 rfl (g_slices_symMergeCmpFunc_int_ok h333 (hm326.get (k := 0) rfl) ((hn2.to_callT (k := 0) hm326 rfl).sl))) ?_
      rintro _ w336 ⟨e_, hm335⟩
      obtain rfl := e_.symm
      have hm337 := hm326.callT (k := 0) rfl (fun _ h => h) hm335 (fun _ => Iff.rfl)
      refine rwt_n (cw_sr (t_mv rfl rfl (t_as rfl rfl (rwt_n ?_))))
      refine cw_region ?_
      refine t_mv rfl rfl (t_mv rfl rfl ?_)
      obtain ⟨x338, h339, q340⟩ := ob q334; clear q334
      refine t_rd rfl (rd_mul64 h339 rfl rfl) ?_
      obtain ⟨x341, h342, q343⟩ := ob q340; clear q340
      refine t_rd rfl (rd_add64 h342 rfl rfl) (t_as rfl rfl ?_)
      refine rwt_nil ?_
      refine qn_block (qn_then ?_)
      refine ⟨_, (os q343), (by repeat (first | exact Sub.nil _ | refine Sub.cons rfl ?_)), (hm337.pick [0] (by decide) rfl)⟩
     ·refine cw_f rfl hb327 ?_
      refine cw_exit ?_
      refine qx_then (qx_then ?_)
      obtain rfl := hr322 _ (os q328)
      exact ⟨rfl, (by repeat (first | exact Sub.nil _ | refine Sub.cons rfl ?_)), (hm326.pick [0] (by decide) rfl)⟩
    ·skip
     intro e env344 w345 hX346
     obtain ⟨rfl, hs347, hm348⟩ := hX346
     refine qx_same (qn_then ?_)
     refine cw_sub hs347 ?_
     refine cw_seq (cw_sr (t_mv rfl rfl (t_mv rfl rfl ?_)))
     obtain ⟨x349, h350, q351⟩ := ob q325; clear q325
     refine t_rd rfl (rd_add64 h350 rfl rfl) (t_as rfl rfl (rwt_n (cw_sr (t_mv rfl rfl (t_mv rfl rfl (t_rd rfl (rd_lss rfl rfl) ?_))))))
     refine rwt_n ?_
     obtain ⟨hb352, q353⟩ | ⟨hb352, q353⟩ := oi q351 <;> clear q351
     ·refine cw_t rfl hb352 ?_
      refine cw_region ?_
      refine t_mv rfl rfl (t_mv rfl rfl (t_mv rfl rfl (t_mv rfl rfl (t_mv rfl rfl ?_))))
      obtain ⟨r354, h355, q356⟩ := ob q353; clear q353
      refine t_ef rfl (ef_call tf138 rfl (g_slices_symMergeCmpFunc_int_ok h355 (hm348.get (k := 0) rfl) ((hn2.to_callT (k := 0) hm348 rfl).sl))) ?_
      rintro _ w358 ⟨e_, hm357⟩
      obtain rfl := e_.symm
      have hm359 := hm348.callT (k := 0) rfl (fun _ h => h) hm357 (fun _ => Iff.rfl)
      refine rwt_n ?_
      refine cw_region ?_
      refine t_mv rfl rfl ?_
      obtain ⟨x360, h361, q362⟩ := ob q356; clear q356
      refine t_rd rfl (rd_mul64 h361 rfl rfl) ?_
      refine t_as rfl rfl ?_
      refine rwt_nil ?_
      refine qn_block (qn_then ?_)
      refine ⟨_, (os q362), (by repeat (first | exact Sub.nil _ | refine Sub.cons rfl ?_)), (hm359.pick [0] (by decide) rfl)⟩
     ·refine cw_f rfl hb352 (cw_skip (qn_then ?_))
      refine cw_region ?_
      refine t_mv rfl rfl ?_
      obtain ⟨x363, h364, q365⟩ := ob q353; clear q353
      refine t_rd rfl (rd_mul64 h364 rfl rfl) ?_
      refine t_as rfl rfl ?_
      refine rwt_nil ?_
      refine qn_block (qn_then ?_)
      refine ⟨_, (os q365), (by repeat (first | exact Sub.nil _ | refine Sub.cons rfl ?_)), (hm348.pick [0] (by decide) rfl)⟩
   ·refine cw_f rfl hb270 ?_
    refine cw_exit ?_
    refine qx_then (qx_then ?_)
    obtain rfl := hr265 _ (os q271)
    exact ⟨rfl, (by repeat (first | exact Sub.nil _ | refine Sub.cons rfl ?_)), (hm269.pick [0] (by decide) rfl)⟩
  ·skip
   intro e env366 w367 hX368
   obtain ⟨rfl, hs369, hm370⟩ := hX368
   refine qx_same ?_
   obtain rfl := os q268
   refine retn ?_
   refine ret_sub hs369 ?_
   exact ret0 rfl ⟨rfl, (hm370.pick [0] (by decide) rfl)⟩

theorem g_slices_SortStableFunc_int_int_ok {N : Nat} {a0 : List Int} {a1 : List (List Int)} {res : List Int} (h : g_slices_SortStableFunc_int_int N a0 a1 = some res) {w : World} {v0 : Value} {v1 : Value} (hk0 : (ownL 3 v0 (a0 : List Int)).φ w) (hv1 : Sl (Old w (ownL 3 v0 (a0 : List Int)).D) w v1 a1) :
  CallsR Tryz.prog 108 [v0, (Value.func (.func 109) #[] #[(Value.pointer (some ⟨pB v1, pO v1, none⟩))])] w (fun u w' => u = (Value.tuple #[]) ∧ Mem w (ownL 3 v0 (a0 : List Int)).D [ownL 3 v0 (res : List Int)] w') := by
 unfold g_slices_SortStableFunc_int_int at h
 refine fn_ok Tryz.func108 rfl rfl rfl ?_
 obtain ⟨zs_a1, hn1⟩ := hv1.nest
 have hm0 := Mem.one hk0
 refine cw_region ?_
 refine t_mv rfl rfl (t_mv rfl rfl ?_)
 refine t_rd rfl (rd_lenS tS22 rfl (hm0.sl 0 rfl)) ?_
 refine t_mv rfl rfl ?_
 obtain ⟨r1, h2, q3⟩ := ob h; clear h
 refine t_ef rfl (ef_call tf122 rfl (g_slices_stableCmpFunc_int_ok h2 (hm0.get (k := 0) rfl) ((hn1.to_callT (k := 0) hm0 rfl).sl))) ?_
 rintro _ w5 ⟨e_, hm4⟩
 obtain rfl := e_.symm
 have hm6 := hm0.callT (k := 0) rfl (fun _ h => h) hm4 (fun _ => Iff.rfl)
 refine rwt_nil ?_
 obtain rfl := os q3
 refine retn ?_
 exact ret0 rfl ⟨rfl, (hm6.pick [0] (by decide) rfl)⟩

theorem assign_order_ok {N : Nat} {a0 : List Int} {res : List Int} (h : assign_order N a0 = some res) {w : World} {v0 : Value} (hv0 : Sl (Old w No) w v0 a0) :
  CallsR Tryz.prog 98 [v0] w (fun u w' => ∃ (y0 : Value), u = y0 ∧ Mem w No [ownL 3 y0 (res : List Int)] w') := by
 unfold assign_order at h
 refine fn_ok Tryz.func98 rfl rfl rfl ?_
 have hm0 := Mem.nil w
 refine cw_sr ?_
 refine t_ef rfl (ef_box hm0 rfl rfl) ?_
 rintro _ w3 ⟨g1, rfl, hm2⟩
 have cb4 : v0.cells.toList = [v0] := by obtain ⟨_, _, e⟩ := ((hv0.of_old hm0)).val; rw [e]; rfl
 simp only [cb4] at hm2
 refine t_as rfl rfl (rwt_n (cw_sr (t_as rfl rfl (rwt_n (cw_seq (cw_sr ?_))))))
 refine t_rd rfl (rd_ld1 tO22 rfl (hm2.blk 0 rfl) (off := 0) rfl) ?_
 refine t_rd rfl (rd_lenS tS22 rfl (hv0.of_old hm2)) ?_
 refine t_mv rfl rfl (rwt_n (cw_block ?_))
 have hm28 := hm2.addNil (α := Int) 3
 obtain ⟨r88, hit89, q90⟩ := ob h; clear h
 refine cw_loop2 (I := fun q envq wq => ∃ (v81 : Value), Sub [(1, (Value.pointer (some ⟨g1, 0, none⟩))), (3, v81), (6, v0), (7, (Value.int .i64 (List.length a0 : Int))), (8, (Value.int .i64 q.1))] envq ∧ Mem w No [ownL 3 v81 (q.2 : List Int), blk g1 22 [v0]] wq) (X := fun eq envq wq => eq = .exit 0 ∧ ∃ (v78 : Value), Sub [(1, (Value.pointer (some ⟨g1, 0, none⟩))), (3, v78)] envq ∧ Mem w No [ownL 3 v78 (r88 : List Int), blk g1 22 [v0]] wq) hit89 ⟨(Value.slice none 0 0), (by repeat (first | exact Sub.nil _ | refine Sub.cons rfl ?_)), (hm28.pick [0, 1] (by decide) rfl)⟩ ?_ ?_
 ·rintro ⟨i79, l80⟩ x83 env84 w85 hf86 hr87 ⟨v81, hs_, hm_⟩
  have hs_ : Sub [(1, (Value.pointer (some ⟨g1, 0, none⟩))), (3, v81), (6, v0), (7, (Value.int .i64 (List.length a0 : Int))), (8, (Value.int .i64 i79))] env84 := hs_
  have hm91 : Mem w No [ownL 3 v81 (l80 : List Int), blk g1 22 [v0]] w85 := hm_
  refine cw_sub hs_ ?_
  clear hs_ hm_ q90
  have h : assign_order_l1 N a0 i79 l80 = some x83 := hf86
  clear hf86
  refine cw_sr (t_rd rfl (rd_lss rfl rfl) (rwt_n (cw_seq ?_)))
  obtain ⟨hb92, q93⟩ | ⟨hb92, q93⟩ := oi h <;> clear h
  ·refine cw_t rfl hb92 (cw_skip (qn_then (cw_seq (cw_block (cw_sr ?_)))))
   refine t_mv rfl rfl ?_
   obtain ⟨x94, h95, q96⟩ := ob q93; clear q93
   refine t_rd rfl (rd_index tS22 rfl rfl (hv0.of_old hm91) h95) ?_
   refine t_rd rfl (rd_ld1 tO3 rfl ((hv0.of_old hm91).cells h95) (off := 0) rfl) ?_
   refine t_as rfl rfl (t_as rfl rfl (rwt_n (cw_sr (t_mv rfl rfl ?_))))
   refine t_rd rfl (rd_gtr rfl rfl) ?_
   refine rwt_n ?_
   obtain ⟨hb97, q98⟩ | ⟨hb97, q98⟩ := oi q96 <;> clear q96
   ·refine cw_t rfl hb97 ?_
    refine cw_region ?_
    refine t_mv rfl rfl (t_mv rfl rfl ?_)
    refine t_ef rfl (ef_bslice (l := ([i79] : List Int)) hm91 tS22 rfl (cs := #[(Value.int .i64 i79)]) (by unfold bsl; kernel_rfl) rfl rfl) ?_
    intro v99 w101 hm100
    obtain ⟨l102, h103, q104⟩ := ob q98; clear q98
    refine t_ef rfl (ef_append (k := 1) hm100 tS22 tE3 rfl rfl rfl rfl (hm100.sl 0 rfl) h103) ?_
    intro v105 w107 hm106
    refine t_as rfl rfl ?_
    refine rwt_nil ?_
    refine qn_block (qn_then ?_)
    refine cw_region ?_
    obtain ⟨x108, h109, q110⟩ := ob q104; clear q104
    refine t_rd rfl (rd_add64 h109 rfl rfl) (t_mv rfl rfl (rwt_n ?_))
    refine ⟨_, (os q110), v105, (by repeat (first | exact Sub.nil _ | refine Sub.cons rfl ?_)), (hm106.pick [1, 2] (by decide) rfl)⟩
   ·refine cw_f rfl hb97 (cw_skip ?_)
    refine qn_block (qn_then ?_)
    refine cw_region ?_
    obtain ⟨x111, h112, q113⟩ := ob q98; clear q98
    refine t_rd rfl (rd_add64 h112 rfl rfl) (t_mv rfl rfl (rwt_n ?_))
    refine ⟨_, (os q113), v81, (by repeat (first | exact Sub.nil _ | refine Sub.cons rfl ?_)), (hm91.pick [0, 1] (by decide) rfl)⟩
  ·refine cw_f rfl hb92 ?_
   refine cw_exit ?_
   refine qx_then (qx_then ?_)
   obtain rfl := hr87 _ (os q93)
   exact ⟨rfl, v81, (by repeat (first | exact Sub.nil _ | refine Sub.cons rfl ?_)), (hm91.pick [0, 1] (by decide) rfl)⟩
 ·skip
  intro e env114 w115 hX116
  obtain ⟨rfl, v78, hs117, hm118⟩ := hX116
  refine qx_same (qn_then ?_)
  refine cw_sub hs117 ?_
  refine cw_sr (t_mv rfl rfl ?_)
  refine t_rd rfl (rd_makeFunc rfl) ?_
  obtain ⟨r119, h120, q121⟩ := ob q90; clear q90
  refine t_ef rfl (ef_call tf108 rfl (g_slices_SortStableFunc_int_int_ok (v1 := (Value.slice (some ⟨g1, 0, none⟩) 1 1)) h120 (hm118.get (k := 0) rfl) (hm118.box_callT 1 0 rfl rfl (by decide) (hv0.to_callT (k := 0) hm118 rfl)))) ?_
  rintro _ w123 ⟨e_, hm122⟩
  obtain rfl := e_.symm
  have hm124 := hm118.callT (k := 0) rfl (fun _ h => h) hm122 (fun _ => Iff.rfl)
  refine rwt_n (cw_sr (t_mv rfl rfl (t_as rfl rfl (rwt_n ?_))))
  refine cw_ret ?_
  obtain rfl := os q121
  exact ret1 rfl rfl ⟨v78, rfl, (hm124.pick [0] (by decide) rfl)⟩

theorem g_slices_Clone_int_int_ok {N : Nat} {a0 : List Int} {res : List Int} (h : g_slices_Clone_int_int N a0 = some res) {w : World} {v0 : Value} (hv0 : Sl (Old w No) w v0 a0) :
  CallsR Tryz.prog 99 [v0] w (fun u w' => ∃ (y0 : Value), u = y0 ∧ Mem w No [ownL 3 y0 (res : List Int)] w') := by
 unfold g_slices_Clone_int_int at h
 refine fn_ok Tryz.func99 rfl rfl rfl ?_
 have hm0 := Mem.nil w
 refine cw_sr (t_as rfl rfl (rwt_n (cw_seq (cw_sr (t_mv rfl rfl ?_)))))
 obtain ⟨tb, hr, hb⟩ := rd_nilS tS22 (hv0.of_old hm0)
 refine t_rd rfl (hr rfl) ?_
 refine rwt_n ?_
 cases tb with
 | true =>
  refine cw_t rfl rfl (cw_sr (t_as rfl rfl (rwt_n ?_)))
  refine cw_ret ?_
  refine qr_then ?_
  have e := hb rfl
  rw [e] at h
  obtain rfl := app_nn h
  exact ret1 rfl rfl ⟨_, rfl, hm0.addNil (α := Int) 3⟩
 | false =>
  refine cw_f rfl rfl (cw_skip (qn_then (cw_sr ?_)))
  refine t_ef rfl (ef_bslice0 (α := Int) hm0 tS22) ?_
  intro v1 w1 hm1
  refine t_mv rfl rfl ?_
  refine t_ef rfl (ef_append (k := 0) hm1 tS22 tE3 rfl rfl rfl rfl (hv0.of_old hm1) h) ?_
  intro v2 w2 hm2
  refine t_as rfl rfl (rwt_n ?_)
  refine cw_ret ?_
  exact ret1 rfl rfl ⟨v2, rfl, hm2.pick [0] (by decide) rfl⟩

theorem assign_Match_ok {N : Nat} {a0 : List Int} {a1 : List Int} {res : List Int × List Int × Int} (h : assign_Match N a0 a1 = some res) {w : World} {v0 : Value} {v1 : Value} (hv0 : Sl (Old w No) w v0 a0) (hv1 : Sl (Old w No) w v1 a1) :
  CallsR Tryz.prog 84 [v0, v1] w (fun u w' => ∃ (y0 : Value) (y1 : Value), u = (Value.tuple #[y0, y1, (Value.int .i64 res.2.2)]) ∧ Mem w No [ownL 3 y0 (res.1 : List Int), ownL 3 y1 (res.2.1 : List Int)] w') := by
 unfold assign_Match at h
 refine fn_ok Tryz.func84 rfl rfl rfl ?_
 have hm0 := Mem.nil w
 refine cw_sr (t_as rfl rfl (t_as rfl rfl (t_as rfl rfl (rwt_n (cw_seq ?_)))))
 refine cw_sr (t_mv rfl rfl (t_mv rfl rfl ?_))
 obtain ⟨r1, h2, q3⟩ := ob h; clear h
 refine t_ef rfl (ef_call tf86 rfl (assign_check_ok h2 (hv0.to_call hm0) (hv1.to_call hm0))) ?_
 rintro _ w5 ⟨e_, hm4⟩
 obtain rfl := e_.symm
 have hm6 := hm0.call hm4
 refine t_as rfl rfl (rwt_n (cw_sr (t_mv rfl rfl ?_)))
 refine t_rd rfl (rd_neq rfl rfl) ?_
 refine rwt_n ?_
 obtain ⟨hb7, q8⟩ | ⟨hb7, q8⟩ := oi q3 <;> clear q3
 ·refine cw_t rfl hb7 (cw_sr (t_mv rfl rfl (t_as rfl rfl (t_as rfl rfl (t_as rfl rfl ?_)))))
  refine rwt_n ?_
  refine cw_ret ?_
  refine qr_then ?_
  obtain rfl := os q8
  have hm9 := hm6.addNil (α := Int) 3
  have hm10 := hm9.addNil (α := Int) 3
  exact ret3 rfl rfl rfl rfl ⟨(Value.slice none 0 0), (Value.slice none 0 0), rfl, (hm10.pick [1, 0] (by decide) rfl)⟩
 ·refine cw_f rfl hb7 (cw_skip (qn_then (cw_sr (t_mv rfl rfl ?_))))
  refine t_rd rfl (rd_lenS tS22 rfl (hv0.of_old hm6)) ?_
  obtain ⟨l11, h12, q13⟩ := ob q8; clear q8
  refine t_ef rfl (ef_make hm6 tS22 tE3 rfl rfl rfl h12) ?_
  intro v14 w16 hm15
  refine t_as rfl rfl (rwt_n (cw_seq (cw_sr (t_mv rfl rfl ?_))))
  refine t_rd rfl (rd_lenS tS22 rfl (hm15.sl 0 rfl)) ?_
  refine t_mv rfl rfl (rwt_n (cw_block ?_))
  obtain ⟨r48, hit49, q50⟩ := ob q13; clear q13
  refine cw_loop2 (I := fun q envq wq => Sub [(0, v0), (1, v1), (4, v14), (26, (Value.int .i64 (List.length l11 : Int))), (27, (Value.int .i64 q.1))] envq ∧ Mem w No [ownL 3 v14 (q.2 : List Int)] wq) (X := fun eq envq wq => eq = .exit 0 ∧ Sub [(0, v0), (1, v1), (4, v14)] envq ∧ Mem w No [ownL 3 v14 (r48 : List Int)] wq) hit49 ⟨(by repeat (first | exact Sub.nil _ | refine Sub.cons rfl ?_)), (hm15.pick [0] (by decide) rfl)⟩ ?_ ?_
  ·rintro ⟨i40, l41⟩ x43 env44 w45 hf46 hr47 ⟨hs_, hm_⟩
   have hs_ : Sub [(0, v0), (1, v1), (4, v14), (26, (Value.int .i64 (List.length l11 : Int))), (27, (Value.int .i64 i40))] env44 := hs_
   have hm51 : Mem w No [ownL 3 v14 (l41 : List Int)] w45 := hm_
   refine cw_sub hs_ ?_
   clear hs_ hm_ q50
   have h : assign_Match_l1 N l11 i40 l41 = some x43 := hf46
   clear hf46
   refine cw_sr (t_rd rfl (rd_lss rfl rfl) (rwt_n (cw_seq ?_)))
   obtain ⟨hb52, q53⟩ | ⟨hb52, q53⟩ := oi h <;> clear h
   ·refine cw_t rfl hb52 (cw_skip (qn_then (cw_seq (cw_block (cw_sr ?_)))))
    refine t_mv rfl rfl (t_as rfl rfl (rwt_n ?_))
    refine cw_region ?_
    refine t_mv rfl rfl (t_mv rfl rfl ?_)
    obtain ⟨x54, h55, q56⟩ := ob q53; clear q53
    refine t_rd rfl (rd_index tS22 rfl rfl (hm51.sl 0 rfl) h55) ?_
    refine t_ef0 (ef_stl (k := 0) (off := 0) (x' := (-1)) hm51 tO3 rfl rfl rfl rfl h55 rfl rfl) ?_
    intro _ w58 hm57
    refine rwt_nil ?_
    refine qn_block (qn_then ?_)
    refine cw_region ?_
    obtain ⟨x59, h60, q61⟩ := ob q56; clear q56
    refine t_rd rfl (rd_add64 h60 rfl rfl) (t_mv rfl rfl (rwt_n ?_))
    refine ⟨_, (os q61), (by repeat (first | exact Sub.nil _ | refine Sub.cons rfl ?_)), (hm57.pick [0] (by decide) rfl)⟩
   ·refine cw_f rfl hb52 ?_
    refine cw_exit ?_
    refine qx_then (qx_then ?_)
    obtain rfl := hr47 _ (os q53)
    exact ⟨rfl, (by repeat (first | exact Sub.nil _ | refine Sub.cons rfl ?_)), (hm51.pick [0] (by decide) rfl)⟩
  ·skip
   intro e env62 w63 hX64
   obtain ⟨rfl, hs65, hm66⟩ := hX64
   refine qx_same (qn_then ?_)
   refine cw_sub hs65 ?_
   refine cw_sr (t_mv rfl rfl ?_)
   refine t_rd rfl (rd_lenS tS22 rfl (hv1.of_old hm66)) ?_
   obtain ⟨l67, h68, q69⟩ := ob q50; clear q50
   refine t_ef rfl (ef_make hm66 tS98 tE4 rfl rfl rfl h68) ?_
   intro v70 w72 hm71
   refine t_as rfl rfl (rwt_n (cw_sr (t_mv rfl rfl ?_)))
   obtain ⟨r73, h74, q75⟩ := ob q69; clear q69
   refine t_ef rfl (ef_call tf98 rfl (assign_order_ok h74 (hv0.to_call hm71))) ?_
   rintro _ w78 ⟨v76, e_, hm77⟩
   obtain rfl := e_.symm
   have hm79 := hm71.call hm77
   refine t_as rfl rfl (rwt_n (cw_seq (cw_sr (t_mv rfl rfl ?_))))
   refine t_rd rfl (rd_lenS tS22 rfl (hm79.sl 0 rfl)) ?_
   refine t_mv rfl rfl (rwt_n (cw_block ?_))
   obtain ⟨r457, hit458, q459⟩ := ob q75; clear q75
   refine cw_loop2 (I := fun q envq wq => Sub [(0, v0), (1, v1), (4, v14), (9, v70), (10, v76), (39, v76), (40, (Value.int .i64 (List.length r73 : Int))), (41, (Value.int .i64 q.1))] envq ∧ Mem w No [ownL 3 v76 (r73 : List Int), ownL 4 v70 (q.2.2 : List Bool), ownL 3 v14 (q.2.1 : List Int)] wq) (X := fun eq envq wq => (∃ p460, r457 = (Sum.inl p460) ∧ eq = .ret ∧ retQ Tryz.prog 99 Tryz.f84 (fun u w' => ∃ (y0 : Value) (y1 : Value), u = (Value.tuple #[y0, y1, (Value.int .i64 p460.2.2)]) ∧ Mem w No [ownL 3 y0 (p460.1 : List Int), ownL 3 y1 (p460.2.1 : List Int)] w') .ret envq wq) ∨ (∃ p461, r457 = (Sum.inr p461) ∧ eq = .exit 2 ∧ Sub [(4, v14)] envq ∧ Mem w No [ownL 3 v14 (p461 : List Int)] wq)) hit458 ⟨(by repeat (first | exact Sub.nil _ | refine Sub.cons rfl ?_)), (hm79.pick [0, 1, 2] (by decide) rfl)⟩ ?_ ?_
   ·rintro ⟨i448, l449, l450⟩ x452 env453 w454 hf455 hr456 ⟨hs_, hm_⟩
    have hs_ : Sub [(0, v0), (1, v1), (4, v14), (9, v70), (10, v76), (39, v76), (40, (Value.int .i64 (List.length r73 : Int))), (41, (Value.int .i64 i448))] env453 := hs_
    have hm462 : Mem w No [ownL 3 v76 (r73 : List Int), ownL 4 v70 (l450 : List Bool), ownL 3 v14 (l449 : List Int)] w454 := hm_
    refine cw_sub hs_ ?_
    clear hs_ hm_ q459
    have h : assign_Match_l4 N a0 a1 r73 i448 l449 l450 = some x452 := hf455
    clear hf455
    refine cw_sr (t_rd rfl (rd_lss rfl rfl) (rwt_n (cw_seq ?_)))
    obtain ⟨hb463, q464⟩ | ⟨hb463, q464⟩ := oi h <;> clear h
    ·refine cw_t rfl hb463 (cw_skip (qn_then (cw_seq (cw_block (cw_sr ?_)))))
     refine t_mv rfl rfl ?_
     obtain ⟨x465, h466, q467⟩ := ob q464; clear q464
     refine t_rd rfl (rd_index tS22 rfl rfl (hm462.sl 0 rfl) h466) ?_
     refine t_rd rfl (rd_ld1 tO3 rfl ((hm462.sl 0 rfl).cells h466) (off := 0) rfl) ?_
     refine t_as rfl rfl (t_as rfl rfl (rwt_n (cw_sr (t_as rfl rfl (rwt_n (cw_seq ?_))))))
     refine cw_sr (t_mv rfl rfl ?_)
     refine t_rd rfl (rd_lenS tS22 rfl (hv1.of_old hm462)) ?_
     refine t_mv rfl rfl (rwt_n (cw_block ?_))
     obtain ⟨r561, hit562, q563⟩ := ob q467; clear q467
     refine cw_loop2 (I := fun q envq wq => Sub [(0, v0), (1, v1), (4, v14), (9, v70), (10, v76), (11, (Value.int .i64 i448)), (12, (Value.int .i64 x465)), (13, (Value.int .i64 q.1)), (39, v76), (40, (Value.int .i64 (List.length r73 : Int))), (41, (Value.int .i64 i448)), (46, v1), (47, (Value.int .i64 (List.length a1 : Int))), (48, (Value.int .i64 q.2))] envq ∧ Mem w No [ownL 3 v76 (r73 : List Int), ownL 4 v70 (l450 : List Bool), ownL 3 v14 (l449 : List Int)] wq) (X := fun eq envq wq => eq = .exit 4 ∧ Sub [(0, v0), (1, v1), (4, v14), (9, v70), (10, v76), (11, (Value.int .i64 i448)), (12, (Value.int .i64 x465)), (13, (Value.int .i64 r561)), (39, v76), (40, (Value.int .i64 (List.length r73 : Int))), (41, (Value.int .i64 i448))] envq ∧ Mem w No [ownL 3 v76 (r73 : List Int), ownL 4 v70 (l450 : List Bool), ownL 3 v14 (l449 : List Int)] wq) hit562 ⟨(by repeat (first | exact Sub.nil _ | refine Sub.cons rfl ?_)), (hm462.pick [0, 1, 2] (by decide) rfl)⟩ ?_ ?_
     ·rintro ⟨i553, i554⟩ x556 env557 w558 hf559 hr560 ⟨hs_, hm_⟩
      have hs_ : Sub [(0, v0), (1, v1), (4, v14), (9, v70), (10, v76), (11, (Value.int .i64 i448)), (12, (Value.int .i64 x465)), (13, (Value.int .i64 i553)), (39, v76), (40, (Value.int .i64 (List.length r73 : Int))), (41, (Value.int .i64 i448)), (46, v1), (47, (Value.int .i64 (List.length a1 : Int))), (48, (Value.int .i64 i554))] env557 := hs_
      have hm564 : Mem w No [ownL 3 v76 (r73 : List Int), ownL 4 v70 (l450 : List Bool), ownL 3 v14 (l449 : List Int)] w558 := hm_
      refine cw_sub hs_ ?_
      clear hs_ hm_ q563
      have h : assign_Match_l5 N a0 a1 l450 x465 i553 i554 = some x556 := hf559
      clear hf559
      refine cw_sr (t_rd rfl (rd_lss rfl rfl) (rwt_n (cw_seq ?_)))
      obtain ⟨hb565, q566⟩ | ⟨hb565, q566⟩ := oi h <;> clear h
      ·refine cw_t rfl hb565 (cw_skip (qn_then (cw_seq (cw_block (cw_sr ?_)))))
       refine t_mv rfl rfl ?_
       obtain ⟨x567, h568, q569⟩ := ob q566; clear q566
       refine t_rd rfl (rd_index tS22 rfl rfl (hv1.of_old hm564) h568) ?_
       refine t_rd rfl (rd_ld1 tO3 rfl ((hv1.of_old hm564).cells h568) (off := 0) rfl) ?_
       refine t_as rfl rfl (t_as rfl rfl (rwt_n (cw_sr (t_mv rfl rfl (t_mv rfl rfl ?_)))))
       obtain ⟨x570, h571, q572⟩ := ob q569; clear q569
       refine t_rd rfl (rd_index tS98 rfl rfl (hm564.sl 1 rfl) h571) ?_
       refine t_rd rfl (rd_ld1 tO4 rfl ((hm564.sl 1 rfl).cells h571) (off := 0) rfl) ?_
       refine t_rd rfl (rd_not rfl) ?_
       refine t_mv rfl rfl ?_
       refine t_rdg rfl rfl rfl rfl (gv_t _) (fun hg573 => (rd_move rfl)) ?_
       refine t_rdg rfl rfl rfl rfl (gv_t _) (fun hg574 => (rd_move rfl)) ?_
       refine t_rdg rfl rfl rfl rfl (gv_t _) (fun hg575 => (rd_move rfl)) ?_
       obtain ⟨x577, h578, q579⟩ := ob q572; clear q572
       refine t_rdg rfl rfl rfl rfl (gv_t _) (fun hg576 => (rd_index tS22 (gvx rfl hg576) (gvx rfl hg576) (hv0.of_old hm564) (gO_t h578 hg576))) ?_
       refine t_rdg rfl rfl rfl rfl (gv_t _) (fun hg580 => (rd_ld1 tO3 (gvx rfl hg580) ((hv0.of_old hm564).cells (gO_t h578 hg580)) (off := 0) rfl)) ?_
       refine t_rdg rfl rfl rfl rfl (gv_t _) (fun hg581 => (rd_geq (gvx rfl hg581) (gvx rfl hg581))) ?_
       refine t_rd rfl (rd_and rfl (fun hc582 => (gvx rfl hc582))) ?_
       refine t_mv rfl rfl ?_
       refine t_rdg rfl rfl rfl rfl (gv_t _) (fun hg583 => (rd_move rfl)) ?_
       refine t_rdg rfl rfl rfl rfl (gv_t _) (fun hg584 => (rd_lss (gvx rfl hg584) rfl)) ?_
       refine t_rdg rfl rfl rfl rfl (gv_t _) (fun hg585 => (rd_move (gvx rfl hg585))) ?_
       refine t_rdg rfl rfl rfl rfl (gv_nf _ _) (fun hg586 => (rd_move rfl)) ?_
       refine t_rdg rfl rfl rfl rfl (gv_nf _ _) (fun hg587 => (rd_move rfl)) ?_
       refine t_rdg rfl rfl rfl rfl (gv_nf _ _) (fun hg588 => (rd_move rfl)) ?_
       obtain ⟨x590, h591, q592⟩ := ob q579; clear q579
       refine t_rdg rfl rfl rfl rfl (gv_nf _ _) (fun hg589 => (rd_index tS22 (gvx rfl hg589) (gvx rfl hg589) (hv1.of_old hm564) (gO_t h591 hg589))) ?_
       refine t_rdg rfl rfl rfl rfl (gv_nf _ _) (fun hg593 => (rd_ld1 tO3 (gvx rfl hg593) ((hv1.of_old hm564).cells (gO_t h591 hg593)) (off := 0) rfl)) ?_
       refine t_rdg rfl rfl rfl rfl (gv_nf _ _) (fun hg594 => (rd_lss (gvx rfl hg594) (gvx rfl hg594))) ?_
       refine t_rdg rfl rfl rfl rfl (gv_t _) (fun hg595 => (rd_or (gvx rfl hg595) (fun hc596 => (gvx rfl (band hg595 (bnotIt hc596)))))) ?_
       refine t_rd rfl (rd_and rfl (fun hc597 => (gvx rfl hc597))) ?_
       refine rwt_n ?_
       obtain ⟨hb598, q599⟩ | ⟨hb598, q599⟩ := oi q592 <;> clear q592
       ·refine cw_t rfl hb598 ?_
        refine cw_region ?_
        refine t_mv rfl rfl (t_as rfl rfl ?_)
        refine rwt_nil ?_
        refine qn_block (qn_then ?_)
        refine cw_region ?_
        obtain ⟨x600, h601, q602⟩ := ob q599; clear q599
        refine t_rd rfl (rd_add64 h601 rfl rfl) (t_mv rfl rfl (rwt_n ?_))
        refine ⟨_, (os q602), (by repeat (first | exact Sub.nil _ | refine Sub.cons rfl ?_)), (hm564.pick [0, 1, 2] (by decide) rfl)⟩
       ·refine cw_f rfl hb598 (cw_skip ?_)
        refine qn_block (qn_then ?_)
        refine cw_region ?_
        obtain ⟨x603, h604, q605⟩ := ob q599; clear q599
        refine t_rd rfl (rd_add64 h604 rfl rfl) (t_mv rfl rfl (rwt_n ?_))
        refine ⟨_, (os q605), (by repeat (first | exact Sub.nil _ | refine Sub.cons rfl ?_)), (hm564.pick [0, 1, 2] (by decide) rfl)⟩
      ·refine cw_f rfl hb565 ?_
       refine cw_exit ?_
       refine qx_then (qx_then ?_)
       obtain rfl := hr560 _ (os q566)
       exact ⟨rfl, (by repeat (first | exact Sub.nil _ | refine Sub.cons rfl ?_)), (hm564.pick [0, 1, 2] (by decide) rfl)⟩
     ·skip
      intro e env606 w607 hX608
      obtain ⟨rfl, hs609, hm610⟩ := hX608
      refine qx_same (qn_then ?_)
      refine cw_sub hs609 ?_
      refine cw_seq (cw_sr (t_mv rfl rfl (t_rd rfl (rd_lss rfl rfl) (rwt_n ?_))))
      obtain ⟨hb611, q612⟩ | ⟨hb611, q612⟩ := oi q563 <;> clear q563
      ·refine cw_t rfl hb611 (cw_sr (t_mv rfl rfl (t_mv rfl rfl ?_)))
       obtain ⟨x613, h614, q615⟩ := ob q612; clear q612
       refine t_rd rfl (rd_add64 h614 rfl rfl) ?_
       obtain ⟨l616, h617, q618⟩ := ob q615; clear q615
       refine t_rd rfl (rd_slcH tS22 rfl rfl (hm610.sl 0 rfl) h617) ?_
       obtain ⟨r619, h620, q621⟩ := ob q618; clear q618
       refine t_ef rfl (ef_call tf99 rfl (g_slices_Clone_int_int_ok h620 ((hm610.sl_call 0 rfl).sub h617))) ?_
       rintro _ w624 ⟨v622, e_, hm623⟩
       obtain rfl := e_.symm
       have hm625 := hm610.call hm623
       refine t_as rfl rfl (rwt_n (cw_sr (t_mv rfl rfl ?_)))
       obtain ⟨l626, h627, q628⟩ := ob q621; clear q621
       refine t_ef rfl (ef_call tf100 rfl (sortI_calls Tryz.srt100 h627 (hm625.get (k := 0) rfl))) ?_
       rintro _ w630 ⟨e_, hm629⟩
       obtain rfl := e_.symm
       have hm631 := hm625.callT (k := 0) rfl (fun _ h => h) hm629 (fun _ => Iff.rfl)
       refine rwt_n (cw_sr (t_mv rfl rfl (t_as rfl rfl (t_as rfl rfl (t_as rfl rfl (rwt_n ?_))))))
       refine cw_ret ?_
       refine qr_then (qr_block (qr_then (qr_then ?_)))
       obtain rfl := hr456 _ (os q628)
       refine .inl (⟨_, rfl, ⟨rfl, ?_⟩⟩)
       have hm632 := hm631.addNil (α := Int) 3
       exact ret3 rfl rfl rfl rfl ⟨(Value.slice none 0 0), v622, rfl, (hm632.pick [0, 1] (by decide) rfl)⟩
      ·refine cw_f rfl hb611 (cw_skip (qn_then (cw_sr (t_mv rfl rfl (t_mv rfl rfl ?_)))))
       obtain ⟨x633, h634, q635⟩ := ob q612; clear q612
       refine t_rd rfl (rd_index tS98 rfl rfl (hm610.sl 1 rfl) h634) ?_
       refine t_ef0 (ef_stl (k := 1) (off := 0) (x' := true) hm610 tO4 rfl rfl rfl rfl h634 rfl rfl) ?_
       intro _ w637 hm636
       refine rwt_n ?_
       refine cw_region ?_
       refine t_mv rfl rfl (t_mv rfl rfl (t_mv rfl rfl ?_))
       obtain ⟨x638, h639, q640⟩ := ob q635; clear q635
       refine t_rd rfl (rd_index tS22 rfl rfl (hm636.sl 2 rfl) h639) ?_
       refine t_ef0 (ef_stl (k := 2) (off := 0) (x' := r561) hm636 tO3 rfl rfl rfl rfl h639 rfl rfl) ?_
       intro _ w642 hm641
       refine rwt_nil ?_
       refine qn_block (qn_then ?_)
       refine cw_region ?_
       obtain ⟨x643, h644, q645⟩ := ob q640; clear q640
       refine t_rd rfl (rd_add64 h644 rfl rfl) (t_mv rfl rfl (rwt_n ?_))
       refine ⟨_, (os q645), (by repeat (first | exact Sub.nil _ | refine Sub.cons rfl ?_)), (hm641.pick [0, 1, 2] (by decide) rfl)⟩
    ·refine cw_f rfl hb463 ?_
     refine cw_exit ?_
     refine qx_then (qx_then ?_)
     obtain rfl := hr456 _ (os q464)
     exact .inr (⟨_, rfl, ⟨rfl, (by repeat (first | exact Sub.nil _ | refine Sub.cons rfl ?_)), (hm462.pick [2] (by decide) rfl)⟩⟩)
   ·skip
    intro e env646 w647 hX648
    rcases hX648 with hX648 | hX648
    ·obtain ⟨p650, rfl, hX648⟩ := hX648
     obtain ⟨rfl, hq652⟩ := hX648
     exact qr_block (qr_then ((by have e := os q459; subst e; exact hq652)))
    ·obtain ⟨p653, rfl, hX648⟩ := hX648
     obtain ⟨rfl, hs654, hm655⟩ := hX648
     refine qx_same (qn_then ?_)
     refine cw_sub hs654 ?_
     refine cw_sr (t_mv rfl rfl (t_as rfl rfl (t_as rfl rfl (t_as rfl rfl (rwt_n ?_)))))
     refine cw_ret ?_
     obtain rfl := os q459
     have hm656 := hm655.addNil (α := Int) 3
     exact ret3 rfl rfl rfl rfl ⟨v14, (Value.slice none 0 0), rfl, (hm656.pick [1, 0] (by decide) rfl)⟩

theorem planner_sheet_ok {N : Nat} {a0 : List T_Item} {a1 : Int} {a2 : List Int} {res : List T_Item × Int × Int × List Int × List Int × List Int × List Int × Int} (h : planner_sheet N a0 a1 a2 = some res) {w : World} {v0 : Value} {v2 : Value} (hv0 : Sl (Old w No) w v0 a0) (hv2 : Sl (Old w No) w v2 a2) :
  CallsR Tryz.prog 55 [v0, (Value.int .i64 a1), v2] w (fun u w' => ∃ (y0 : Value) (y1 : Value) (y2 : Value) (y3 : Value) (y4 : Value), u = (Value.tuple #[(Value.agg #[y0, (Value.int .i64 res.2.1), (Value.int .i64 res.2.2.1), y1, y2, y3]), y4, (Value.int .i64 res.2.2.2.2.2.2.2)]) ∧ Mem w No [ownL 40 y0 (res.1 : List T_Item), ownL 3 y1 (res.2.2.2.1 : List Int), ownL 3 y2 (res.2.2.2.2.1 : List Int), ownL 3 y3 (res.2.2.2.2.2.1 : List Int), ownL 3 y4 (res.2.2.2.2.2.2.1 : List Int)] w') := by
 unfold planner_sheet at h
 refine fn_ok Tryz.func55 rfl rfl rfl ?_
 have hm0 := Mem.nil w
 refine cw_sr ?_
 refine t_ef rfl (ef_alloc hm0 tZ74 rfl) ?_
 rintro _ w3 ⟨g1, rfl, hm2⟩
 refine t_as rfl rfl (t_as rfl rfl (rwt_n (cw_sr (t_mv rfl rfl ?_))))
 obtain ⟨r4, h5, q6⟩ := ob h; clear h
 refine t_ef rfl (ef_call tf83 rfl (g_slices_Clone_api_Item_api_Item_ok h5 (hv0.to_call hm2))) ?_
 rintro _ w9 ⟨v7, e_, hm8⟩
 obtain rfl := e_.symm
 have hm10 := hm2.call hm8
 refine t_mv rfl rfl ?_
 refine t_rd rfl (rd_build (cs := #[v7, (Value.int .i64 a1)]) rfl (by obtain ⟨_, _, e⟩ := ((hm10.sl 0 rfl)).val; rw [e]; clear e; kernel_rfl)) ?_
 refine t_ef rfl (ef_alloc hm10 tZ27 rfl) ?_
 rintro _ w13 ⟨g11, rfl, hm12⟩
 refine t_ef0 (ef_stw (k := 0) hm12 tA27 rfl rfl (oc_cons (sl_one (hm12.sl 1 rfl)) (oc_cons rfl oc_nil)) rfl rfl rfl) ?_
 intro _ w15 hm14
 refine rwt_n (cw_sr ?_)
 refine t_rd rfl (rd_ld tA27 rfl (hm14.blk 0 rfl) rfl) ?_
 obtain ⟨r16, h17, q18⟩ := ob q6; clear q6
 refine t_ef rfl (ef_call tf8 rfl (certificate_Make_ok h17 (hm14.sl_call 1 rfl))) ?_
 rintro _ w22 ⟨v19, v20, e_, hm21⟩
 obtain rfl := e_.symm
 have hm23 := hm14.call hm21
 refine t_mv rfl rfl ?_
 refine t_rd rfl (rd_extract rfl rfl) ?_
 refine t_rd rfl (rd_extract rfl rfl) ?_
 refine t_ef rfl (ef_alloc hm23 tZ32 rfl) ?_
 rintro _ w26 ⟨g24, rfl, hm25⟩
 refine t_ef0 (ef_stw (k := 0) hm25 tA32 rfl rfl (oc_cons rfl (oc_cons (sl_one (hm25.sl 1 rfl)) (oc_cons (sl_one (hm25.sl 2 rfl)) oc_nil))) rfl rfl rfl) ?_
 intro _ w28 hm27
 refine t_as rfl rfl (rwt_n (cw_seq (cw_sr (t_mv rfl rfl ?_))))
 refine t_rd rfl (rd_neq rfl rfl) ?_
 refine rwt_n ?_
 obtain ⟨hb29, q30⟩ | ⟨hb29, q30⟩ := oi q18 <;> clear q18
 ·refine cw_t rfl hb29 (cw_sr ?_)
  refine t_rd rfl (rd_build (cs := #[(Value.slice none 0 0), (Value.int .i64 0), (Value.int .i64 0), (Value.slice none 0 0), (Value.slice none 0 0), (Value.slice none 0 0)]) rfl (by kernel_rfl)) ?_
  refine t_mv rfl rfl ?_
  refine t_ef0 (ef_stw (k := 5) hm27 tA74 rfl rfl (oc_cons (sl_one (Sl.nil (α := T_Item) No w28)) (oc_cons rfl (oc_cons rfl (oc_cons (sl_one (Sl.nil (α := Int) No w28)) (oc_cons (sl_one (Sl.nil (α := Int) No w28)) (oc_cons (sl_one (Sl.nil (α := Int) No w28)) oc_nil)))))) rfl rfl rfl) ?_
  intro _ w32 hm31
  refine t_as rfl rfl (t_as rfl rfl (rwt_n ?_))
  refine cw_ret ?_
  refine qr_then ?_
  obtain rfl := os q30
  have hm33 := hm31.addNil (α := T_Item) 40
  have hm34 := hm33.addNil (α := Int) 3
  have hm35 := hm34.addNil (α := Int) 3
  have hm36 := hm35.addNil (α := Int) 3
  have hm37 := hm36.addNil (α := Int) 3
  exact retLn (rs := [.cell 6 74, .tmp 7, .tmp 8]) rfl (.rc rfl tA74 (hm37.blk 10 rfl) rfl (.rt rfl (.rt rfl .rn))) rfl ⟨(Value.slice none 0 0), (Value.slice none 0 0), (Value.slice none 0 0), (Value.slice none 0 0), (Value.slice none 0 0), rfl, (hm37.pick [4, 3, 2, 1, 0] (by decide) rfl)⟩
 ·refine cw_f rfl hb29 (cw_skip (qn_then (cw_sr ?_)))
  refine t_rd rfl (rd_ld tA27 rfl (hm27.blk 3 rfl) rfl) ?_
  refine t_rd rfl (rd_fld tF32_0 rfl) ?_
  refine t_rd rfl (rd_ldp (cs' := [(Value.int .i64 r16.1), v19]) tA30 rfl (hm27.blk 0 rfl) (off := 0) rfl rfl) ?_
  obtain ⟨r38, h39, q40⟩ := ob q30; clear q30
  refine t_ef rfl (ef_call tf56 rfl (rollin_Loads_ok h39 (hm27.sl_call 4 rfl) (hm27.sl_call 1 rfl))) ?_
  rintro _ w43 ⟨v41, e_, hm42⟩
  obtain rfl := e_.symm
  have hm44 := hm27.call hm42
  refine t_mv rfl rfl ?_
  refine t_rd rfl (rd_extract rfl rfl) ?_
  refine t_rd rfl (rd_extract rfl rfl) ?_
  refine t_as rfl rfl (t_as rfl rfl (rwt_n (cw_seq (cw_sr (t_mv rfl rfl ?_)))))
  refine t_rd rfl (rd_neq rfl rfl) ?_
  refine rwt_n ?_
  obtain ⟨hb45, q46⟩ | ⟨hb45, q46⟩ := oi q40 <;> clear q40
  ·refine cw_t rfl hb45 (cw_sr ?_)
   refine t_rd rfl (rd_build (cs := #[(Value.slice none 0 0), (Value.int .i64 0), (Value.int .i64 0), (Value.slice none 0 0), (Value.slice none 0 0), (Value.slice none 0 0)]) rfl (by kernel_rfl)) ?_
   refine t_mv rfl rfl ?_
   refine t_ef0 (ef_stw (k := 6) hm44 tA74 rfl rfl (oc_cons (sl_one (Sl.nil (α := T_Item) No w43)) (oc_cons rfl (oc_cons rfl (oc_cons (sl_one (Sl.nil (α := Int) No w43)) (oc_cons (sl_one (Sl.nil (α := Int) No w43)) (oc_cons (sl_one (Sl.nil (α := Int) No w43)) oc_nil)))))) rfl rfl rfl) ?_
   intro _ w48 hm47
   refine t_as rfl rfl (t_as rfl rfl (rwt_n ?_))
   refine cw_ret ?_
   refine qr_then ?_
   obtain rfl := os q46
   have hm49 := hm47.addNil (α := T_Item) 40
   have hm50 := hm49.addNil (α := Int) 3
   have hm51 := hm50.addNil (α := Int) 3
   have hm52 := hm51.addNil (α := Int) 3
   have hm53 := hm52.addNil (α := Int) 3
   exact retLn (rs := [.cell 6 74, .tmp 7, .tmp 8]) rfl (.rc rfl tA74 (hm53.blk 11 rfl) rfl (.rt rfl (.rt rfl .rn))) rfl ⟨(Value.slice none 0 0), (Value.slice none 0 0), (Value.slice none 0 0), (Value.slice none 0 0), (Value.slice none 0 0), rfl, (hm53.pick [4, 3, 2, 1, 0] (by decide) rfl)⟩
  ·refine cw_f rfl hb45 (cw_skip (qn_then (cw_sr (t_mv rfl rfl (t_mv rfl rfl ?_)))))
   obtain ⟨r54, h55, q56⟩ := ob q46; clear q46
   refine t_ef rfl (ef_call tf84 rfl (assign_Match_ok h55 (hm44.sl_call 0 rfl) (hv2.to_call hm44))) ?_
   rintro _ w60 ⟨v57, v58, e_, hm59⟩
   obtain rfl := e_.symm
   have hm61 := hm44.call hm59
   refine t_mv rfl rfl ?_
   refine t_rd rfl (rd_extract rfl rfl) ?_
   refine t_rd rfl (rd_extract rfl rfl) ?_
   refine t_rd rfl (rd_extract rfl rfl) ?_
   refine t_as rfl rfl (t_as rfl rfl (t_as rfl rfl (rwt_n (cw_seq (cw_sr ?_)))))
   refine t_mv rfl rfl ?_
   refine t_rd rfl (rd_neq rfl rfl) ?_
   refine rwt_n ?_
   obtain ⟨hb62, q63⟩ | ⟨hb62, q63⟩ := oi q56 <;> clear q56
   ·refine cw_t rfl hb62 (cw_sr ?_)
    refine t_rd rfl (rd_build (cs := #[(Value.slice none 0 0), (Value.int .i64 0), (Value.int .i64 0), (Value.slice none 0 0), (Value.slice none 0 0), (Value.slice none 0 0)]) rfl (by kernel_rfl)) ?_
    refine t_mv rfl rfl (t_mv rfl rfl ?_)
    refine t_ef0 (ef_stw (k := 8) hm61 tA74 rfl rfl (oc_cons (sl_one (Sl.nil (α := T_Item) No w60)) (oc_cons rfl (oc_cons rfl (oc_cons (sl_one (Sl.nil (α := Int) No w60)) (oc_cons (sl_one (Sl.nil (α := Int) No w60)) (oc_cons (sl_one (Sl.nil (α := Int) No w60)) oc_nil)))))) rfl rfl rfl) ?_
    intro _ w65 hm64
    refine t_as rfl rfl (t_as rfl rfl (rwt_n ?_))
    refine cw_ret ?_
    refine qr_then ?_
    obtain rfl := os q63
    have hm66 := hm64.addNil (α := T_Item) 40
    have hm67 := hm66.addNil (α := Int) 3
    have hm68 := hm67.addNil (α := Int) 3
    have hm69 := hm68.addNil (α := Int) 3
    exact retLn (rs := [.cell 6 74, .tmp 7, .tmp 8]) rfl (.rc rfl tA74 (hm69.blk 12 rfl) rfl (.rt rfl (.rt rfl .rn))) rfl ⟨(Value.slice none 0 0), (Value.slice none 0 0), (Value.slice none 0 0), (Value.slice none 0 0), v58, rfl, (hm69.pick [3, 2, 1, 0, 5] (by decide) rfl)⟩
   ·refine cw_f rfl hb62 (cw_skip (qn_then (cw_sr ?_)))
    refine t_rd rfl (rd_ld tA27 rfl (hm61.blk 6 rfl) rfl) ?_
    refine t_rd rfl (rd_ld tA32 rfl (hm61.blk 3 rfl) rfl) ?_
    refine t_mv rfl rfl ?_
    refine t_rd rfl (rd_build (cs := #[v7, (Value.int .i64 a1), (Value.int .i64 r16.1), v19, v20, v57]) rfl (by obtain ⟨_, _, e⟩ := ((hm61.sl 7 rfl)).val; rw [e]; clear e; obtain ⟨_, _, e⟩ := ((hm61.sl 4 rfl)).val; rw [e]; clear e; obtain ⟨_, _, e⟩ := ((hm61.sl 5 rfl)).val; rw [e]; clear e; obtain ⟨_, _, e⟩ := ((hm61.sl 0 rfl)).val; rw [e]; clear e; kernel_rfl)) ?_
    refine t_ef0 (ef_stw (k := 8) hm61 tA74 rfl rfl (oc_cons (sl_one (hm61.sl 7 rfl)) (oc_cons rfl (oc_cons rfl (oc_cons (sl_one (hm61.sl 4 rfl)) (oc_cons (sl_one (hm61.sl 5 rfl)) (oc_cons (sl_one (hm61.sl 0 rfl)) oc_nil)))))) rfl rfl rfl) ?_
    intro _ w71 hm70
    refine t_as rfl rfl (t_as rfl rfl (rwt_n ?_))
    refine cw_ret ?_
    obtain rfl := os q63
    have hm72 := hm70.addNil (α := Int) 3
    exact retLn (rs := [.cell 6 74, .tmp 7, .tmp 8]) rfl (.rc rfl tA74 (hm72.blk 9 rfl) rfl (.rt rfl (.rt rfl .rn))) rfl ⟨v7, v19, v20, v57, (Value.slice none 0 0), rfl, (hm72.pick [8, 5, 6, 1, 0] (by decide) rfl)⟩

theorem planner_Plan_ok {N : Nat} {a0 : List T_Item} {a1 : List Int} {res : List T_Item × Int × Int × List Int × List Int × List Int × List Int × Int} (h : planner_Plan N a0 a1 = some res) {w : World} {v0 : Value} {v1 : Value} (hv0 : Sl (Old w No) w v0 a0) (hv1 : Sl (Old w No) w v1 a1) :
  CallsR Tryz.prog 24 [v0, v1] w (fun u w' => ∃ (y0 : Value) (y1 : Value) (y2 : Value) (y3 : Value) (y4 : Value), u = (Value.tuple #[(Value.agg #[y0, (Value.int .i64 res.2.1), (Value.int .i64 res.2.2.1), y1, y2, y3]), y4, (Value.int .i64 res.2.2.2.2.2.2.2)]) ∧ Mem w No [ownL 40 y0 (res.1 : List T_Item), ownL 3 y1 (res.2.2.2.1 : List Int), ownL 3 y2 (res.2.2.2.2.1 : List Int), ownL 3 y3 (res.2.2.2.2.2.1 : List Int), ownL 3 y4 (res.2.2.2.2.2.2.1 : List Int)] w') := by
 unfold planner_Plan at h
 refine fn_ok Tryz.func24 rfl rfl rfl ?_
 have hm0 := Mem.nil w
 refine cw_sr ?_
 refine t_ef rfl (ef_alloc hm0 tZ74 rfl) ?_
 rintro _ w3 ⟨g1, rfl, hm2⟩
 refine t_as rfl rfl (t_as rfl rfl (rwt_n (cw_sr (t_mv rfl rfl ?_))))
 obtain ⟨r4, h5, q6⟩ := ob h; clear h
 refine t_ef rfl (ef_call tf54 rfl (planner_Schemes_ok h5 (hv0.to_call hm2))) ?_
 rintro _ w9 ⟨v7, e_, hm8⟩
 obtain rfl := e_.symm
 have hm10 := hm2.call hm8
 refine t_mv rfl rfl ?_
 refine t_rd rfl (rd_extract rfl rfl) ?_
 refine t_rd rfl (rd_extract rfl rfl) ?_
 refine t_as rfl rfl (t_as rfl rfl (rwt_n (cw_seq (cw_sr (t_mv rfl rfl ?_)))))
 refine t_rd rfl (rd_neq rfl rfl) ?_
 refine rwt_n ?_
 obtain ⟨hb11, q12⟩ | ⟨hb11, q12⟩ := oi q6 <;> clear q6
 ·refine cw_t rfl hb11 (cw_sr ?_)
  refine t_rd rfl (rd_build (cs := #[(Value.slice none 0 0), (Value.int .i64 0), (Value.int .i64 0), (Value.slice none 0 0), (Value.slice none 0 0), (Value.slice none 0 0)]) rfl (by kernel_rfl)) ?_
  refine t_mv rfl rfl ?_
  refine t_ef0 (ef_stw (k := 1) hm10 tA74 rfl rfl (oc_cons (sl_one (Sl.nil (α := T_Item) No w9)) (oc_cons rfl (oc_cons rfl (oc_cons (sl_one (Sl.nil (α := Int) No w9)) (oc_cons (sl_one (Sl.nil (α := Int) No w9)) (oc_cons (sl_one (Sl.nil (α := Int) No w9)) oc_nil)))))) rfl rfl rfl) ?_
  intro _ w14 hm13
  refine t_as rfl rfl (t_as rfl rfl (rwt_n ?_))
  refine cw_ret ?_
  refine qr_then ?_
  obtain rfl := os q12
  have hm15 := hm13.addNil (α := T_Item) 40
  have hm16 := hm15.addNil (α := Int) 3
  have hm17 := hm16.addNil (α := Int) 3
  have hm18 := hm17.addNil (α := Int) 3
  have hm19 := hm18.addNil (α := Int) 3
  exact retLn (rs := [.cell 4 74, .tmp 5, .tmp 6]) rfl (.rc rfl tA74 (hm19.blk 6 rfl) rfl (.rt rfl (.rt rfl .rn))) rfl ⟨(Value.slice none 0 0), (Value.slice none 0 0), (Value.slice none 0 0), (Value.slice none 0 0), (Value.slice none 0 0), rfl, (hm19.pick [4, 3, 2, 1, 0] (by decide) rfl)⟩
 ·refine cw_f rfl hb11 (cw_skip (qn_then (cw_sr (t_as rfl rfl (rwt_n ?_)))))
  refine cw_seq (cw_sr (t_mv rfl rfl ?_))
  refine t_rd rfl (rd_lenS tS120 rfl (hm10.sl 0 rfl)) ?_
  refine t_mv rfl rfl (rwt_n (cw_block ?_))
  have hm62 := hm10.addNil (α := Int) 3
  obtain ⟨r162, hit163, q164⟩ := ob q12; clear q12
  refine cw_loop2 (I := fun q envq wq => ∃ (v155 : Value), Sub [(0, v0), (1, v1), (4, (Value.pointer (some ⟨g1, 0, none⟩))), (9, v155), (24, v7), (25, (Value.int .i64 (List.length r4.1 : Int))), (26, (Value.int .i64 q.1))] envq ∧ Mem w No [ownL 3 v155 (q.2 : List Int), ownL 124 v7 (r4.1 : List T_Scheme), blk g1 74 [(Value.slice none 0 0), (Value.int .i64 0), (Value.int .i64 0), (Value.slice none 0 0), (Value.slice none 0 0), (Value.slice none 0 0)]] wq) (X := fun eq envq wq => (∃ p165, r162 = (Sum.inl p165) ∧ eq = .ret ∧ retQ Tryz.prog 54 Tryz.f24 (fun u w' => ∃ (y0 : Value) (y1 : Value) (y2 : Value) (y3 : Value) (y4 : Value), u = (Value.tuple #[(Value.agg #[y0, (Value.int .i64 p165.2.1), (Value.int .i64 p165.2.2.1), y1, y2, y3]), y4, (Value.int .i64 p165.2.2.2.2.2.2.2)]) ∧ Mem w No [ownL 40 y0 (p165.1 : List T_Item), ownL 3 y1 (p165.2.2.2.1 : List Int), ownL 3 y2 (p165.2.2.2.2.1 : List Int), ownL 3 y3 (p165.2.2.2.2.2.1 : List Int), ownL 3 y4 (p165.2.2.2.2.2.2.1 : List Int)] w') .ret envq wq) ∨ (∃ p166, r162 = (Sum.inr p166) ∧ eq = .exit 0 ∧ ∃ (v152 : Value), Sub [(4, (Value.pointer (some ⟨g1, 0, none⟩))), (9, v152)] envq ∧ Mem w No [ownL 3 v152 (p166 : List Int), blk g1 74 [(Value.slice none 0 0), (Value.int .i64 0), (Value.int .i64 0), (Value.slice none 0 0), (Value.slice none 0 0), (Value.slice none 0 0)]] wq)) hit163 ⟨(Value.slice none 0 0), (by repeat (first | exact Sub.nil _ | refine Sub.cons rfl ?_)), (hm62.pick [0, 1, 2] (by decide) rfl)⟩ ?_ ?_
  ·rintro ⟨i153, l154⟩ x157 env158 w159 hf160 hr161 ⟨v155, hs_, hm_⟩
   have hs_ : Sub [(0, v0), (1, v1), (4, (Value.pointer (some ⟨g1, 0, none⟩))), (9, v155), (24, v7), (25, (Value.int .i64 (List.length r4.1 : Int))), (26, (Value.int .i64 i153))] env158 := hs_
   have hm167 : Mem w No [ownL 3 v155 (l154 : List Int), ownL 124 v7 (r4.1 : List T_Scheme), blk g1 74 [(Value.slice none 0 0), (Value.int .i64 0), (Value.int .i64 0), (Value.slice none 0 0), (Value.slice none 0 0), (Value.slice none 0 0)]] w159 := hm_
   refine cw_sub hs_ ?_
   clear hs_ hm_ q164
   have h : planner_Plan_l1 N a0 a1 r4 i153 l154 = some x157 := hf160
   clear hf160
   refine cw_sr (t_rd rfl (rd_lss rfl rfl) (rwt_n (cw_seq ?_)))
   obtain ⟨hb168, q169⟩ | ⟨hb168, q169⟩ := oi h <;> clear h
   ·refine cw_t rfl hb168 (cw_skip (qn_then (cw_seq (cw_block (cw_sr ?_)))))
    refine t_mv rfl rfl ?_
    obtain ⟨x170, h171, q172⟩ := ob q169; clear q169
    refine t_rd rfl (rd_index tS120 rfl rfl (hm167.sl 1 rfl) h171) ?_
    refine t_rd rfl (rd_ld tA124 rfl ((hm167.sl 1 rfl).cells h171) rfl) ?_
    refine t_ef rfl (ef_alloc hm167 tZ124 rfl) ?_
    rintro _ w175 ⟨g173, rfl, hm174⟩
    refine t_as rfl rfl ?_
    refine t_ef0 (ef_stw (k := 0) hm174 tA124 rfl rfl (oc_cons rfl (oc_cons rfl (oc_cons rfl (oc_cons rfl oc_nil)))) rfl rfl rfl) ?_
    intro _ w177 hm176
    refine rwt_n (cw_sr (t_mv rfl rfl (t_rd rfl (rd_fld tF124_0 rfl) ?_)))
    refine t_rd rfl (rd_ld1 tO3 rfl (hm176.blk 0 rfl) (off := 0) rfl) ?_
    refine t_mv rfl rfl ?_
    obtain ⟨r178, h179, q180⟩ := ob q172; clear q172
    refine t_ef rfl (ef_call tf55 rfl (planner_sheet_ok h179 (hv0.to_call hm176) (hv1.to_call hm176))) ?_
    rintro _ w187 ⟨v181, v182, v183, v184, v185, e_, hm186⟩
    obtain rfl := e_.symm
    have hm188 := hm176.call hm186
    refine t_mv rfl rfl ?_
    refine t_rd rfl (rd_extract rfl rfl) ?_
    refine t_rd rfl (rd_extract rfl rfl) ?_
    refine t_rd rfl (rd_extract rfl rfl) ?_
    refine t_ef rfl (ef_alloc hm188 tZ74 rfl) ?_
    rintro _ w191 ⟨g189, rfl, hm190⟩
    refine t_ef0 (ef_stw (k := 0) hm190 tA74 rfl rfl (oc_cons (sl_one (hm190.sl 1 rfl)) (oc_cons rfl (oc_cons rfl (oc_cons (sl_one (hm190.sl 2 rfl)) (oc_cons (sl_one (hm190.sl 3 rfl)) (oc_cons (sl_one (hm190.sl 4 rfl)) oc_nil)))))) rfl rfl rfl) ?_
    intro _ w193 hm192
    refine t_as rfl rfl (t_as rfl rfl (rwt_n (cw_sr (t_mv rfl rfl (rwt_n (cw_block ?_))))))
    refine cw_sr ?_
    refine t_rd rfl (rd_eql rfl rfl) ?_
    refine t_as rfl rfl (rwt_n ?_)
    obtain ⟨hb194, q195⟩ | ⟨hb194, q195⟩ := oi q180 <;> clear q180
    ·refine cw_t rfl hb194 (cw_sr ?_)
     refine t_rd rfl (rd_ld tA74 rfl (hm192.blk 0 rfl) rfl) ?_
     refine t_ef0 (ef_stw (k := 9) hm192 tA74 rfl rfl (oc_cons (sl_one (hm192.sl 1 rfl)) (oc_cons rfl (oc_cons rfl (oc_cons (sl_one (hm192.sl 2 rfl)) (oc_cons (sl_one (hm192.sl 3 rfl)) (oc_cons (sl_one (hm192.sl 4 rfl)) oc_nil)))))) rfl rfl rfl) ?_
     intro _ w197 hm196
     refine t_as rfl rfl (t_as rfl rfl (rwt_n ?_))
     refine cw_ret ?_
     refine qr_block (qr_block (qr_then (qr_then ?_)))
     obtain rfl := hr161 _ (os q195)
     refine .inl (⟨_, rfl, ⟨rfl, ?_⟩⟩)
     have hm198 := hm196.addNil (α := Int) 3
     exact retLn (rs := [.cell 4 74, .tmp 5, .tmp 6]) rfl (.rc rfl tA74 (hm198.blk 10 rfl) rfl (.rt rfl (.rt rfl .rn))) rfl ⟨v181, v182, v183, v184, (Value.slice none 0 0), rfl, (hm198.pick [2, 3, 4, 5, 0] (by decide) rfl)⟩
    ·refine cw_f rfl hb194 (cw_sr ?_)
     refine t_rd rfl (rd_eql rfl rfl) ?_
     refine t_as rfl rfl (rwt_n ?_)
     obtain ⟨hb199, q200⟩ | ⟨hb199, q200⟩ := oi q195 <;> clear q195
     ·refine cw_t rfl hb199 (cw_sr (t_mv rfl rfl ?_))
      refine t_rd rfl (rd_eql rfl rfl) ?_
      refine rwt_n ?_
      obtain ⟨hb201, q202⟩ | ⟨hb201, q202⟩ := oi q200 <;> clear q200
      ·refine cw_t rfl hb201 ?_
       refine cw_region ?_
       refine t_mv rfl rfl (t_as rfl rfl ?_)
       refine rwt_nil ?_
       refine qn_block (qn_block (qn_then ?_))
       refine cw_region ?_
       obtain ⟨x203, h204, q205⟩ := ob q202; clear q202
       refine t_rd rfl (rd_add64 h204 rfl rfl) (t_mv rfl rfl (rwt_n ?_))
       refine ⟨_, (os q205), v185, (by repeat (first | exact Sub.nil _ | refine Sub.cons rfl ?_)), (hm192.pick [5, 8, 9] (by decide) rfl)⟩
      ·refine cw_f rfl hb201 (cw_skip ?_)
       refine qn_block (qn_block (qn_then ?_))
       refine cw_region ?_
       obtain ⟨x206, h207, q208⟩ := ob q202; clear q202
       refine t_rd rfl (rd_add64 h207 rfl rfl) (t_mv rfl rfl (rwt_n ?_))
       refine ⟨_, (os q208), v155, (by repeat (first | exact Sub.nil _ | refine Sub.cons rfl ?_)), (hm192.pick [7, 8, 9] (by decide) rfl)⟩
     ·refine cw_f rfl hb199 (cw_sr ?_)
      refine t_rd rfl (rd_build (cs := #[(Value.slice none 0 0), (Value.int .i64 0), (Value.int .i64 0), (Value.slice none 0 0), (Value.slice none 0 0), (Value.slice none 0 0)]) rfl (by kernel_rfl)) ?_
      refine t_mv rfl rfl ?_
      refine t_ef0 (ef_stw (k := 9) hm192 tA74 rfl rfl (oc_cons (sl_one (Sl.nil (α := T_Item) No w193)) (oc_cons rfl (oc_cons rfl (oc_cons (sl_one (Sl.nil (α := Int) No w193)) (oc_cons (sl_one (Sl.nil (α := Int) No w193)) (oc_cons (sl_one (Sl.nil (α := Int) No w193)) oc_nil)))))) rfl rfl rfl) ?_
      intro _ w210 hm209
      refine t_as rfl rfl (t_as rfl rfl (rwt_n ?_))
      refine cw_ret ?_
      refine qr_block (qr_block (qr_then (qr_then ?_)))
      obtain rfl := hr161 _ (os q200)
      refine .inl (⟨_, rfl, ⟨rfl, ?_⟩⟩)
      have hm211 := hm209.addNil (α := T_Item) 40
      have hm212 := hm211.addNil (α := Int) 3
      have hm213 := hm212.addNil (α := Int) 3
      have hm214 := hm213.addNil (α := Int) 3
      have hm215 := hm214.addNil (α := Int) 3
      exact retLn (rs := [.cell 4 74, .tmp 5, .tmp 6]) rfl (.rc rfl tA74 (hm215.blk 14 rfl) rfl (.rt rfl (.rt rfl .rn))) rfl ⟨(Value.slice none 0 0), (Value.slice none 0 0), (Value.slice none 0 0), (Value.slice none 0 0), (Value.slice none 0 0), rfl, (hm215.pick [4, 3, 2, 1, 0] (by decide) rfl)⟩
   ·refine cw_f rfl hb168 ?_
    refine cw_exit ?_
    refine qx_then (qx_then ?_)
    obtain rfl := hr161 _ (os q169)
    exact .inr (⟨_, rfl, ⟨rfl, v155, (by repeat (first | exact Sub.nil _ | refine Sub.cons rfl ?_)), (hm167.pick [0, 2] (by decide) rfl)⟩⟩)
  ·skip
   intro e env216 w217 hX218
   rcases hX218 with hX218 | hX218
   ·obtain ⟨p220, rfl, hX218⟩ := hX218
    obtain ⟨rfl, hq222⟩ := hX218
    exact qr_block (qr_then ((by have e := os q164; subst e; exact hq222)))
   ·obtain ⟨p223, rfl, hX218⟩ := hX218
    obtain ⟨rfl, v152, hs224, hm225⟩ := hX218
    refine qx_same (qn_then ?_)
    refine cw_sub hs224 ?_
    refine cw_sr ?_
    refine t_rd rfl (rd_build (cs := #[(Value.slice none 0 0), (Value.int .i64 0), (Value.int .i64 0), (Value.slice none 0 0), (Value.slice none 0 0), (Value.slice none 0 0)]) rfl (by kernel_rfl)) ?_
    refine t_mv rfl rfl ?_
    refine t_ef0 (ef_stw (k := 1) hm225 tA74 rfl rfl (oc_cons (sl_one (Sl.nil (α := T_Item) No w217)) (oc_cons rfl (oc_cons rfl (oc_cons (sl_one (Sl.nil (α := Int) No w217)) (oc_cons (sl_one (Sl.nil (α := Int) No w217)) (oc_cons (sl_one (Sl.nil (α := Int) No w217)) oc_nil)))))) rfl rfl rfl) ?_
    intro _ w227 hm226
    refine t_as rfl rfl (t_as rfl rfl (rwt_n ?_))
    refine cw_ret ?_
    obtain rfl := os q164
    have hm228 := hm226.addNil (α := T_Item) 40
    have hm229 := hm228.addNil (α := Int) 3
    have hm230 := hm229.addNil (α := Int) 3
    have hm231 := hm230.addNil (α := Int) 3
    exact retLn (rs := [.cell 4 74, .tmp 5, .tmp 6]) rfl (.rc rfl tA74 (hm231.blk 5 rfl) rfl (.rt rfl (.rt rfl .rn))) rfl ⟨(Value.slice none 0 0), (Value.slice none 0 0), (Value.slice none 0 0), (Value.slice none 0 0), v152, rfl, (hm231.pick [3, 2, 1, 0, 4] (by decide) rfl)⟩

theorem humpgen_Ints_ok {N : Nat} {a0 : List Int} {a1 : List Int} {res : Bool} (h : humpgen_Ints N a0 a1 = some res) {w : World} {v0 : Value} {v1 : Value} (hv0 : Sl (Old w No) w v0 a0) (hv1 : Sl (Old w No) w v1 a1) :
  CallsR Tryz.prog 65 [v0, v1] w (fun u w' => u = (Value.bool res) ∧ Mem w No [] w') := by
 unfold humpgen_Ints at h
 refine fn_ok Tryz.func65 rfl rfl rfl ?_
 have hm0 := Mem.nil w
 refine cw_sr (t_as rfl rfl (rwt_n (cw_seq (cw_sr (t_mv rfl rfl ?_)))))
 refine t_rd rfl (rd_lenS tS22 rfl (hv0.of_old hm0)) ?_
 refine t_mv rfl rfl ?_
 refine t_rd rfl (rd_lenS tS22 rfl (hv1.of_old hm0)) ?_
 refine t_rd rfl (rd_neq rfl rfl) ?_
 refine rwt_n ?_
 obtain ⟨hb1, q2⟩ | ⟨hb1, q2⟩ := oi h <;> clear h
 ·refine cw_t rfl hb1 (cw_sr (t_as rfl rfl (rwt_n ?_)))
  refine cw_ret ?_
  refine qr_then ?_
  obtain rfl := os q2
  exact ret1 rfl rfl ⟨rfl, (hm0.pick [] (by decide) rfl)⟩
 ·refine cw_f rfl hb1 (cw_skip (qn_then (cw_seq (cw_sr (t_as rfl rfl ?_)))))
  refine rwt_n (cw_block ?_)
  obtain ⟨r57, hit58, q59⟩ := ob q2; clear q2
  refine cw_loop2 (I := fun q envq wq => Sub [(0, v0), (1, v1), (5, (Value.int .i64 q))] envq ∧ Mem w No [] wq) (X := fun eq envq wq => (∃ p60, r57 = (Sum.inl p60) ∧ eq = .ret ∧ retQ Tryz.prog 26 Tryz.f65 (fun u w' => u = (Value.bool p60) ∧ Mem w No [] w') .ret envq wq) ∨ (∃ p61, r57 = (Sum.inr p61) ∧ eq = .exit 0 ∧ Sub [] envq ∧ Mem w No [] wq)) hit58 ⟨(by repeat (first | exact Sub.nil _ | refine Sub.cons rfl ?_)), (hm0.pick [] (by decide) rfl)⟩ ?_ ?_
  ·rintro i50 x52 env53 w54 hf55 hr56 ⟨hs_, hm_⟩
   have hs_ : Sub [(0, v0), (1, v1), (5, (Value.int .i64 i50))] env53 := hs_
   have hm62 : Mem w No [] w54 := hm_
   refine cw_sub hs_ ?_
   clear hs_ hm_ q59
   have h : humpgen_Ints_l1 N a0 a1 i50 = some x52 := hf55
   clear hf55
   refine cw_seq (cw_sr (t_mv rfl rfl (t_mv rfl rfl ?_)))
   refine t_rd rfl (rd_lenS tS22 rfl (hv0.of_old hm62)) ?_
   refine t_rd rfl (rd_lss rfl rfl) (rwt_n ?_)
   obtain ⟨hb63, q64⟩ | ⟨hb63, q64⟩ := oi h <;> clear h
   ·refine cw_t rfl hb63 (cw_skip (qn_then (cw_seq (cw_block (cw_seq ?_)))))
    obtain ⟨w72, he74⟩ : ∃ q, q = w54.drew := ⟨_, rfl⟩
    have hm73 := hm62.drew; rw [← he74] at hm73
    refine cw_region_s (fun q => q = w72) (cls [] []) mixed ?_
    rintro _ rfl; rw [← he74]
    refine s_rp (i := 0) rfl (by kernel_rfl) rfl (fun _ => (rd_move rfl)) ?_
    refine s_rp (i := 1) rfl (by kernel_rfl) rfl (fun _ => (rd_move rfl)) ?_
    obtain ⟨x75, h76, q77⟩ := ob q64; clear q64
    refine s_rp (i := 2) rfl (by kernel_rfl) rfl (fun _ => (rd_index tS22 rfl rfl (hv0.of_old hm73) h76)) ?_
    refine s_rd (i := 3) rfl (by kernel_rfl) rfl (fun _ hS => by rw [hS]; exact (rd_ld1 tO3 rfl ((hv0.of_old hm73).cells h76) (off := 0) rfl)) rfl ?_
    refine s_rp (i := 4) rfl (by kernel_rfl) rfl (fun _ => (rd_move rfl)) ?_
    refine s_rp (i := 5) rfl (by kernel_rfl) rfl (fun _ => (rd_move rfl)) ?_
    obtain ⟨x78, h79, q80⟩ := ob q77; clear q77
    refine s_rp (i := 6) rfl (by kernel_rfl) rfl (fun _ => (rd_index tS22 rfl rfl (hv1.of_old hm73) h79)) ?_
    refine s_rd (i := 7) rfl (by kernel_rfl) rfl (fun _ hS => by rw [hS]; exact (rd_ld1 tO3 rfl ((hv1.of_old hm73).cells h79) (off := 0) rfl)) rfl ?_
    refine s_rp (i := 8) rfl (by kernel_rfl) rfl (fun _ => (rd_neq rfl rfl)) ?_
    refine s_nil (by kernel_rfl) ?_
    refine qn_then ?_
    obtain ⟨hb81, q82⟩ | ⟨hb81, q82⟩ := oi q80 <;> clear q80
    ·refine cw_t rfl hb81 (cw_sr (t_as rfl rfl (rwt_n ?_)))
     refine cw_ret ?_
     refine qr_block (qr_then (qr_then ?_))
     obtain rfl := hr56 _ (os q82)
     refine .inl (⟨_, rfl, ⟨rfl, ?_⟩⟩)
     exact ret1 rfl rfl ⟨rfl, (hm73.pick [] (by decide) rfl)⟩
    ·refine cw_f rfl hb81 (cw_skip ?_)
     refine qn_block (qn_then ?_)
     refine cw_region ?_
     refine t_mv rfl rfl ?_
     obtain ⟨x83, h84, q85⟩ := ob q82; clear q82
     refine t_rd rfl (rd_add64 h84 rfl rfl) (t_as rfl rfl (rwt_n ?_))
     refine ⟨_, (os q85), (by repeat (first | exact Sub.nil _ | refine Sub.cons rfl ?_)), (hm73.pick [] (by decide) rfl)⟩
   ·refine cw_f rfl hb63 ?_
    refine cw_exit ?_
    refine qx_then (qx_then ?_)
    obtain rfl := hr56 _ (os q64)
    exact .inr (⟨_, rfl, ⟨rfl, (by repeat (first | exact Sub.nil _ | refine Sub.cons rfl ?_)), (hm62.pick [] (by decide) rfl)⟩⟩)
  ·skip
   intro e env86 w87 hX88
   rcases hX88 with hX88 | hX88
   ·obtain ⟨p90, rfl, hX88⟩ := hX88
    obtain ⟨rfl, hq92⟩ := hX88
    exact qr_block (qr_then ((by have e := os q59; subst e; exact hq92)))
   ·obtain ⟨p93, rfl, hX88⟩ := hX88
    obtain ⟨rfl, hs94, hm95⟩ := hX88
    refine qx_same (qn_then ?_)
    refine cw_sub hs94 ?_
    refine cw_sr (t_as rfl rfl (rwt_n ?_))
    refine cw_ret ?_
    obtain rfl := os q59
    exact ret1 rfl rfl ⟨rfl, (hm95.pick [] (by decide) rfl)⟩

theorem humpgen_Lists_ok {N : Nat} {a0 : List (List Int)} {a1 : List (List Int)} {res : Bool} (h : humpgen_Lists N a0 a1 = some res) {w : World} {v0 : Value} {v1 : Value} (hv0 : Sl (Old w No) w v0 a0) (hv1 : Sl (Old w No) w v1 a1) :
  CallsR Tryz.prog 30 [v0, v1] w (fun u w' => u = (Value.bool res) ∧ Mem w No [] w') := by
 unfold humpgen_Lists at h
 refine fn_ok Tryz.func30 rfl rfl rfl ?_
 obtain ⟨zs_a0, hn0⟩ := hv0.nest
 obtain ⟨zs_a1, hn1⟩ := hv1.nest
 have hm0 := Mem.nil w
 refine cw_sr (t_as rfl rfl (rwt_n (cw_seq (cw_sr (t_mv rfl rfl ?_)))))
 refine t_rd rfl (rd_lenS tS41 rfl ((hn0.of_old hm0).sl)) ?_
 refine t_mv rfl rfl ?_
 refine t_rd rfl (rd_lenS tS41 rfl ((hn1.of_old hm0).sl)) ?_
 refine t_rd rfl (rd_neq rfl rfl) ?_
 refine rwt_n ?_
 obtain ⟨hb1, q2⟩ | ⟨hb1, q2⟩ := oi h <;> clear h
 ·refine cw_t rfl hb1 (cw_sr (t_as rfl rfl (rwt_n ?_)))
  refine cw_ret ?_
  refine qr_then ?_
  obtain rfl := os q2
  exact ret1 rfl rfl ⟨rfl, (hm0.pick [] (by decide) rfl)⟩
 ·refine cw_f rfl hb1 (cw_skip (qn_then (cw_seq (cw_sr (t_as rfl rfl ?_)))))
  refine rwt_n (cw_block ?_)
  obtain ⟨r97, hit98, q99⟩ := ob q2; clear q2
  refine cw_loop2 (I := fun q envq wq => Sub [(0, v0), (1, v1), (5, (Value.int .i64 q))] envq ∧ Mem w No [] wq) (X := fun eq envq wq => (∃ p100, r97 = (Sum.inl p100) ∧ eq = .ret ∧ retQ Tryz.prog 27 Tryz.f30 (fun u w' => u = (Value.bool p100) ∧ Mem w No [] w') .ret envq wq) ∨ (∃ p101, r97 = (Sum.inr p101) ∧ eq = .exit 0 ∧ Sub [] envq ∧ Mem w No [] wq)) hit98 ⟨(by repeat (first | exact Sub.nil _ | refine Sub.cons rfl ?_)), (hm0.pick [] (by decide) rfl)⟩ ?_ ?_
  ·rintro i90 x92 env93 w94 hf95 hr96 ⟨hs_, hm_⟩
   have hs_ : Sub [(0, v0), (1, v1), (5, (Value.int .i64 i90))] env93 := hs_
   have hm102 : Mem w No [] w94 := hm_
   refine cw_sub hs_ ?_
   clear hs_ hm_ q99
   have h : humpgen_Lists_l1 N a0 a1 i90 = some x92 := hf95
   clear hf95
   refine cw_seq (cw_sr (t_mv rfl rfl (t_mv rfl rfl ?_)))
   refine t_rd rfl (rd_lenS tS41 rfl ((hn0.of_old hm102).sl)) ?_
   refine t_rd rfl (rd_lss rfl rfl) (rwt_n ?_)
   obtain ⟨hb103, q104⟩ | ⟨hb103, q104⟩ := oi h <;> clear h
   ·refine cw_t rfl hb103 (cw_skip (qn_then (cw_seq (cw_block (cw_seq ?_)))))
    obtain ⟨w122, he124⟩ : ∃ q, q = w94.drew := ⟨_, rfl⟩
    have hm123 := hm102.drew; rw [← he124] at hm123
    refine cw_region_s (fun q => q = w122) (cls [] [8]) mixed ?_
    rintro _ rfl; rw [← he124]
    refine s_rp (i := 0) rfl (by kernel_rfl) rfl (fun _ => (rd_move rfl)) ?_
    refine s_rp (i := 1) rfl (by kernel_rfl) rfl (fun _ => (rd_move rfl)) ?_
    obtain ⟨x125, h126, q127⟩ := ob q104; clear q104
    refine s_rp (i := 2) rfl (by kernel_rfl) rfl (fun _ => (rd_index tS41 rfl rfl ((hn0.of_old hm123).sl) h126)) ?_
    obtain ⟨zd128, hz129⟩ := (hn0.of_old hm123).row h126
    refine s_rd (i := 3) rfl (by kernel_rfl) rfl (fun _ hS => by rw [hS]; exact (rd_ld1 tO22 rfl ((hn0.of_old hm123).cells hz129) (off := 0) rfl)) rfl ?_
    refine s_rp (i := 4) rfl (by kernel_rfl) rfl (fun _ => (rd_move rfl)) ?_
    refine s_rp (i := 5) rfl (by kernel_rfl) rfl (fun _ => (rd_move rfl)) ?_
    obtain ⟨x130, h131, q132⟩ := ob q127; clear q127
    refine s_rp (i := 6) rfl (by kernel_rfl) rfl (fun _ => (rd_index tS41 rfl rfl ((hn1.of_old hm123).sl) h131)) ?_
    obtain ⟨zd133, hz134⟩ := (hn1.of_old hm123).row h131
    refine s_rd (i := 7) rfl (by kernel_rfl) rfl (fun _ hS => by rw [hS]; exact (rd_ld1 tO22 rfl ((hn1.of_old hm123).cells hz134) (off := 0) rfl)) rfl ?_
    obtain ⟨r135, h136, q137⟩ := ob q132; clear q132
    refine s_ef (i := 8) rfl (by kernel_rfl) rfl (ef_call tf65 rfl (humpgen_Ints_ok h136 ((hn0.to_call hm123).get hz129 h126) ((hn1.to_call hm123).get hz134 h131))) (by decide) (fun _ _ _ q => absurd q (by decide)) ?_
    rintro _ w139 ⟨e_, hm138⟩
    obtain rfl := e_.symm
    have hm140 := hm123.call hm138
    refine s_rp (i := 9) rfl (by kernel_rfl) rfl (fun _ => (rd_not rfl)) ?_
    refine s_nil (by kernel_rfl) ?_
    refine qn_then ?_
    obtain ⟨hb141, q142⟩ | ⟨hb141, q142⟩ := oi q137 <;> clear q137
    ·refine cw_t rfl hb141 (cw_sr (t_as rfl rfl (rwt_n ?_)))
     refine cw_ret ?_
     refine qr_block (qr_then (qr_then ?_))
     obtain rfl := hr96 _ (os q142)
     refine .inl (⟨_, rfl, ⟨rfl, ?_⟩⟩)
     exact ret1 rfl rfl ⟨rfl, (hm140.pick [] (by decide) rfl)⟩
    ·refine cw_f rfl hb141 (cw_skip ?_)
     refine qn_block (qn_then ?_)
     refine cw_region ?_
     refine t_mv rfl rfl ?_
     obtain ⟨x143, h144, q145⟩ := ob q142; clear q142
     refine t_rd rfl (rd_add64 h144 rfl rfl) (t_as rfl rfl (rwt_n ?_))
     refine ⟨_, (os q145), (by repeat (first | exact Sub.nil _ | refine Sub.cons rfl ?_)), (hm140.pick [] (by decide) rfl)⟩
   ·refine cw_f rfl hb103 ?_
    refine cw_exit ?_
    refine qx_then (qx_then ?_)
    obtain rfl := hr96 _ (os q104)
    exact .inr (⟨_, rfl, ⟨rfl, (by repeat (first | exact Sub.nil _ | refine Sub.cons rfl ?_)), (hm102.pick [] (by decide) rfl)⟩⟩)
  ·skip
   intro e env146 w147 hX148
   rcases hX148 with hX148 | hX148
   ·obtain ⟨p150, rfl, hX148⟩ := hX148
    obtain ⟨rfl, hq152⟩ := hX148
    exact qr_block (qr_then ((by have e := os q99; subst e; exact hq152)))
   ·obtain ⟨p153, rfl, hX148⟩ := hX148
    obtain ⟨rfl, hs154, hm155⟩ := hX148
    refine qx_same (qn_then ?_)
    refine cw_sub hs154 ?_
    refine cw_sr (t_as rfl rfl (rwt_n ?_))
    refine cw_ret ?_
    obtain rfl := os q99
    exact ret1 rfl rfl ⟨rfl, (hm155.pick [] (by decide) rfl)⟩

theorem humpyardtop_awake_ok {N : Nat} {res : Bool} (h : humpyardtop_awake N = some res) {w : World}   :
  CallsR Tryz.prog 9 [] w (fun u w' => u = (Value.bool res) ∧ Mem w No [] w') := by
 unfold humpyardtop_awake at h
 refine fn_ok Tryz.func9 rfl rfl rfl ?_
 have hm0 := Mem.nil w
 refine cw_sr (t_as rfl rfl (rwt_n (cw_sr ?_)))
 refine t_rd rfl (rd_build (cs := #[(Value.int .i64 0), (Value.int .i64 1), (Value.int .i64 0), (Value.int .i64 100)]) rfl (by kernel_rfl)) ?_
 refine t_rd rfl (rd_build (cs := #[(Value.int .i64 0), (Value.int .i64 0), (Value.int .i64 0), (Value.int .i64 100)]) rfl (by kernel_rfl)) ?_
 refine t_ef rfl (ef_bslice (l := ([(T_Item.mk 0 1 0 100), (T_Item.mk 0 0 0 100)] : List T_Item)) hm0 tS25 rfl (cs := #[(Value.int .i64 0), (Value.int .i64 1), (Value.int .i64 0), (Value.int .i64 100), (Value.int .i64 0), (Value.int .i64 0), (Value.int .i64 0), (Value.int .i64 100)]) (by unfold bsl; kernel_rfl) rfl rfl) ?_
 intro v1 w3 hm2
 refine t_ef rfl (ef_bslice (l := ([300, 300] : List Int)) hm2 tS22 rfl (cs := #[(Value.int .i64 300), (Value.int .i64 300)]) (by unfold bsl; kernel_rfl) rfl rfl) ?_
 intro v4 w6 hm5
 obtain ⟨r7, h8, q9⟩ := ob h; clear h
 refine t_ef rfl (ef_call tf24 rfl (planner_Plan_ok h8 (hm5.sl_call 1 rfl) (hm5.sl_call 0 rfl))) ?_
 rintro _ w16 ⟨v10, v11, v12, v13, v14, e_, hm15⟩
 obtain rfl := e_.symm
 have hm17 := hm5.call hm15
 refine t_mv rfl rfl ?_
 refine t_rd rfl (rd_extract rfl rfl) ?_
 refine t_rd rfl (rd_extract rfl rfl) ?_
 refine t_rd rfl (rd_extract rfl rfl) ?_
 refine t_ef rfl (ef_alloc hm17 tZ74 rfl) ?_
 rintro _ w20 ⟨g18, rfl, hm19⟩
 refine t_ef0 (ef_stw (k := 0) hm19 tA74 rfl rfl (oc_cons (sl_one (hm19.sl 1 rfl)) (oc_cons rfl (oc_cons rfl (oc_cons (sl_one (hm19.sl 2 rfl)) (oc_cons (sl_one (hm19.sl 3 rfl)) (oc_cons (sl_one (hm19.sl 4 rfl)) oc_nil)))))) rfl rfl rfl) ?_
 intro _ w22 hm21
 refine t_as rfl rfl (t_as rfl rfl (rwt_n (cw_sr (t_rd rfl (rd_fld tF74_0 rfl) ?_))))
 refine t_rd rfl (rd_ldp (cs' := [v10, (Value.int .i64 r7.2.1)]) tA27 rfl (hm21.blk 0 rfl) (off := 0) rfl rfl) ?_
 refine t_rd rfl (rd_fld tF74_1 rfl) (t_rd rfl (rd_fld tF32_0 rfl) ?_)
 refine t_rd rfl (rd_ldp (cs' := [(Value.int .i64 r7.2.2.1), v11]) tA30 rfl (hm21.blk 0 rfl) (off := 2) rfl rfl) ?_
 obtain ⟨r23, h24, q25⟩ := ob q9; clear q9
 refine t_ef rfl (ef_call tf26 rfl (rollin_Run_ok h24 (hm21.sl_call 1 rfl) (hm21.sl_call 2 rfl))) ?_
 rintro _ w29 ⟨zs27, v26, e_, hm28⟩
 obtain rfl := e_.symm
 have hm30 := hm21.call hm28
 refine t_mv rfl rfl ?_
 refine t_rd rfl (rd_extract rfl rfl) ?_
 refine t_rd rfl (rd_extract rfl rfl) ?_
 refine t_ef rfl (ef_alloc hm30 tZ79 rfl) ?_
 rintro _ w33 ⟨g31, rfl, hm32⟩
 refine t_ef0 (ef_stw (k := 0) hm32 tA79 rfl rfl (oc_cons (sl_one ((Nl.mk (hm32.sl_call 1 rfl) (hm32.rows_call 2 rfl)).sl)) (oc_cons rfl oc_nil)) rfl rfl rfl) ?_
 intro _ w35 hm34
 refine t_as rfl rfl (rwt_n (cw_sr (t_mv rfl rfl ?_)))
 refine t_rd rfl (rd_eql rfl rfl) ?_
 refine t_mv rfl rfl ?_
 refine t_rdg rfl rfl rfl rfl (gv_t _) (fun hg36 => (rd_move rfl)) ?_
 refine t_rdg rfl rfl rfl rfl (gv_t _) (fun hg37 => (rd_eql (gvx rfl hg37) rfl)) ?_
 refine t_rd rfl (rd_and rfl (fun hc38 => (gvx rfl hc38))) ?_
 refine t_mv rfl rfl ?_
 refine t_rdg rfl rfl rfl rfl (gv_t _) (fun hg39 => (rd_fld tF74_1 rfl)) ?_
 refine t_rdg rfl rfl rfl rfl (gv_t _) (fun hg40 => (rd_fld tF32_0 (gvx rfl hg40))) ?_
 refine t_rdg rfl rfl rfl rfl (gv_t _) (fun hg41 => (rd_fld tF30_0 (gvx rfl hg41))) ?_
 refine t_rdg rfl rfl rfl rfl (gv_t _) (fun hg42 => (rd_ld1 tO3 (gvx rfl hg42) (hm34.blk 3 rfl) (off := 2) rfl)) ?_
 refine t_rdg rfl rfl rfl rfl (gv_t _) (fun hg43 => (rd_eql (gvx rfl hg43) rfl)) ?_
 refine t_rd rfl (rd_and rfl (fun hc44 => (gvx rfl hc44))) ?_
 refine t_mv rfl rfl ?_
 refine t_rdg rfl rfl rfl rfl (gv_t _) (fun hg45 => (rd_fld tF79_0 rfl)) ?_
 refine t_rdg rfl rfl rfl rfl (gv_t _) (fun hg46 => (rd_ld1 tO41 (gvx rfl hg46) (hm34.blk 0 rfl) (off := 0) rfl)) ?_
 obtain ⟨hb48, q49⟩ | ⟨hb48, q49⟩ := oi q25 <;> clear q25
 ·skip
  refine t_efg rfl rfl rfl rfl (gv_t _) (fun _ => (ef_bslice (l := ([1, 0] : List Int)) hm34 tS22 rfl (cs := #[(Value.int .i64 1), (Value.int .i64 0)]) (by unfold bsl; kernel_rfl) rfl rfl)) (fun q => bcontra q hb48) ?_
  intro v51 w53 hm52
  obtain ⟨zd55, ez56⟩ : ∃ z : Hdr, z.1 = v51 := ⟨⟨v51, sl_one (hm52.sl 0 rfl)⟩, rfl⟩
  refine t_efg rfl rfl rfl rfl (gv_t _) (fun _ => (ef_bslice (l := ([zd55] : List Hdr)) hm52 tS41 rfl (cs := #[v51]) (by obtain ⟨_, _, e⟩ : ∃ A c, v51 = Value.slice A (List.length [1, 0]) c := ((hm52.sl 0 rfl)).val; rw [e]; clear e; unfold bsl; kernel_rfl) (by show [zd55.1] = [v51]; rw [ez56]) rfl)) (fun q => bcontra q hb48) ?_
  intro v57 w59 hm58
  obtain ⟨r61, h62, q63⟩ := ob q49; clear q49
  refine t_efg rfl rfl rfl rfl (gv_t _) (fun _ => (ef_call tf30 (evc (gvx rfl hb48) (evc rfl evn)) (humpgen_Lists_ok h62 ((Nl.mk (hm58.sl_call 3 rfl) (hm58.rows_call 4 rfl)).sl) ((Nl.mk (hm58.sl_call 0 rfl) (Rows.cons (hm58.sl_call 1 rfl) ez56 Rows.nil)).sl)))) (fun q => bcontra q hb48) ?_
  rintro _ w65 ⟨e_, hm64⟩
  obtain rfl := e_.symm
  have hm66 := hm58.call hm64
  refine t_rd rfl (rd_and rfl (fun hc67 => rfl)) ?_
  refine t_as rfl rfl (rwt_n ?_)
  refine cw_ret ?_
  obtain rfl := os q63
  exact ret1 rfl rfl ⟨rfl, (hm66.pick [] (by decide) rfl)⟩
 ·skip
  refine t_efg rfl rfl rfl rfl (R := fun v w' => v = undef ∧ w' = w35) (gv_t _) (fun hg68 => bcontra hb48 hg68) (fun _ => ⟨rfl, rfl⟩) ?_
  rintro v_ w_ ⟨e1_, e2_⟩; rw [e1_, e2_]; clear e1_ e2_ v_ w_
  refine t_efg rfl rfl rfl rfl (R := fun v w' => v = undef ∧ w' = w35) (gv_t _) (fun hg69 => bcontra hb48 hg69) (fun _ => ⟨rfl, rfl⟩) ?_
  rintro v_ w_ ⟨e1_, e2_⟩; rw [e1_, e2_]; clear e1_ e2_ v_ w_
  refine t_efg rfl rfl rfl rfl (R := fun v w' => v = undef ∧ w' = w35) (gv_t _) (fun hg70 => bcontra hb48 hg70) (fun _ => ⟨rfl, rfl⟩) ?_
  rintro v_ w_ ⟨e1_, e2_⟩; rw [e1_, e2_]; clear e1_ e2_ v_ w_
  refine t_rd rfl (rd_and (b := false) rfl (fun hc71 => bcontra hb48 hc71)) ?_
  refine t_as rfl rfl (rwt_n ?_)
  refine cw_ret ?_
  obtain rfl := os q49
  exact ret1 rfl rfl ⟨rfl, (hm34.pick [] (by decide) rfl)⟩

theorem job_relation_ok {N : Nat} {a0_Items : List T_Item} {a0_Weight : Int} {a1 : Int} {a2 : Int} {res : Int} (h : job_relation N a0_Items a0_Weight a1 a2 = some res) {w : World} {v0_Items : Value} (hv0_Items : Sl (Old w No) w v0_Items a0_Items) :
  CallsR Tryz.prog 68 [(Value.agg #[v0_Items, (Value.int .i64 a0_Weight)]), (Value.int .i64 a1), (Value.int .i64 a2)] w (fun u w' => u = (Value.int .i64 res) ∧ Mem w No [] w') := by
 unfold job_relation at h
 refine fn_ok Tryz.func68 rfl rfl rfl ?_
 have hm0 := Mem.nil w
 refine cw_sr ?_
 refine t_ef rfl (ef_box hm0 rfl rfl) ?_
 rintro _ w3 ⟨g1, rfl, hm2⟩
 refine t_as rfl rfl (rwt_n (cw_seq ?_))
 obtain ⟨j76, hit77, q78⟩ := ob h; clear h
 refine cw_join (X := fun eq envq wq => eq = .normal ∧ ∃ (g66 : Nat) (g67 : Nat), Sub [(1, (Value.int .i64 a1)), (2, (Value.int .i64 a2)), (7, (Value.pointer (some ⟨g66, 0, none⟩))), (8, (Value.pointer (some ⟨g67, 0, none⟩)))] envq ∧ Mem w No [blk g66 40 [(Value.int .i64 j76.1), (Value.int .i64 j76.2.1), (Value.int .i64 j76.2.2.1), (Value.int .i64 j76.2.2.2.1)], blk g67 40 [(Value.int .i64 j76.2.2.2.2.1), (Value.int .i64 j76.2.2.2.2.2.1), (Value.int .i64 j76.2.2.2.2.2.2.1), (Value.int .i64 j76.2.2.2.2.2.2.2)]] wq) ?_ ?_
 ·clear q78
  obtain ⟨w96, he98⟩ : ∃ q, q = w3.drew := ⟨_, rfl⟩
  have hm97 := hm2.drew; rw [← he98] at hm97
  refine cw_region_s (fun q => (blk g1 27 [v0_Items, (Value.int .i64 a0_Weight)]).φ q ∧ Sl (Old w No) q v0_Items a0_Items) (cls [10, 11, 12] [13]) mixed ?_
  rintro _ rfl; rw [← he98]
  refine s_rp (i := 0) rfl (by kernel_rfl) rfl (fun _ => (rd_fld tF27_0 rfl)) ?_
  refine s_rd (i := 1) rfl (by kernel_rfl) rfl (fun w95 hS => (rd_ld1 tO25 rfl (cells_blk hS.1) (off := 0) rfl)) ⟨(hm97.get (k := 0) rfl), (hv0_Items.of_old hm97)⟩ ?_
  refine s_rp (i := 2) rfl (by kernel_rfl) rfl (fun _ => (rd_move rfl)) ?_
  obtain ⟨x115, h116, q117⟩ := ob hit77; clear hit77
  refine s_rp (i := 3) rfl (by kernel_rfl) rfl (fun _ => (rd_index tS25 rfl rfl (hv0_Items.of_old hm97) h116)) ?_
  refine s_rd (i := 4) rfl (by kernel_rfl) rfl (fun w95 hS => (rd_ld tA40 rfl (hS.2.cells h116) rfl)) ⟨(hm97.get (k := 0) rfl), (hv0_Items.of_old hm97)⟩ ?_
  refine s_rp (i := 5) rfl (by kernel_rfl) rfl (fun _ => (rd_fld tF27_0 rfl)) ?_
  refine s_rd (i := 6) rfl (by kernel_rfl) rfl (fun w95 hS => (rd_ld1 tO25 rfl (cells_blk hS.1) (off := 0) rfl)) ⟨(hm97.get (k := 0) rfl), (hv0_Items.of_old hm97)⟩ ?_
  refine s_rp (i := 7) rfl (by kernel_rfl) rfl (fun _ => (rd_move rfl)) ?_
  obtain ⟨x118, h119, q120⟩ := ob q117; clear q117
  refine s_rp (i := 8) rfl (by kernel_rfl) rfl (fun _ => (rd_index tS25 rfl rfl (hv0_Items.of_old hm97) h119)) ?_
  refine s_rd (i := 9) rfl (by kernel_rfl) rfl (fun w95 hS => (rd_ld tA40 rfl (hS.2.cells h119) rfl)) ⟨(hm97.get (k := 0) rfl), (hv0_Items.of_old hm97)⟩ ?_
  refine s_br2 (i := 10) (j := 11) (by kernel_rfl) ?_ ?_
  ·skip
   refine e_ef (i := 10) rfl rfl (ef_alloc hm97 tZ40 rfl) (by decide) ?_ ?_
   ·rintro _ w123 ⟨g121, rfl, hm122⟩
    intro _
    exact ⟨(hm122.get (k := 1) rfl), (hv0_Items.of_old hm122)⟩
   rintro _ w123 ⟨g121, rfl, hm122⟩
   refine s_ef (i := 11) rfl (by kernel_rfl) rfl (ef_alloc hm122 tZ40 rfl) (by decide) ?_ ?_
   ·rintro _ w126 ⟨g124, rfl, hm125⟩
    intro _
    exact ⟨(hm125.get (k := 2) rfl), (hv0_Items.of_old hm125)⟩
   rintro _ w126 ⟨g124, rfl, hm125⟩
   refine s_ef0 (i := 12) rfl (by kernel_rfl) (ef_stw (k := 1) hm125 tA40 rfl rfl (oc_cons rfl (oc_cons rfl (oc_cons rfl (oc_cons rfl oc_nil)))) rfl rfl rfl) (by decide) ?_ ?_
   ·intro _ w128 hm127
    intro _
    exact ⟨(hm127.get (k := 2) rfl), (hv0_Items.of_old hm127)⟩
   intro _ w128 hm127
   refine s_ef0 (i := 13) rfl (by kernel_rfl) (ef_stw (k := 0) hm127 tA40 rfl rfl (oc_cons rfl (oc_cons rfl (oc_cons rfl (oc_cons rfl oc_nil)))) rfl rfl rfl) (by decide) (fun _ _ _ q => absurd q (by decide)) ?_
   intro _ w130 hm129
   refine s_nil (by kernel_rfl) ?_
   obtain rfl := os q120
   exact ⟨rfl, g121, g124, (by repeat (first | exact Sub.nil _ | refine Sub.cons rfl ?_)), (hm129.pick [1, 0] (by decide) rfl)⟩
  ·skip
   refine e_ef (i := 11) rfl rfl (ef_alloc hm97 tZ40 rfl) (by decide) ?_ ?_
   ·rintro _ w133 ⟨g131, rfl, hm132⟩
    intro _
    exact ⟨(hm132.get (k := 1) rfl), (hv0_Items.of_old hm132)⟩
   rintro _ w133 ⟨g131, rfl, hm132⟩
   refine s_ef (i := 10) rfl (by kernel_rfl) rfl (ef_alloc hm132 tZ40 rfl) (by decide) ?_ ?_
   ·rintro _ w136 ⟨g134, rfl, hm135⟩
    intro _
    exact ⟨(hm135.get (k := 2) rfl), (hv0_Items.of_old hm135)⟩
   rintro _ w136 ⟨g134, rfl, hm135⟩
   refine s_ef0 (i := 12) rfl (by kernel_rfl) (ef_stw (k := 0) hm135 tA40 rfl rfl (oc_cons rfl (oc_cons rfl (oc_cons rfl (oc_cons rfl oc_nil)))) rfl rfl rfl) (by decide) ?_ ?_
   ·intro _ w138 hm137
    intro _
    exact ⟨(hm137.get (k := 2) rfl), (hv0_Items.of_old hm137)⟩
   intro _ w138 hm137
   refine s_ef0 (i := 13) rfl (by kernel_rfl) (ef_stw (k := 1) hm137 tA40 rfl rfl (oc_cons rfl (oc_cons rfl (oc_cons rfl (oc_cons rfl oc_nil)))) rfl rfl rfl) (by decide) (fun _ _ _ q => absurd q (by decide)) ?_
   intro _ w140 hm139
   refine s_nil (by kernel_rfl) ?_
   obtain rfl := os q120
   exact ⟨rfl, g134, g131, (by repeat (first | exact Sub.nil _ | refine Sub.cons rfl ?_)), (hm139.pick [0, 1] (by decide) rfl)⟩
 ·clear hit77
  intro e env141 w142 hX143
  obtain ⟨rfl, g66, g67, hs144, hm145⟩ := hX143
  refine qn_then ?_
  refine cw_sub hs144 ?_
  refine cw_seq (cw_block (cw_sr (t_rd rfl (rd_fld tF40_0 rfl) ?_)))
  refine t_rd rfl (rd_ld1 tO3 rfl (hm145.blk 0 rfl) (off := 0) rfl) ?_
  refine t_rd rfl (rd_fld tF40_0 rfl) ?_
  refine t_rd rfl (rd_ld1 tO3 rfl (hm145.blk 1 rfl) (off := 0) rfl) ?_
  refine t_rd rfl (rd_neq rfl rfl) ?_
  refine t_mv rfl rfl ?_
  refine t_rdg rfl rfl rfl rfl (gv_f _) (fun hg146 => (rd_fld tF40_1 rfl)) ?_
  refine t_rdg rfl rfl rfl rfl (gv_f _) (fun hg147 => (rd_ld1 tO3 (gvx rfl hg147) (hm145.blk 0 rfl) (off := 1) rfl)) ?_
  refine t_rdg rfl rfl rfl rfl (gv_f _) (fun hg148 => (rd_fld tF40_1 rfl)) ?_
  refine t_rdg rfl rfl rfl rfl (gv_f _) (fun hg149 => (rd_ld1 tO3 (gvx rfl hg149) (hm145.blk 1 rfl) (off := 1) rfl)) ?_
  refine t_rdg rfl rfl rfl rfl (gv_f _) (fun hg150 => (rd_geq (gvx rfl hg150) (gvx rfl hg150))) ?_
  refine t_rd rfl (rd_or rfl (fun hc151 => (gvx rfl (bnotIt hc151)))) ?_
  refine t_as rfl rfl (rwt_n ?_)
  obtain ⟨hb152, q153⟩ | ⟨hb152, q153⟩ := oi q78 <;> clear q78
  ·refine cw_t rfl hb152 (cw_sr (t_as rfl rfl (rwt_n ?_)))
   refine cw_ret ?_
   refine qr_block (qr_then ?_)
   obtain rfl := os q153
   exact ret1 rfl rfl ⟨rfl, (hm145.pick [] (by decide) rfl)⟩
  ·refine cw_f rfl hb152 (cw_sr (t_mv rfl rfl (t_mv rfl rfl (t_rd rfl (rd_lss rfl rfl) (t_as rfl rfl ?_)))))
   refine rwt_n ?_
   obtain ⟨hb154, q155⟩ | ⟨hb154, q155⟩ := oi q153 <;> clear q153
   ·refine cw_t rfl hb154 (cw_sr (t_as rfl rfl (rwt_n ?_)))
    refine cw_ret ?_
    refine qr_block (qr_then ?_)
    obtain rfl := os q155
    exact ret1 rfl rfl ⟨rfl, (hm145.pick [] (by decide) rfl)⟩
   ·refine cw_f rfl hb154 (cw_skip ?_)
    refine qn_block (qn_then ?_)
    refine cw_sr (t_as rfl rfl (rwt_n ?_))
    refine cw_ret ?_
    obtain rfl := os q155
    exact ret1 rfl rfl ⟨rfl, (hm145.pick [] (by decide) rfl)⟩

theorem job_Relation_ok {N : Nat} {a0_Items : List T_Item} {a0_Weight : Int} {a1 : Int} {a2 : Int} {res : Int × Int} (h : job_Relation N a0_Items a0_Weight a1 a2 = some res) {w : World} {v0_Items : Value} (hv0_Items : Sl (Old w No) w v0_Items a0_Items) :
  CallsR Tryz.prog 32 [(Value.agg #[v0_Items, (Value.int .i64 a0_Weight)]), (Value.int .i64 a1), (Value.int .i64 a2)] w (fun u w' => u = (Value.tuple #[(Value.int .i64 res.1), (Value.int .i64 res.2)]) ∧ Mem w No [] w') := by
 unfold job_Relation at h
 refine fn_ok Tryz.func32 rfl rfl rfl ?_
 have hm0 := Mem.nil w
 refine cw_sr ?_
 refine t_ef rfl (ef_box hm0 rfl rfl) ?_
 rintro _ w3 ⟨g1, rfl, hm2⟩
 refine t_as rfl rfl (t_as rfl rfl (rwt_n (cw_seq (cw_sr ?_))))
 refine t_rd rfl (rd_ld tA27 rfl (hm2.blk 0 rfl) rfl) ?_
 obtain ⟨r4, h5, q6⟩ := ob h; clear h
 refine t_ef rfl (ef_call tf59 rfl (job_Valid_ok h5 (hv0_Items.to_call hm2))) ?_
 rintro _ w8 ⟨e_, hm7⟩
 obtain rfl := e_.symm
 have hm9 := hm2.call hm7
 refine t_as rfl rfl (rwt_n (cw_sr (t_mv rfl rfl ?_)))
 refine t_rd rfl (rd_neq rfl rfl) ?_
 refine rwt_n ?_
 obtain ⟨hb10, q11⟩ | ⟨hb10, q11⟩ := oi q6 <;> clear q6
 ·refine cw_t rfl hb10 (cw_sr (t_mv rfl rfl (t_as rfl rfl (t_as rfl rfl (rwt_n ?_)))))
  refine cw_ret ?_
  refine qr_then ?_
  obtain rfl := os q11
  exact ret2 rfl rfl rfl ⟨rfl, (hm9.pick [] (by decide) rfl)⟩
 ·refine cw_f rfl hb10 (cw_skip (qn_then (cw_seq (cw_sr (t_mv rfl rfl ?_)))))
  refine t_rd rfl (rd_fld tF27_0 rfl) ?_
  refine t_rd rfl (rd_ld1 tO25 rfl (hm9.blk 0 rfl) (off := 0) rfl) ?_
  refine t_rd rfl (rd_lenS tS25 rfl (hv0_Items.of_old hm9)) ?_
  obtain ⟨x12, h13, q14⟩ := ob q11; clear q11
  refine t_rd rfl (rd_sub64 h13 rfl rfl) ?_
  obtain ⟨r15, h16, q17⟩ := ob q14; clear q14
  refine t_ef rfl (ef_call tf67 rfl (job_in_ok h16)) ?_
  rintro _ w19 ⟨e_, hm18⟩
  obtain rfl := e_.symm
  have hm20 := hm9.call hm18
  refine t_rd rfl (rd_not rfl) ?_
  refine t_mv rfl rfl ?_
  refine t_rdg rfl rfl rfl rfl (gv_f _) (fun hg21 => (rd_move rfl)) ?_
  refine t_rdg rfl rfl rfl rfl (gv_f _) (fun hg22 => (rd_fld tF27_0 rfl)) ?_
  refine t_rdg rfl rfl rfl rfl (gv_f _) (fun hg23 => (rd_ld1 tO25 (gvx rfl hg23) (hm20.blk 0 rfl) (off := 0) rfl)) ?_
  refine t_rdg rfl rfl rfl rfl (gv_f _) (fun hg24 => (rd_lenS tS25 (gvx rfl hg24) (hv0_Items.of_old hm20))) ?_
  obtain ⟨x26, h27, q28⟩ := ob q17; clear q17
  refine t_rdg rfl rfl rfl rfl (gv_f _) (fun hg25 => (rd_sub64 (gO_t h27 hg25) (gvx rfl hg25) rfl)) ?_
  obtain ⟨r30, h31, q32⟩ := ob q28; clear q28
  refine t_efg rfl rfl rfl rfl (R := (fun v w' => v = gV (!(!r15)) (Value.bool r30) ∧ Mem w19 No [] w')) (gv_f _) (fun hg29 => (ef_call tf67 (evc (gvx rfl hg29) (evc rfl (evc (gvx rfl hg29) evn))) (job_in_ok (gO_t h31 hg29))).mono (by rintro _ _ ⟨rfl, q⟩; exact ⟨(gV_t hg29).symm, q⟩)) (fun q => ⟨(gV_f q).symm, Mem.nil _⟩) ?_
  rintro _ w34 ⟨rfl, hm33⟩
  have hm35 := hm20.call hm33
  refine t_rdg rfl rfl rfl rfl (gv_f _) (fun hg36 => (rd_not (gvx rfl hg36))) ?_
  refine t_rd rfl (rd_or rfl (fun hc37 => (gvx rfl (bnotIt hc37)))) ?_
  refine rwt_n ?_
  obtain ⟨hb38, q39⟩ | ⟨hb38, q39⟩ := oi q32 <;> clear q32
  ·refine cw_t rfl hb38 (cw_sr (t_as rfl rfl (t_as rfl rfl (rwt_n ?_))))
   refine cw_ret ?_
   refine qr_then ?_
   obtain rfl := os q39
   exact ret2 rfl rfl rfl ⟨rfl, (hm35.pick [] (by decide) rfl)⟩
  ·refine cw_f rfl hb38 (cw_skip (qn_then (cw_sr ?_)))
   refine t_rd rfl (rd_ld tA27 rfl (hm35.blk 0 rfl) rfl) ?_
   refine t_mv rfl rfl (t_mv rfl rfl ?_)
   obtain ⟨r40, h41, q42⟩ := ob q39; clear q39
   refine t_ef rfl (ef_call tf68 rfl (job_relation_ok h41 (hv0_Items.to_call hm35))) ?_
   rintro _ w44 ⟨e_, hm43⟩
   obtain rfl := e_.symm
   have hm45 := hm35.call hm43
   refine t_as rfl rfl (t_as rfl rfl (rwt_n ?_))
   refine cw_ret ?_
   obtain rfl := os q42
   exact ret2 rfl rfl rfl ⟨rfl, (hm45.pick [] (by decide) rfl)⟩

theorem leastcode_Bound_ok {N : Nat} {a0_Items : List T_Item} {a0_Weight : Int} {a1 : List Int} {res : Int × Int} (h : leastcode_Bound N a0_Items a0_Weight a1 = some res) {w : World} {v0_Items : Value} {v1 : Value} (hv0_Items : Sl (Old w No) w v0_Items a0_Items) (hv1 : Sl (Old w No) w v1 a1) :
  CallsR Tryz.prog 33 [(Value.agg #[v0_Items, (Value.int .i64 a0_Weight)]), v1] w (fun u w' => u = (Value.tuple #[(Value.int .i64 res.1), (Value.int .i64 res.2)]) ∧ Mem w No [] w') := by
 unfold leastcode_Bound at h
 refine fn_ok Tryz.func33 rfl rfl rfl ?_
 have hm0 := Mem.nil w
 refine cw_sr ?_
 refine t_ef rfl (ef_box hm0 rfl rfl) ?_
 rintro _ w3 ⟨g1, rfl, hm2⟩
 refine t_as rfl rfl (t_as rfl rfl (rwt_n (cw_seq (cw_sr ?_))))
 refine t_rd rfl (rd_ld tA27 rfl (hm2.blk 0 rfl) rfl) ?_
 obtain ⟨r4, h5, q6⟩ := ob h; clear h
 refine t_ef rfl (ef_call tf59 rfl (job_Valid_ok h5 (hv0_Items.to_call hm2))) ?_
 rintro _ w8 ⟨e_, hm7⟩
 obtain rfl := e_.symm
 have hm9 := hm2.call hm7
 refine t_as rfl rfl (rwt_n (cw_sr (t_mv rfl rfl ?_)))
 refine t_rd rfl (rd_neq rfl rfl) ?_
 refine rwt_n ?_
 obtain ⟨hb10, q11⟩ | ⟨hb10, q11⟩ := oi q6 <;> clear q6
 ·refine cw_t rfl hb10 (cw_sr (t_mv rfl rfl (t_as rfl rfl (t_as rfl rfl (rwt_n ?_)))))
  refine cw_ret ?_
  refine qr_then ?_
  obtain rfl := os q11
  exact ret2 rfl rfl rfl ⟨rfl, (hm9.pick [] (by decide) rfl)⟩
 ·refine cw_f rfl hb10 (cw_skip (qn_then (cw_sr ?_)))
  refine t_rd rfl (rd_ld tA27 rfl (hm9.blk 0 rfl) rfl) ?_
  obtain ⟨r12, h13, q14⟩ := ob q11; clear q11
  refine t_ef rfl (ef_call tf61 rfl (leastcode_relations_ok h13 (hv0_Items.to_call hm9))) ?_
  rintro _ w18 ⟨zs16, v15, e_, hm17⟩
  obtain rfl := e_.symm
  have hm19 := hm9.call hm17
  refine t_as rfl rfl (rwt_n (cw_seq (cw_sr (t_mv rfl rfl ?_))))
  refine t_rd rfl (rd_lenS tS22 rfl (hv1.of_old hm19)) ?_
  refine t_mv rfl rfl (rwt_n (cw_block ?_))
  obtain ⟨r124, hit125, q126⟩ := ob q14; clear q14
  refine cw_loop2 (I := fun q envq wq => Sub [(1, v1), (2, (Value.pointer (some ⟨g1, 0, none⟩))), (7, v15), (22, v1), (23, (Value.int .i64 (List.length a1 : Int))), (24, (Value.int .i64 q))] envq ∧ Mem w No [ownL 22 v15 (zs16 : List Hdr), rowsC 3 zs16 (r12 : List (List Int)) none, blk g1 27 [v0_Items, (Value.int .i64 a0_Weight)]] wq) (X := fun eq envq wq => (∃ p127, r124 = (Sum.inl p127) ∧ eq = .ret ∧ retQ Tryz.prog 99 Tryz.f33 (fun u w' => u = (Value.tuple #[(Value.int .i64 p127.1), (Value.int .i64 p127.2)]) ∧ Mem w No [] w') .ret envq wq) ∨ (∃ p128, r124 = (Sum.inr p128) ∧ eq = .exit 0 ∧ Sub [(1, v1), (2, (Value.pointer (some ⟨g1, 0, none⟩))), (7, v15)] envq ∧ Mem w No [ownL 22 v15 (zs16 : List Hdr), rowsC 3 zs16 (r12 : List (List Int)) none, blk g1 27 [v0_Items, (Value.int .i64 a0_Weight)]] wq)) hit125 ⟨(by repeat (first | exact Sub.nil _ | refine Sub.cons rfl ?_)), (hm19.pick [0, 1, 2] (by decide) rfl)⟩ ?_ ?_
  ·rintro i117 x119 env120 w121 hf122 hr123 ⟨hs_, hm_⟩
   have hs_ : Sub [(1, v1), (2, (Value.pointer (some ⟨g1, 0, none⟩))), (7, v15), (22, v1), (23, (Value.int .i64 (List.length a1 : Int))), (24, (Value.int .i64 i117))] env120 := hs_
   have hm129 : Mem w No [ownL 22 v15 (zs16 : List Hdr), rowsC 3 zs16 (r12 : List (List Int)) none, blk g1 27 [v0_Items, (Value.int .i64 a0_Weight)]] w121 := hm_
   refine cw_sub hs_ ?_
   clear hs_ hm_ q126
   have h : leastcode_Bound_l1 N a0_Items a1 r12 i117 = some x119 := hf122
   clear hf122
   refine cw_sr (t_rd rfl (rd_lss rfl rfl) (rwt_n (cw_seq ?_)))
   obtain ⟨hb130, q131⟩ | ⟨hb130, q131⟩ := oi h <;> clear h
   ·refine cw_t rfl hb130 (cw_skip (qn_then (cw_seq (cw_block (cw_sr ?_)))))
    refine t_mv rfl rfl ?_
    obtain ⟨x132, h133, q134⟩ := ob q131; clear q131
    refine t_rd rfl (rd_index tS22 rfl rfl (hv1.of_old hm129) h133) ?_
    refine t_rd rfl (rd_ld1 tO3 rfl ((hv1.of_old hm129).cells h133) (off := 0) rfl) ?_
    refine t_as rfl rfl (t_as rfl rfl (rwt_n (cw_sr (t_mv rfl rfl (t_rd rfl (rd_lss rfl rfl) (t_mv rfl rfl ?_))))))
    refine t_rdg rfl rfl rfl rfl (gv_f _) (fun hg135 => (rd_move rfl)) ?_
    refine t_rdg rfl rfl rfl rfl (gv_f _) (fun hg136 => (rd_fld tF27_0 rfl)) ?_
    refine t_rdg rfl rfl rfl rfl (gv_f _) (fun hg137 => (rd_ld1 tO25 (gvx rfl hg137) (hm129.blk 2 rfl) (off := 0) rfl)) ?_
    refine t_rdg rfl rfl rfl rfl (gv_f _) (fun hg138 => (rd_lenS tS25 (gvx rfl hg138) (hv0_Items.of_old hm129))) ?_
    refine t_rdg rfl rfl rfl rfl (gv_f _) (fun hg139 => (rd_geq (gvx rfl hg139) (gvx rfl hg139))) ?_
    refine t_rd rfl (rd_or rfl (fun hc140 => (gvx rfl (bnotIt hc140)))) ?_
    refine t_mv rfl rfl ?_
    refine t_rdg rfl rfl rfl rfl (gv_f _) (fun hg141 => (rd_move rfl)) ?_
    refine t_rdg rfl rfl rfl rfl (gv_f _) (fun hg142 => (rd_gtr (gvx rfl hg142) rfl)) ?_
    refine t_rdg rfl rfl rfl rfl (gv_f _) (fun hg143 => (rd_move (gvx rfl hg143))) ?_
    refine t_rdg rfl rfl rfl rfl (gv_nt _ _) (fun hg144 => (rd_move rfl)) ?_
    refine t_rdg rfl rfl rfl rfl (gv_nt _ _) (fun hg145 => (rd_move rfl)) ?_
    refine t_rdg rfl rfl rfl rfl (gv_nt _ _) (fun hg146 => (rd_move rfl)) ?_
    obtain ⟨x148, h149, q150⟩ := ob q134; clear q134
    refine t_rdg rfl rfl rfl rfl (gv_nt _ _) (fun hg147 => (rd_sub64 (gO_t h149 hg147) (gvx rfl hg147) rfl)) ?_
    obtain ⟨x152, h153, q154⟩ := ob q150; clear q150
    refine t_rdg rfl rfl rfl rfl (gv_nt _ _) (fun hg151 => (rd_index tS22 (gvx rfl hg151) (gvx rfl hg151) (hv1.of_old hm129) (gO_t h153 hg151))) ?_
    refine t_rdg rfl rfl rfl rfl (gv_nt _ _) (fun hg155 => (rd_ld1 tO3 (gvx rfl hg155) ((hv1.of_old hm129).cells (gO_t h153 hg155)) (off := 0) rfl)) ?_
    obtain ⟨x157, h158, q159⟩ := ob q154; clear q154
    refine t_rdg rfl rfl rfl rfl (gv_nt _ _) (fun hg156 => (rd_index tS41 (gvx rfl hg156) (gvx rfl hg156) ((Nl.mk (hm129.sl_call 0 rfl) (hm129.rows_call 1 rfl)).sl) (gO_t h158 hg156))) ?_
    obtain ⟨zd161, hz162⟩ := (Nl.mk (hm129.sl_call 0 rfl) (hm129.rows_call 1 rfl)).rowg (g := ((!(decide (x132 < 0) || decide ((List.length a0_Items : Int) ≤ x132))) && decide (0 < i117))) (fun q => gO_t h158 q)
    refine t_rdg rfl rfl rfl rfl (gv_nt _ _) (fun hg160 => (rd_ld1 tO22 (gvx rfl hg160) ((Nl.mk (hm129.sl_call 0 rfl) (hm129.rows_call 1 rfl)).cells (hz162 hg160)) (off := 0) rfl)) ?_
    refine t_rdg rfl rfl rfl rfl (gv_nt _ _) (fun hg163 => (rd_move rfl)) ?_
    obtain ⟨x165, h166, q167⟩ := ob q159; clear q159
    refine t_rdg rfl rfl rfl rfl (gv_nt _ _) (fun hg164 => (rd_index tS22 (gvx rfl hg164) (gvx rfl hg164) ((Nl.mk (hm129.sl_call 0 rfl) (hm129.rows_call 1 rfl)).get (hz162 hg164) (gO_t h158 hg164)) (gO_t h166 hg164))) ?_
    refine t_rdg rfl rfl rfl rfl (gv_nt _ _) (fun hg168 => (rd_ld1 tO3 (gvx rfl hg168) (((Nl.mk (hm129.sl_call 0 rfl) (hm129.rows_call 1 rfl)).get (hz162 hg168) (gO_t h158 hg168)).cells (gO_t h166 hg168)) (off := 0) rfl)) ?_
    refine t_rdg rfl rfl rfl rfl (gv_nt _ _) (fun hg169 => (rd_eql (gvx rfl hg169) rfl)) ?_
    refine t_rdg rfl rfl rfl rfl (gv_f _) (fun hg170 => (rd_and (gvx rfl hg170) (fun hc171 => (gvx rfl (band hg170 hc171))))) ?_
    refine t_rd rfl (rd_or rfl (fun hc172 => (gvx rfl (bnotIt hc172)))) ?_
    refine rwt_n ?_
    obtain ⟨hb173, q174⟩ | ⟨hb173, q174⟩ := oi q167 <;> clear q167
    ·refine cw_t rfl hb173 (cw_sr (t_as rfl rfl (t_as rfl rfl (rwt_n ?_))))
     refine cw_ret ?_
     refine qr_block (qr_then (qr_then ?_))
     obtain rfl := hr123 _ (os q174)
     refine .inl (⟨_, rfl, ⟨rfl, ?_⟩⟩)
     exact ret2 rfl rfl rfl ⟨rfl, (hm129.pick [] (by decide) rfl)⟩
    ·refine cw_f rfl hb173 (cw_skip ?_)
     refine qn_block (qn_then ?_)
     refine cw_region ?_
     obtain ⟨x175, h176, q177⟩ := ob q174; clear q174
     refine t_rd rfl (rd_add64 h176 rfl rfl) (t_mv rfl rfl (rwt_n ?_))
     refine ⟨_, (os q177), (by repeat (first | exact Sub.nil _ | refine Sub.cons rfl ?_)), (hm129.pick [0, 1, 2] (by decide) rfl)⟩
   ·refine cw_f rfl hb130 ?_
    refine cw_exit ?_
    refine qx_then (qx_then ?_)
    obtain rfl := hr123 _ (os q131)
    exact .inr (⟨_, rfl, ⟨rfl, (by repeat (first | exact Sub.nil _ | refine Sub.cons rfl ?_)), (hm129.pick [0, 1, 2] (by decide) rfl)⟩⟩)
  ·skip
   intro e env178 w179 hX180
   rcases hX180 with hX180 | hX180
   ·obtain ⟨p182, rfl, hX180⟩ := hX180
    obtain ⟨rfl, hq184⟩ := hX180
    exact qr_block (qr_then ((by have e := os q126; subst e; exact hq184)))
   ·obtain ⟨p185, rfl, hX180⟩ := hX180
    obtain ⟨rfl, hs186, hm187⟩ := hX180
    refine qx_same (qn_then ?_)
    refine cw_sub hs186 ?_
    refine cw_sr (t_as rfl rfl (rwt_n (cw_seq (cw_sr (t_mv rfl rfl ?_)))))
    refine t_rd rfl (rd_lenS tS22 rfl (hv1.of_old hm187)) ?_
    refine t_mv rfl rfl (rwt_n (cw_block ?_))
    obtain ⟨r369, hit370, q371⟩ := ob q126; clear q126
    refine cw_loop2 (I := fun q envq wq => Sub [(1, v1), (2, (Value.pointer (some ⟨g1, 0, none⟩))), (7, v15), (10, (Value.int .i64 q.1)), (57, v1), (58, (Value.int .i64 (List.length a1 : Int))), (59, (Value.int .i64 q.2))] envq ∧ Mem w No [ownL 22 v15 (zs16 : List Hdr), rowsC 3 zs16 (r12 : List (List Int)) none, blk g1 27 [v0_Items, (Value.int .i64 a0_Weight)]] wq) (X := fun eq envq wq => (∃ p372, r369 = (Sum.inl p372) ∧ eq = .ret ∧ retQ Tryz.prog 99 Tryz.f33 (fun u w' => u = (Value.tuple #[(Value.int .i64 p372.1), (Value.int .i64 p372.2)]) ∧ Mem w No [] w') .ret envq wq) ∨ (∃ p373, r369 = (Sum.inr p373) ∧ eq = .exit 2 ∧ Sub [(10, (Value.int .i64 p373))] envq ∧ Mem w No [] wq)) hit370 ⟨(by repeat (first | exact Sub.nil _ | refine Sub.cons rfl ?_)), (hm187.pick [0, 1, 2] (by decide) rfl)⟩ ?_ ?_
    ·rintro ⟨i361, i362⟩ x364 env365 w366 hf367 hr368 ⟨hs_, hm_⟩
     have hs_ : Sub [(1, v1), (2, (Value.pointer (some ⟨g1, 0, none⟩))), (7, v15), (10, (Value.int .i64 i361)), (57, v1), (58, (Value.int .i64 (List.length a1 : Int))), (59, (Value.int .i64 i362))] env365 := hs_
     have hm374 : Mem w No [ownL 22 v15 (zs16 : List Hdr), rowsC 3 zs16 (r12 : List (List Int)) none, blk g1 27 [v0_Items, (Value.int .i64 a0_Weight)]] w366 := hm_
     refine cw_sub hs_ ?_
     clear hs_ hm_ q371
     have h : leastcode_Bound_l2 N a0_Items a0_Weight a1 r12 i361 i362 = some x364 := hf367
     clear hf367
     refine cw_sr (t_rd rfl (rd_lss rfl rfl) (rwt_n (cw_seq ?_)))
     obtain ⟨hb375, q376⟩ | ⟨hb375, q376⟩ := oi h <;> clear h
     ·refine cw_t rfl hb375 (cw_skip (qn_then (cw_seq (cw_block (cw_sr ?_)))))
      refine t_mv rfl rfl ?_
      obtain ⟨x377, h378, q379⟩ := ob q376; clear q376
      refine t_rd rfl (rd_index tS22 rfl rfl (hv1.of_old hm374) h378) ?_
      refine t_rd rfl (rd_ld1 tO3 rfl ((hv1.of_old hm374).cells h378) (off := 0) rfl) ?_
      refine t_as rfl rfl (t_as rfl rfl (rwt_n (cw_seq (cw_sr (t_mv rfl rfl ?_)))))
      refine t_rd rfl (rd_gtr rfl rfl) ?_
      refine rwt_n ?_
      obtain ⟨j403, hit404, q405⟩ := ob q379; clear q379
      refine cw_join (X := fun eq envq wq => eq = .normal ∧ Sub [(1, v1), (2, (Value.pointer (some ⟨g1, 0, none⟩))), (7, v15), (10, (Value.int .i64 j403)), (12, (Value.int .i64 x377)), (57, v1), (58, (Value.int .i64 (List.length a1 : Int))), (59, (Value.int .i64 i362))] envq ∧ Mem w No [ownL 22 v15 (zs16 : List Hdr), rowsC 3 zs16 (r12 : List (List Int)) none, blk g1 27 [v0_Items, (Value.int .i64 a0_Weight)]] wq) ?_ ?_
      ·clear q405
       obtain ⟨hb406, q407⟩ | ⟨hb406, q407⟩ := oi hit404 <;> clear hit404
       ·refine cw_t rfl hb406 ?_
        refine cw_region ?_
        refine t_mv rfl rfl (t_mv rfl rfl (t_mv rfl rfl (t_mv rfl rfl ?_)))
        obtain ⟨x408, h409, q410⟩ := ob q407; clear q407
        refine t_rd rfl (rd_sub64 h409 rfl rfl) ?_
        obtain ⟨x411, h412, q413⟩ := ob q410; clear q410
        refine t_rd rfl (rd_index tS22 rfl rfl (hv1.of_old hm374) h412) ?_
        refine t_rd rfl (rd_ld1 tO3 rfl ((hv1.of_old hm374).cells h412) (off := 0) rfl) ?_
        obtain ⟨x414, h415, q416⟩ := ob q413; clear q413
        refine t_rd rfl (rd_index tS41 rfl rfl ((Nl.mk (hm374.sl_call 0 rfl) (hm374.rows_call 1 rfl)).sl) h415) ?_
        obtain ⟨zd417, hz418⟩ := (Nl.mk (hm374.sl_call 0 rfl) (hm374.rows_call 1 rfl)).row h415
        refine t_rd rfl (rd_ld1 tO22 rfl ((Nl.mk (hm374.sl_call 0 rfl) (hm374.rows_call 1 rfl)).cells hz418) (off := 0) rfl) ?_
        refine t_mv rfl rfl ?_
        obtain ⟨x419, h420, q421⟩ := ob q416; clear q416
        refine t_rd rfl (rd_index tS22 rfl rfl ((Nl.mk (hm374.sl_call 0 rfl) (hm374.rows_call 1 rfl)).get hz418 h415) h420) ?_
        refine t_rd rfl (rd_ld1 tO3 rfl (((Nl.mk (hm374.sl_call 0 rfl) (hm374.rows_call 1 rfl)).get hz418 h415).cells h420) (off := 0) rfl) ?_
        obtain ⟨x422, h423, q424⟩ := ob q421; clear q421
        refine t_rd rfl (rd_sub64 h423 rfl rfl) ?_
        obtain ⟨x425, h426, q427⟩ := ob q424; clear q424
        refine t_rd rfl (rd_add64 h426 rfl rfl) (t_as rfl rfl ?_)
        refine rwt_nil ?_
        obtain rfl := os q427
        exact ⟨rfl, (by repeat (first | exact Sub.nil _ | refine Sub.cons rfl ?_)), (hm374.pick [0, 1, 2] (by decide) rfl)⟩
       ·refine cw_f rfl hb406 (cw_skip ?_)
        obtain rfl := os q407
        exact ⟨rfl, (by repeat (first | exact Sub.nil _ | refine Sub.cons rfl ?_)), (hm374.pick [0, 1, 2] (by decide) rfl)⟩
      ·clear hit404
       intro e env428 w429 hX430
       obtain ⟨rfl, hs431, hm432⟩ := hX430
       refine qn_then ?_
       refine cw_sub hs431 ?_
       refine cw_seq ?_
       obtain ⟨w443, he445⟩ : ∃ q, q = w429.drew := ⟨_, rfl⟩
       have hm444 := hm432.drew; rw [← he445] at hm444
       refine cw_region_s (fun q => q = w443) (cls [] [9]) mixed ?_
       rintro _ rfl; rw [← he445]
       refine s_rp (i := 0) rfl (by kernel_rfl) rfl (fun _ => (rd_move rfl)) ?_
       refine s_rp (i := 1) rfl (by kernel_rfl) rfl (fun _ => (rd_fld tF27_0 rfl)) ?_
       refine s_rd (i := 2) rfl (by kernel_rfl) rfl (fun _ hS => by rw [hS]; exact (rd_ld1 tO25 rfl (hm444.blk 2 rfl) (off := 0) rfl)) rfl ?_
       refine s_rp (i := 3) rfl (by kernel_rfl) rfl (fun _ => (rd_move rfl)) ?_
       obtain ⟨x446, h447, q448⟩ := ob q405; clear q405
       refine s_rp (i := 4) rfl (by kernel_rfl) rfl (fun _ => (rd_index tS25 rfl rfl (hv0_Items.of_old hm444) h447)) ?_
       refine s_rp (i := 5) rfl (by kernel_rfl) rfl (fun _ => (rd_fld tF40_2 rfl)) ?_
       refine s_rd (i := 6) rfl (by kernel_rfl) rfl (fun _ hS => by rw [hS]; exact (rd_ld1 tO3 rfl ((hv0_Items.of_old hm444).cells h447) (off := 2) rfl)) rfl ?_
       refine s_rp (i := 7) rfl (by kernel_rfl) rfl (fun _ => (rd_fld tF27_1 rfl)) ?_
       refine s_rd (i := 8) rfl (by kernel_rfl) rfl (fun _ hS => by rw [hS]; exact (rd_ld1 tO3 rfl (hm444.blk 2 rfl) (off := 1) rfl)) rfl ?_
       obtain ⟨r449, h450, q451⟩ := ob q448; clear q448
       refine s_ef (i := 9) rfl (by kernel_rfl) rfl (ef_call tf69 rfl (code_Next_ok h450)) (by decide) (fun _ _ _ q => absurd q (by decide)) ?_
       rintro _ w453 ⟨e_, hm452⟩
       obtain rfl := e_.symm
       have hm454 := hm444.call hm452
       refine s_rp (i := 10) rfl (by kernel_rfl) rfl (fun _ => (rd_move rfl)) ?_
       refine s_rp (i := 11) rfl (by kernel_rfl) rfl (fun _ => (rd_extract rfl rfl)) ?_
       refine s_rp (i := 12) rfl (by kernel_rfl) rfl (fun _ => (rd_extract rfl rfl)) ?_
       refine s_rp (i := 13) rfl (by kernel_rfl) rfl (fun _ => (rd_assign rfl)) ?_
       refine s_rp (i := 14) rfl (by kernel_rfl) rfl (fun _ => (rd_assign rfl)) ?_
       refine s_nil (by kernel_rfl) ?_
       refine qn_then (cw_seq (cw_sr (t_mv rfl rfl ?_)))
       refine t_rd rfl (rd_neq rfl rfl) ?_
       refine rwt_n ?_
       obtain ⟨hb455, q456⟩ | ⟨hb455, q456⟩ := oi q451 <;> clear q451
       ·refine cw_t rfl hb455 (cw_sr (t_mv rfl rfl (t_as rfl rfl (t_as rfl rfl (rwt_n ?_)))))
        refine cw_ret ?_
        refine qr_then (qr_block (qr_then (qr_then ?_)))
        obtain rfl := hr368 _ (os q456)
        refine .inl (⟨_, rfl, ⟨rfl, ?_⟩⟩)
        exact ret2 rfl rfl rfl ⟨rfl, (hm454.pick [] (by decide) rfl)⟩
       ·refine cw_f rfl hb455 (cw_skip (qn_then ?_))
        refine cw_region ?_
        refine t_mv rfl rfl (t_as rfl rfl ?_)
        refine rwt_nil ?_
        refine qn_block (qn_then ?_)
        refine cw_region ?_
        obtain ⟨x457, h458, q459⟩ := ob q456; clear q456
        refine t_rd rfl (rd_add64 h458 rfl rfl) (t_mv rfl rfl (rwt_n ?_))
        refine ⟨_, (os q459), (by repeat (first | exact Sub.nil _ | refine Sub.cons rfl ?_)), (hm454.pick [0, 1, 2] (by decide) rfl)⟩
     ·refine cw_f rfl hb375 ?_
      refine cw_exit ?_
      refine qx_then (qx_then ?_)
      obtain rfl := hr368 _ (os q376)
      exact .inr (⟨_, rfl, ⟨rfl, (by repeat (first | exact Sub.nil _ | refine Sub.cons rfl ?_)), (hm374.pick [] (by decide) rfl)⟩⟩)
    ·skip
     intro e env460 w461 hX462
     rcases hX462 with hX462 | hX462
     ·obtain ⟨p464, rfl, hX462⟩ := hX462
      obtain ⟨rfl, hq466⟩ := hX462
      exact qr_block (qr_then ((by have e := os q371; subst e; exact hq466)))
     ·obtain ⟨p467, rfl, hX462⟩ := hX462
      obtain ⟨rfl, hs468, hm469⟩ := hX462
      refine qx_same (qn_then ?_)
      refine cw_sub hs468 ?_
      refine cw_sr (t_mv rfl rfl (t_as rfl rfl (t_as rfl rfl (rwt_n ?_))))
      refine cw_ret ?_
      obtain rfl := os q371
      exact ret2 rfl rfl rfl ⟨rfl, (hm469.pick [] (by decide) rfl)⟩

end Go.Proofs.YtlpkbkbjohhleaaGreat
