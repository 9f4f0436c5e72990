/- Each call computes what its mirror does; written by a program of mine (gowalk.py). -/
import Derived.Test.YtlfinhdanjbmcaaWkb
namespace Go.Proofs.Ytlfinhdanjbmcaa
open Go.Gv Go.RowKit
set_option linter.unusedVariables false
set_option maxRecDepth 100000

theorem law08_ReconcileExact_ok {N : Nat} {a0 : List Int} {a1 : List Int} {a2 : List Int} {a3 : List Int} {res : Bool} (h : law08_ReconcileExact N a0 a1 a2 a3 = some res) {w : World} {v0 : Value} {v1 : Value} {v2 : Value} {v3 : Value} (hv0 : Sl (Old w No) w v0 a0) (hv1 : Sl (Old w No) w v1 a1) (hv2 : Sl (Old w No) w v2 a2) (hv3 : Sl (Old w No) w v3 a3) :
    CallsR Try.prog 5 [v0, v1, v2, v3] w (fun u w' => u = (Value.bool res) ∧ Mem w No [] w') := by
  unfold law08_ReconcileExact at h
  refine fn_ok Try.func5 rfl rfl rfl ?_
  have hm0 := Mem.nil w
  refine cw_seq ?_
  refine cw_region ?_
  refine t_rd rfl (rd_assign rfl) ?_
  refine rwt_nil ?_
  refine qn_then ?_
  refine cw_seq ?_
  refine cw_region ?_
  refine t_rd rfl (rd_move rfl) ?_
  obtain ⟨r1, h2, q3⟩ := ob h; clear h
  refine t_ef rfl (ef_call tf9 rfl (humpgen_New_ok h2 (hv0.to_call hm0))) ?_
  rintro _ w6 ⟨g4, e_, hm5⟩
  obtain rfl := e_.symm
  have hm7 := hm0.call hm5
  refine t_rd rfl (rd_assign rfl) ?_
  refine rwt_nil ?_
  refine qn_then ?_
  refine cw_seq ?_
  refine cw_seq ?_
  refine cw_region ?_
  refine t_rd rfl (rd_assign rfl) ?_
  refine rwt_nil ?_
  refine qn_then ?_
  refine cw_block ?_
  obtain ⟨r1042, hit1043, q1044⟩ := ob q3; clear q3
  refine cw_loop2 (I := fun q envq wq => Sub [(1, v1), (2, v2), (3, v3), (9, (Value.pointer (some ⟨g4, 0, none⟩))), (10, (Value.int .i64 q.1))] envq ∧ Mem w No [blk g4 48 [v0, (Value.int .i64 q.2)]] wq) (X := fun eq envq wq => (∃ p1045, r1042 = (Sum.inl p1045) ∧ eq = .ret ∧ retQ Try.prog 152 Try.f5 (fun u w' => u = (Value.bool p1045) ∧ Mem w No [] w') .ret envq wq) ∨ (∃ p1046, r1042 = (Sum.inr p1046) ∧ eq = .exit 0 ∧ Sub [] envq ∧ Mem w No [] wq)) hit1043 ⟨(by repeat (first | exact Sub.nil _ | refine Sub.cons rfl ?_)), (hm7.pick [0] (by decide) rfl)⟩ ?_ ?_
  · rintro ⟨i1034, i1035⟩ x1037 env1038 w1039 hf1040 hr1041 ⟨hs_, hm_⟩
    have hs_ : Sub [(1, v1), (2, v2), (3, v3), (9, (Value.pointer (some ⟨g4, 0, none⟩))), (10, (Value.int .i64 i1034))] env1038 := hs_
    have hm1047 : Mem w No [blk g4 48 [v0, (Value.int .i64 i1035)]] w1039 := hm_
    refine cw_sub hs_ ?_
    clear hs_ hm_ q1044
    have h : law08_ReconcileExact_l5 N a0 a1 a2 a3 i1034 i1035 = some x1037 := hf1040
    clear hf1040
    refine cw_seq ?_
    refine cw_seq ?_
    refine cw_region ?_
    refine t_rd rfl (rd_move rfl) ?_
    refine t_rd rfl (rd_lss rfl rfl) ?_
    refine rwt_nil ?_
    refine qn_then ?_
    obtain ⟨hb1048, q1049⟩ | ⟨hb1048, q1049⟩ := oi h <;> clear h
    · refine cw_t rfl hb1048 ?_
      refine cw_skip ?_
      refine qn_then ?_
      refine cw_seq ?_
      refine cw_block ?_
      refine cw_seq ?_
      refine cw_region ?_
      refine t_rd rfl (rd_move rfl) ?_
      obtain ⟨r1050, h1051, q1052⟩ := ob q1049; clear q1049
      refine t_ef rfl (ef_call tf10 rfl (law08_lists_ok h1051 (hv0.to_callT (k := 0) hm1047 rfl) (hm1047.get (k := 0) rfl))) ?_
      rintro _ w1056 ⟨v1053, v1054, e_, hm1055⟩
      obtain rfl := e_.symm
      have hm1057 := hm1047.callT (k := 0) rfl (fun _ h => h) hm1055 (fun _ => Iff.rfl)
      refine t_rd rfl (rd_move rfl) ?_
      refine t_rd rfl (rd_extract rfl rfl) ?_
      refine t_rd rfl (rd_extract rfl rfl) ?_
      refine t_rd rfl (rd_assign rfl) ?_
      refine t_rd rfl (rd_assign rfl) ?_
      refine rwt_nil ?_
      refine qn_then ?_
      refine cw_seq ?_
      refine cw_seq ?_
      refine cw_region ?_
      refine t_rd rfl (rd_move rfl) ?_
      refine t_rd rfl (rd_eql rfl rfl) ?_
      refine t_rd rfl (rd_move rfl) ?_
      refine t_rdg rfl rfl rfl rfl (gv_t _) (fun hg1058 => (rd_move rfl)) ?_
      refine t_rdg rfl rfl rfl rfl (gv_t _) (fun hg1059 => (rd_lenS tS22 (gvx rfl hg1059) (hv1.of_old hm1057))) ?_
      refine t_rdg rfl rfl rfl rfl (gv_t _) (fun hg1060 => (rd_move rfl)) ?_
      refine t_rdg rfl rfl rfl rfl (gv_t _) (fun hg1061 => (rd_lenS tS22 (gvx rfl hg1061) (hv2.of_old hm1057))) ?_
      obtain ⟨x1063, h1064, q1065⟩ := ob q1052; clear q1052
      refine t_rdg rfl rfl rfl rfl (gv_t _) (fun hg1062 => (rd_add64 (gO_t h1064 hg1062) (gvx rfl hg1062) (gvx rfl hg1062))) ?_
      refine t_rdg rfl rfl rfl rfl (gv_t _) (fun hg1066 => (rd_leq (gvx rfl hg1066) rfl)) ?_
      refine t_rd rfl (rd_and rfl (fun hc1067 => (gvx rfl hc1067))) ?_
      refine rwt_nil ?_
      refine qn_then ?_
      obtain ⟨hb1070, q1071⟩ | ⟨hb1070, q1071⟩ := oi q1065 <;> clear q1065
      · refine cw_t rfl hb1070 ?_
        refine cw_region ?_
        refine t_rd rfl (rd_move rfl) ?_
        refine t_rd rfl (rd_move rfl) ?_
        refine t_rd rfl (rd_assign rfl) ?_
        refine t_rd rfl (rd_assign rfl) ?_
        refine rwt_nil ?_
        refine qn_then ?_
        refine cw_seq ?_
        refine cw_region ?_
        refine t_rd rfl (rd_move rfl) ?_
        refine t_rd rfl (rd_move rfl) ?_
        obtain ⟨r1072, h1073, q1074⟩ := ob q1071; clear q1071
        refine t_ef rfl (ef_call tf11 rfl (reconcile_Align_ok h1073 (hv1.to_call hm1057) (hv2.to_call hm1057))) ?_
        rintro _ w1077 ⟨v1075, e_, hm1076⟩
        obtain rfl := e_.symm
        have hm1078 := hm1057.call hm1076
        refine t_rd rfl (rd_move rfl) ?_
        refine t_rd rfl (rd_extract rfl rfl) ?_
        refine t_rd rfl (rd_extract rfl rfl) ?_
        refine t_rd rfl (rd_extract rfl rfl) ?_
        refine t_rd rfl (rd_assign rfl) ?_
        refine t_rd rfl (rd_assign rfl) ?_
        refine t_rd rfl (rd_assign rfl) ?_
        refine rwt_nil ?_
        refine qn_then ?_
        refine cw_seq ?_
        refine cw_region ?_
        refine t_rd rfl (rd_move rfl) ?_
        refine t_rd rfl (rd_move rfl) ?_
        obtain ⟨r1079, h1080, q1081⟩ := ob q1074; clear q1074
        refine t_ef rfl (ef_call tf14 rfl (r08_Align_ok h1080 (hv1.to_call hm1078) (hv2.to_call hm1078))) ?_
        rintro _ w1084 ⟨v1082, e_, hm1083⟩
        obtain rfl := e_.symm
        have hm1085 := hm1078.call hm1083
        refine t_rd rfl (rd_move rfl) ?_
        refine t_rd rfl (rd_extract rfl rfl) ?_
        refine t_rd rfl (rd_extract rfl rfl) ?_
        refine t_rd rfl (rd_extract rfl rfl) ?_
        refine t_rd rfl (rd_assign rfl) ?_
        refine t_rd rfl (rd_assign rfl) ?_
        refine t_rd rfl (rd_assign rfl) ?_
        refine rwt_nil ?_
        refine qn_then ?_
        refine cw_seq ?_
        refine cw_region ?_
        refine t_rd rfl (rd_move rfl) ?_
        refine t_rd rfl (rd_move rfl) ?_
        obtain ⟨r1086, h1087, q1088⟩ := ob q1081; clear q1081
        refine t_ef rfl (ef_call tf20 rfl (reconcile_Potential_ok h1087 (hv1.to_call hm1085) (hv2.to_call hm1085))) ?_
        rintro _ w1092 ⟨zs1090, v1089, e_, hm1091⟩
        obtain rfl := e_.symm
        have hm1093 := hm1085.call hm1091
        refine t_rd rfl (rd_move rfl) ?_
        refine t_rd rfl (rd_extract rfl rfl) ?_
        refine t_rd rfl (rd_extract rfl rfl) ?_
        refine t_rd rfl (rd_assign rfl) ?_
        refine t_rd rfl (rd_assign rfl) ?_
        refine rwt_nil ?_
        refine qn_then ?_
        refine cw_seq ?_
        refine cw_region ?_
        refine t_rd rfl (rd_move rfl) ?_
        refine t_rd rfl (rd_move rfl) ?_
        obtain ⟨r1094, h1095, q1096⟩ := ob q1088; clear q1088
        refine t_ef rfl (ef_call tf15 rfl (r08_Potential_ok h1095 (hv1.to_call hm1093) (hv2.to_call hm1093))) ?_
        rintro _ w1100 ⟨zs1098, v1097, e_, hm1099⟩
        obtain rfl := e_.symm
        have hm1101 := hm1093.call hm1099
        refine t_rd rfl (rd_move rfl) ?_
        refine t_rd rfl (rd_extract rfl rfl) ?_
        refine t_rd rfl (rd_extract rfl rfl) ?_
        refine t_rd rfl (rd_assign rfl) ?_
        refine t_rd rfl (rd_assign rfl) ?_
        refine rwt_nil ?_
        refine qn_then ?_
        refine cw_seq ?_
        refine cw_seq ?_
        refine cw_region ?_
        refine t_rd rfl (rd_move rfl) ?_
        refine t_rd rfl (rd_move rfl) ?_
        obtain ⟨r1102, h1103, q1104⟩ := ob q1096; clear q1096
        refine t_ef rfl (ef_call tf12 rfl (humpgen_Ints_ok h1103 (hm1101.sl_call 5 rfl) (hm1101.sl_call 4 rfl))) ?_
        rintro _ w1106 ⟨e_, hm1105⟩
        obtain rfl := e_.symm
        have hm1107 := hm1101.call hm1105
        refine t_rd rfl (rd_not rfl) ?_
        refine t_rd rfl (rd_move rfl) ?_
        refine t_rdg rfl rfl rfl rfl (gv_f _) (fun hg1108 => (rd_move rfl)) ?_
        refine t_rdg rfl rfl rfl rfl (gv_f _) (fun hg1109 => (rd_move rfl)) ?_
        refine t_rdg rfl rfl rfl rfl (gv_f _) (fun hg1110 => (rd_neq (gvx rfl hg1110) (gvx rfl hg1110))) ?_
        refine t_rd rfl (rd_or rfl (fun hc1111 => (gvx rfl (bnotIt hc1111)))) ?_
        refine t_rd rfl (rd_move rfl) ?_
        refine t_rdg rfl rfl rfl rfl (gv_f _) (fun hg1112 => (rd_move rfl)) ?_
        refine t_rdg rfl rfl rfl rfl (gv_f _) (fun hg1113 => (rd_move rfl)) ?_
        refine t_rdg rfl rfl rfl rfl (gv_f _) (fun hg1114 => (rd_neq (gvx rfl hg1114) (gvx rfl hg1114))) ?_
        refine t_rd rfl (rd_or rfl (fun hc1115 => (gvx rfl (bnotIt hc1115)))) ?_
        refine t_rd rfl (rd_move rfl) ?_
        refine t_rdg rfl rfl rfl rfl (gv_f _) (fun hg1116 => (rd_move rfl)) ?_
        refine t_rdg rfl rfl rfl rfl (gv_f _) (fun hg1117 => (rd_move rfl)) ?_
        obtain ⟨r1119, h1120, q1121⟩ := ob q1104; clear q1104
        refine t_efg rfl rfl rfl rfl (R := (fun v w' => v = gV (!(((!r1102) || (!decide (r1072.2.1 = r1079.2.1))) || (!decide (r1072.2.2 = r1079.2.2)))) (Value.bool r1119) ∧ Mem w1106 No [] w')) (gv_f _) (fun hg1118 => (ef_call tf21 (evc (gvx rfl hg1118) (evc (gvx rfl hg1118) evn)) (humpgen_Lists_ok (gO_t h1120 hg1118) ((Nl.mk (hm1107.sl_call 2 rfl) (hm1107.rows_call 3 rfl)).sl) ((Nl.mk (hm1107.sl_call 0 rfl) (hm1107.rows_call 1 rfl)).sl))).mono (by rintro _ _ ⟨rfl, q⟩; exact ⟨(gV_t hg1118).symm, q⟩)) (fun q => ⟨(gV_f q).symm, Mem.nil _⟩) ?_
        rintro _ w1123 ⟨rfl, hm1122⟩
        have hm1124 := hm1107.call hm1122
        refine t_rdg rfl rfl rfl rfl (gv_f _) (fun hg1125 => (rd_not (gvx rfl hg1125))) ?_
        refine t_rd rfl (rd_or rfl (fun hc1126 => (gvx rfl (bnotIt hc1126)))) ?_
        refine t_rd rfl (rd_move rfl) ?_
        refine t_rdg rfl rfl rfl rfl (gv_f _) (fun hg1127 => (rd_move rfl)) ?_
        refine t_rdg rfl rfl rfl rfl (gv_f _) (fun hg1128 => (rd_move rfl)) ?_
        refine t_rdg rfl rfl rfl rfl (gv_f _) (fun hg1129 => (rd_neq (gvx rfl hg1129) (gvx rfl hg1129))) ?_
        refine t_rd rfl (rd_or rfl (fun hc1130 => (gvx rfl (bnotIt hc1130)))) ?_
        refine rwt_nil ?_
        refine qn_then ?_
        obtain ⟨hb1131, q1132⟩ | ⟨hb1131, q1132⟩ := oi q1121 <;> clear q1121
        · refine cw_t rfl hb1131 ?_
          refine cw_seq ?_
          refine cw_region ?_
          refine t_rd rfl (rd_assign rfl) ?_
          refine rwt_nil ?_
          refine qn_then ?_
          refine cw_ret ?_
          refine qr_then (qr_block (qr_then (qr_then ?_)))
          obtain rfl := hr1041 _ (os q1132)
          refine .inl (⟨_, rfl, ⟨rfl, ?_⟩⟩)
          exact ret1 rfl rfl ⟨rfl, (hm1124.pick [] (by decide) rfl)⟩
        · refine cw_f rfl hb1131 ?_
          refine cw_skip ?_
          refine qn_then ?_
          refine cw_seq ?_
          refine cw_region ?_
          refine t_ef rfl (ef_bslice0 (α := Int) hm1124 tS22) ?_
          intro v1133 w1135 hm1134
          refine t_rd rfl (rd_move rfl) ?_
          obtain ⟨l1136, h1137, q1138⟩ := ob q1132; clear q1132
          refine t_ef rfl (ef_append (k := 0) hm1134 tS22 tE3 rfl rfl rfl rfl (hm1134.sl 5 rfl) h1137) ?_
          intro v1139 w1141 hm1140
          refine t_rd rfl (rd_assign rfl) ?_
          refine rwt_nil ?_
          refine qn_then ?_
          refine cw_seq ?_
          refine cw_seq ?_
          refine cw_region ?_
          refine t_rd rfl (rd_move rfl) ?_
          refine t_rd rfl (rd_lenS tS22 rfl (hm1140.sl 0 rfl)) ?_
          refine t_rd rfl (rd_gtr rfl rfl) ?_
          refine rwt_nil ?_
          refine qn_then ?_
          obtain ⟨j1166, hit1167, q1168⟩ := ob q1138; clear q1138
          refine cw_join (X := fun eq envq wq => eq = .normal ∧ Sub [(1, v1), (2, v2), (3, v3), (9, (Value.pointer (some ⟨g4, 0, none⟩))), (10, (Value.int .i64 i1034)), (11, v1), (12, v2), (16, v1082), (23, v1139)] envq ∧ Mem w No [ownL 3 v1139 (j1166.2 : List Int), ownL 3 v1082 (r1079.1 : List Int), blk g4 48 [v0, (Value.int .i64 j1166.1)]] wq) ?_ ?_
          · clear q1168
            obtain ⟨hb1169, q1170⟩ | ⟨hb1169, q1170⟩ := oi hit1167 <;> clear hit1167
            · refine cw_t rfl hb1169 ?_
              refine cw_region ?_
              refine t_rd rfl (rd_move rfl) ?_
              refine t_rd rfl (rd_move rfl) ?_
              refine t_rd rfl (rd_move rfl) ?_
              refine t_rd rfl (rd_lenS tS22 rfl (hm1140.sl 0 rfl)) ?_
              obtain ⟨r1171, h1172, q1173⟩ := ob q1170; clear q1170
              refine t_ef rfl (ef_call tf16 rfl (Maker_Next_ok h1172 (hv0.to_callT (k := 9) hm1140 rfl) (hm1140.get (k := 9) rfl))) ?_
              rintro _ w1175 ⟨e_, hm1174⟩
              obtain rfl := e_.symm
              have hm1176 := hm1140.callT (k := 9) rfl (fun _ h => h) hm1174 (fun _ => Iff.rfl)
              refine t_rd rfl (rd_move rfl) ?_
              refine t_ef rfl (ef_bslice (l := ([(-1), 0, 1, 2, 3, 4, 5] : List Int)) hm1176 tS22 rfl (cs := #[(Value.int .i64 (-1)), (Value.int .i64 0), (Value.int .i64 1), (Value.int .i64 2), (Value.int .i64 3), (Value.int .i64 4), (Value.int .i64 5)]) (by unfold bsl; kernel_rfl) rfl rfl) ?_
              intro v1177 w1179 hm1178
              obtain ⟨r1180, h1181, q1182⟩ := ob q1173; clear q1173
              refine t_ef rfl (ef_call tf17 rfl (Maker_Pick_ok h1181 (hv0.to_callT (k := 10) hm1178 rfl) (hm1178.get (k := 10) rfl) (hm1178.sl_callT 0 10 rfl rfl (by decide)))) ?_
              rintro _ w1184 ⟨e_, hm1183⟩
              obtain rfl := e_.symm
              have hm1185 := hm1178.callT (k := 10) rfl (fun _ h => h) hm1183 (fun _ => Iff.rfl)
              obtain ⟨x1186, h1187, q1188⟩ := ob q1182; clear q1182
              refine t_rd rfl (rd_index tS22 rfl rfl (hm1185.sl 1 rfl) h1187) ?_
              refine t_ef0 (ef_stl (k := 1) (off := 0) (x' := r1180.2) hm1185 tO3 rfl rfl rfl rfl h1187 rfl rfl) ?_
              intro _ w1190 hm1189
              refine rwt_nil ?_
              obtain rfl := os q1188
              exact ⟨rfl, (by repeat (first | exact Sub.nil _ | refine Sub.cons rfl ?_)), (hm1189.pick [1, 6, 10] (by decide) rfl)⟩
            · refine cw_f rfl hb1169 ?_
              refine cw_skip ?_
              obtain rfl := os q1170
              exact ⟨rfl, (by repeat (first | exact Sub.nil _ | refine Sub.cons rfl ?_)), (hm1140.pick [0, 5, 9] (by decide) rfl)⟩
          · clear hit1167
            intro e env1191 w1192 hX1193
            obtain ⟨rfl, hs1194, hm1195⟩ := hX1193
            refine qn_then ?_
            refine cw_sub hs1194 ?_
            refine cw_seq ?_
            refine cw_region ?_
            refine t_rd rfl (rd_move rfl) ?_
            refine t_rd rfl (rd_move rfl) ?_
            refine t_rd rfl (rd_move rfl) ?_
            obtain ⟨zd1196, ez1197⟩ : ∃ z : Hdr, z.1 = v1082 := ⟨⟨v1082, sl_one (hm1195.sl 1 rfl)⟩, rfl⟩
            obtain ⟨zd1198, ez1199⟩ : ∃ z : Hdr, z.1 = v1139 := ⟨⟨v1139, sl_one (hm1195.sl 0 rfl)⟩, rfl⟩
            obtain ⟨zd1200, ez1201⟩ : ∃ z : Hdr, z.1 = v3 := ⟨⟨v3, sl_one (hv3.of_old hm1195)⟩, rfl⟩
            refine t_ef rfl (ef_bslice (l := ([zd1196, zd1198, zd1200] : List Hdr)) hm1195 tS33 rfl (cs := #[v1082, v1139, v3]) (by obtain ⟨_, _, e⟩ : ∃ A c, v1082 = Value.slice A (List.length r1079.1) c := ((hm1195.sl 1 rfl)).val; rw [e]; clear e; obtain ⟨_, _, e⟩ : ∃ A c, v1139 = Value.slice A (List.length j1166.2) c := ((hm1195.sl 0 rfl)).val; rw [e]; clear e; obtain ⟨_, _, e⟩ : ∃ A c, v3 = Value.slice A (List.length a3) c := ((hv3.of_old hm1195)).val; rw [e]; clear e; unfold bsl; kernel_rfl) (by show [zd1196.1, zd1198.1, zd1200.1] = [v1082, v1139, v3]; rw [ez1197, ez1199, ez1201]) rfl) ?_
            intro v1202 w1204 hm1203
            refine t_rd rfl (rd_lenS tS33 rfl ((Nl.mk (hm1203.sl_call 0 rfl) (Rows.cons (hm1203.sl_call 2 rfl) ez1197 (Rows.cons (hm1203.sl_call 1 rfl) ez1199 (Rows.cons (hv3.to_call hm1203) ez1201 Rows.nil)))).sl)) ?_
            refine t_rd rfl (rd_move rfl) ?_
            refine rwt_nil ?_
            refine qn_then ?_
            refine cw_block ?_
            obtain ⟨r1269, hit1270, q1271⟩ := ob q1168; clear q1168
            refine cw_loop2 (I := fun q envq wq => Sub [(1, v1), (2, v2), (3, v3), (9, (Value.pointer (some ⟨g4, 0, none⟩))), (10, (Value.int .i64 i1034)), (11, v1), (12, v2), (122, v1202), (123, (Value.int .i64 (List.length ([r1079.1, j1166.2, a3]) : Int))), (124, (Value.int .i64 q))] envq ∧ Mem w No [ownL 22 v1202 ([zd1196, zd1198, zd1200] : List Hdr), ownL 3 v1139 (j1166.2 : List Int), ownL 3 v1082 (r1079.1 : List Int), blk g4 48 [v0, (Value.int .i64 j1166.1)]] wq) (X := fun eq envq wq => (∃ p1272, r1269 = (Sum.inl p1272) ∧ eq = .ret ∧ retQ Try.prog 152 Try.f5 (fun u w' => u = (Value.bool p1272) ∧ Mem w No [] w') .ret envq wq) ∨ (∃ p1273, r1269 = (Sum.inr p1273) ∧ eq = .exit 2 ∧ Sub [(1, v1), (2, v2), (3, v3), (9, (Value.pointer (some ⟨g4, 0, none⟩))), (10, (Value.int .i64 i1034))] envq ∧ Mem w No [blk g4 48 [v0, (Value.int .i64 j1166.1)]] wq)) hit1270 ⟨(by repeat (first | exact Sub.nil _ | refine Sub.cons rfl ?_)), (hm1203.pick [0, 1, 2, 3] (by decide) rfl)⟩ ?_ ?_
            · rintro i1262 x1264 env1265 w1266 hf1267 hr1268 ⟨hs_, hm_⟩
              have hs_ : Sub [(1, v1), (2, v2), (3, v3), (9, (Value.pointer (some ⟨g4, 0, none⟩))), (10, (Value.int .i64 i1034)), (11, v1), (12, v2), (122, v1202), (123, (Value.int .i64 (List.length ([r1079.1, j1166.2, a3]) : Int))), (124, (Value.int .i64 i1262))] env1265 := hs_
              have hm1274 : Mem w No [ownL 22 v1202 ([zd1196, zd1198, zd1200] : List Hdr), ownL 3 v1139 (j1166.2 : List Int), ownL 3 v1082 (r1079.1 : List Int), blk g4 48 [v0, (Value.int .i64 j1166.1)]] w1266 := hm_
              refine cw_sub hs_ ?_
              clear hs_ hm_ q1271
              have h : law08_ReconcileExact_l6 N a1 a2 a3 r1079 j1166 i1262 = some x1264 := hf1267
              clear hf1267
              refine cw_seq ?_
              refine cw_region ?_
              refine t_rd rfl (rd_lss rfl rfl) ?_
              refine rwt_nil ?_
              refine qn_then ?_
              refine cw_seq ?_
              obtain ⟨hb1275, q1276⟩ | ⟨hb1275, q1276⟩ := oi h <;> clear h
              · refine cw_t rfl hb1275 ?_
                refine cw_skip ?_
                refine qn_then ?_
                refine cw_seq ?_
                refine cw_block ?_
                refine cw_seq ?_
                refine cw_region ?_
                obtain ⟨x1277, h1278, q1279⟩ := ob q1276; clear q1276
                refine t_rd rfl (rd_index tS33 rfl rfl ((Nl.mk (hm1274.sl_call 0 rfl) (Rows.cons (hm1274.sl_call 2 rfl) ez1197 (Rows.cons (hm1274.sl_call 1 rfl) ez1199 (Rows.cons (hv3.to_call hm1274) ez1201 Rows.nil)))).sl) h1278) ?_
                obtain ⟨zd1280, hz1281⟩ := (Nl.mk (hm1274.sl_call 0 rfl) (Rows.cons (hm1274.sl_call 2 rfl) ez1197 (Rows.cons (hm1274.sl_call 1 rfl) ez1199 (Rows.cons (hv3.to_call hm1274) ez1201 Rows.nil)))).row h1278
                refine t_rd rfl (rd_ld1 tO22 rfl ((Nl.mk (hm1274.sl_call 0 rfl) (Rows.cons (hm1274.sl_call 2 rfl) ez1197 (Rows.cons (hm1274.sl_call 1 rfl) ez1199 (Rows.cons (hv3.to_call hm1274) ez1201 Rows.nil)))).cells hz1281) (off := 0) rfl) ?_
                refine t_rd rfl (rd_assign rfl) ?_
                refine rwt_nil ?_
                refine qn_then ?_
                refine cw_seq ?_
                refine cw_region ?_
                refine t_rd rfl (rd_move rfl) ?_
                refine t_rd rfl (rd_move rfl) ?_
                refine t_rd rfl (rd_move rfl) ?_
                obtain ⟨r1282, h1283, q1284⟩ := ob q1279; clear q1279
                refine t_ef rfl (ef_call tf22 rfl (reconcile_Cost_ok h1283 (hv1.to_call hm1274) (hv2.to_call hm1274) ((Nl.mk (hm1274.sl_call 0 rfl) (Rows.cons (hm1274.sl_call 2 rfl) ez1197 (Rows.cons (hm1274.sl_call 1 rfl) ez1199 (Rows.cons (hv3.to_call hm1274) ez1201 Rows.nil)))).get hz1281 h1278))) ?_
                rintro _ w1286 ⟨e_, hm1285⟩
                obtain rfl := e_.symm
                have hm1287 := hm1274.call hm1285
                refine t_rd rfl (rd_move rfl) ?_
                refine t_rd rfl (rd_extract rfl rfl) ?_
                refine t_rd rfl (rd_extract rfl rfl) ?_
                refine t_rd rfl (rd_assign rfl) ?_
                refine t_rd rfl (rd_assign rfl) ?_
                refine rwt_nil ?_
                refine qn_then ?_
                refine cw_seq ?_
                refine cw_region ?_
                refine t_rd rfl (rd_move rfl) ?_
                refine t_rd rfl (rd_move rfl) ?_
                refine t_rd rfl (rd_move rfl) ?_
                obtain ⟨r1288, h1289, q1290⟩ := ob q1284; clear q1284
                refine t_ef rfl (ef_call tf23 rfl (r08_Cost_ok h1289 (hv1.to_call hm1287) (hv2.to_call hm1287) ((Nl.mk (hm1287.sl_call 0 rfl) (Rows.cons (hm1287.sl_call 2 rfl) ez1197 (Rows.cons (hm1287.sl_call 1 rfl) ez1199 (Rows.cons (hv3.to_call hm1287) ez1201 Rows.nil)))).get hz1281 h1278))) ?_
                rintro _ w1292 ⟨e_, hm1291⟩
                obtain rfl := e_.symm
                have hm1293 := hm1287.call hm1291
                refine t_rd rfl (rd_move rfl) ?_
                refine t_rd rfl (rd_extract rfl rfl) ?_
                refine t_rd rfl (rd_extract rfl rfl) ?_
                refine t_rd rfl (rd_assign rfl) ?_
                refine t_rd rfl (rd_assign rfl) ?_
                refine rwt_nil ?_
                refine qn_then ?_
                refine cw_seq ?_
                refine cw_region ?_
                refine t_rd rfl (rd_move rfl) ?_
                refine t_rd rfl (rd_move rfl) ?_
                refine t_rd rfl (rd_neq rfl rfl) ?_
                refine t_rd rfl (rd_move rfl) ?_
                refine t_rdg rfl rfl rfl rfl (gv_f _) (fun hg1294 => (rd_move rfl)) ?_
                refine t_rdg rfl rfl rfl rfl (gv_f _) (fun hg1295 => (rd_move rfl)) ?_
                refine t_rdg rfl rfl rfl rfl (gv_f _) (fun hg1296 => (rd_neq (gvx rfl hg1296) (gvx rfl hg1296))) ?_
                refine t_rd rfl (rd_or rfl (fun hc1297 => (gvx rfl (bnotIt hc1297)))) ?_
                refine rwt_nil ?_
                refine qn_then ?_
                obtain ⟨hb1298, q1299⟩ | ⟨hb1298, q1299⟩ := oi q1290 <;> clear q1290
                · refine cw_t rfl hb1298 ?_
                  refine cw_seq ?_
                  refine cw_region ?_
                  refine t_rd rfl (rd_assign rfl) ?_
                  refine rwt_nil ?_
                  refine qn_then ?_
                  refine cw_ret ?_
                  refine qr_block (qr_then (qr_then ?_))
                  obtain rfl := hr1268 _ (os q1299)
                  refine .inl (⟨_, rfl, ⟨rfl, ?_⟩⟩)
                  exact ret1 rfl rfl ⟨rfl, (hm1293.pick [] (by decide) rfl)⟩
                · refine cw_f rfl hb1298 ?_
                  refine cw_skip ?_
                  refine qn_block (qn_then ?_)
                  refine cw_region ?_
                  obtain ⟨x1300, h1301, q1302⟩ := ob q1299; clear q1299
                  refine t_rd rfl (rd_add64 h1301 rfl rfl) ?_
                  refine t_rd rfl (rd_move rfl) ?_
                  refine rwt_nil ?_
                  refine qn_then ?_
                  refine ⟨_, (os q1302), (by repeat (first | exact Sub.nil _ | refine Sub.cons rfl ?_)), (hm1293.pick [0, 1, 2, 3] (by decide) rfl)⟩
              · refine cw_f rfl hb1275 ?_
                refine cw_exit ?_
                refine qx_then (qx_then ?_)
                obtain rfl := hr1268 _ (os q1276)
                exact .inr (⟨_, rfl, ⟨rfl, (by repeat (first | exact Sub.nil _ | refine Sub.cons rfl ?_)), (hm1274.pick [3] (by decide) rfl)⟩⟩)
            · skip
              intro e env1303 w1304 hX1305
              rcases hX1305 with hX1305 | hX1305
              · obtain ⟨p1307, rfl, hX1305⟩ := hX1305
                obtain ⟨rfl, hq1309⟩ := hX1305
                obtain rfl := hr1041 _ (os q1271)
                exact qr_block (qr_block (qr_then (qr_then (.inl (⟨_, rfl, ⟨rfl, hq1309⟩⟩)))))
              · obtain ⟨p1310, rfl, hX1305⟩ := hX1305
                obtain ⟨rfl, hs1311, hm1312⟩ := hX1305
                refine qx_same (qn_block (qn_then ?_))
                refine cw_sub hs1311 ?_
                refine cw_region ?_
                refine t_rd rfl (rd_move rfl) ?_
                obtain ⟨x1313, h1314, q1315⟩ := ob q1271; clear q1271
                refine t_rd rfl (rd_add64 h1314 rfl rfl) ?_
                refine t_rd rfl (rd_assign rfl) ?_
                refine rwt_nil ?_
                refine qn_then ?_
                refine ⟨_, (os q1315), (by repeat (first | exact Sub.nil _ | refine Sub.cons rfl ?_)), (hm1312.pick [0] (by decide) rfl)⟩
      · refine cw_f rfl hb1070 ?_
        refine cw_skip ?_
        refine qn_then ?_
        refine cw_seq ?_
        refine cw_region ?_
        refine t_rd rfl (rd_move rfl) ?_
        refine t_rd rfl (rd_move rfl) ?_
        obtain ⟨r1316, h1317, q1318⟩ := ob q1071; clear q1071
        refine t_ef rfl (ef_call tf11 rfl (reconcile_Align_ok h1317 (hm1057.sl_call 0 rfl) (hm1057.sl_call 1 rfl))) ?_
        rintro _ w1321 ⟨v1319, e_, hm1320⟩
        obtain rfl := e_.symm
        have hm1322 := hm1057.call hm1320
        refine t_rd rfl (rd_move rfl) ?_
        refine t_rd rfl (rd_extract rfl rfl) ?_
        refine t_rd rfl (rd_extract rfl rfl) ?_
        refine t_rd rfl (rd_extract rfl rfl) ?_
        refine t_rd rfl (rd_assign rfl) ?_
        refine t_rd rfl (rd_assign rfl) ?_
        refine t_rd rfl (rd_assign rfl) ?_
        refine rwt_nil ?_
        refine qn_then ?_
        refine cw_seq ?_
        refine cw_region ?_
        refine t_rd rfl (rd_move rfl) ?_
        refine t_rd rfl (rd_move rfl) ?_
        obtain ⟨r1323, h1324, q1325⟩ := ob q1318; clear q1318
        refine t_ef rfl (ef_call tf14 rfl (r08_Align_ok h1324 (hm1322.sl_call 1 rfl) (hm1322.sl_call 2 rfl))) ?_
        rintro _ w1328 ⟨v1326, e_, hm1327⟩
        obtain rfl := e_.symm
        have hm1329 := hm1322.call hm1327
        refine t_rd rfl (rd_move rfl) ?_
        refine t_rd rfl (rd_extract rfl rfl) ?_
        refine t_rd rfl (rd_extract rfl rfl) ?_
        refine t_rd rfl (rd_extract rfl rfl) ?_
        refine t_rd rfl (rd_assign rfl) ?_
        refine t_rd rfl (rd_assign rfl) ?_
        refine t_rd rfl (rd_assign rfl) ?_
        refine rwt_nil ?_
        refine qn_then ?_
        refine cw_seq ?_
        refine cw_region ?_
        refine t_rd rfl (rd_move rfl) ?_
        refine t_rd rfl (rd_move rfl) ?_
        obtain ⟨r1330, h1331, q1332⟩ := ob q1325; clear q1325
        refine t_ef rfl (ef_call tf20 rfl (reconcile_Potential_ok h1331 (hm1329.sl_call 2 rfl) (hm1329.sl_call 3 rfl))) ?_
        rintro _ w1336 ⟨zs1334, v1333, e_, hm1335⟩
        obtain rfl := e_.symm
        have hm1337 := hm1329.call hm1335
        refine t_rd rfl (rd_move rfl) ?_
        refine t_rd rfl (rd_extract rfl rfl) ?_
        refine t_rd rfl (rd_extract rfl rfl) ?_
        refine t_rd rfl (rd_assign rfl) ?_
        refine t_rd rfl (rd_assign rfl) ?_
        refine rwt_nil ?_
        refine qn_then ?_
        refine cw_seq ?_
        refine cw_region ?_
        refine t_rd rfl (rd_move rfl) ?_
        refine t_rd rfl (rd_move rfl) ?_
        obtain ⟨r1338, h1339, q1340⟩ := ob q1332; clear q1332
        refine t_ef rfl (ef_call tf15 rfl (r08_Potential_ok h1339 (hm1337.sl_call 4 rfl) (hm1337.sl_call 5 rfl))) ?_
        rintro _ w1344 ⟨zs1342, v1341, e_, hm1343⟩
        obtain rfl := e_.symm
        have hm1345 := hm1337.call hm1343
        refine t_rd rfl (rd_move rfl) ?_
        refine t_rd rfl (rd_extract rfl rfl) ?_
        refine t_rd rfl (rd_extract rfl rfl) ?_
        refine t_rd rfl (rd_assign rfl) ?_
        refine t_rd rfl (rd_assign rfl) ?_
        refine rwt_nil ?_
        refine qn_then ?_
        refine cw_seq ?_
        refine cw_seq ?_
        refine cw_region ?_
        refine t_rd rfl (rd_move rfl) ?_
        refine t_rd rfl (rd_move rfl) ?_
        obtain ⟨r1346, h1347, q1348⟩ := ob q1340; clear q1340
        refine t_ef rfl (ef_call tf12 rfl (humpgen_Ints_ok h1347 (hm1345.sl_call 5 rfl) (hm1345.sl_call 4 rfl))) ?_
        rintro _ w1350 ⟨e_, hm1349⟩
        obtain rfl := e_.symm
        have hm1351 := hm1345.call hm1349
        refine t_rd rfl (rd_not rfl) ?_
        refine t_rd rfl (rd_move rfl) ?_
        refine t_rdg rfl rfl rfl rfl (gv_f _) (fun hg1352 => (rd_move rfl)) ?_
        refine t_rdg rfl rfl rfl rfl (gv_f _) (fun hg1353 => (rd_move rfl)) ?_
        refine t_rdg rfl rfl rfl rfl (gv_f _) (fun hg1354 => (rd_neq (gvx rfl hg1354) (gvx rfl hg1354))) ?_
        refine t_rd rfl (rd_or rfl (fun hc1355 => (gvx rfl (bnotIt hc1355)))) ?_
        refine t_rd rfl (rd_move rfl) ?_
        refine t_rdg rfl rfl rfl rfl (gv_f _) (fun hg1356 => (rd_move rfl)) ?_
        refine t_rdg rfl rfl rfl rfl (gv_f _) (fun hg1357 => (rd_move rfl)) ?_
        refine t_rdg rfl rfl rfl rfl (gv_f _) (fun hg1358 => (rd_neq (gvx rfl hg1358) (gvx rfl hg1358))) ?_
        refine t_rd rfl (rd_or rfl (fun hc1359 => (gvx rfl (bnotIt hc1359)))) ?_
        refine t_rd rfl (rd_move rfl) ?_
        refine t_rdg rfl rfl rfl rfl (gv_f _) (fun hg1360 => (rd_move rfl)) ?_
        refine t_rdg rfl rfl rfl rfl (gv_f _) (fun hg1361 => (rd_move rfl)) ?_
        obtain ⟨r1363, h1364, q1365⟩ := ob q1348; clear q1348
        refine t_efg rfl rfl rfl rfl (R := (fun v w' => v = gV (!(((!r1346) || (!decide (r1316.2.1 = r1323.2.1))) || (!decide (r1316.2.2 = r1323.2.2)))) (Value.bool r1363) ∧ Mem w1350 No [] w')) (gv_f _) (fun hg1362 => (ef_call tf21 (evc (gvx rfl hg1362) (evc (gvx rfl hg1362) evn)) (humpgen_Lists_ok (gO_t h1364 hg1362) ((Nl.mk (hm1351.sl_call 2 rfl) (hm1351.rows_call 3 rfl)).sl) ((Nl.mk (hm1351.sl_call 0 rfl) (hm1351.rows_call 1 rfl)).sl))).mono (by rintro _ _ ⟨rfl, q⟩; exact ⟨(gV_t hg1362).symm, q⟩)) (fun q => ⟨(gV_f q).symm, Mem.nil _⟩) ?_
        rintro _ w1367 ⟨rfl, hm1366⟩
        have hm1368 := hm1351.call hm1366
        refine t_rdg rfl rfl rfl rfl (gv_f _) (fun hg1369 => (rd_not (gvx rfl hg1369))) ?_
        refine t_rd rfl (rd_or rfl (fun hc1370 => (gvx rfl (bnotIt hc1370)))) ?_
        refine t_rd rfl (rd_move rfl) ?_
        refine t_rdg rfl rfl rfl rfl (gv_f _) (fun hg1371 => (rd_move rfl)) ?_
        refine t_rdg rfl rfl rfl rfl (gv_f _) (fun hg1372 => (rd_move rfl)) ?_
        refine t_rdg rfl rfl rfl rfl (gv_f _) (fun hg1373 => (rd_neq (gvx rfl hg1373) (gvx rfl hg1373))) ?_
        refine t_rd rfl (rd_or rfl (fun hc1374 => (gvx rfl (bnotIt hc1374)))) ?_
        refine rwt_nil ?_
        refine qn_then ?_
        obtain ⟨hb1375, q1376⟩ | ⟨hb1375, q1376⟩ := oi q1365 <;> clear q1365
        · refine cw_t rfl hb1375 ?_
          refine cw_seq ?_
          refine cw_region ?_
          refine t_rd rfl (rd_assign rfl) ?_
          refine rwt_nil ?_
          refine qn_then ?_
          refine cw_ret ?_
          refine qr_then (qr_block (qr_then (qr_then ?_)))
          obtain rfl := hr1041 _ (os q1376)
          refine .inl (⟨_, rfl, ⟨rfl, ?_⟩⟩)
          exact ret1 rfl rfl ⟨rfl, (hm1368.pick [] (by decide) rfl)⟩
        · refine cw_f rfl hb1375 ?_
          refine cw_skip ?_
          refine qn_then ?_
          refine cw_seq ?_
          refine cw_region ?_
          refine t_ef rfl (ef_bslice0 (α := Int) hm1368 tS22) ?_
          intro v1377 w1379 hm1378
          refine t_rd rfl (rd_move rfl) ?_
          obtain ⟨l1380, h1381, q1382⟩ := ob q1376; clear q1376
          refine t_ef rfl (ef_append (k := 0) hm1378 tS22 tE3 rfl rfl rfl rfl (hm1378.sl 5 rfl) h1381) ?_
          intro v1383 w1385 hm1384
          refine t_rd rfl (rd_assign rfl) ?_
          refine rwt_nil ?_
          refine qn_then ?_
          refine cw_seq ?_
          refine cw_seq ?_
          refine cw_region ?_
          refine t_rd rfl (rd_move rfl) ?_
          refine t_rd rfl (rd_lenS tS22 rfl (hm1384.sl 0 rfl)) ?_
          refine t_rd rfl (rd_gtr rfl rfl) ?_
          refine rwt_nil ?_
          refine qn_then ?_
          obtain ⟨j1410, hit1411, q1412⟩ := ob q1382; clear q1382
          refine cw_join (X := fun eq envq wq => eq = .normal ∧ Sub [(1, v1), (2, v2), (3, v3), (9, (Value.pointer (some ⟨g4, 0, none⟩))), (10, (Value.int .i64 i1034)), (11, v1053), (12, v1054), (16, v1326), (23, v1383)] envq ∧ Mem w No [ownL 3 v1383 (j1410.2 : List Int), ownL 3 v1326 (r1323.1 : List Int), ownL 3 v1053 (r1050.2.1 : List Int), ownL 3 v1054 (r1050.2.2 : List Int), blk g4 48 [v0, (Value.int .i64 j1410.1)]] wq) ?_ ?_
          · clear q1412
            obtain ⟨hb1413, q1414⟩ | ⟨hb1413, q1414⟩ := oi hit1411 <;> clear hit1411
            · refine cw_t rfl hb1413 ?_
              refine cw_region ?_
              refine t_rd rfl (rd_move rfl) ?_
              refine t_rd rfl (rd_move rfl) ?_
              refine t_rd rfl (rd_move rfl) ?_
              refine t_rd rfl (rd_lenS tS22 rfl (hm1384.sl 0 rfl)) ?_
              obtain ⟨r1415, h1416, q1417⟩ := ob q1414; clear q1414
              refine t_ef rfl (ef_call tf16 rfl (Maker_Next_ok h1416 (hv0.to_callT (k := 9) hm1384 rfl) (hm1384.get (k := 9) rfl))) ?_
              rintro _ w1419 ⟨e_, hm1418⟩
              obtain rfl := e_.symm
              have hm1420 := hm1384.callT (k := 9) rfl (fun _ h => h) hm1418 (fun _ => Iff.rfl)
              refine t_rd rfl (rd_move rfl) ?_
              refine t_ef rfl (ef_bslice (l := ([(-1), 0, 1, 2, 3, 4, 5] : List Int)) hm1420 tS22 rfl (cs := #[(Value.int .i64 (-1)), (Value.int .i64 0), (Value.int .i64 1), (Value.int .i64 2), (Value.int .i64 3), (Value.int .i64 4), (Value.int .i64 5)]) (by unfold bsl; kernel_rfl) rfl rfl) ?_
              intro v1421 w1423 hm1422
              obtain ⟨r1424, h1425, q1426⟩ := ob q1417; clear q1417
              refine t_ef rfl (ef_call tf17 rfl (Maker_Pick_ok h1425 (hv0.to_callT (k := 10) hm1422 rfl) (hm1422.get (k := 10) rfl) (hm1422.sl_callT 0 10 rfl rfl (by decide)))) ?_
              rintro _ w1428 ⟨e_, hm1427⟩
              obtain rfl := e_.symm
              have hm1429 := hm1422.callT (k := 10) rfl (fun _ h => h) hm1427 (fun _ => Iff.rfl)
              obtain ⟨x1430, h1431, q1432⟩ := ob q1426; clear q1426
              refine t_rd rfl (rd_index tS22 rfl rfl (hm1429.sl 1 rfl) h1431) ?_
              refine t_ef0 (ef_stl (k := 1) (off := 0) (x' := r1424.2) hm1429 tO3 rfl rfl rfl rfl h1431 rfl rfl) ?_
              intro _ w1434 hm1433
              refine rwt_nil ?_
              obtain rfl := os q1432
              exact ⟨rfl, (by repeat (first | exact Sub.nil _ | refine Sub.cons rfl ?_)), (hm1433.pick [1, 6, 8, 9, 10] (by decide) rfl)⟩
            · refine cw_f rfl hb1413 ?_
              refine cw_skip ?_
              obtain rfl := os q1414
              exact ⟨rfl, (by repeat (first | exact Sub.nil _ | refine Sub.cons rfl ?_)), (hm1384.pick [0, 5, 7, 8, 9] (by decide) rfl)⟩
          · clear hit1411
            intro e env1435 w1436 hX1437
            obtain ⟨rfl, hs1438, hm1439⟩ := hX1437
            refine qn_then ?_
            refine cw_sub hs1438 ?_
            refine cw_seq ?_
            refine cw_region ?_
            refine t_rd rfl (rd_move rfl) ?_
            refine t_rd rfl (rd_move rfl) ?_
            refine t_rd rfl (rd_move rfl) ?_
            obtain ⟨zd1440, ez1441⟩ : ∃ z : Hdr, z.1 = v1326 := ⟨⟨v1326, sl_one (hm1439.sl 1 rfl)⟩, rfl⟩
            obtain ⟨zd1442, ez1443⟩ : ∃ z : Hdr, z.1 = v1383 := ⟨⟨v1383, sl_one (hm1439.sl 0 rfl)⟩, rfl⟩
            obtain ⟨zd1444, ez1445⟩ : ∃ z : Hdr, z.1 = v3 := ⟨⟨v3, sl_one (hv3.of_old hm1439)⟩, rfl⟩
            refine t_ef rfl (ef_bslice (l := ([zd1440, zd1442, zd1444] : List Hdr)) hm1439 tS33 rfl (cs := #[v1326, v1383, v3]) (by obtain ⟨_, _, e⟩ : ∃ A c, v1326 = Value.slice A (List.length r1323.1) c := ((hm1439.sl 1 rfl)).val; rw [e]; clear e; obtain ⟨_, _, e⟩ : ∃ A c, v1383 = Value.slice A (List.length j1410.2) c := ((hm1439.sl 0 rfl)).val; rw [e]; clear e; obtain ⟨_, _, e⟩ : ∃ A c, v3 = Value.slice A (List.length a3) c := ((hv3.of_old hm1439)).val; rw [e]; clear e; unfold bsl; kernel_rfl) (by show [zd1440.1, zd1442.1, zd1444.1] = [v1326, v1383, v3]; rw [ez1441, ez1443, ez1445]) rfl) ?_
            intro v1446 w1448 hm1447
            refine t_rd rfl (rd_lenS tS33 rfl ((Nl.mk (hm1447.sl_call 0 rfl) (Rows.cons (hm1447.sl_call 2 rfl) ez1441 (Rows.cons (hm1447.sl_call 1 rfl) ez1443 (Rows.cons (hv3.to_call hm1447) ez1445 Rows.nil)))).sl)) ?_
            refine t_rd rfl (rd_move rfl) ?_
            refine rwt_nil ?_
            refine qn_then ?_
            refine cw_block ?_
            obtain ⟨r1513, hit1514, q1515⟩ := ob q1412; clear q1412
            refine cw_loop2 (I := fun q envq wq => Sub [(1, v1), (2, v2), (3, v3), (9, (Value.pointer (some ⟨g4, 0, none⟩))), (10, (Value.int .i64 i1034)), (11, v1053), (12, v1054), (122, v1446), (123, (Value.int .i64 (List.length ([r1323.1, j1410.2, a3]) : Int))), (124, (Value.int .i64 q))] envq ∧ Mem w No [ownL 22 v1446 ([zd1440, zd1442, zd1444] : List Hdr), ownL 3 v1383 (j1410.2 : List Int), ownL 3 v1326 (r1323.1 : List Int), ownL 3 v1053 (r1050.2.1 : List Int), ownL 3 v1054 (r1050.2.2 : List Int), blk g4 48 [v0, (Value.int .i64 j1410.1)]] wq) (X := fun eq envq wq => (∃ p1516, r1513 = (Sum.inl p1516) ∧ eq = .ret ∧ retQ Try.prog 152 Try.f5 (fun u w' => u = (Value.bool p1516) ∧ Mem w No [] w') .ret envq wq) ∨ (∃ p1517, r1513 = (Sum.inr p1517) ∧ eq = .exit 2 ∧ Sub [(1, v1), (2, v2), (3, v3), (9, (Value.pointer (some ⟨g4, 0, none⟩))), (10, (Value.int .i64 i1034))] envq ∧ Mem w No [blk g4 48 [v0, (Value.int .i64 j1410.1)]] wq)) hit1514 ⟨(by repeat (first | exact Sub.nil _ | refine Sub.cons rfl ?_)), (hm1447.pick [0, 1, 2, 3, 4, 5] (by decide) rfl)⟩ ?_ ?_
            · rintro i1506 x1508 env1509 w1510 hf1511 hr1512 ⟨hs_, hm_⟩
              have hs_ : Sub [(1, v1), (2, v2), (3, v3), (9, (Value.pointer (some ⟨g4, 0, none⟩))), (10, (Value.int .i64 i1034)), (11, v1053), (12, v1054), (122, v1446), (123, (Value.int .i64 (List.length ([r1323.1, j1410.2, a3]) : Int))), (124, (Value.int .i64 i1506))] env1509 := hs_
              have hm1518 : Mem w No [ownL 22 v1446 ([zd1440, zd1442, zd1444] : List Hdr), ownL 3 v1383 (j1410.2 : List Int), ownL 3 v1326 (r1323.1 : List Int), ownL 3 v1053 (r1050.2.1 : List Int), ownL 3 v1054 (r1050.2.2 : List Int), blk g4 48 [v0, (Value.int .i64 j1410.1)]] w1510 := hm_
              refine cw_sub hs_ ?_
              clear hs_ hm_ q1515
              have h : law08_ReconcileExact_l7 N a3 r1050 r1323 j1410 i1506 = some x1508 := hf1511
              clear hf1511
              refine cw_seq ?_
              refine cw_region ?_
              refine t_rd rfl (rd_lss rfl rfl) ?_
              refine rwt_nil ?_
              refine qn_then ?_
              refine cw_seq ?_
              obtain ⟨hb1519, q1520⟩ | ⟨hb1519, q1520⟩ := oi h <;> clear h
              · refine cw_t rfl hb1519 ?_
                refine cw_skip ?_
                refine qn_then ?_
                refine cw_seq ?_
                refine cw_block ?_
                refine cw_seq ?_
                refine cw_region ?_
                obtain ⟨x1521, h1522, q1523⟩ := ob q1520; clear q1520
                refine t_rd rfl (rd_index tS33 rfl rfl ((Nl.mk (hm1518.sl_call 0 rfl) (Rows.cons (hm1518.sl_call 2 rfl) ez1441 (Rows.cons (hm1518.sl_call 1 rfl) ez1443 (Rows.cons (hv3.to_call hm1518) ez1445 Rows.nil)))).sl) h1522) ?_
                obtain ⟨zd1524, hz1525⟩ := (Nl.mk (hm1518.sl_call 0 rfl) (Rows.cons (hm1518.sl_call 2 rfl) ez1441 (Rows.cons (hm1518.sl_call 1 rfl) ez1443 (Rows.cons (hv3.to_call hm1518) ez1445 Rows.nil)))).row h1522
                refine t_rd rfl (rd_ld1 tO22 rfl ((Nl.mk (hm1518.sl_call 0 rfl) (Rows.cons (hm1518.sl_call 2 rfl) ez1441 (Rows.cons (hm1518.sl_call 1 rfl) ez1443 (Rows.cons (hv3.to_call hm1518) ez1445 Rows.nil)))).cells hz1525) (off := 0) rfl) ?_
                refine t_rd rfl (rd_assign rfl) ?_
                refine rwt_nil ?_
                refine qn_then ?_
                refine cw_seq ?_
                refine cw_region ?_
                refine t_rd rfl (rd_move rfl) ?_
                refine t_rd rfl (rd_move rfl) ?_
                refine t_rd rfl (rd_move rfl) ?_
                obtain ⟨r1526, h1527, q1528⟩ := ob q1523; clear q1523
                refine t_ef rfl (ef_call tf22 rfl (reconcile_Cost_ok h1527 (hm1518.sl_call 3 rfl) (hm1518.sl_call 4 rfl) ((Nl.mk (hm1518.sl_call 0 rfl) (Rows.cons (hm1518.sl_call 2 rfl) ez1441 (Rows.cons (hm1518.sl_call 1 rfl) ez1443 (Rows.cons (hv3.to_call hm1518) ez1445 Rows.nil)))).get hz1525 h1522))) ?_
                rintro _ w1530 ⟨e_, hm1529⟩
                obtain rfl := e_.symm
                have hm1531 := hm1518.call hm1529
                refine t_rd rfl (rd_move rfl) ?_
                refine t_rd rfl (rd_extract rfl rfl) ?_
                refine t_rd rfl (rd_extract rfl rfl) ?_
                refine t_rd rfl (rd_assign rfl) ?_
                refine t_rd rfl (rd_assign rfl) ?_
                refine rwt_nil ?_
                refine qn_then ?_
                refine cw_seq ?_
                refine cw_region ?_
                refine t_rd rfl (rd_move rfl) ?_
                refine t_rd rfl (rd_move rfl) ?_
                refine t_rd rfl (rd_move rfl) ?_
                obtain ⟨r1532, h1533, q1534⟩ := ob q1528; clear q1528
                refine t_ef rfl (ef_call tf23 rfl (r08_Cost_ok h1533 (hm1531.sl_call 3 rfl) (hm1531.sl_call 4 rfl) ((Nl.mk (hm1531.sl_call 0 rfl) (Rows.cons (hm1531.sl_call 2 rfl) ez1441 (Rows.cons (hm1531.sl_call 1 rfl) ez1443 (Rows.cons (hv3.to_call hm1531) ez1445 Rows.nil)))).get hz1525 h1522))) ?_
                rintro _ w1536 ⟨e_, hm1535⟩
                obtain rfl := e_.symm
                have hm1537 := hm1531.call hm1535
                refine t_rd rfl (rd_move rfl) ?_
                refine t_rd rfl (rd_extract rfl rfl) ?_
                refine t_rd rfl (rd_extract rfl rfl) ?_
                refine t_rd rfl (rd_assign rfl) ?_
                refine t_rd rfl (rd_assign rfl) ?_
                refine rwt_nil ?_
                refine qn_then ?_
                refine cw_seq ?_
                refine cw_region ?_
                refine t_rd rfl (rd_move rfl) ?_
                refine t_rd rfl (rd_move rfl) ?_
                refine t_rd rfl (rd_neq rfl rfl) ?_
                refine t_rd rfl (rd_move rfl) ?_
                refine t_rdg rfl rfl rfl rfl (gv_f _) (fun hg1538 => (rd_move rfl)) ?_
                refine t_rdg rfl rfl rfl rfl (gv_f _) (fun hg1539 => (rd_move rfl)) ?_
                refine t_rdg rfl rfl rfl rfl (gv_f _) (fun hg1540 => (rd_neq (gvx rfl hg1540) (gvx rfl hg1540))) ?_
                refine t_rd rfl (rd_or rfl (fun hc1541 => (gvx rfl (bnotIt hc1541)))) ?_
                refine rwt_nil ?_
                refine qn_then ?_
                obtain ⟨hb1542, q1543⟩ | ⟨hb1542, q1543⟩ := oi q1534 <;> clear q1534
                · refine cw_t rfl hb1542 ?_
                  refine cw_seq ?_
                  refine cw_region ?_
                  refine t_rd rfl (rd_assign rfl) ?_
                  refine rwt_nil ?_
                  refine qn_then ?_
                  refine cw_ret ?_
                  refine qr_block (qr_then (qr_then ?_))
                  obtain rfl := hr1512 _ (os q1543)
                  refine .inl (⟨_, rfl, ⟨rfl, ?_⟩⟩)
                  exact ret1 rfl rfl ⟨rfl, (hm1537.pick [] (by decide) rfl)⟩
                · refine cw_f rfl hb1542 ?_
                  refine cw_skip ?_
                  refine qn_block (qn_then ?_)
                  refine cw_region ?_
                  obtain ⟨x1544, h1545, q1546⟩ := ob q1543; clear q1543
                  refine t_rd rfl (rd_add64 h1545 rfl rfl) ?_
                  refine t_rd rfl (rd_move rfl) ?_
                  refine rwt_nil ?_
                  refine qn_then ?_
                  refine ⟨_, (os q1546), (by repeat (first | exact Sub.nil _ | refine Sub.cons rfl ?_)), (hm1537.pick [0, 1, 2, 3, 4, 5] (by decide) rfl)⟩
              · refine cw_f rfl hb1519 ?_
                refine cw_exit ?_
                refine qx_then (qx_then ?_)
                obtain rfl := hr1512 _ (os q1520)
                exact .inr (⟨_, rfl, ⟨rfl, (by repeat (first | exact Sub.nil _ | refine Sub.cons rfl ?_)), (hm1518.pick [5] (by decide) rfl)⟩⟩)
            · skip
              intro e env1547 w1548 hX1549
              rcases hX1549 with hX1549 | hX1549
              · obtain ⟨p1551, rfl, hX1549⟩ := hX1549
                obtain ⟨rfl, hq1553⟩ := hX1549
                obtain rfl := hr1041 _ (os q1515)
                exact qr_block (qr_block (qr_then (qr_then (.inl (⟨_, rfl, ⟨rfl, hq1553⟩⟩)))))
              · obtain ⟨p1554, rfl, hX1549⟩ := hX1549
                obtain ⟨rfl, hs1555, hm1556⟩ := hX1549
                refine qx_same (qn_block (qn_then ?_))
                refine cw_sub hs1555 ?_
                refine cw_region ?_
                refine t_rd rfl (rd_move rfl) ?_
                obtain ⟨x1557, h1558, q1559⟩ := ob q1515; clear q1515
                refine t_rd rfl (rd_add64 h1558 rfl rfl) ?_
                refine t_rd rfl (rd_assign rfl) ?_
                refine rwt_nil ?_
                refine qn_then ?_
                refine ⟨_, (os q1559), (by repeat (first | exact Sub.nil _ | refine Sub.cons rfl ?_)), (hm1556.pick [0] (by decide) rfl)⟩
    · refine cw_f rfl hb1048 ?_
      refine cw_exit ?_
      refine qx_then (qx_then ?_)
      obtain rfl := hr1041 _ (os q1049)
      exact .inr (⟨_, rfl, ⟨rfl, (by repeat (first | exact Sub.nil _ | refine Sub.cons rfl ?_)), (hm1047.pick [] (by decide) rfl)⟩⟩)
  · skip
    intro e env1560 w1561 hX1562
    rcases hX1562 with hX1562 | hX1562
    · obtain ⟨p1564, rfl, hX1562⟩ := hX1562
      obtain ⟨rfl, hq1566⟩ := hX1562
      exact qr_block (qr_then ((by have e := os q1044; subst e; exact hq1566)))
    · obtain ⟨p1567, rfl, hX1562⟩ := hX1562
      obtain ⟨rfl, hs1568, hm1569⟩ := hX1562
      refine qx_same (qn_then ?_)
      refine cw_sub hs1568 ?_
      refine cw_seq ?_
      refine cw_region ?_
      obtain ⟨r1570, h1571, q1572⟩ := ob q1044; clear q1044
      refine t_ef rfl (ef_call tf13 rfl (law08_sane_ok h1571)) ?_
      rintro _ w1574 ⟨e_, hm1573⟩
      obtain rfl := e_.symm
      have hm1575 := hm1569.call hm1573
      refine t_rd rfl (rd_assign rfl) ?_
      refine rwt_nil ?_
      refine qn_then ?_
      refine cw_ret ?_
      obtain rfl := os q1572
      exact ret1 rfl rfl ⟨rfl, (hm1575.pick [] (by decide) rfl)⟩

theorem law08_ReconcileLimits_ok {N : Nat} {a0 : Int} {a1 : Int} {res : Bool} (h : law08_ReconcileLimits N a0 a1 = some res) {w : World}   :
    CallsR Try.prog 6 [(Value.int .i64 a0), (Value.int .i64 a1)] w (fun u w' => u = (Value.bool res) ∧ Mem w No [] w') := by
  unfold law08_ReconcileLimits at h
  refine fn_ok Try.func6 rfl rfl rfl ?_
  have hm0 := Mem.nil w
  refine cw_seq ?_
  refine cw_region ?_
  refine t_rd rfl (rd_assign rfl) ?_
  refine rwt_nil ?_
  refine qn_then ?_
  refine cw_seq ?_
  refine cw_region ?_
  refine t_rd rfl (rd_move rfl) ?_
  refine t_rd rfl (rd_rem rfl rfl (by decide)) ?_
  obtain ⟨x1, h2, q3⟩ := ob h; clear h
  refine t_rd rfl (rd_add64 h2 rfl rfl) ?_
  refine t_rd rfl (rd_rem rfl rfl (by decide)) ?_
  obtain ⟨x4, h5, q6⟩ := ob q3; clear q3
  refine t_rd rfl (rd_add64 h5 rfl rfl) ?_
  refine t_rd rfl (rd_move rfl) ?_
  refine t_rd rfl (rd_rem rfl rfl (by decide)) ?_
  obtain ⟨x7, h8, q9⟩ := ob q6; clear q6
  refine t_rd rfl (rd_add64 h8 rfl rfl) ?_
  refine t_rd rfl (rd_rem rfl rfl (by decide)) ?_
  obtain ⟨x10, h11, q12⟩ := ob q9; clear q9
  refine t_rd rfl (rd_add64 h11 rfl rfl) ?_
  refine t_rd rfl (rd_assign rfl) ?_
  refine t_rd rfl (rd_assign rfl) ?_
  refine rwt_nil ?_
  refine qn_then ?_
  refine cw_seq ?_
  obtain ⟨j45, hit46, q47⟩ := ob q12; clear q12
  refine cw_join (X := fun eq envq wq => eq = .normal ∧ ∃ (v42 : Value) (v44 : Value), Sub [(0, (Value.int .i64 x4)), (1, (Value.int .i64 x10)), (5, v42), (6, v44)] envq ∧ Mem w No [ownL 3 v42 (j45.1 : List Int), ownL 3 v44 (j45.2 : List Int)] wq) ?_ ?_
  · clear q47
    obtain ⟨w49, he51⟩ : ∃ q, q = w.drew := ⟨_, rfl⟩
    have hm50 := hm0.drew; rw [← he51] at hm50
    refine cw_region_s (fun q => q = w49) (cls [] [1, 3]) mixed ?_
    rintro _ rfl; rw [← he51]
    refine s_rp (i := 0) rfl (by kernel_rfl) rfl (fun _ => (rd_move rfl)) ?_
    refine s_rp (i := 2) rfl (by kernel_rfl) rfl (fun _ => (rd_move rfl)) ?_
    refine s_br2 (i := 1) (j := 3) (by kernel_rfl) ?_ ?_
    · skip
      obtain ⟨l52, h53, q54⟩ := ob hit46; clear hit46
      refine e_ef (i := 1) rfl rfl (ef_make hm50 tS22 tE3 rfl rfl rfl h53) (by decide) (fun _ _ _ q => absurd q (by decide)) ?_
      intro v55 w57 hm56
      refine s_rp (i := 4) rfl (by kernel_rfl) rfl (fun _ => (rd_assign rfl)) ?_
      obtain ⟨l58, h59, q60⟩ := ob q54; clear q54
      refine s_ef (i := 3) rfl (by kernel_rfl) rfl (ef_make hm56 tS22 tE3 rfl rfl rfl h59) (by decide) (fun _ _ _ q => absurd q (by decide)) ?_
      intro v61 w63 hm62
      refine s_rp (i := 5) rfl (by kernel_rfl) rfl (fun _ => (rd_assign rfl)) ?_
      refine s_nil (by kernel_rfl) ?_
      obtain rfl := os q60
      exact ⟨rfl, v55, v61, (by repeat (first | exact Sub.nil _ | refine Sub.cons rfl ?_)), (hm62.pick [1, 0] (by decide) rfl)⟩
    · skip
      obtain ⟨l52, h64, q65⟩ := ob hit46; clear hit46
      obtain ⟨l58, h66, q67⟩ := ob q65; clear q65
      refine e_ef (i := 3) rfl rfl (ef_make hm50 tS22 tE3 rfl rfl rfl h66) (by decide) (fun _ _ _ q => absurd q (by decide)) ?_
      intro v68 w70 hm69
      refine s_ef (i := 1) rfl (by kernel_rfl) rfl (ef_make hm69 tS22 tE3 rfl rfl rfl h64) (by decide) (fun _ _ _ q => absurd q (by decide)) ?_
      intro v71 w73 hm72
      refine s_rp (i := 4) rfl (by kernel_rfl) rfl (fun _ => (rd_assign rfl)) ?_
      refine s_rp (i := 5) rfl (by kernel_rfl) rfl (fun _ => (rd_assign rfl)) ?_
      refine s_nil (by kernel_rfl) ?_
      obtain rfl := os q67
      exact ⟨rfl, v71, v68, (by repeat (first | exact Sub.nil _ | refine Sub.cons rfl ?_)), (hm72.pick [0, 1] (by decide) rfl)⟩
  · clear hit46
    intro e env74 w75 hX76
    obtain ⟨rfl, v42, v44, hs77, hm78⟩ := hX76
    refine qn_then ?_
    refine cw_sub hs77 ?_
    refine cw_seq ?_
    refine cw_seq ?_
    refine cw_region ?_
    refine t_rd rfl (rd_move rfl) ?_
    refine t_rd rfl (rd_lenS tS22 rfl (hm78.sl 1 rfl)) ?_
    refine t_rd rfl (rd_move rfl) ?_
    refine rwt_nil ?_
    refine qn_then ?_
    refine cw_block ?_
    obtain ⟨r110, hit111, q112⟩ := ob q47; clear q47
    refine cw_loop2 (I := fun q envq wq => Sub [(0, (Value.int .i64 x4)), (1, (Value.int .i64 x10)), (5, v42), (6, v44), (28, (Value.int .i64 (List.length j45.2 : Int))), (29, (Value.int .i64 q.1))] envq ∧ Mem w No [ownL 3 v42 (j45.1 : List Int), ownL 3 v44 (q.2 : List Int)] wq) (X := fun eq envq wq => eq = .exit 0 ∧ Sub [(0, (Value.int .i64 x4)), (1, (Value.int .i64 x10)), (5, v42), (6, v44)] envq ∧ Mem w No [ownL 3 v42 (j45.1 : List Int), ownL 3 v44 (r110 : List Int)] wq) hit111 ⟨(by repeat (first | exact Sub.nil _ | refine Sub.cons rfl ?_)), (hm78.pick [0, 1] (by decide) rfl)⟩ ?_ ?_
    · rintro ⟨i102, l103⟩ x105 env106 w107 hf108 hr109 ⟨hs_, hm_⟩
      have hs_ : Sub [(0, (Value.int .i64 x4)), (1, (Value.int .i64 x10)), (5, v42), (6, v44), (28, (Value.int .i64 (List.length j45.2 : Int))), (29, (Value.int .i64 i102))] env106 := hs_
      have hm113 : Mem w No [ownL 3 v42 (j45.1 : List Int), ownL 3 v44 (l103 : List Int)] w107 := hm_
      refine cw_sub hs_ ?_
      clear hs_ hm_ q112
      have h : law08_ReconcileLimits_l1 N j45 i102 l103 = some x105 := hf108
      clear hf108
      refine cw_seq ?_
      refine cw_region ?_
      refine t_rd rfl (rd_lss rfl rfl) ?_
      refine rwt_nil ?_
      refine qn_then ?_
      refine cw_seq ?_
      obtain ⟨hb114, q115⟩ | ⟨hb114, q115⟩ := oi h <;> clear h
      · refine cw_t rfl hb114 ?_
        refine cw_skip ?_
        refine qn_then ?_
        refine cw_seq ?_
        refine cw_block ?_
        refine cw_seq ?_
        refine cw_region ?_
        refine t_rd rfl (rd_move rfl) ?_
        refine t_rd rfl (rd_assign rfl) ?_
        refine rwt_nil ?_
        refine qn_then ?_
        refine cw_region ?_
        refine t_rd rfl (rd_move rfl) ?_
        refine t_rd rfl (rd_move rfl) ?_
        obtain ⟨x116, h117, q118⟩ := ob q115; clear q115
        refine t_rd rfl (rd_index tS22 rfl rfl (hm113.sl 1 rfl) h117) ?_
        refine t_ef0 (ef_stl (k := 1) (off := 0) (x' := 1) hm113 tO3 rfl rfl rfl rfl h117 rfl rfl) ?_
        intro _ w120 hm119
        refine rwt_nil ?_
        refine qn_block (qn_then ?_)
        refine cw_region ?_
        obtain ⟨x121, h122, q123⟩ := ob q118; clear q118
        refine t_rd rfl (rd_add64 h122 rfl rfl) ?_
        refine t_rd rfl (rd_move rfl) ?_
        refine rwt_nil ?_
        refine qn_then ?_
        refine ⟨_, (os q123), (by repeat (first | exact Sub.nil _ | refine Sub.cons rfl ?_)), (hm119.pick [0, 1] (by decide) rfl)⟩
      · refine cw_f rfl hb114 ?_
        refine cw_exit ?_
        refine qx_then (qx_then ?_)
        obtain rfl := hr109 _ (os q115)
        exact ⟨rfl, (by repeat (first | exact Sub.nil _ | refine Sub.cons rfl ?_)), (hm113.pick [0, 1] (by decide) rfl)⟩
    · skip
      intro e env124 w125 hX126
      obtain ⟨rfl, hs127, hm128⟩ := hX126
      refine qx_same (qn_then ?_)
      refine cw_sub hs127 ?_
      refine cw_seq ?_
      refine cw_region ?_
      refine t_rd rfl (rd_move rfl) ?_
      refine t_rd rfl (rd_move rfl) ?_
      obtain ⟨r129, h130, q131⟩ := ob q112; clear q112
      refine t_ef rfl (ef_call tf11 rfl (reconcile_Align_ok h130 (hm128.sl_call 0 rfl) (hm128.sl_call 1 rfl))) ?_
      rintro _ w134 ⟨v132, e_, hm133⟩
      obtain rfl := e_.symm
      have hm135 := hm128.call hm133
      refine t_rd rfl (rd_move rfl) ?_
      refine t_rd rfl (rd_extract rfl rfl) ?_
      refine t_rd rfl (rd_extract rfl rfl) ?_
      refine t_rd rfl (rd_extract rfl rfl) ?_
      refine t_rd rfl (rd_assign rfl) ?_
      refine t_rd rfl (rd_assign rfl) ?_
      refine t_rd rfl (rd_assign rfl) ?_
      refine rwt_nil ?_
      refine qn_then ?_
      refine cw_seq ?_
      refine cw_region ?_
      refine t_rd rfl (rd_move rfl) ?_
      refine t_rd rfl (rd_move rfl) ?_
      obtain ⟨r136, h137, q138⟩ := ob q131; clear q131
      refine t_ef rfl (ef_call tf20 rfl (reconcile_Potential_ok h137 (hm135.sl_call 1 rfl) (hm135.sl_call 2 rfl))) ?_
      rintro _ w142 ⟨zs140, v139, e_, hm141⟩
      obtain rfl := e_.symm
      have hm143 := hm135.call hm141
      refine t_rd rfl (rd_move rfl) ?_
      refine t_rd rfl (rd_extract rfl rfl) ?_
      refine t_rd rfl (rd_extract rfl rfl) ?_
      refine t_rd rfl (rd_assign rfl) ?_
      refine t_rd rfl (rd_assign rfl) ?_
      refine rwt_nil ?_
      refine qn_then ?_
      refine cw_seq ?_
      refine cw_seq ?_
      refine cw_region ?_
      refine t_rd rfl (rd_move rfl) ?_
      refine t_rd rfl (rd_gtr rfl rfl) ?_
      refine t_rd rfl (rd_move rfl) ?_
      refine t_rdg rfl rfl rfl rfl (gv_f _) (fun hg144 => (rd_move rfl)) ?_
      refine t_rdg rfl rfl rfl rfl (gv_f _) (fun hg145 => (rd_gtr (gvx rfl hg145) rfl)) ?_
      refine t_rd rfl (rd_or rfl (fun hc146 => (gvx rfl (bnotIt hc146)))) ?_
      refine rwt_nil ?_
      refine qn_then ?_
      obtain ⟨hb147, q148⟩ | ⟨hb147, q148⟩ := oi q138 <;> clear q138
      · refine cw_t rfl hb147 ?_
        refine cw_seq ?_
        refine cw_region ?_
        refine t_rd rfl (rd_move rfl) ?_
        refine t_rd rfl (rd_eql rfl rfl) ?_
        refine t_rd rfl (rd_move rfl) ?_
        refine t_rdg rfl rfl rfl rfl (gv_t _) (fun hg149 => (rd_move rfl)) ?_
        refine t_rdg rfl rfl rfl rfl (gv_t _) (fun hg150 => (rd_eql (gvx rfl hg150) rfl)) ?_
        refine t_rd rfl (rd_and rfl (fun hc151 => (gvx rfl hc151))) ?_
        refine t_rd rfl (rd_move rfl) ?_
        refine t_rdg rfl rfl rfl rfl (gv_t _) (fun hg152 => (rd_move rfl)) ?_
        refine t_rdg rfl rfl rfl rfl (gv_t _) (fun hg153 => (rd_lenS tS22 (gvx rfl hg153) (hm143.sl 2 rfl))) ?_
        refine t_rdg rfl rfl rfl rfl (gv_t _) (fun hg154 => (rd_eql (gvx rfl hg154) rfl)) ?_
        refine t_rd rfl (rd_and rfl (fun hc155 => (gvx rfl hc155))) ?_
        refine t_rd rfl (rd_move rfl) ?_
        refine t_rdg rfl rfl rfl rfl (gv_t _) (fun hg156 => (rd_move rfl)) ?_
        refine t_rdg rfl rfl rfl rfl (gv_t _) (fun hg157 => (rd_lenS tS33 (gvx rfl hg157) ((Nl.mk (hm143.sl_call 0 rfl) (hm143.rows_call 1 rfl)).sl))) ?_
        refine t_rdg rfl rfl rfl rfl (gv_t _) (fun hg158 => (rd_eql (gvx rfl hg158) rfl)) ?_
        refine t_rd rfl (rd_and rfl (fun hc159 => (gvx rfl hc159))) ?_
        refine t_rd rfl (rd_move rfl) ?_
        obtain ⟨r161, h162, q163⟩ := ob q148; clear q148
        refine t_efg rfl rfl rfl rfl (R := (fun v w' => v = gV (((decide (r129.2.2 = 3) && decide (r136.2 = 3)) && decide ((List.length r129.1 : Int) = 0)) && decide ((List.length r136.1 : Int) = 0)) (Value.bool r161) ∧ Mem w142 No [] w')) (gv_t _) (fun hg160 => (ef_call tf13 rfl (law08_sane_ok (gO_t h162 hg160))).mono (by rintro _ _ ⟨rfl, q⟩; exact ⟨(gV_t hg160).symm, q⟩)) (fun q => ⟨(gV_f q).symm, Mem.nil _⟩) ?_
        rintro _ w165 ⟨rfl, hm164⟩
        have hm166 := hm143.call hm164
        refine t_rd rfl (rd_and rfl (fun hc167 => (gvx rfl hc167))) ?_
        refine t_rd rfl (rd_assign rfl) ?_
        refine rwt_nil ?_
        refine qn_then ?_
        refine cw_ret ?_
        refine qr_then ?_
        obtain rfl := os q163
        exact ret1 rfl rfl ⟨rfl, (hm166.pick [] (by decide) rfl)⟩
      · refine cw_f rfl hb147 ?_
        refine cw_skip ?_
        refine qn_then ?_
        refine cw_seq ?_
        refine cw_region ?_
        refine t_rd rfl (rd_move rfl) ?_
        refine t_rd rfl (rd_eql rfl rfl) ?_
        refine t_rd rfl (rd_move rfl) ?_
        refine t_rdg rfl rfl rfl rfl (gv_t _) (fun hg168 => (rd_move rfl)) ?_
        refine t_rdg rfl rfl rfl rfl (gv_t _) (fun hg169 => (rd_eql (gvx rfl hg169) rfl)) ?_
        refine t_rd rfl (rd_and rfl (fun hc170 => (gvx rfl hc170))) ?_
        refine t_rd rfl (rd_move rfl) ?_
        refine t_rdg rfl rfl rfl rfl (gv_t _) (fun hg171 => (rd_move rfl)) ?_
        refine t_rdg rfl rfl rfl rfl (gv_t _) (fun hg172 => (rd_move rfl)) ?_
        refine t_rdg rfl rfl rfl rfl (gv_t _) (fun hg173 => (rd_move rfl)) ?_
        refine t_rdg rfl rfl rfl rfl (gv_t _) (fun hg174 => (rd_min (gvx rfl hg174) (gvx rfl hg174))) ?_
        obtain ⟨x176, h177, q178⟩ := ob q148; clear q148
        refine t_rdg rfl rfl rfl rfl (gv_t _) (fun hg175 => (rd_mul64 (gO_t h177 hg175) rfl (gvx rfl hg175))) ?_
        refine t_rdg rfl rfl rfl rfl (gv_t _) (fun hg179 => (rd_move rfl)) ?_
        refine t_rdg rfl rfl rfl rfl (gv_t _) (fun hg180 => (rd_move rfl)) ?_
        refine t_rdg rfl rfl rfl rfl (gv_t _) (fun hg181 => (rd_max (gvx rfl hg181) (gvx rfl hg181))) ?_
        refine t_rdg rfl rfl rfl rfl (gv_t _) (fun hg182 => (rd_move rfl)) ?_
        refine t_rdg rfl rfl rfl rfl (gv_t _) (fun hg183 => (rd_move rfl)) ?_
        refine t_rdg rfl rfl rfl rfl (gv_t _) (fun hg184 => (rd_min (gvx rfl hg184) (gvx rfl hg184))) ?_
        obtain ⟨x186, h187, q188⟩ := ob q178; clear q178
        refine t_rdg rfl rfl rfl rfl (gv_t _) (fun hg185 => (rd_sub64 (gO_t h187 hg185) (gvx rfl hg185) (gvx rfl hg185))) ?_
        obtain ⟨x190, h191, q192⟩ := ob q188; clear q188
        refine t_rdg rfl rfl rfl rfl (gv_t _) (fun hg189 => (rd_mul64 (gO_t h191 hg189) rfl (gvx rfl hg189))) ?_
        obtain ⟨x194, h195, q196⟩ := ob q192; clear q192
        refine t_rdg rfl rfl rfl rfl (gv_t _) (fun hg193 => (rd_add64 (gO_t h195 hg193) (gvx rfl hg193) (gvx rfl hg193))) ?_
        refine t_rdg rfl rfl rfl rfl (gv_t _) (fun hg197 => (rd_eql (gvx rfl hg197) (gvx rfl hg197))) ?_
        refine t_rd rfl (rd_and rfl (fun hc198 => (gvx rfl hc198))) ?_
        refine t_rd rfl (rd_move rfl) ?_
        refine t_rdg rfl rfl rfl rfl (gv_t _) (fun hg199 => (rd_move rfl)) ?_
        refine t_rdg rfl rfl rfl rfl (gv_t _) (fun hg200 => (rd_lenS tS22 (gvx rfl hg200) (hm143.sl 2 rfl))) ?_
        refine t_rdg rfl rfl rfl rfl (gv_t _) (fun hg201 => (rd_move rfl)) ?_
        refine t_rdg rfl rfl rfl rfl (gv_t _) (fun hg202 => (rd_move rfl)) ?_
        refine t_rdg rfl rfl rfl rfl (gv_t _) (fun hg203 => (rd_max (gvx rfl hg203) (gvx rfl hg203))) ?_
        refine t_rdg rfl rfl rfl rfl (gv_t _) (fun hg204 => (rd_eql (gvx rfl hg204) (gvx rfl hg204))) ?_
        refine t_rd rfl (rd_and rfl (fun hc205 => (gvx rfl hc205))) ?_
        refine t_rd rfl (rd_move rfl) ?_
        refine t_rdg rfl rfl rfl rfl (gv_t _) (fun hg206 => (rd_move rfl)) ?_
        refine t_rdg rfl rfl rfl rfl (gv_t _) (fun hg207 => (rd_move rfl)) ?_
        refine t_rdg rfl rfl rfl rfl (gv_t _) (fun hg208 => (rd_move rfl)) ?_
        refine t_rdg rfl rfl rfl rfl (gv_t _) (fun hg209 => (rd_move rfl)) ?_
        obtain ⟨r211, h212, q213⟩ := ob q196; clear q196
        refine t_efg rfl rfl rfl rfl (R := (fun v w' => v = gV (((decide (r129.2.2 = 0) && decide (r136.2 = 0)) && decide (r129.2.1 = x194)) && decide ((List.length r129.1 : Int) = (max x4 x10))) (Value.bool r211) ∧ Mem w142 No [] w')) (gv_t _) (fun hg210 => (ef_call tf18 (evc (gvx rfl hg210) (evc (gvx rfl hg210) (evc (gvx rfl hg210) (evc (gvx rfl hg210) evn)))) (reconcile_Verify_ok (gO_t h212 hg210) (hm143.sl_call 3 rfl) (hm143.sl_call 4 rfl) ((Nl.mk (hm143.sl_call 0 rfl) (hm143.rows_call 1 rfl)).sl))).mono (by rintro _ _ ⟨rfl, q⟩; exact ⟨(gV_t hg210).symm, q⟩)) (fun q => ⟨(gV_f q).symm, Mem.nil _⟩) ?_
        rintro _ w215 ⟨rfl, hm214⟩
        have hm216 := hm143.call hm214
        refine t_rd rfl (rd_and rfl (fun hc217 => (gvx rfl hc217))) ?_
        refine t_rd rfl (rd_move rfl) ?_
        obtain ⟨r219, h220, q221⟩ := ob q213; clear q213
        refine t_efg rfl rfl rfl rfl (R := (fun v w' => v = gV ((((decide (r129.2.2 = 0) && decide (r136.2 = 0)) && decide (r129.2.1 = x194)) && decide ((List.length r129.1 : Int) = (max x4 x10))) && r211) (Value.bool r219) ∧ Mem w215 No [] w')) (gv_t _) (fun hg218 => (ef_call tf13 rfl (law08_sane_ok (gO_t h220 hg218))).mono (by rintro _ _ ⟨rfl, q⟩; exact ⟨(gV_t hg218).symm, q⟩)) (fun q => ⟨(gV_f q).symm, Mem.nil _⟩) ?_
        rintro _ w223 ⟨rfl, hm222⟩
        have hm224 := hm216.call hm222
        refine t_rd rfl (rd_and rfl (fun hc225 => (gvx rfl hc225))) ?_
        refine t_rd rfl (rd_assign rfl) ?_
        refine rwt_nil ?_
        refine qn_then ?_
        refine cw_ret ?_
        obtain rfl := os q221
        exact ret1 rfl rfl ⟨rfl, (hm224.pick [] (by decide) rfl)⟩

theorem law08_ReconcileProof_ok {N : Nat} {a0 : List Int} {a1 : List Int} {a2 : List Int} {res : Bool} (h : law08_ReconcileProof N a0 a1 a2 = some res) {w : World} {v0 : Value} {v1 : Value} {v2 : Value} (hv0 : Sl (Old w No) w v0 a0) (hv1 : Sl (Old w No) w v1 a1) (hv2 : Sl (Old w No) w v2 a2) :
    CallsR Try.prog 7 [v0, v1, v2] w (fun u w' => u = (Value.bool res) ∧ Mem w No [] w') := by
  unfold law08_ReconcileProof at h
  refine fn_ok Try.func7 rfl rfl rfl ?_
  have hm0 := Mem.nil w
  refine cw_seq ?_
  refine cw_region ?_
  refine t_rd rfl (rd_assign rfl) ?_
  refine rwt_nil ?_
  refine qn_then ?_
  refine cw_seq ?_
  refine cw_seq ?_
  refine cw_region ?_
  refine t_rd rfl (rd_assign rfl) ?_
  refine rwt_nil ?_
  refine qn_then ?_
  refine cw_block ?_
  obtain ⟨r331, hit332, q333⟩ := ob h; clear h
  refine cw_loop2 (I := fun q envq wq => Sub [(0, v0), (1, v1), (2, v2), (7, (Value.int .i64 q))] envq ∧ Mem w No [] wq) (X := fun eq envq wq => (∃ p334, r331 = (Sum.inl p334) ∧ eq = .ret ∧ retQ Try.prog 91 Try.f7 (fun u w' => u = (Value.bool p334) ∧ Mem w No [] w') .ret envq wq) ∨ (∃ p335, r331 = (Sum.inr p335) ∧ eq = .exit 0 ∧ Sub [] envq ∧ Mem w No [] wq)) hit332 ⟨(by repeat (first | exact Sub.nil _ | refine Sub.cons rfl ?_)), (hm0.pick [] (by decide) rfl)⟩ ?_ ?_
  · rintro i324 x326 env327 w328 hf329 hr330 ⟨hs_, hm_⟩
    have hs_ : Sub [(0, v0), (1, v1), (2, v2), (7, (Value.int .i64 i324))] env327 := hs_
    have hm336 : Mem w No [] w328 := hm_
    refine cw_sub hs_ ?_
    clear hs_ hm_ q333
    have h : law08_ReconcileProof_l1 N a0 a1 a2 i324 = some x326 := hf329
    clear hf329
    refine cw_seq ?_
    refine cw_seq ?_
    refine cw_region ?_
    refine t_rd rfl (rd_move rfl) ?_
    refine t_rd rfl (rd_lss rfl rfl) ?_
    refine rwt_nil ?_
    refine qn_then ?_
    obtain ⟨hb337, q338⟩ | ⟨hb337, q338⟩ := oi h <;> clear h
    · refine cw_t rfl hb337 ?_
      refine cw_skip ?_
      refine qn_then ?_
      refine cw_seq ?_
      refine cw_block ?_
      refine cw_seq ?_
      refine cw_region ?_
      refine t_rd rfl (rd_move rfl) ?_
      obtain ⟨r339, h340, q341⟩ := ob q338; clear q338
      refine t_ef rfl (ef_call tf9 rfl (humpgen_New_ok h340 (hv0.to_call hm336))) ?_
      rintro _ w344 ⟨g342, e_, hm343⟩
      obtain rfl := e_.symm
      have hm345 := hm336.call hm343
      obtain ⟨r346, h347, q348⟩ := ob q341; clear q341
      refine t_ef rfl (ef_call tf10 rfl (law08_lists_ok h347 (hv0.to_callT (k := 0) hm345 rfl) (hm345.get (k := 0) rfl))) ?_
      rintro _ w352 ⟨v349, v350, e_, hm351⟩
      obtain rfl := e_.symm
      have hm353 := hm345.callT (k := 0) rfl (fun _ h => h) hm351 (fun _ => Iff.rfl)
      refine t_rd rfl (rd_move rfl) ?_
      refine t_rd rfl (rd_extract rfl rfl) ?_
      refine t_rd rfl (rd_extract rfl rfl) ?_
      refine t_rd rfl (rd_assign rfl) ?_
      refine t_rd rfl (rd_assign rfl) ?_
      refine rwt_nil ?_
      refine qn_then ?_
      refine cw_seq ?_
      refine cw_seq ?_
      refine cw_region ?_
      refine t_rd rfl (rd_move rfl) ?_
      refine t_rd rfl (rd_eql rfl rfl) ?_
      refine t_rd rfl (rd_move rfl) ?_
      refine t_rdg rfl rfl rfl rfl (gv_t _) (fun hg354 => (rd_move rfl)) ?_
      refine t_rdg rfl rfl rfl rfl (gv_t _) (fun hg355 => (rd_lenS tS22 (gvx rfl hg355) (hv1.of_old hm353))) ?_
      refine t_rdg rfl rfl rfl rfl (gv_t _) (fun hg356 => (rd_move rfl)) ?_
      refine t_rdg rfl rfl rfl rfl (gv_t _) (fun hg357 => (rd_lenS tS22 (gvx rfl hg357) (hv2.of_old hm353))) ?_
      obtain ⟨x359, h360, q361⟩ := ob q348; clear q348
      refine t_rdg rfl rfl rfl rfl (gv_t _) (fun hg358 => (rd_add64 (gO_t h360 hg358) (gvx rfl hg358) (gvx rfl hg358))) ?_
      refine t_rdg rfl rfl rfl rfl (gv_t _) (fun hg362 => (rd_leq (gvx rfl hg362) rfl)) ?_
      refine t_rd rfl (rd_and rfl (fun hc363 => (gvx rfl hc363))) ?_
      refine rwt_nil ?_
      refine qn_then ?_
      obtain ⟨hb366, q367⟩ | ⟨hb366, q367⟩ := oi q361 <;> clear q361
      · refine cw_t rfl hb366 ?_
        refine cw_region ?_
        refine t_rd rfl (rd_move rfl) ?_
        refine t_rd rfl (rd_move rfl) ?_
        refine t_rd rfl (rd_assign rfl) ?_
        refine t_rd rfl (rd_assign rfl) ?_
        refine rwt_nil ?_
        refine qn_then ?_
        refine cw_seq ?_
        refine cw_region ?_
        refine t_rd rfl (rd_move rfl) ?_
        refine t_rd rfl (rd_move rfl) ?_
        obtain ⟨r368, h369, q370⟩ := ob q367; clear q367
        refine t_ef rfl (ef_call tf11 rfl (reconcile_Align_ok h369 (hv1.to_call hm353) (hv2.to_call hm353))) ?_
        rintro _ w373 ⟨v371, e_, hm372⟩
        obtain rfl := e_.symm
        have hm374 := hm353.call hm372
        refine t_rd rfl (rd_move rfl) ?_
        refine t_rd rfl (rd_extract rfl rfl) ?_
        refine t_rd rfl (rd_extract rfl rfl) ?_
        refine t_rd rfl (rd_extract rfl rfl) ?_
        refine t_rd rfl (rd_assign rfl) ?_
        refine t_rd rfl (rd_assign rfl) ?_
        refine t_rd rfl (rd_assign rfl) ?_
        refine rwt_nil ?_
        refine qn_then ?_
        refine cw_seq ?_
        refine cw_region ?_
        refine t_rd rfl (rd_move rfl) ?_
        refine t_rd rfl (rd_move rfl) ?_
        refine t_rd rfl (rd_move rfl) ?_
        obtain ⟨r375, h376, q377⟩ := ob q370; clear q370
        refine t_ef rfl (ef_call tf22 rfl (reconcile_Cost_ok h376 (hv1.to_call hm374) (hv2.to_call hm374) (hm374.sl_call 0 rfl))) ?_
        rintro _ w379 ⟨e_, hm378⟩
        obtain rfl := e_.symm
        have hm380 := hm374.call hm378
        refine t_rd rfl (rd_move rfl) ?_
        refine t_rd rfl (rd_extract rfl rfl) ?_
        refine t_rd rfl (rd_extract rfl rfl) ?_
        refine t_rd rfl (rd_assign rfl) ?_
        refine t_rd rfl (rd_assign rfl) ?_
        refine rwt_nil ?_
        refine qn_then ?_
        refine cw_seq ?_
        refine cw_region ?_
        refine t_rd rfl (rd_move rfl) ?_
        refine t_rd rfl (rd_move rfl) ?_
        obtain ⟨r381, h382, q383⟩ := ob q377; clear q377
        refine t_ef rfl (ef_call tf20 rfl (reconcile_Potential_ok h382 (hv1.to_call hm380) (hv2.to_call hm380))) ?_
        rintro _ w387 ⟨zs385, v384, e_, hm386⟩
        obtain rfl := e_.symm
        have hm388 := hm380.call hm386
        refine t_rd rfl (rd_move rfl) ?_
        refine t_rd rfl (rd_extract rfl rfl) ?_
        refine t_rd rfl (rd_extract rfl rfl) ?_
        refine t_rd rfl (rd_assign rfl) ?_
        refine t_rd rfl (rd_assign rfl) ?_
        refine rwt_nil ?_
        refine qn_then ?_
        refine cw_seq ?_
        refine cw_region ?_
        refine t_rd rfl (rd_move rfl) ?_
        refine t_rd rfl (rd_neq rfl rfl) ?_
        refine t_rd rfl (rd_move rfl) ?_
        refine t_rdg rfl rfl rfl rfl (gv_f _) (fun hg389 => (rd_move rfl)) ?_
        refine t_rdg rfl rfl rfl rfl (gv_f _) (fun hg390 => (rd_neq (gvx rfl hg390) rfl)) ?_
        refine t_rd rfl (rd_or rfl (fun hc391 => (gvx rfl (bnotIt hc391)))) ?_
        refine t_rd rfl (rd_move rfl) ?_
        refine t_rdg rfl rfl rfl rfl (gv_f _) (fun hg392 => (rd_move rfl)) ?_
        refine t_rdg rfl rfl rfl rfl (gv_f _) (fun hg393 => (rd_neq (gvx rfl hg393) rfl)) ?_
        refine t_rd rfl (rd_or rfl (fun hc394 => (gvx rfl (bnotIt hc394)))) ?_
        refine t_rd rfl (rd_move rfl) ?_
        refine t_rdg rfl rfl rfl rfl (gv_f _) (fun hg395 => (rd_move rfl)) ?_
        refine t_rdg rfl rfl rfl rfl (gv_f _) (fun hg396 => (rd_move rfl)) ?_
        refine t_rdg rfl rfl rfl rfl (gv_f _) (fun hg397 => (rd_neq (gvx rfl hg397) (gvx rfl hg397))) ?_
        refine t_rd rfl (rd_or rfl (fun hc398 => (gvx rfl (bnotIt hc398)))) ?_
        refine t_rd rfl (rd_move rfl) ?_
        refine t_rdg rfl rfl rfl rfl (gv_f _) (fun hg399 => (rd_move rfl)) ?_
        refine t_rdg rfl rfl rfl rfl (gv_f _) (fun hg400 => (rd_move rfl)) ?_
        refine t_rdg rfl rfl rfl rfl (gv_f _) (fun hg401 => (rd_move rfl)) ?_
        refine t_rdg rfl rfl rfl rfl (gv_f _) (fun hg402 => (rd_move rfl)) ?_
        obtain ⟨r404, h405, q406⟩ := ob q383; clear q383
        refine t_efg rfl rfl rfl rfl (R := (fun v w' => v = gV (!((((!decide (r368.2.2 = 0)) || (!decide (r375.2 = 0))) || (!decide (r381.2 = 0))) || (!decide (r368.2.1 = r375.1)))) (Value.bool r404) ∧ Mem w387 No [] w')) (gv_f _) (fun hg403 => (ef_call tf18 (evc (gvx rfl hg403) (evc (gvx rfl hg403) (evc (gvx rfl hg403) (evc (gvx rfl hg403) evn)))) (reconcile_Verify_ok (gO_t h405 hg403) (hv1.to_call hm388) (hv2.to_call hm388) ((Nl.mk (hm388.sl_call 0 rfl) (hm388.rows_call 1 rfl)).sl))).mono (by rintro _ _ ⟨rfl, q⟩; exact ⟨(gV_t hg403).symm, q⟩)) (fun q => ⟨(gV_f q).symm, Mem.nil _⟩) ?_
        rintro _ w408 ⟨rfl, hm407⟩
        have hm409 := hm388.call hm407
        refine t_rdg rfl rfl rfl rfl (gv_f _) (fun hg410 => (rd_not (gvx rfl hg410))) ?_
        refine t_rd rfl (rd_or rfl (fun hc411 => (gvx rfl (bnotIt hc411)))) ?_
        refine t_rd rfl (rd_move rfl) ?_
        refine t_rdg rfl rfl rfl rfl (gv_f _) (fun hg412 => (rd_move rfl)) ?_
        refine t_rdg rfl rfl rfl rfl (gv_f _) (fun hg413 => (rd_move rfl)) ?_
        refine t_rdg rfl rfl rfl rfl (gv_f _) (fun hg414 => (rd_move rfl)) ?_
        obtain ⟨x416, h417, q418⟩ := ob q406; clear q406
        refine t_rdg rfl rfl rfl rfl (gv_f _) (fun hg415 => (rd_add64 (gO_t h417 hg415) (gvx rfl hg415) rfl)) ?_
        refine t_rdg rfl rfl rfl rfl (gv_f _) (fun hg419 => (rd_move rfl)) ?_
        obtain ⟨r421, h422, q423⟩ := ob q418; clear q418
        refine t_efg rfl rfl rfl rfl (R := (fun v w' => v = gV (!(((((!decide (r368.2.2 = 0)) || (!decide (r375.2 = 0))) || (!decide (r381.2 = 0))) || (!decide (r368.2.1 = r375.1))) || (!r404))) (Value.bool r421) ∧ Mem w408 No [] w')) (gv_f _) (fun hg420 => (ef_call tf18 (evc (gvx rfl hg420) (evc (gvx rfl hg420) (evc (gvx rfl hg420) (evc (gvx rfl hg420) evn)))) (reconcile_Verify_ok (gO_t h422 hg420) (hv1.to_call hm409) (hv2.to_call hm409) ((Nl.mk (hm409.sl_call 0 rfl) (hm409.rows_call 1 rfl)).sl))).mono (by rintro _ _ ⟨rfl, q⟩; exact ⟨(gV_t hg420).symm, q⟩)) (fun q => ⟨(gV_f q).symm, Mem.nil _⟩) ?_
        rintro _ w425 ⟨rfl, hm424⟩
        have hm426 := hm409.call hm424
        refine t_rd rfl (rd_or rfl (fun hc427 => (gvx rfl (bnotIt hc427)))) ?_
        refine rwt_nil ?_
        refine qn_then ?_
        obtain ⟨hb428, q429⟩ | ⟨hb428, q429⟩ := oi q423 <;> clear q423
        · refine cw_t rfl hb428 ?_
          refine cw_seq ?_
          refine cw_region ?_
          refine t_rd rfl (rd_assign rfl) ?_
          refine rwt_nil ?_
          refine qn_then ?_
          refine cw_ret ?_
          refine qr_block (qr_then (qr_then ?_))
          obtain rfl := hr330 _ (os q429)
          refine .inl (⟨_, rfl, ⟨rfl, ?_⟩⟩)
          exact ret1 rfl rfl ⟨rfl, (hm426.pick [] (by decide) rfl)⟩
        · refine cw_f rfl hb428 ?_
          refine cw_skip ?_
          refine qn_block (qn_then ?_)
          refine cw_region ?_
          refine t_rd rfl (rd_move rfl) ?_
          obtain ⟨x430, h431, q432⟩ := ob q429; clear q429
          refine t_rd rfl (rd_add64 h431 rfl rfl) ?_
          refine t_rd rfl (rd_assign rfl) ?_
          refine rwt_nil ?_
          refine qn_then ?_
          refine ⟨_, (os q432), (by repeat (first | exact Sub.nil _ | refine Sub.cons rfl ?_)), (hm426.pick [] (by decide) rfl)⟩
      · refine cw_f rfl hb366 ?_
        refine cw_skip ?_
        refine qn_then ?_
        refine cw_seq ?_
        refine cw_region ?_
        refine t_rd rfl (rd_move rfl) ?_
        refine t_rd rfl (rd_move rfl) ?_
        obtain ⟨r433, h434, q435⟩ := ob q367; clear q367
        refine t_ef rfl (ef_call tf11 rfl (reconcile_Align_ok h434 (hm353.sl_call 0 rfl) (hm353.sl_call 1 rfl))) ?_
        rintro _ w438 ⟨v436, e_, hm437⟩
        obtain rfl := e_.symm
        have hm439 := hm353.call hm437
        refine t_rd rfl (rd_move rfl) ?_
        refine t_rd rfl (rd_extract rfl rfl) ?_
        refine t_rd rfl (rd_extract rfl rfl) ?_
        refine t_rd rfl (rd_extract rfl rfl) ?_
        refine t_rd rfl (rd_assign rfl) ?_
        refine t_rd rfl (rd_assign rfl) ?_
        refine t_rd rfl (rd_assign rfl) ?_
        refine rwt_nil ?_
        refine qn_then ?_
        refine cw_seq ?_
        refine cw_region ?_
        refine t_rd rfl (rd_move rfl) ?_
        refine t_rd rfl (rd_move rfl) ?_
        refine t_rd rfl (rd_move rfl) ?_
        obtain ⟨r440, h441, q442⟩ := ob q435; clear q435
        refine t_ef rfl (ef_call tf22 rfl (reconcile_Cost_ok h441 (hm439.sl_call 1 rfl) (hm439.sl_call 2 rfl) (hm439.sl_call 0 rfl))) ?_
        rintro _ w444 ⟨e_, hm443⟩
        obtain rfl := e_.symm
        have hm445 := hm439.call hm443
        refine t_rd rfl (rd_move rfl) ?_
        refine t_rd rfl (rd_extract rfl rfl) ?_
        refine t_rd rfl (rd_extract rfl rfl) ?_
        refine t_rd rfl (rd_assign rfl) ?_
        refine t_rd rfl (rd_assign rfl) ?_
        refine rwt_nil ?_
        refine qn_then ?_
        refine cw_seq ?_
        refine cw_region ?_
        refine t_rd rfl (rd_move rfl) ?_
        refine t_rd rfl (rd_move rfl) ?_
        obtain ⟨r446, h447, q448⟩ := ob q442; clear q442
        refine t_ef rfl (ef_call tf20 rfl (reconcile_Potential_ok h447 (hm445.sl_call 1 rfl) (hm445.sl_call 2 rfl))) ?_
        rintro _ w452 ⟨zs450, v449, e_, hm451⟩
        obtain rfl := e_.symm
        have hm453 := hm445.call hm451
        refine t_rd rfl (rd_move rfl) ?_
        refine t_rd rfl (rd_extract rfl rfl) ?_
        refine t_rd rfl (rd_extract rfl rfl) ?_
        refine t_rd rfl (rd_assign rfl) ?_
        refine t_rd rfl (rd_assign rfl) ?_
        refine rwt_nil ?_
        refine qn_then ?_
        refine cw_seq ?_
        refine cw_region ?_
        refine t_rd rfl (rd_move rfl) ?_
        refine t_rd rfl (rd_neq rfl rfl) ?_
        refine t_rd rfl (rd_move rfl) ?_
        refine t_rdg rfl rfl rfl rfl (gv_f _) (fun hg454 => (rd_move rfl)) ?_
        refine t_rdg rfl rfl rfl rfl (gv_f _) (fun hg455 => (rd_neq (gvx rfl hg455) rfl)) ?_
        refine t_rd rfl (rd_or rfl (fun hc456 => (gvx rfl (bnotIt hc456)))) ?_
        refine t_rd rfl (rd_move rfl) ?_
        refine t_rdg rfl rfl rfl rfl (gv_f _) (fun hg457 => (rd_move rfl)) ?_
        refine t_rdg rfl rfl rfl rfl (gv_f _) (fun hg458 => (rd_neq (gvx rfl hg458) rfl)) ?_
        refine t_rd rfl (rd_or rfl (fun hc459 => (gvx rfl (bnotIt hc459)))) ?_
        refine t_rd rfl (rd_move rfl) ?_
        refine t_rdg rfl rfl rfl rfl (gv_f _) (fun hg460 => (rd_move rfl)) ?_
        refine t_rdg rfl rfl rfl rfl (gv_f _) (fun hg461 => (rd_move rfl)) ?_
        refine t_rdg rfl rfl rfl rfl (gv_f _) (fun hg462 => (rd_neq (gvx rfl hg462) (gvx rfl hg462))) ?_
        refine t_rd rfl (rd_or rfl (fun hc463 => (gvx rfl (bnotIt hc463)))) ?_
        refine t_rd rfl (rd_move rfl) ?_
        refine t_rdg rfl rfl rfl rfl (gv_f _) (fun hg464 => (rd_move rfl)) ?_
        refine t_rdg rfl rfl rfl rfl (gv_f _) (fun hg465 => (rd_move rfl)) ?_
        refine t_rdg rfl rfl rfl rfl (gv_f _) (fun hg466 => (rd_move rfl)) ?_
        refine t_rdg rfl rfl rfl rfl (gv_f _) (fun hg467 => (rd_move rfl)) ?_
        obtain ⟨r469, h470, q471⟩ := ob q448; clear q448
        refine t_efg rfl rfl rfl rfl (R := (fun v w' => v = gV (!((((!decide (r433.2.2 = 0)) || (!decide (r440.2 = 0))) || (!decide (r446.2 = 0))) || (!decide (r433.2.1 = r440.1)))) (Value.bool r469) ∧ Mem w452 No [] w')) (gv_f _) (fun hg468 => (ef_call tf18 (evc (gvx rfl hg468) (evc (gvx rfl hg468) (evc (gvx rfl hg468) (evc (gvx rfl hg468) evn)))) (reconcile_Verify_ok (gO_t h470 hg468) (hm453.sl_call 3 rfl) (hm453.sl_call 4 rfl) ((Nl.mk (hm453.sl_call 0 rfl) (hm453.rows_call 1 rfl)).sl))).mono (by rintro _ _ ⟨rfl, q⟩; exact ⟨(gV_t hg468).symm, q⟩)) (fun q => ⟨(gV_f q).symm, Mem.nil _⟩) ?_
        rintro _ w473 ⟨rfl, hm472⟩
        have hm474 := hm453.call hm472
        refine t_rdg rfl rfl rfl rfl (gv_f _) (fun hg475 => (rd_not (gvx rfl hg475))) ?_
        refine t_rd rfl (rd_or rfl (fun hc476 => (gvx rfl (bnotIt hc476)))) ?_
        refine t_rd rfl (rd_move rfl) ?_
        refine t_rdg rfl rfl rfl rfl (gv_f _) (fun hg477 => (rd_move rfl)) ?_
        refine t_rdg rfl rfl rfl rfl (gv_f _) (fun hg478 => (rd_move rfl)) ?_
        refine t_rdg rfl rfl rfl rfl (gv_f _) (fun hg479 => (rd_move rfl)) ?_
        obtain ⟨x481, h482, q483⟩ := ob q471; clear q471
        refine t_rdg rfl rfl rfl rfl (gv_f _) (fun hg480 => (rd_add64 (gO_t h482 hg480) (gvx rfl hg480) rfl)) ?_
        refine t_rdg rfl rfl rfl rfl (gv_f _) (fun hg484 => (rd_move rfl)) ?_
        obtain ⟨r486, h487, q488⟩ := ob q483; clear q483
        refine t_efg rfl rfl rfl rfl (R := (fun v w' => v = gV (!(((((!decide (r433.2.2 = 0)) || (!decide (r440.2 = 0))) || (!decide (r446.2 = 0))) || (!decide (r433.2.1 = r440.1))) || (!r469))) (Value.bool r486) ∧ Mem w473 No [] w')) (gv_f _) (fun hg485 => (ef_call tf18 (evc (gvx rfl hg485) (evc (gvx rfl hg485) (evc (gvx rfl hg485) (evc (gvx rfl hg485) evn)))) (reconcile_Verify_ok (gO_t h487 hg485) (hm474.sl_call 3 rfl) (hm474.sl_call 4 rfl) ((Nl.mk (hm474.sl_call 0 rfl) (hm474.rows_call 1 rfl)).sl))).mono (by rintro _ _ ⟨rfl, q⟩; exact ⟨(gV_t hg485).symm, q⟩)) (fun q => ⟨(gV_f q).symm, Mem.nil _⟩) ?_
        rintro _ w490 ⟨rfl, hm489⟩
        have hm491 := hm474.call hm489
        refine t_rd rfl (rd_or rfl (fun hc492 => (gvx rfl (bnotIt hc492)))) ?_
        refine rwt_nil ?_
        refine qn_then ?_
        obtain ⟨hb493, q494⟩ | ⟨hb493, q494⟩ := oi q488 <;> clear q488
        · refine cw_t rfl hb493 ?_
          refine cw_seq ?_
          refine cw_region ?_
          refine t_rd rfl (rd_assign rfl) ?_
          refine rwt_nil ?_
          refine qn_then ?_
          refine cw_ret ?_
          refine qr_block (qr_then (qr_then ?_))
          obtain rfl := hr330 _ (os q494)
          refine .inl (⟨_, rfl, ⟨rfl, ?_⟩⟩)
          exact ret1 rfl rfl ⟨rfl, (hm491.pick [] (by decide) rfl)⟩
        · refine cw_f rfl hb493 ?_
          refine cw_skip ?_
          refine qn_block (qn_then ?_)
          refine cw_region ?_
          refine t_rd rfl (rd_move rfl) ?_
          obtain ⟨x495, h496, q497⟩ := ob q494; clear q494
          refine t_rd rfl (rd_add64 h496 rfl rfl) ?_
          refine t_rd rfl (rd_assign rfl) ?_
          refine rwt_nil ?_
          refine qn_then ?_
          refine ⟨_, (os q497), (by repeat (first | exact Sub.nil _ | refine Sub.cons rfl ?_)), (hm491.pick [] (by decide) rfl)⟩
    · refine cw_f rfl hb337 ?_
      refine cw_exit ?_
      refine qx_then (qx_then ?_)
      obtain rfl := hr330 _ (os q338)
      exact .inr (⟨_, rfl, ⟨rfl, (by repeat (first | exact Sub.nil _ | refine Sub.cons rfl ?_)), (hm336.pick [] (by decide) rfl)⟩⟩)
  · skip
    intro e env498 w499 hX500
    rcases hX500 with hX500 | hX500
    · obtain ⟨p502, rfl, hX500⟩ := hX500
      obtain ⟨rfl, hq504⟩ := hX500
      exact qr_block (qr_then ((by have e := os q333; subst e; exact hq504)))
    · obtain ⟨p505, rfl, hX500⟩ := hX500
      obtain ⟨rfl, hs506, hm507⟩ := hX500
      refine qx_same (qn_then ?_)
      refine cw_sub hs506 ?_
      refine cw_seq ?_
      refine cw_region ?_
      obtain ⟨r508, h509, q510⟩ := ob q333; clear q333
      refine t_ef rfl (ef_call tf13 rfl (law08_sane_ok h509)) ?_
      rintro _ w512 ⟨e_, hm511⟩
      obtain rfl := e_.symm
      have hm513 := hm507.call hm511
      refine t_rd rfl (rd_assign rfl) ?_
      refine rwt_nil ?_
      refine qn_then ?_
      refine cw_ret ?_
      obtain rfl := os q510
      exact ret1 rfl rfl ⟨rfl, (hm513.pick [] (by decide) rfl)⟩

theorem law08_ReconcileCheaper_ok {N : Nat} {a0 : List Int} {res : Bool} (h : law08_ReconcileCheaper N a0 = some res) {w : World} {v0 : Value} (hv0 : Sl (Old w No) w v0 a0) :
    CallsR Try.prog 8 [v0] w (fun u w' => u = (Value.bool res) ∧ Mem w No [] w') := by
  unfold law08_ReconcileCheaper at h
  refine fn_ok Try.func8 rfl rfl rfl ?_
  have hm0 := Mem.nil w
  refine cw_seq ?_
  refine cw_region ?_
  refine t_rd rfl (rd_assign rfl) ?_
  refine rwt_nil ?_
  refine qn_then ?_
  refine cw_seq ?_
  refine cw_region ?_
  refine t_rd rfl (rd_move rfl) ?_
  obtain ⟨r1, h2, q3⟩ := ob h; clear h
  refine t_ef rfl (ef_call tf9 rfl (humpgen_New_ok h2 (hv0.to_call hm0))) ?_
  rintro _ w6 ⟨g4, e_, hm5⟩
  obtain rfl := e_.symm
  have hm7 := hm0.call hm5
  refine t_rd rfl (rd_assign rfl) ?_
  refine rwt_nil ?_
  refine qn_then ?_
  refine cw_seq ?_
  refine cw_region ?_
  refine t_rd rfl (rd_move rfl) ?_
  obtain ⟨r8, h9, q10⟩ := ob q3; clear q3
  refine t_ef rfl (ef_call tf10 rfl (law08_lists_ok h9 (hv0.to_callT (k := 0) hm7 rfl) (hm7.get (k := 0) rfl))) ?_
  rintro _ w14 ⟨v11, v12, e_, hm13⟩
  obtain rfl := e_.symm
  have hm15 := hm7.callT (k := 0) rfl (fun _ h => h) hm13 (fun _ => Iff.rfl)
  refine t_rd rfl (rd_move rfl) ?_
  refine t_rd rfl (rd_extract rfl rfl) ?_
  refine t_rd rfl (rd_extract rfl rfl) ?_
  refine t_rd rfl (rd_assign rfl) ?_
  refine t_rd rfl (rd_assign rfl) ?_
  refine rwt_nil ?_
  refine qn_then ?_
  refine cw_seq ?_
  refine cw_region ?_
  refine t_rd rfl (rd_move rfl) ?_
  refine t_rd rfl (rd_move rfl) ?_
  obtain ⟨r16, h17, q18⟩ := ob q10; clear q10
  refine t_ef rfl (ef_call tf11 rfl (reconcile_Align_ok h17 (hm15.sl_call 0 rfl) (hm15.sl_call 1 rfl))) ?_
  rintro _ w21 ⟨v19, e_, hm20⟩
  obtain rfl := e_.symm
  have hm22 := hm15.call hm20
  refine t_rd rfl (rd_move rfl) ?_
  refine t_rd rfl (rd_extract rfl rfl) ?_
  refine t_rd rfl (rd_extract rfl rfl) ?_
  refine t_rd rfl (rd_extract rfl rfl) ?_
  refine t_rd rfl (rd_assign rfl) ?_
  refine t_rd rfl (rd_assign rfl) ?_
  refine t_rd rfl (rd_assign rfl) ?_
  refine rwt_nil ?_
  refine qn_then ?_
  refine cw_seq ?_
  refine cw_region ?_
  refine t_rd rfl (rd_move rfl) ?_
  refine t_rd rfl (rd_move rfl) ?_
  obtain ⟨r23, h24, q25⟩ := ob q18; clear q18
  refine t_ef rfl (ef_call tf20 rfl (reconcile_Potential_ok h24 (hm22.sl_call 1 rfl) (hm22.sl_call 2 rfl))) ?_
  rintro _ w29 ⟨zs27, v26, e_, hm28⟩
  obtain rfl := e_.symm
  have hm30 := hm22.call hm28
  refine t_rd rfl (rd_move rfl) ?_
  refine t_rd rfl (rd_extract rfl rfl) ?_
  refine t_rd rfl (rd_extract rfl rfl) ?_
  refine t_rd rfl (rd_assign rfl) ?_
  refine t_rd rfl (rd_assign rfl) ?_
  refine rwt_nil ?_
  refine qn_then ?_
  refine cw_seq ?_
  refine cw_seq ?_
  refine cw_region ?_
  refine t_rd rfl (rd_move rfl) ?_
  refine t_rd rfl (rd_neq rfl rfl) ?_
  refine t_rd rfl (rd_move rfl) ?_
  refine t_rdg rfl rfl rfl rfl (gv_f _) (fun hg31 => (rd_move rfl)) ?_
  refine t_rdg rfl rfl rfl rfl (gv_f _) (fun hg32 => (rd_neq (gvx rfl hg32) rfl)) ?_
  refine t_rd rfl (rd_or rfl (fun hc33 => (gvx rfl (bnotIt hc33)))) ?_
  refine t_rd rfl (rd_move rfl) ?_
  refine t_rdg rfl rfl rfl rfl (gv_f _) (fun hg34 => (rd_move rfl)) ?_
  refine t_rdg rfl rfl rfl rfl (gv_f _) (fun hg35 => (rd_move rfl)) ?_
  refine t_rdg rfl rfl rfl rfl (gv_f _) (fun hg36 => (rd_move rfl)) ?_
  refine t_rdg rfl rfl rfl rfl (gv_f _) (fun hg37 => (rd_move rfl)) ?_
  obtain ⟨r39, h40, q41⟩ := ob q25; clear q25
  refine t_efg rfl rfl rfl rfl (R := (fun v w' => v = gV (!((!decide (r16.2.2 = 0)) || (!decide (r23.2 = 0)))) (Value.bool r39) ∧ Mem w29 No [] w')) (gv_f _) (fun hg38 => (ef_call tf18 (evc (gvx rfl hg38) (evc (gvx rfl hg38) (evc (gvx rfl hg38) (evc (gvx rfl hg38) evn)))) (reconcile_Verify_ok (gO_t h40 hg38) (hm30.sl_call 3 rfl) (hm30.sl_call 4 rfl) ((Nl.mk (hm30.sl_call 0 rfl) (hm30.rows_call 1 rfl)).sl))).mono (by rintro _ _ ⟨rfl, q⟩; exact ⟨(gV_t hg38).symm, q⟩)) (fun q => ⟨(gV_f q).symm, Mem.nil _⟩) ?_
  rintro _ w43 ⟨rfl, hm42⟩
  have hm44 := hm30.call hm42
  refine t_rdg rfl rfl rfl rfl (gv_f _) (fun hg45 => (rd_not (gvx rfl hg45))) ?_
  refine t_rd rfl (rd_or rfl (fun hc46 => (gvx rfl (bnotIt hc46)))) ?_
  refine rwt_nil ?_
  refine qn_then ?_
  obtain ⟨hb47, q48⟩ | ⟨hb47, q48⟩ := oi q41 <;> clear q41
  · refine cw_t rfl hb47 ?_
    refine cw_seq ?_
    refine cw_region ?_
    refine t_rd rfl (rd_assign rfl) ?_
    refine rwt_nil ?_
    refine qn_then ?_
    refine cw_ret ?_
    refine qr_then ?_
    obtain rfl := os q48
    exact ret1 rfl rfl ⟨rfl, (hm44.pick [] (by decide) rfl)⟩
  · refine cw_f rfl hb47 ?_
    refine cw_skip ?_
    refine qn_then ?_
    refine cw_seq ?_
    refine cw_region ?_
    refine t_rd rfl (rd_assign rfl) ?_
    refine rwt_nil ?_
    refine qn_then ?_
    refine cw_seq ?_
    refine cw_region ?_
    refine t_rd rfl (rd_assign rfl) ?_
    refine t_rd rfl (rd_assign rfl) ?_
    refine rwt_nil ?_
    refine qn_then ?_
    refine cw_seq ?_
    refine cw_block ?_
    have hm164 := hm44.addNil (α := Int) 3
    obtain ⟨r408, hit409, q410⟩ := ob q48; clear q48
    refine cw_loop2 (I := fun q envq wq => ∃ (v401 : Value), Sub [(3, (Value.pointer (some ⟨g4, 0, none⟩))), (4, v11), (5, v12), (7, (Value.int .i64 r16.2.1)), (11, v401), (12, (Value.int .i64 q.1)), (13, (Value.int .i64 q.2.1))] envq ∧ Mem w No [ownL 3 v401 (q.2.2.2 : List Int), ownL 3 v11 (r8.2.1 : List Int), ownL 3 v12 (r8.2.2 : List Int), blk g4 48 [v0, (Value.int .i64 q.2.2.1)]] wq) (X := fun eq envq wq => eq = .exit 0 ∧ ∃ (v396 : Value), Sub [(4, v11), (5, v12), (7, (Value.int .i64 r16.2.1)), (11, v396)] envq ∧ Mem w No [ownL 3 v396 (r408 : List Int), ownL 3 v11 (r8.2.1 : List Int), ownL 3 v12 (r8.2.2 : List Int)] wq) hit409 ⟨(Value.slice none 0 0), (by repeat (first | exact Sub.nil _ | refine Sub.cons rfl ?_)), (hm164.pick [0, 4, 5, 6] (by decide) rfl)⟩ ?_ ?_
    · rintro ⟨i397, i398, i399, l400⟩ x403 env404 w405 hf406 hr407 ⟨v401, hs_, hm_⟩
      have hs_ : Sub [(3, (Value.pointer (some ⟨g4, 0, none⟩))), (4, v11), (5, v12), (7, (Value.int .i64 r16.2.1)), (11, v401), (12, (Value.int .i64 i397)), (13, (Value.int .i64 i398))] env404 := hs_
      have hm411 : Mem w No [ownL 3 v401 (l400 : List Int), ownL 3 v11 (r8.2.1 : List Int), ownL 3 v12 (r8.2.2 : List Int), blk g4 48 [v0, (Value.int .i64 i399)]] w405 := hm_
      refine cw_sub hs_ ?_
      clear hs_ hm_ q410
      have h : law08_ReconcileCheaper_l1 N a0 r8 i397 i398 i399 l400 = some x403 := hf406
      clear hf406
      refine cw_seq ?_
      refine cw_seq ?_
      refine cw_region ?_
      refine t_rd rfl (rd_move rfl) ?_
      refine t_rd rfl (rd_move rfl) ?_
      refine t_rd rfl (rd_lenS tS22 rfl (hm411.sl 1 rfl)) ?_
      refine t_rd rfl (rd_lss rfl rfl) ?_
      refine t_rd rfl (rd_move rfl) ?_
      refine t_rdg rfl rfl rfl rfl (gv_f _) (fun hg412 => (rd_move rfl)) ?_
      refine t_rdg rfl rfl rfl rfl (gv_f _) (fun hg413 => (rd_move rfl)) ?_
      refine t_rdg rfl rfl rfl rfl (gv_f _) (fun hg414 => (rd_lenS tS22 (gvx rfl hg414) (hm411.sl 2 rfl))) ?_
      refine t_rdg rfl rfl rfl rfl (gv_f _) (fun hg415 => (rd_lss (gvx rfl hg415) (gvx rfl hg415))) ?_
      refine t_rd rfl (rd_or rfl (fun hc416 => (gvx rfl (bnotIt hc416)))) ?_
      refine rwt_nil ?_
      refine qn_then ?_
      obtain ⟨hb417, q418⟩ | ⟨hb417, q418⟩ := oi h <;> clear h
      · refine cw_t rfl hb417 ?_
        refine cw_skip ?_
        refine qn_then ?_
        refine cw_block ?_
        refine cw_seq ?_
        refine cw_region ?_
        refine t_rd rfl (rd_move rfl) ?_
        obtain ⟨r419, h420, q421⟩ := ob q418; clear q418
        refine t_ef rfl (ef_call tf16 rfl (Maker_Next_ok h420 (hv0.to_callT (k := 3) hm411 rfl) (hm411.get (k := 3) rfl))) ?_
        rintro _ w423 ⟨e_, hm422⟩
        obtain rfl := e_.symm
        have hm424 := hm411.callT (k := 3) rfl (fun _ h => h) hm422 (fun _ => Iff.rfl)
        refine t_rd rfl (rd_assign rfl) ?_
        refine rwt_nil ?_
        refine qn_then ?_
        refine cw_block ?_
        refine cw_seq ?_
        refine cw_region ?_
        refine t_rd rfl (rd_move rfl) ?_
        refine t_rd rfl (rd_move rfl) ?_
        refine t_rd rfl (rd_lenS tS22 rfl (hm424.sl 1 rfl)) ?_
        refine t_rd rfl (rd_lss rfl rfl) ?_
        refine t_rd rfl (rd_move rfl) ?_
        refine t_rdg rfl rfl rfl rfl (gv_t _) (fun hg425 => (rd_move rfl)) ?_
        refine t_rdg rfl rfl rfl rfl (gv_t _) (fun hg426 => (rd_move rfl)) ?_
        refine t_rdg rfl rfl rfl rfl (gv_t _) (fun hg427 => (rd_lenS tS22 (gvx rfl hg427) (hm424.sl 2 rfl))) ?_
        refine t_rdg rfl rfl rfl rfl (gv_t _) (fun hg428 => (rd_lss (gvx rfl hg428) (gvx rfl hg428))) ?_
        refine t_rd rfl (rd_and rfl (fun hc429 => (gvx rfl hc429))) ?_
        refine t_rd rfl (rd_move rfl) ?_
        refine t_rdg rfl rfl rfl rfl (gv_t _) (fun hg430 => (rd_move rfl)) ?_
        refine t_rdg rfl rfl rfl rfl (gv_t _) (fun hg431 => (rd_eql (gvx rfl hg431) rfl)) ?_
        refine t_rd rfl (rd_and rfl (fun hc432 => (gvx rfl hc432))) ?_
        refine t_rd rfl (rd_assign rfl) ?_
        refine rwt_nil ?_
        refine qn_then ?_
        obtain ⟨hb433, q434⟩ | ⟨hb433, q434⟩ := oi q421 <;> clear q421
        · refine cw_t rfl hb433 ?_
          refine cw_seq ?_
          refine cw_region ?_
          refine t_rd rfl (rd_assign rfl) ?_
          refine rwt_nil ?_
          refine qn_then ?_
          refine cw_seq ?_
          refine cw_seq ?_
          obtain ⟨w436, he438⟩ : ∃ q, q = w423.drew := ⟨_, rfl⟩
          have hm437 := hm424.drew; rw [← he438] at hm437
          refine cw_region_s (fun q => q = w436) (cls [] []) mixed ?_
          rintro _ rfl; rw [← he438]
          refine s_rp (i := 0) rfl (by kernel_rfl) rfl (fun _ => (rd_move rfl)) ?_
          refine s_rp (i := 1) rfl (by kernel_rfl) rfl (fun _ => (rd_move rfl)) ?_
          obtain ⟨x439, h440, q441⟩ := ob q434; clear q434
          refine s_rp (i := 2) rfl (by kernel_rfl) rfl (fun _ => (rd_index tS22 rfl rfl (hm437.sl 1 rfl) h440)) ?_
          refine s_rd (i := 3) rfl (by kernel_rfl) rfl (fun _ hS => by rw [hS]; exact (rd_ld1 tO3 rfl ((hm437.sl 1 rfl).cells h440) (off := 0) rfl)) rfl ?_
          refine s_rp (i := 4) rfl (by kernel_rfl) rfl (fun _ => (rd_move rfl)) ?_
          refine s_rp (i := 5) rfl (by kernel_rfl) rfl (fun _ => (rd_move rfl)) ?_
          obtain ⟨x442, h443, q444⟩ := ob q441; clear q441
          refine s_rp (i := 6) rfl (by kernel_rfl) rfl (fun _ => (rd_index tS22 rfl rfl (hm437.sl 2 rfl) h443)) ?_
          refine s_rd (i := 7) rfl (by kernel_rfl) rfl (fun _ hS => by rw [hS]; exact (rd_ld1 tO3 rfl ((hm437.sl 2 rfl).cells h443) (off := 0) rfl)) rfl ?_
          refine s_rp (i := 8) rfl (by kernel_rfl) rfl (fun _ => (rd_eql rfl rfl)) ?_
          refine s_nil (by kernel_rfl) ?_
          refine qn_then ?_
          obtain ⟨j448, hit449, q450⟩ := ob q444; clear q444
          refine cw_join (X := fun eq envq wq => eq = .normal ∧ Sub [(3, (Value.pointer (some ⟨g4, 0, none⟩))), (4, v11), (5, v12), (7, (Value.int .i64 r16.2.1)), (11, v401), (12, (Value.int .i64 i397)), (13, (Value.int .i64 i398)), (15, (Value.int .i64 j448))] envq ∧ Mem w No [ownL 3 v401 (l400 : List Int), ownL 3 v11 (r8.2.1 : List Int), ownL 3 v12 (r8.2.2 : List Int), blk g4 48 [v0, (Value.int .i64 r419.1)]] wq) ?_ ?_
          · clear q450
            obtain ⟨hb451, q452⟩ | ⟨hb451, q452⟩ := oi hit449 <;> clear hit449
            · refine cw_t rfl hb451 ?_
              refine cw_region ?_
              refine t_rd rfl (rd_assign rfl) ?_
              refine rwt_nil ?_
              obtain rfl := os q452
              exact ⟨rfl, (by repeat (first | exact Sub.nil _ | refine Sub.cons rfl ?_)), (hm437.pick [0, 1, 2, 3] (by decide) rfl)⟩
            · refine cw_f rfl hb451 ?_
              refine cw_skip ?_
              obtain rfl := os q452
              exact ⟨rfl, (by repeat (first | exact Sub.nil _ | refine Sub.cons rfl ?_)), (hm437.pick [0, 1, 2, 3] (by decide) rfl)⟩
          · clear hit449
            intro e env453 w454 hX455
            obtain ⟨rfl, hs456, hm457⟩ := hX455
            refine qn_then ?_
            refine cw_sub hs456 ?_
            refine cw_seq ?_
            refine cw_region ?_
            refine t_rd rfl (rd_move rfl) ?_
            refine t_rd rfl (rd_move rfl) ?_
            refine t_ef rfl (ef_bslice (l := ([j448] : List Int)) hm457 tS22 rfl (cs := #[(Value.int .i64 j448)]) (by unfold bsl; kernel_rfl) rfl rfl) ?_
            intro v458 w460 hm459
            obtain ⟨l461, h462, q463⟩ := ob q450; clear q450
            refine t_ef rfl (ef_append (k := 1) hm459 tS22 tE3 rfl rfl rfl rfl (hm459.sl 0 rfl) h462) ?_
            intro v464 w466 hm465
            refine t_rd rfl (rd_assign rfl) ?_
            refine rwt_nil ?_
            refine qn_then ?_
            refine cw_seq ?_
            refine cw_region ?_
            refine t_rd rfl (rd_move rfl) ?_
            obtain ⟨x467, h468, q469⟩ := ob q463; clear q463
            refine t_rd rfl (rd_add64 h468 rfl rfl) ?_
            refine t_rd rfl (rd_assign rfl) ?_
            refine rwt_nil ?_
            refine qn_then ?_
            refine cw_region ?_
            refine t_rd rfl (rd_move rfl) ?_
            obtain ⟨x470, h471, q472⟩ := ob q469; clear q469
            refine t_rd rfl (rd_add64 h471 rfl rfl) ?_
            refine t_rd rfl (rd_assign rfl) ?_
            refine rwt_nil ?_
            refine qn_block (qn_block (qn_then ?_))
            refine ⟨_, (os q472), v464, (by repeat (first | exact Sub.nil _ | refine Sub.cons rfl ?_)), (hm465.pick [1, 2, 3, 4] (by decide) rfl)⟩
        · refine cw_f rfl hb433 ?_
          refine cw_seq ?_
          refine cw_region ?_
          refine t_rd rfl (rd_move rfl) ?_
          refine t_rd rfl (rd_move rfl) ?_
          refine t_rd rfl (rd_lenS tS22 rfl (hm424.sl 1 rfl)) ?_
          refine t_rd rfl (rd_lss rfl rfl) ?_
          refine t_rd rfl (rd_move rfl) ?_
          refine t_rdg rfl rfl rfl rfl (gv_t _) (fun hg473 => (rd_move rfl)) ?_
          refine t_rdg rfl rfl rfl rfl (gv_t _) (fun hg474 => (rd_eql (gvx rfl hg474) rfl)) ?_
          refine t_rdg rfl rfl rfl rfl (gv_t _) (fun hg475 => (rd_move (gvx rfl hg475))) ?_
          refine t_rdg rfl rfl rfl rfl (gv_nf _ _) (fun hg476 => (rd_move rfl)) ?_
          refine t_rdg rfl rfl rfl rfl (gv_nf _ _) (fun hg477 => (rd_move rfl)) ?_
          refine t_rdg rfl rfl rfl rfl (gv_nf _ _) (fun hg478 => (rd_lenS tS22 (gvx rfl hg478) (hm424.sl 2 rfl))) ?_
          refine t_rdg rfl rfl rfl rfl (gv_nf _ _) (fun hg479 => (rd_eql (gvx rfl hg479) (gvx rfl hg479))) ?_
          refine t_rdg rfl rfl rfl rfl (gv_t _) (fun hg480 => (rd_or (gvx rfl hg480) (fun hc481 => (gvx rfl (band hg480 (bnotIt hc481)))))) ?_
          refine t_rd rfl (rd_and rfl (fun hc482 => (gvx rfl hc482))) ?_
          refine t_rd rfl (rd_assign rfl) ?_
          refine rwt_nil ?_
          refine qn_then ?_
          obtain ⟨hb483, q484⟩ | ⟨hb483, q484⟩ := oi q434 <;> clear q434
          · refine cw_t rfl hb483 ?_
            refine cw_seq ?_
            refine cw_region ?_
            refine t_rd rfl (rd_move rfl) ?_
            refine t_ef rfl (ef_bslice (l := ([2] : List Int)) hm424 tS22 rfl (cs := #[(Value.int .i64 2)]) (by unfold bsl; kernel_rfl) rfl rfl) ?_
            intro v485 w487 hm486
            obtain ⟨l488, h489, q490⟩ := ob q484; clear q484
            refine t_ef rfl (ef_append (k := 1) hm486 tS22 tE3 rfl rfl rfl rfl (hm486.sl 0 rfl) h489) ?_
            intro v491 w493 hm492
            refine t_rd rfl (rd_assign rfl) ?_
            refine rwt_nil ?_
            refine qn_then ?_
            refine cw_region ?_
            refine t_rd rfl (rd_move rfl) ?_
            obtain ⟨x494, h495, q496⟩ := ob q490; clear q490
            refine t_rd rfl (rd_add64 h495 rfl rfl) ?_
            refine t_rd rfl (rd_assign rfl) ?_
            refine rwt_nil ?_
            refine qn_block (qn_block (qn_then ?_))
            refine ⟨_, (os q496), v491, (by repeat (first | exact Sub.nil _ | refine Sub.cons rfl ?_)), (hm492.pick [1, 2, 3, 4] (by decide) rfl)⟩
          · refine cw_f rfl hb483 ?_
            refine cw_seq ?_
            refine cw_seq ?_
            refine cw_region ?_
            refine t_rd rfl (rd_move rfl) ?_
            refine t_rd rfl (rd_move rfl) ?_
            refine t_rd rfl (rd_lenS tS22 rfl (hm424.sl 2 rfl)) ?_
            refine t_rd rfl (rd_eql rfl rfl) ?_
            refine rwt_nil ?_
            refine qn_then ?_
            obtain ⟨hb497, q498⟩ | ⟨hb497, q498⟩ := oi q484 <;> clear q484
            · refine cw_t rfl hb497 ?_
              refine cw_seq ?_
              refine cw_region ?_
              refine t_rd rfl (rd_move rfl) ?_
              refine t_ef rfl (ef_bslice (l := ([2] : List Int)) hm424 tS22 rfl (cs := #[(Value.int .i64 2)]) (by unfold bsl; kernel_rfl) rfl rfl) ?_
              intro v499 w501 hm500
              obtain ⟨l502, h503, q504⟩ := ob q498; clear q498
              refine t_ef rfl (ef_append (k := 1) hm500 tS22 tE3 rfl rfl rfl rfl (hm500.sl 0 rfl) h503) ?_
              intro v505 w507 hm506
              refine t_rd rfl (rd_assign rfl) ?_
              refine rwt_nil ?_
              refine qn_then ?_
              refine cw_seq ?_
              refine cw_region ?_
              refine t_rd rfl (rd_move rfl) ?_
              obtain ⟨x508, h509, q510⟩ := ob q504; clear q504
              refine t_rd rfl (rd_add64 h509 rfl rfl) ?_
              refine t_rd rfl (rd_assign rfl) ?_
              refine rwt_nil ?_
              refine qn_then ?_
              refine cw_exit ?_
              refine qx_then (qx_other rfl (qx_same (qn_then ?_)))
              refine ⟨_, (os q510), v505, (by repeat (first | exact Sub.nil _ | refine Sub.cons rfl ?_)), (hm506.pick [1, 2, 3, 4] (by decide) rfl)⟩
            · refine cw_f rfl hb497 ?_
              refine cw_skip ?_
              refine qn_then ?_
              refine cw_seq ?_
              refine cw_region ?_
              refine t_rd rfl (rd_move rfl) ?_
              refine t_ef rfl (ef_bslice (l := ([3] : List Int)) hm424 tS22 rfl (cs := #[(Value.int .i64 3)]) (by unfold bsl; kernel_rfl) rfl rfl) ?_
              intro v511 w513 hm512
              obtain ⟨l514, h515, q516⟩ := ob q498; clear q498
              refine t_ef rfl (ef_append (k := 1) hm512 tS22 tE3 rfl rfl rfl rfl (hm512.sl 0 rfl) h515) ?_
              intro v517 w519 hm518
              refine t_rd rfl (rd_assign rfl) ?_
              refine rwt_nil ?_
              refine qn_then ?_
              refine cw_region ?_
              refine t_rd rfl (rd_move rfl) ?_
              obtain ⟨x520, h521, q522⟩ := ob q516; clear q516
              refine t_rd rfl (rd_add64 h521 rfl rfl) ?_
              refine t_rd rfl (rd_assign rfl) ?_
              refine rwt_nil ?_
              refine qn_block (qn_block (qn_then ?_))
              refine ⟨_, (os q522), v517, (by repeat (first | exact Sub.nil _ | refine Sub.cons rfl ?_)), (hm518.pick [1, 2, 3, 4] (by decide) rfl)⟩
      · refine cw_f rfl hb417 ?_
        refine cw_exit ?_
        refine qx_then (qx_then ?_)
        obtain rfl := hr407 _ (os q418)
        exact ⟨rfl, v401, (by repeat (first | exact Sub.nil _ | refine Sub.cons rfl ?_)), (hm411.pick [0, 1, 2] (by decide) rfl)⟩
    · skip
      intro e env523 w524 hX525
      obtain ⟨rfl, v396, hs526, hm527⟩ := hX525
      refine qx_same (qn_then ?_)
      refine cw_sub hs526 ?_
      refine cw_seq ?_
      refine cw_region ?_
      refine t_rd rfl (rd_move rfl) ?_
      refine t_rd rfl (rd_move rfl) ?_
      refine t_rd rfl (rd_move rfl) ?_
      obtain ⟨r528, h529, q530⟩ := ob q410; clear q410
      refine t_ef rfl (ef_call tf22 rfl (reconcile_Cost_ok h529 (hm527.sl_call 1 rfl) (hm527.sl_call 2 rfl) (hm527.sl_call 0 rfl))) ?_
      rintro _ w532 ⟨e_, hm531⟩
      obtain rfl := e_.symm
      have hm533 := hm527.call hm531
      refine t_rd rfl (rd_move rfl) ?_
      refine t_rd rfl (rd_extract rfl rfl) ?_
      refine t_rd rfl (rd_extract rfl rfl) ?_
      refine t_rd rfl (rd_assign rfl) ?_
      refine t_rd rfl (rd_assign rfl) ?_
      refine rwt_nil ?_
      refine qn_then ?_
      refine cw_seq ?_
      refine cw_region ?_
      refine t_rd rfl (rd_move rfl) ?_
      refine t_rd rfl (rd_eql rfl rfl) ?_
      refine t_rd rfl (rd_move rfl) ?_
      refine t_rdg rfl rfl rfl rfl (gv_t _) (fun hg534 => (rd_move rfl)) ?_
      refine t_rdg rfl rfl rfl rfl (gv_t _) (fun hg535 => (rd_move rfl)) ?_
      refine t_rdg rfl rfl rfl rfl (gv_t _) (fun hg536 => (rd_geq (gvx rfl hg536) (gvx rfl hg536))) ?_
      refine t_rd rfl (rd_and rfl (fun hc537 => (gvx rfl hc537))) ?_
      refine t_rd rfl (rd_move rfl) ?_
      obtain ⟨r539, h540, q541⟩ := ob q530; clear q530
      refine t_efg rfl rfl rfl rfl (R := (fun v w' => v = gV (decide (r528.2 = 0) && decide (r16.2.1 ≤ r528.1)) (Value.bool r539) ∧ Mem w532 No [] w')) (gv_t _) (fun hg538 => (ef_call tf13 rfl (law08_sane_ok (gO_t h540 hg538))).mono (by rintro _ _ ⟨rfl, q⟩; exact ⟨(gV_t hg538).symm, q⟩)) (fun q => ⟨(gV_f q).symm, Mem.nil _⟩) ?_
      rintro _ w543 ⟨rfl, hm542⟩
      have hm544 := hm533.call hm542
      refine t_rd rfl (rd_and rfl (fun hc545 => (gvx rfl hc545))) ?_
      refine t_rd rfl (rd_assign rfl) ?_
      refine rwt_nil ?_
      refine qn_then ?_
      refine cw_ret ?_
      obtain rfl := os q541
      exact ret1 rfl rfl ⟨rfl, (hm544.pick [] (by decide) rfl)⟩

end Go.Proofs.Ytlfinhdanjbmcaa
