/- Each call computes what its mirror does; written by a program of mine (gowalk.py). -/
import Derived.Test.YtlpkbkbjohhleaaGreatWkb
namespace Go.Proofs.YtlpkbkbjohhleaaGreat
open Go.Gv Go.RowKit
set_option linter.unusedVariables false
set_option maxRecDepth 100000

theorem rollin_run_ok {N : Nat} {a0_Items : List T_Item} {a0_Weight : Int} {a1_Steps : Int} {a1_Codes : List Int} {a2 : Int} {res : Int × Int × List (List Int) × List (List Int) × Int × Int} (h : rollin_run N a0_Items a0_Weight a1_Steps a1_Codes a2 = some res) {w : World} {v0_Items : Value} {v1_Codes : Value} (hv0_Items : Sl (Old w No) w v0_Items a0_Items) (hv1_Codes : Sl (Old w No) w v1_Codes a1_Codes) :
  CallsR Tryz.prog 58 [(Value.agg #[v0_Items, (Value.int .i64 a0_Weight)]), (Value.agg #[(Value.int .i64 a1_Steps), v1_Codes]), (Value.int .i64 a2)] w (fun u w' => ∃ gr : Nat, ∃ (zy0 : List Hdr) (y1 : Value) (zy2 : List Hdr) (y3 : Value), u = (Value.pointer (some ⟨gr, 0, none⟩)) ∧ Mem w No [blk gr 131 [v0_Items, (Value.int .i64 res.1), (Value.int .i64 res.2.1), v1_Codes, y1, y3, (Value.int .i64 res.2.2.2.2.1), (Value.int .i64 res.2.2.2.2.2)], ownL 22 y1 (zy0 : List Hdr), rowsC 3 zy0 (res.2.2.1 : List (List Int)) none, ownL 22 y3 (zy2 : List Hdr), rowsC 3 zy2 (res.2.2.2.1 : List (List Int)) none] w') := by
 unfold rollin_run at h
 refine fn_ok Tryz.func58 rfl rfl rfl ?_
 have hm0 := Mem.nil w
 refine cw_sr ?_
 refine t_ef rfl (ef_box hm0 rfl rfl) ?_
 rintro _ w112 ⟨g110, rfl, hm111⟩
 refine t_ef rfl (ef_box hm111 rfl rfl) ?_
 rintro _ w115 ⟨g113, rfl, hm114⟩
 refine t_as rfl rfl (rwt_n (cw_sr ?_))
 refine t_rd rfl (rd_ld tA27 rfl (hm114.blk 1 rfl) rfl) ?_
 refine t_rd rfl (rd_ld tA30 rfl (hm114.blk 0 rfl) rfl) ?_
 obtain ⟨r116, h117, q118⟩ := ob h; clear h
 refine t_ef rfl (ef_call tf85 rfl (rollin_start_ok h117 (hv0_Items.to_call hm114) (hv1_Codes.to_call hm114))) ?_
 rintro _ w125 ⟨g119, zs120, v121, zs122, v123, e_, hm124⟩
 obtain rfl := e_.symm
 have hm126 := hm114.call hm124
 refine t_as rfl rfl (rwt_n (cw_seq (cw_sr (t_as rfl rfl (rwt_n ?_)))))
 refine cw_block ?_
 obtain ⟨r193, hit194, q195⟩ := ob q118; clear q118
 refine cw_loop2 (I := fun q envq wq => ∃ (v182 : Value) (zs183 : List Hdr) (v185 : Value) (zs186 : List Hdr), Sub [(2, (Value.int .i64 a2)), (7, (Value.pointer (some ⟨g119, 0, none⟩))), (8, (Value.int .i64 q.1))] envq ∧ Mem w No [blk g119 131 [v0_Items, (Value.int .i64 r116.1), (Value.int .i64 r116.2.1), v1_Codes, v182, v185, (Value.int .i64 q.2.1), (Value.int .i64 q.2.2.1)], ownL 22 v182 (zs183 : List Hdr), rowsC 3 zs183 (q.2.2.2.1 : List (List Int)) none, ownL 22 v185 (zs186 : List Hdr), rowsC 3 zs186 (q.2.2.2.2 : List (List Int)) none] wq) (X := fun eq envq wq => eq = .exit 0 ∧ ∃ (v173 : Value) (zs174 : List Hdr) (v176 : Value) (zs177 : List Hdr), Sub [(7, (Value.pointer (some ⟨g119, 0, none⟩)))] envq ∧ Mem w No [blk g119 131 [v0_Items, (Value.int .i64 r116.1), (Value.int .i64 r116.2.1), v1_Codes, v173, v176, (Value.int .i64 r193.1), (Value.int .i64 r193.2.1)], ownL 22 v173 (zs174 : List Hdr), rowsC 3 zs174 (r193.2.2.1 : List (List Int)) none, ownL 22 v176 (zs177 : List Hdr), rowsC 3 zs177 (r193.2.2.2 : List (List Int)) none] wq) hit194 ⟨v121, zs120, v123, zs122, (by repeat (first | exact Sub.nil _ | refine Sub.cons rfl ?_)), (hm126.pick [0, 1, 2, 3, 4] (by decide) rfl)⟩ ?_ ?_
 ·rintro ⟨i178, i179, i180, l181, l184⟩ x188 env189 w190 hf191 hr192 ⟨v182, zs183, v185, zs186, hs_, hm_⟩
  have hs_ : Sub [(2, (Value.int .i64 a2)), (7, (Value.pointer (some ⟨g119, 0, none⟩))), (8, (Value.int .i64 i178))] env189 := hs_
  have hm196 : Mem w No [blk g119 131 [v0_Items, (Value.int .i64 r116.1), (Value.int .i64 r116.2.1), v1_Codes, v182, v185, (Value.int .i64 i179), (Value.int .i64 i180)], ownL 22 v182 (zs183 : List Hdr), rowsC 3 zs183 (l181 : List (List Int)) none, ownL 22 v185 (zs186 : List Hdr), rowsC 3 zs186 (l184 : List (List Int)) none] w190 := hm_
  refine cw_sub hs_ ?_
  clear hs_ hm_ q195
  have h : rollin_run_l1 N a0_Items a1_Codes a2 r116 i178 i179 i180 l181 l184 = some x188 := hf191
  clear hf191
  refine cw_seq (cw_sr (t_mv rfl rfl (t_mv rfl rfl ?_)))
  refine t_rd rfl (rd_leq rfl rfl) ?_
  refine rwt_n ?_
  obtain ⟨hb197, q198⟩ | ⟨hb197, q198⟩ := oi h <;> clear h
  ·refine cw_t rfl hb197 (cw_skip (qn_then (cw_seq (cw_block ?_))))
   refine cw_region ?_
   refine t_mv rfl rfl (t_mv rfl rfl ?_)
   have hm199 := hm196.bundle [blk g119 131 [v0_Items, (Value.int .i64 r116.1), (Value.int .i64 r116.2.1), v1_Codes, v182, v185, (Value.int .i64 i179), (Value.int .i64 i180)], ownL 22 v182 (zs183 : List Hdr), rowsC 3 zs183 (l181 : List (List Int)) none, ownL 22 v185 (zs186 : List Hdr), rowsC 3 zs186 (l184 : List (List Int)) none] []
   obtain ⟨r200, h201, q202⟩ := ob q198; clear q198
   refine t_ef rfl (ef_call tf87 rfl (machine_at_ok h201 (hv0_Items.to_callT (k := 0) hm199 rfl) (hv1_Codes.to_callT (k := 0) hm199 rfl) (hm199.get (k := 0) rfl))) ?_
   rintro _ w208 ⟨zs203, v204, zs205, v206, e_, hm207⟩
   obtain rfl := e_.symm
   have hm209 := hm199.callM (k := 0) rfl (fun _ h => h) hm207
   have hm210 := hm209.unbundle [blk g119 131 [v0_Items, (Value.int .i64 r116.1), (Value.int .i64 r116.2.1), v1_Codes, v204, v206, (Value.int .i64 r200.2.2.1), (Value.int .i64 r200.2.2.2)], ownL 22 v204 (zs203 : List Hdr), rowsC 3 zs203 (r200.1 : List (List Int)) none, ownL 22 v206 (zs205 : List Hdr), rowsC 3 zs205 (r200.2.1 : List (List Int)) none] []
   refine rwt_nil ?_
   refine qn_block (qn_then ?_)
   refine cw_region ?_
   refine t_mv rfl rfl ?_
   obtain ⟨x211, h212, q213⟩ := ob q202; clear q202
   refine t_rd rfl (rd_add64 h212 rfl rfl) (t_as rfl rfl (rwt_n ?_))
   refine ⟨_, (os q213), v204, zs203, v206, zs205, (by repeat (first | exact Sub.nil _ | refine Sub.cons rfl ?_)), (hm210.pick [0, 1, 2, 3, 4] (by decide) rfl)⟩
  ·refine cw_f rfl hb197 ?_
   refine cw_exit ?_
   refine qx_then (qx_then ?_)
   obtain rfl := hr192 _ (os q198)
   exact ⟨rfl, v182, zs183, v185, zs186, (by repeat (first | exact Sub.nil _ | refine Sub.cons rfl ?_)), (hm196.pick [0, 1, 2, 3, 4] (by decide) rfl)⟩
 ·skip
  intro e env214 w215 hX216
  obtain ⟨rfl, v173, zs174, v176, zs177, hs217, hm218⟩ := hX216
  refine qx_same (qn_then ?_)
  refine cw_sub hs217 ?_
  refine cw_sr (t_mv rfl rfl (t_as rfl rfl (rwt_n ?_)))
  refine cw_ret ?_
  obtain rfl := os q195
  exact ret1 rfl rfl ⟨g119, zs174, v173, zs177, v176, rfl, (hm218.pick [0, 1, 2, 3, 4] (by decide) rfl)⟩

theorem rollin_Run_ok {N : Nat} {a0_Items : List T_Item} {a0_Weight : Int} {a1_Steps : Int} {a1_Codes : List Int} {res : List (List Int) × Int × Int} (h : rollin_Run N a0_Items a0_Weight a1_Steps a1_Codes = some res) {w : World} {v0_Items : Value} {v1_Codes : Value} (hv0_Items : Sl (Old w No) w v0_Items a0_Items) (hv1_Codes : Sl (Old w No) w v1_Codes a1_Codes) :
  CallsR Tryz.prog 26 [(Value.agg #[v0_Items, (Value.int .i64 a0_Weight)]), (Value.agg #[(Value.int .i64 a1_Steps), v1_Codes])] w (fun u w' => ∃ (zy0 : List Hdr) (y1 : Value), u = (Value.tuple #[(Value.agg #[y1, (Value.int .i64 res.2.1)]), (Value.int .i64 res.2.2)]) ∧ Mem w No [ownL 22 y1 (zy0 : List Hdr), rowsC 3 zy0 (res.1 : List (List Int)) none] w') := by
 unfold rollin_Run at h
 refine fn_ok Tryz.func26 rfl rfl rfl ?_
 have hm0 := Mem.nil w
 refine cw_sr ?_
 refine t_ef rfl (ef_box hm0 rfl rfl) ?_
 rintro _ w3 ⟨g1, rfl, hm2⟩
 refine t_ef rfl (ef_box hm2 rfl rfl) ?_
 rintro _ w6 ⟨g4, rfl, hm5⟩
 refine t_ef rfl (ef_alloc hm5 tZ79 rfl) ?_
 rintro _ w9 ⟨g7, rfl, hm8⟩
 refine t_as rfl rfl (rwt_n (cw_seq (cw_sr ?_)))
 refine t_rd rfl (rd_ld tA27 rfl (hm8.blk 2 rfl) rfl) ?_
 refine t_rd rfl (rd_ld tA30 rfl (hm8.blk 1 rfl) rfl) ?_
 obtain ⟨r10, h11, q12⟩ := ob h; clear h
 refine t_ef rfl (ef_call tf31 rfl (rollin_Valid_ok h11 (hv0_Items.to_call hm8) (hv1_Codes.to_call hm8))) ?_
 rintro _ w14 ⟨e_, hm13⟩
 obtain rfl := e_.symm
 have hm15 := hm8.call hm13
 refine t_as rfl rfl (rwt_n (cw_sr (t_mv rfl rfl ?_)))
 refine t_rd rfl (rd_neq rfl rfl) ?_
 refine rwt_n ?_
 obtain ⟨hb16, q17⟩ | ⟨hb16, q17⟩ := oi q12 <;> clear q12
 ·refine cw_t rfl hb16 (cw_sr ?_)
  refine t_rd rfl (rd_build (cs := #[(Value.slice none 0 0), (Value.int .i64 0)]) rfl (by kernel_rfl)) ?_
  refine t_mv rfl rfl ?_
  refine t_ef0 (ef_stw (k := 0) hm15 tA79 rfl rfl (oc_cons (sl_one (Sl.nil (α := Hdr) No w14)) (oc_cons rfl oc_nil)) rfl rfl rfl) ?_
  intro _ w19 hm18
  refine t_as rfl rfl (rwt_n ?_)
  refine cw_ret ?_
  refine qr_then ?_
  obtain rfl := os q17
  have hm20 := hm18.addNil (α := Hdr) 22
  have hm21 := hm20.rowsNil (α := Int) 3
  exact retLn (rs := [.cell 4 79, .tmp 5]) rfl (.rc rfl tA79 (hm21.blk 2 rfl) rfl (.rt rfl .rn)) rfl ⟨[], (Value.slice none 0 0), rfl, (hm21.pick [1, 0] (by decide) rfl)⟩
 ·refine cw_f rfl hb16 (cw_skip (qn_then (cw_sr ?_)))
  refine t_rd rfl (rd_ld tA27 rfl (hm15.blk 2 rfl) rfl) ?_
  refine t_rd rfl (rd_ld tA30 rfl (hm15.blk 1 rfl) rfl) ?_
  refine t_rd rfl (rd_fld tF30_0 rfl) ?_
  refine t_rd rfl (rd_ld1 tO3 rfl (hm15.blk 1 rfl) (off := 0) rfl) ?_
  obtain ⟨r22, h23, q24⟩ := ob q17; clear q17
  refine t_ef rfl (ef_call tf58 rfl (rollin_run_ok h23 (hv0_Items.to_call hm15) (hv1_Codes.to_call hm15))) ?_
  rintro _ w31 ⟨g25, zs26, v27, zs28, v29, e_, hm30⟩
  obtain rfl := e_.symm
  have hm32 := hm15.call hm30
  refine t_as rfl rfl (rwt_n (cw_seq ?_))
  obtain ⟨w36, he38⟩ : ∃ q, q = w31.drew := ⟨_, rfl⟩
  have hm37 := hm32.drew; rw [← he38] at hm37
  refine cw_region_s (fun q => q = w36) (cls [] [9]) mixed ?_
  rintro _ rfl; rw [← he38]
  refine s_rp (i := 0) rfl (by kernel_rfl) rfl (fun _ => (rd_move rfl)) ?_
  refine s_rp (i := 1) rfl (by kernel_rfl) rfl (fun _ => (rd_nilCheck rfl)) ?_
  refine s_rp (i := 2) rfl (by kernel_rfl) rfl (fun _ => (rd_fld tF131_3 rfl)) ?_
  refine s_rd (i := 3) rfl (by kernel_rfl) rfl (fun _ hS => by rw [hS]; exact (rd_ld1 tO41 rfl (hm37.blk 0 rfl) (off := 5) rfl)) rfl ?_
  refine s_rp (i := 4) rfl (by kernel_rfl) rfl (fun _ => (rd_move rfl)) ?_
  refine s_rp (i := 5) rfl (by kernel_rfl) rfl (fun _ => (rd_nilCheck rfl)) ?_
  refine s_rp (i := 6) rfl (by kernel_rfl) rfl (fun _ => (rd_fld tF131_4 rfl)) ?_
  refine s_rd (i := 7) rfl (by kernel_rfl) rfl (fun _ hS => by rw [hS]; exact (rd_ld1 tO3 rfl (hm37.blk 0 rfl) (off := 6) rfl)) rfl ?_
  refine s_rp (i := 8) rfl (by kernel_rfl) rfl (fun _ => (rd_build (cs := #[v29, (Value.int .i64 r22.2.2.2.2.1)]) rfl (by obtain ⟨_, _, e⟩ := (((Nl.mk (hm37.sl_call 3 rfl) (hm37.rows_call 4 rfl)).sl)).val; rw [e]; clear e; kernel_rfl))) ?_
  refine s_ef0 (i := 9) rfl (by kernel_rfl) (ef_stw (k := 5) hm37 tA79 rfl rfl (oc_cons (sl_one ((Nl.mk (hm37.sl_call 3 rfl) (hm37.rows_call 4 rfl)).sl)) (oc_cons rfl oc_nil)) rfl rfl rfl) (by decide) (fun _ _ _ q => absurd q (by decide)) ?_
  intro _ w40 hm39
  refine s_rp (i := 10) rfl (by kernel_rfl) rfl (fun _ => (rd_assign rfl)) ?_
  refine s_nil (by kernel_rfl) ?_
  refine qn_then ?_
  refine cw_ret ?_
  obtain rfl := os q24
  exact retLn (rs := [.cell 4 79, .tmp 5]) rfl (.rc rfl tA79 (hm39.blk 5 rfl) rfl (.rt rfl .rn)) rfl ⟨zs28, v29, rfl, (hm39.pick [3, 4] (by decide) rfl)⟩

theorem rollin_Pushes_ok {N : Nat} {a0_Items : List T_Item} {a0_Weight : Int} {a1_Steps : Int} {a1_Codes : List Int} {res : Int × Int} (h : rollin_Pushes N a0_Items a0_Weight a1_Steps a1_Codes = some res) {w : World} {v0_Items : Value} {v1_Codes : Value} (hv0_Items : Sl (Old w No) w v0_Items a0_Items) (hv1_Codes : Sl (Old w No) w v1_Codes a1_Codes) :
  CallsR Tryz.prog 96 [(Value.agg #[v0_Items, (Value.int .i64 a0_Weight)]), (Value.agg #[(Value.int .i64 a1_Steps), v1_Codes])] w (fun u w' => u = (Value.tuple #[(Value.int .i64 res.1), (Value.int .i64 res.2)]) ∧ Mem w No [] w') := by
 unfold rollin_Pushes at h
 refine fn_ok Tryz.func96 rfl rfl rfl ?_
 have hm0 := Mem.nil w
 refine cw_sr ?_
 refine t_ef rfl (ef_box hm0 rfl rfl) ?_
 rintro _ w3 ⟨g1, rfl, hm2⟩
 refine t_ef rfl (ef_box hm2 rfl rfl) ?_
 rintro _ w6 ⟨g4, rfl, hm5⟩
 refine t_as rfl rfl (t_as rfl rfl (rwt_n (cw_seq (cw_sr ?_))))
 refine t_rd rfl (rd_ld tA27 rfl (hm5.blk 1 rfl) rfl) ?_
 refine t_rd rfl (rd_ld tA30 rfl (hm5.blk 0 rfl) rfl) ?_
 obtain ⟨r7, h8, q9⟩ := ob h; clear h
 refine t_ef rfl (ef_call tf31 rfl (rollin_Valid_ok h8 (hv0_Items.to_call hm5) (hv1_Codes.to_call hm5))) ?_
 rintro _ w11 ⟨e_, hm10⟩
 obtain rfl := e_.symm
 have hm12 := hm5.call hm10
 refine t_as rfl rfl (rwt_n (cw_sr (t_mv rfl rfl ?_)))
 refine t_rd rfl (rd_neq rfl rfl) ?_
 refine rwt_n ?_
 obtain ⟨hb13, q14⟩ | ⟨hb13, q14⟩ := oi q9 <;> clear q9
 ·refine cw_t rfl hb13 (cw_sr (t_mv rfl rfl (t_as rfl rfl (t_as rfl rfl (rwt_n ?_)))))
  refine cw_ret ?_
  refine qr_then ?_
  obtain rfl := os q14
  exact ret2 rfl rfl rfl ⟨rfl, (hm12.pick [] (by decide) rfl)⟩
 ·refine cw_f rfl hb13 (cw_skip (qn_then (cw_sr ?_)))
  refine t_rd rfl (rd_ld tA27 rfl (hm12.blk 1 rfl) rfl) ?_
  refine t_rd rfl (rd_ld tA30 rfl (hm12.blk 0 rfl) rfl) ?_
  refine t_rd rfl (rd_fld tF30_0 rfl) ?_
  refine t_rd rfl (rd_ld1 tO3 rfl (hm12.blk 0 rfl) (off := 0) rfl) ?_
  obtain ⟨r15, h16, q17⟩ := ob q14; clear q14
  refine t_ef rfl (ef_call tf58 rfl (rollin_run_ok h16 (hv0_Items.to_call hm12) (hv1_Codes.to_call hm12))) ?_
  rintro _ w24 ⟨g18, zs19, v20, zs21, v22, e_, hm23⟩
  obtain rfl := e_.symm
  have hm25 := hm12.call hm23
  refine t_rd rfl (rd_nilCheck rfl) ?_
  refine t_rd rfl (rd_fld tF131_5 rfl) ?_
  refine t_rd rfl (rd_ld1 tO3 rfl (hm25.blk 0 rfl) (off := 7) rfl) ?_
  refine t_as rfl rfl (t_as rfl rfl (rwt_n ?_))
  refine cw_ret ?_
  obtain rfl := os q17
  exact ret2 rfl rfl rfl ⟨rfl, (hm25.pick [] (by decide) rfl)⟩

theorem planner_scheme_ok {N : Nat} {a0 : List T_Item} {a1 : Int} {res : T_Scheme × Int × List Int × Bool} (h : planner_scheme N a0 a1 = some res) {w : World} {v0 : Value} (hv0 : Sl (Old w No) w v0 a0) :
  CallsR Tryz.prog 79 [v0, (Value.int .i64 a1)] w (fun u w' => ∃ (y0 : Value), u = (Value.tuple #[(Value.agg (Flat.enc res.1).toArray), (Value.agg #[(Value.int .i64 res.2.1), y0]), (Value.bool res.2.2.2)]) ∧ Mem w No [ownL 3 y0 (res.2.2.1 : List Int)] w') := by
 unfold planner_scheme at h
 refine fn_ok Tryz.func79 rfl rfl rfl ?_
 have hm0 := Mem.nil w
 refine cw_sr ?_
 refine t_ef rfl (ef_alloc hm0 tZ124 rfl) ?_
 rintro _ w3 ⟨g1, rfl, hm2⟩
 refine t_ef rfl (ef_alloc hm2 tZ30 rfl) ?_
 rintro _ w6 ⟨g4, rfl, hm5⟩
 refine t_as rfl rfl (rwt_n (cw_sr (t_mv rfl rfl (t_mv rfl rfl ?_))))
 refine t_rd rfl (rd_build (cs := #[v0, (Value.int .i64 a1)]) rfl (by obtain ⟨_, _, e⟩ := ((hv0.of_old hm5)).val; rw [e]; clear e; kernel_rfl)) ?_
 refine t_ef rfl (ef_alloc hm5 tZ27 rfl) ?_
 rintro _ w9 ⟨g7, rfl, hm8⟩
 refine t_ef0 (ef_stw (k := 0) hm8 tA27 rfl rfl (oc_cons (sl_one (hv0.of_old hm8)) (oc_cons rfl oc_nil)) rfl rfl rfl) ?_
 intro _ w11 hm10
 refine rwt_n (cw_sr ?_)
 refine t_rd rfl (rd_ld tA27 rfl (hm10.blk 0 rfl) rfl) ?_
 obtain ⟨r12, h13, q14⟩ := ob h; clear h
 refine t_ef rfl (ef_call tf28 rfl (leastcode_Least_ok h13 (hv0.to_call hm10))) ?_
 rintro _ w17 ⟨v15, e_, hm16⟩
 obtain rfl := e_.symm
 have hm18 := hm10.call hm16
 refine t_mv rfl rfl ?_
 refine t_rd rfl (rd_extract rfl rfl) ?_
 refine t_rd rfl (rd_extract rfl rfl) ?_
 refine t_ef rfl (ef_alloc hm18 tZ30 rfl) ?_
 rintro _ w21 ⟨g19, rfl, hm20⟩
 refine t_ef0 (ef_stw (k := 0) hm20 tA30 rfl rfl (oc_cons rfl (oc_cons (sl_one (hm20.sl 1 rfl)) oc_nil)) rfl rfl rfl) ?_
 intro _ w23 hm22
 refine t_as rfl rfl (rwt_n (cw_seq (cw_sr (t_mv rfl rfl ?_))))
 refine t_rd rfl (rd_neq rfl rfl) ?_
 refine rwt_n ?_
 obtain ⟨hb24, q25⟩ | ⟨hb24, q25⟩ := oi q14 <;> clear q14
 ·refine cw_t rfl hb24 (cw_sr ?_)
  refine t_rd rfl (rd_build (cs := #[(Value.int .i64 0), (Value.int .i64 0), (Value.int .i64 0), (Value.int .i64 0)]) rfl (by kernel_rfl)) ?_
  refine t_rd rfl (rd_build (cs := #[(Value.int .i64 0), (Value.slice none 0 0)]) rfl (by kernel_rfl)) ?_
  refine t_ef0 (ef_stw (k := 4) hm22 tA124 rfl rfl (oc_cons rfl (oc_cons rfl (oc_cons rfl (oc_cons rfl oc_nil)))) rfl rfl rfl) ?_
  intro _ w27 hm26
  refine t_ef0 (ef_stw (k := 3) hm26 tA30 rfl rfl (oc_cons rfl (oc_cons (sl_one (Sl.nil (α := Int) No w27)) oc_nil)) rfl rfl rfl) ?_
  intro _ w29 hm28
  refine t_as rfl rfl (rwt_n ?_)
  refine cw_ret ?_
  refine qr_then ?_
  obtain rfl := os q25
  have hm30 := hm28.addNil (α := Int) 3
  exact retLn (rs := [.cell 4 124, .cell 5 30, .tmp 6]) rfl (.rc rfl tA124 (hm30.blk 5 rfl) rfl (.rc rfl tA30 (hm30.blk 4 rfl) rfl (.rt rfl .rn))) rfl ⟨(Value.slice none 0 0), rfl, (hm30.pick [0] (by decide) rfl)⟩
 ·refine cw_f rfl hb24 (cw_skip (qn_then (cw_sr ?_)))
  refine t_rd rfl (rd_ld tA27 rfl (hm22.blk 2 rfl) rfl) ?_
  refine t_rd rfl (rd_ld tA30 rfl (hm22.blk 0 rfl) rfl) ?_
  obtain ⟨r31, h32, q33⟩ := ob q25; clear q25
  refine t_ef rfl (ef_call tf26 rfl (rollin_Run_ok h32 (hv0.to_call hm22) (hm22.sl_call 1 rfl))) ?_
  rintro _ w37 ⟨zs35, v34, e_, hm36⟩
  obtain rfl := e_.symm
  have hm38 := hm22.call hm36
  refine t_mv rfl rfl ?_
  refine t_rd rfl (rd_extract rfl rfl) ?_
  refine t_rd rfl (rd_extract rfl rfl) ?_
  refine t_ef rfl (ef_alloc hm38 tZ79 rfl) ?_
  rintro _ w41 ⟨g39, rfl, hm40⟩
  refine t_ef0 (ef_stw (k := 0) hm40 tA79 rfl rfl (oc_cons (sl_one ((Nl.mk (hm40.sl_call 1 rfl) (hm40.rows_call 2 rfl)).sl)) (oc_cons rfl oc_nil)) rfl rfl rfl) ?_
  intro _ w43 hm42
  refine t_as rfl rfl (rwt_n (cw_seq (cw_sr (t_mv rfl rfl ?_))))
  refine t_rd rfl (rd_neq rfl rfl) ?_
  refine rwt_n ?_
  obtain ⟨hb44, q45⟩ | ⟨hb44, q45⟩ := oi q33 <;> clear q33
  ·refine cw_t rfl hb44 (cw_sr ?_)
   refine t_rd rfl (rd_build (cs := #[(Value.int .i64 0), (Value.int .i64 0), (Value.int .i64 0), (Value.int .i64 0)]) rfl (by kernel_rfl)) ?_
   refine t_rd rfl (rd_build (cs := #[(Value.int .i64 0), (Value.slice none 0 0)]) rfl (by kernel_rfl)) ?_
   refine t_ef0 (ef_stw (k := 7) hm42 tA124 rfl rfl (oc_cons rfl (oc_cons rfl (oc_cons rfl (oc_cons rfl oc_nil)))) rfl rfl rfl) ?_
   intro _ w47 hm46
   refine t_ef0 (ef_stw (k := 6) hm46 tA30 rfl rfl (oc_cons rfl (oc_cons (sl_one (Sl.nil (α := Int) No w47)) oc_nil)) rfl rfl rfl) ?_
   intro _ w49 hm48
   refine t_as rfl rfl (rwt_n ?_)
   refine cw_ret ?_
   refine qr_then ?_
   obtain rfl := os q45
   have hm50 := hm48.addNil (α := Int) 3
   exact retLn (rs := [.cell 4 124, .cell 5 30, .tmp 6]) rfl (.rc rfl tA124 (hm50.blk 8 rfl) rfl (.rc rfl tA30 (hm50.blk 7 rfl) rfl (.rt rfl .rn))) rfl ⟨(Value.slice none 0 0), rfl, (hm50.pick [0] (by decide) rfl)⟩
  ·refine cw_f rfl hb44 (cw_skip (qn_then (cw_sr ?_)))
   refine t_rd rfl (rd_ld tA27 rfl (hm42.blk 5 rfl) rfl) ?_
   refine t_rd rfl (rd_ld tA30 rfl (hm42.blk 3 rfl) rfl) ?_
   obtain ⟨r51, h52, q53⟩ := ob q45; clear q45
   refine t_ef rfl (ef_call tf96 rfl (rollin_Pushes_ok h52 (hv0.to_call hm42) (hm42.sl_call 4 rfl))) ?_
   rintro _ w55 ⟨e_, hm54⟩
   obtain rfl := e_.symm
   have hm56 := hm42.call hm54
   refine t_mv rfl rfl ?_
   refine t_rd rfl (rd_extract rfl rfl) ?_
   refine t_rd rfl (rd_extract rfl rfl) ?_
   refine t_as rfl rfl (t_as rfl rfl (rwt_n (cw_seq ?_)))
   obtain ⟨w62, he64⟩ : ∃ q, q = w55.drew := ⟨_, rfl⟩
   have hm63 := hm56.drew; rw [← he64] at hm63
   refine cw_region_s (fun q => (blk g19 30 [(Value.int .i64 r12.1), v15]).φ q ∧ (blk g39 79 [v34, (Value.int .i64 r31.2.1)]).φ q) (cls [8] [9]) mixed ?_
   rintro _ rfl; rw [← he64]
   refine s_rp (i := 0) rfl (by kernel_rfl) rfl (fun _ => (rd_move rfl)) ?_
   refine s_rp (i := 1) rfl (by kernel_rfl) rfl (fun _ => (rd_fld tF30_0 rfl)) ?_
   refine s_rd (i := 2) rfl (by kernel_rfl) rfl (fun w61 hS => (rd_ld1 tO3 rfl (cells_blk hS.1) (off := 0) rfl)) ⟨(hm63.get (k := 3) rfl), (hm63.get (k := 0) rfl)⟩ ?_
   refine s_rp (i := 3) rfl (by kernel_rfl) rfl (fun _ => (rd_fld tF79_1 rfl)) ?_
   refine s_rd (i := 4) rfl (by kernel_rfl) rfl (fun w61 hS => (rd_ld1 tO3 rfl (cells_blk hS.2) (off := 1) rfl)) ⟨(hm63.get (k := 3) rfl), (hm63.get (k := 0) rfl)⟩ ?_
   refine s_rp (i := 5) rfl (by kernel_rfl) rfl (fun _ => (rd_move rfl)) ?_
   refine s_rp (i := 6) rfl (by kernel_rfl) rfl (fun _ => (rd_build (cs := #[(Value.int .i64 a1), (Value.int .i64 r12.1), (Value.int .i64 r31.2.1), (Value.int .i64 r51.1)]) rfl (by kernel_rfl))) ?_
   refine s_rd (i := 7) rfl (by kernel_rfl) rfl (fun w61 hS => (rd_ld tA30 rfl (cells_blk hS.1) rfl)) ⟨(hm63.get (k := 3) rfl), (hm63.get (k := 0) rfl)⟩ ?_
   refine s_ef0 (i := 8) rfl (by kernel_rfl) (ef_stw (k := 7) hm63 tA124 rfl rfl (oc_cons rfl (oc_cons rfl (oc_cons rfl (oc_cons rfl oc_nil)))) rfl rfl rfl) (by decide) ?_ ?_
   ·intro _ w70 hm69
    intro _
    exact ⟨(hm69.get (k := 3) rfl), (hm69.get (k := 0) rfl)⟩
   intro _ w70 hm69
   refine s_ef0 (i := 9) rfl (by kernel_rfl) (ef_stw (k := 6) hm69 tA30 rfl rfl (oc_cons rfl (oc_cons (sl_one (hm69.sl 4 rfl)) oc_nil)) rfl rfl rfl) (by decide) (fun _ _ _ q => absurd q (by decide)) ?_
   intro _ w72 hm71
   refine s_rp (i := 10) rfl (by kernel_rfl) rfl (fun _ => (rd_assign rfl)) ?_
   refine s_nil (by kernel_rfl) ?_
   refine qn_then ?_
   refine cw_ret ?_
   obtain rfl := os q53
   exact retLn (rs := [.cell 4 124, .cell 5 30, .tmp 6]) rfl (.rc rfl tA124 (hm71.blk 7 rfl) rfl (.rc rfl tA30 (hm71.blk 6 rfl) rfl (.rt rfl .rn))) rfl ⟨v15, rfl, (hm71.pick [4] (by decide) rfl)⟩

theorem g_cmp_Or_int_ok {N : Nat} {a0 : List Int} {res : Int} (h : g_cmp_Or_int N a0 = some res) {w : World} {v0 : Value} (hv0 : Sl (Old w No) w v0 a0) :
  CallsR Tryz.prog 82 [v0] w (fun u w' => u = (Value.int .i64 res) ∧ Mem w No [] w') := by
 unfold g_cmp_Or_int at h
 refine fn_ok Tryz.func82 rfl rfl rfl ?_
 have hm0 := Mem.nil w
 refine cw_sr (t_as rfl rfl (rwt_n (cw_sr (t_as rfl rfl (rwt_n (cw_seq ?_))))))
 refine cw_sr (t_mv rfl rfl ?_)
 refine t_rd rfl (rd_lenS tS22 rfl (hv0.of_old hm0)) ?_
 refine t_mv rfl rfl (rwt_n (cw_block ?_))
 obtain ⟨r29, hit30, q31⟩ := ob h; clear h
 refine cw_loop2 (I := fun q envq wq => Sub [(3, (Value.int .i64 0)), (6, v0), (7, (Value.int .i64 (List.length a0 : Int))), (8, (Value.int .i64 q))] envq ∧ Mem w No [] wq) (X := fun eq envq wq => (∃ p32, r29 = (Sum.inl p32) ∧ eq = .ret ∧ retQ Tryz.prog 18 Tryz.f82 (fun u w' => u = (Value.int .i64 p32) ∧ Mem w No [] w') .ret envq wq) ∨ (∃ p33, r29 = (Sum.inr p33) ∧ eq = .exit 0 ∧ Sub [(3, (Value.int .i64 0))] envq ∧ Mem w No [] wq)) hit30 ⟨(by repeat (first | exact Sub.nil _ | refine Sub.cons rfl ?_)), (hm0.pick [] (by decide) rfl)⟩ ?_ ?_
 ·rintro i22 x24 env25 w26 hf27 hr28 ⟨hs_, hm_⟩
  have hs_ : Sub [(3, (Value.int .i64 0)), (6, v0), (7, (Value.int .i64 (List.length a0 : Int))), (8, (Value.int .i64 i22))] env25 := hs_
  have hm34 : Mem w No [] w26 := hm_
  refine cw_sub hs_ ?_
  clear hs_ hm_ q31
  have h : g_cmp_Or_int_l1 N a0 i22 = some x24 := hf27
  clear hf27
  refine cw_sr (t_rd rfl (rd_lss rfl rfl) (rwt_n (cw_seq ?_)))
  obtain ⟨hb35, q36⟩ | ⟨hb35, q36⟩ := oi h <;> clear h
  ·refine cw_t rfl hb35 (cw_skip (qn_then (cw_seq (cw_block (cw_sr ?_)))))
   obtain ⟨x37, h38, q39⟩ := ob q36; clear q36
   refine t_rd rfl (rd_index tS22 rfl rfl (hv0.of_old hm34) h38) ?_
   refine t_rd rfl (rd_ld1 tO3 rfl ((hv0.of_old hm34).cells h38) (off := 0) rfl) ?_
   refine t_as rfl rfl (rwt_n (cw_sr (t_mv rfl rfl (t_mv rfl rfl ?_))))
   refine t_rd rfl (rd_neq rfl rfl) ?_
   refine rwt_n ?_
   obtain ⟨hb40, q41⟩ | ⟨hb40, q41⟩ := oi q39 <;> clear q39
   ·refine cw_t rfl hb40 (cw_sr (t_mv rfl rfl (t_as rfl rfl (rwt_n ?_))))
    refine cw_ret ?_
    refine qr_block (qr_then (qr_then ?_))
    obtain rfl := hr28 _ (os q41)
    refine .inl (⟨_, rfl, ⟨rfl, ?_⟩⟩)
    exact ret1 rfl rfl ⟨rfl, (hm34.pick [] (by decide) rfl)⟩
   ·refine cw_f rfl hb40 (cw_skip ?_)
    refine qn_block (qn_then ?_)
    refine cw_region ?_
    obtain ⟨x42, h43, q44⟩ := ob q41; clear q41
    refine t_rd rfl (rd_add64 h43 rfl rfl) (t_mv rfl rfl (rwt_n ?_))
    refine ⟨_, (os q44), (by repeat (first | exact Sub.nil _ | refine Sub.cons rfl ?_)), (hm34.pick [] (by decide) rfl)⟩
  ·refine cw_f rfl hb35 ?_
   refine cw_exit ?_
   refine qx_then (qx_then ?_)
   obtain rfl := hr28 _ (os q36)
   exact .inr (⟨_, rfl, ⟨rfl, (by repeat (first | exact Sub.nil _ | refine Sub.cons rfl ?_)), (hm34.pick [] (by decide) rfl)⟩⟩)
 ·skip
  intro e env45 w46 hX47
  rcases hX47 with hX47 | hX47
  ·obtain ⟨p49, rfl, hX47⟩ := hX47
   obtain ⟨rfl, hq51⟩ := hX47
   exact qr_block (qr_then ((by have e := os q31; subst e; exact hq51)))
  ·obtain ⟨p52, rfl, hX47⟩ := hX47
   obtain ⟨rfl, hs53, hm54⟩ := hX47
   refine qx_same (qn_then ?_)
   refine cw_sub hs53 ?_
   refine cw_sr (t_mv rfl rfl (t_as rfl rfl (rwt_n ?_)))
   refine cw_ret ?_
   obtain rfl := os q31
   exact ret1 rfl rfl ⟨rfl, (hm54.pick [] (by decide) rfl)⟩

theorem planner_Schemes_1_ok {N : Nat} {a0 : T_Scheme} {a1 : T_Scheme} {res : Int} (h : planner_Schemes_1 N a0 a1 = some res) {w : World}   :
  CallsR Tryz.prog 81 [(Value.agg (Flat.enc a0).toArray), (Value.agg (Flat.enc a1).toArray)] w (fun u w' => u = (Value.int .i64 res) ∧ Mem w No [] w') := by
 unfold planner_Schemes_1 at h
 refine fn_ok Tryz.func81 rfl rfl rfl ?_
 have hm0 := Mem.nil w
 refine cw_sr ?_
 refine t_ef rfl (ef_box hm0 rfl rfl) ?_
 rintro _ w3 ⟨g1, rfl, hm2⟩
 refine t_ef rfl (ef_box hm2 rfl rfl) ?_
 rintro _ w6 ⟨g4, rfl, hm5⟩
 refine t_as rfl rfl (rwt_n (cw_sr (t_rd rfl (rd_fld tF124_1 rfl) ?_)))
 refine t_rd rfl (rd_ld1 tO3 rfl (hm5.blk 1 rfl) (off := 1) rfl) ?_
 refine t_rd rfl (rd_fld tF124_1 rfl) ?_
 refine t_rd rfl (rd_ld1 tO3 rfl (hm5.blk 0 rfl) (off := 1) rfl) ?_
 obtain ⟨x7, h8, q9⟩ := ob h; clear h
 refine t_rd rfl (rd_sub64 h8 rfl rfl) ?_
 refine t_rd rfl (rd_fld tF124_2 rfl) ?_
 refine t_rd rfl (rd_ld1 tO3 rfl (hm5.blk 1 rfl) (off := 2) rfl) ?_
 refine t_rd rfl (rd_fld tF124_2 rfl) ?_
 refine t_rd rfl (rd_ld1 tO3 rfl (hm5.blk 0 rfl) (off := 2) rfl) ?_
 obtain ⟨x10, h11, q12⟩ := ob q9; clear q9
 refine t_rd rfl (rd_sub64 h11 rfl rfl) ?_
 refine t_rd rfl (rd_fld tF124_0 rfl) ?_
 refine t_rd rfl (rd_ld1 tO3 rfl (hm5.blk 1 rfl) (off := 0) rfl) ?_
 refine t_rd rfl (rd_fld tF124_0 rfl) ?_
 refine t_rd rfl (rd_ld1 tO3 rfl (hm5.blk 0 rfl) (off := 0) rfl) ?_
 obtain ⟨x13, h14, q15⟩ := ob q12; clear q12
 refine t_rd rfl (rd_sub64 h14 rfl rfl) ?_
 refine t_ef rfl (ef_bslice (l := ([x7, x10, x13] : List Int)) hm5 tS22 rfl (cs := #[(Value.int .i64 x7), (Value.int .i64 x10), (Value.int .i64 x13)]) (by unfold bsl; kernel_rfl) rfl rfl) ?_
 intro v16 w18 hm17
 obtain ⟨r19, h20, q21⟩ := ob q15; clear q15
 refine t_ef rfl (ef_call tf82 rfl (g_cmp_Or_int_ok h20 (hm17.sl_call 0 rfl))) ?_
 rintro _ w23 ⟨e_, hm22⟩
 obtain rfl := e_.symm
 have hm24 := hm17.call hm22
 refine t_as rfl rfl (rwt_n ?_)
 refine cw_ret ?_
 obtain rfl := os q21
 exact ret1 rfl rfl ⟨rfl, (hm24.pick [] (by decide) rfl)⟩

theorem g_slices_insertionSortCmpFunc_api_Scheme_ok {N : Nat} {a0 : List T_Scheme} {a1 : Int} {a2 : Int} {res : List T_Scheme} (h : g_slices_insertionSortCmpFunc_api_Scheme N a0 a1 a2 = some res) {w : World} {v0 : Value} (hk0 : (ownL 124 v0 (a0 : List T_Scheme)).φ w) :
  CallsR Tryz.prog 106 [v0, (Value.int .i64 a1), (Value.int .i64 a2), (Value.func (.func 81) #[] #[])] w (fun u w' => u = (Value.tuple #[]) ∧ Mem w (ownL 124 v0 (a0 : List T_Scheme)).D [ownL 124 v0 (res : List T_Scheme)] w') := by
 unfold g_slices_insertionSortCmpFunc_api_Scheme at h
 refine fn_ok Tryz.func106 rfl rfl rfl ?_
 have hm0 := Mem.one hk0
 refine cw_sr (t_mv rfl rfl ?_)
 obtain ⟨x1, h2, q3⟩ := ob h; clear h
 refine t_rd rfl (rd_add64 h2 rfl rfl) (t_as rfl rfl (rwt_n (cw_block ?_)))
 obtain ⟨r743, hit744, q745⟩ := ob q3; clear q3
 refine cw_loop2 (I := fun q envq wq => Sub [(0, v0), (1, (Value.int .i64 a1)), (2, (Value.int .i64 a2)), (3, (Value.func (.func 81) #[] #[])), (8, (Value.int .i64 q.1))] envq ∧ Mem w (ownL 124 v0 (a0 : List T_Scheme)).D [ownL 124 v0 (q.2 : List T_Scheme)] wq) (X := fun eq envq wq => eq = .exit 0 ∧ Sub [] envq ∧ Mem w (ownL 124 v0 (a0 : List T_Scheme)).D [ownL 124 v0 (r743 : List T_Scheme)] wq) hit744 ⟨(by repeat (first | exact Sub.nil _ | refine Sub.cons rfl ?_)), (hm0.pick [0] (by decide) rfl)⟩ ?_ ?_
 ·rintro ⟨i735, l736⟩ x738 env739 w740 hf741 hr742 ⟨hs_, hm_⟩
  have hs_ : Sub [(0, v0), (1, (Value.int .i64 a1)), (2, (Value.int .i64 a2)), (3, (Value.func (.func 81) #[] #[])), (8, (Value.int .i64 i735))] env739 := hs_
  have hm746 : Mem w (ownL 124 v0 (a0 : List T_Scheme)).D [ownL 124 v0 (l736 : List T_Scheme)] w740 := hm_
  refine cw_sub hs_ ?_
  clear hs_ hm_ q745
  have h : g_slices_insertionSortCmpFunc_api_Scheme_l3 N a1 a2 i735 l736 = some x738 := hf741
  clear hf741
  refine cw_seq (cw_sr (t_mv rfl rfl (t_mv rfl rfl (t_rd rfl (rd_lss rfl rfl) (rwt_n ?_)))))
  obtain ⟨hb747, q748⟩ | ⟨hb747, q748⟩ := oi h <;> clear h
  ·refine cw_t rfl hb747 (cw_skip (qn_then (cw_seq (cw_block (cw_sr ?_)))))
   refine t_mv rfl rfl (t_as rfl rfl (rwt_n (cw_block ?_)))
   obtain ⟨r986, hit987, q988⟩ := ob q748; clear q748
   refine cw_loop2 (I := fun q envq wq => Sub [(0, v0), (1, (Value.int .i64 a1)), (2, (Value.int .i64 a2)), (3, (Value.func (.func 81) #[] #[])), (8, (Value.int .i64 i735)), (9, (Value.int .i64 q.1))] envq ∧ Mem w (ownL 124 v0 (a0 : List T_Scheme)).D [ownL 124 v0 (q.2 : List T_Scheme)] wq) (X := fun eq envq wq => eq = .exit 2 ∧ Sub [(0, v0), (1, (Value.int .i64 a1)), (2, (Value.int .i64 a2)), (3, (Value.func (.func 81) #[] #[])), (8, (Value.int .i64 i735))] envq ∧ Mem w (ownL 124 v0 (a0 : List T_Scheme)).D [ownL 124 v0 (r986 : List T_Scheme)] wq) hit987 ⟨(by repeat (first | exact Sub.nil _ | refine Sub.cons rfl ?_)), (hm746.pick [0] (by decide) rfl)⟩ ?_ ?_
   ·rintro ⟨i978, l979⟩ x981 env982 w983 hf984 hr985 ⟨hs_, hm_⟩
    have hs_ : Sub [(0, v0), (1, (Value.int .i64 a1)), (2, (Value.int .i64 a2)), (3, (Value.func (.func 81) #[] #[])), (8, (Value.int .i64 i735)), (9, (Value.int .i64 i978))] env982 := hs_
    have hm989 : Mem w (ownL 124 v0 (a0 : List T_Scheme)).D [ownL 124 v0 (l979 : List T_Scheme)] w983 := hm_
    refine cw_sub hs_ ?_
    clear hs_ hm_ q988
    have h : g_slices_insertionSortCmpFunc_api_Scheme_l4 N a1 i978 l979 = some x981 := hf984
    clear hf984
    refine cw_seq (cw_seq ?_)
    obtain ⟨w1019, he1021⟩ : ∃ q, q = w983.drew := ⟨_, rfl⟩
    have hm1020 := hm989.drew; rw [← he1021] at hm1020
    refine cw_region_s (fun q => q = w1019) (cls [] [14]) mixed ?_
    rintro _ rfl; rw [← he1021]
    refine s_rp (i := 0) rfl (by kernel_rfl) rfl (fun _ => (rd_move rfl)) ?_
    refine s_rp (i := 1) rfl (by kernel_rfl) rfl (fun _ => (rd_move rfl)) ?_
    refine s_rp (i := 2) rfl (by kernel_rfl) rfl (fun _ => (rd_gtr rfl rfl)) ?_
    refine s_rp (i := 3) rfl (by kernel_rfl) rfl (fun _ => (rd_move rfl)) ?_
    refine s_rpg (i := 4) rfl (by kernel_rfl) rfl rfl rfl rfl (gv_t _) (fun hg1022 _ => (rd_move rfl)) ?_
    refine s_rpg (i := 5) rfl (by kernel_rfl) rfl rfl rfl rfl (gv_t _) (fun hg1023 _ => (rd_move rfl)) ?_
    refine s_rpg (i := 6) rfl (by kernel_rfl) rfl rfl rfl rfl (gv_t _) (fun hg1024 _ => (rd_move rfl)) ?_
    obtain ⟨x1026, h1027, q1028⟩ := ob h; clear h
    refine s_rpg (i := 7) rfl (by kernel_rfl) rfl rfl rfl rfl (gv_t _) (fun hg1025 _ => (rd_index tS120 (gvx rfl hg1025) (gvx rfl hg1025) (hm1020.sl 0 rfl) (gO_t h1027 hg1025))) ?_
    refine s_rdg (i := 8) rfl (by kernel_rfl) rfl rfl rfl rfl (gv_t _) (fun hg1029 => (fun _ hS => by rw [hS]; exact (rd_ld tA124 (gvx rfl hg1029) ((hm1020.sl 0 rfl).cells (gO_t h1027 hg1029)) rfl))) rfl ?_
    refine s_rpg (i := 9) rfl (by kernel_rfl) rfl rfl rfl rfl (gv_t _) (fun hg1030 _ => (rd_move rfl)) ?_
    refine s_rpg (i := 10) rfl (by kernel_rfl) rfl rfl rfl rfl (gv_t _) (fun hg1031 _ => (rd_move rfl)) ?_
    obtain ⟨x1033, h1034, q1035⟩ := ob q1028; clear q1028
    refine s_rpg (i := 11) rfl (by kernel_rfl) rfl rfl rfl rfl (gv_t _) (fun hg1032 _ => (rd_sub64 (gO_t h1034 hg1032) (gvx rfl hg1032) rfl)) ?_
    obtain ⟨x1037, h1038, q1039⟩ := ob q1035; clear q1035
    refine s_rpg (i := 12) rfl (by kernel_rfl) rfl rfl rfl rfl (gv_t _) (fun hg1036 _ => (rd_index tS120 (gvx rfl hg1036) (gvx rfl hg1036) (hm1020.sl 0 rfl) (gO_t h1038 hg1036))) ?_
    refine s_rdg (i := 13) rfl (by kernel_rfl) rfl rfl rfl rfl (gv_t _) (fun hg1040 => (fun _ hS => by rw [hS]; exact (rd_ld tA124 (gvx rfl hg1040) ((hm1020.sl 0 rfl).cells (gO_t h1038 hg1040)) rfl))) rfl ?_
    obtain ⟨r1042, h1043, q1044⟩ := ob q1039; clear q1039
    refine s_efg (i := 14) rfl (by kernel_rfl) rfl rfl rfl rfl (R := (fun v w' => v = gV (decide (a1 < i978)) (Value.int .i64 r1042) ∧ Mem w1019 No [] w')) (gv_t _) (fun hg1041 => (ef_callv tf81 (gvx rfl hg1041) (evc (gvx rfl hg1041) (evc (gvx rfl hg1041) evn)) (planner_Schemes_1_ok (gO_t h1043 hg1041))).mono (by rintro _ _ ⟨rfl, q⟩; exact ⟨(gV_t hg1041).symm, q⟩)) (fun q => ⟨(gV_f q).symm, Mem.nil _⟩) (by decide) (fun _ _ _ q => absurd q (by decide)) ?_
    rintro _ w1046 ⟨rfl, hm1045⟩
    have hm1047 := hm1020.call hm1045
    refine s_rpg (i := 15) rfl (by kernel_rfl) rfl rfl rfl rfl (gv_t _) (fun hg1048 _ => (rd_lss (gvx rfl hg1048) rfl)) ?_
    refine s_rp (i := 16) rfl (by kernel_rfl) rfl (fun _ => (rd_and rfl (fun hc1049 => (gvx rfl hc1049)))) ?_
    refine s_nil (by kernel_rfl) ?_
    refine qn_then ?_
    obtain ⟨hb1050, q1051⟩ | ⟨hb1050, q1051⟩ := oi q1044 <;> clear q1044
    ·refine cw_t rfl hb1050 (cw_skip (qn_then (cw_seq (cw_block ?_))))
     obtain ⟨w1075, he1077⟩ : ∃ q, q = w1046.drew := ⟨_, rfl⟩
     have hm1076 := hm1047.drew; rw [← he1077] at hm1076
     refine cw_region_s (fun q => q = w1075) (cls [] [15, 17]) mixed ?_
     rintro _ rfl; rw [← he1077]
     refine s_rp (i := 0) rfl (by kernel_rfl) rfl (fun _ => (rd_move rfl)) ?_
     refine s_rp (i := 1) rfl (by kernel_rfl) rfl (fun _ => (rd_move rfl)) ?_
     refine s_rp (i := 2) rfl (by kernel_rfl) rfl (fun _ => (rd_move rfl)) ?_
     refine s_rp (i := 3) rfl (by kernel_rfl) rfl (fun _ => (rd_move rfl)) ?_
     obtain ⟨x1078, h1079, q1080⟩ := ob q1051; clear q1051
     refine s_rp (i := 4) rfl (by kernel_rfl) rfl (fun _ => (rd_sub64 h1079 rfl rfl)) ?_
     refine s_rp (i := 5) rfl (by kernel_rfl) rfl (fun _ => (rd_move rfl)) ?_
     refine s_rp (i := 6) rfl (by kernel_rfl) rfl (fun _ => (rd_move rfl)) ?_
     obtain ⟨x1081, h1082, q1083⟩ := ob q1080; clear q1080
     refine s_rp (i := 7) rfl (by kernel_rfl) rfl (fun _ => (rd_sub64 h1082 rfl rfl)) ?_
     obtain ⟨x1084, h1085, q1086⟩ := ob q1083; clear q1083
     refine s_rp (i := 8) rfl (by kernel_rfl) rfl (fun _ => (rd_index tS120 rfl rfl (hm1076.sl 0 rfl) h1085)) ?_
     refine s_rd (i := 9) rfl (by kernel_rfl) rfl (fun _ hS => by rw [hS]; exact (rd_ld tA124 rfl ((hm1076.sl 0 rfl).cells h1085) rfl)) rfl ?_
     refine s_rp (i := 10) rfl (by kernel_rfl) rfl (fun _ => (rd_move rfl)) ?_
     refine s_rp (i := 11) rfl (by kernel_rfl) rfl (fun _ => (rd_move rfl)) ?_
     obtain ⟨x1087, h1088, q1089⟩ := ob q1086; clear q1086
     refine s_rp (i := 12) rfl (by kernel_rfl) rfl (fun _ => (rd_index tS120 rfl rfl (hm1076.sl 0 rfl) h1088)) ?_
     refine s_rd (i := 13) rfl (by kernel_rfl) rfl (fun _ hS => by rw [hS]; exact (rd_ld tA124 rfl ((hm1076.sl 0 rfl).cells h1088) rfl)) rfl ?_
     obtain ⟨x1090, h1091, q1092⟩ := ob q1089; clear q1089
     refine s_rp (i := 14) rfl (by kernel_rfl) rfl (fun _ => (rd_index tS120 rfl rfl (hm1076.sl 0 rfl) h1091)) ?_
     refine s_ef0 (i := 15) rfl (by kernel_rfl) (ef_stlw (k := 0) (x' := x1084) hm1076 tA124 rfl rfl rfl h1091 rfl rfl) (by decide) (fun _ _ _ q => absurd q (by decide)) ?_
     intro _ w1094 hm1093
     obtain ⟨x1095, h1096, q1097⟩ := ob q1092; clear q1092
     refine s_rp (i := 16) rfl (by kernel_rfl) rfl (fun _ => (rd_index tS120 rfl rfl (hm1093.sl 0 rfl) h1096)) ?_
     refine s_ef0 (i := 17) rfl (by kernel_rfl) (ef_stlw (k := 0) (x' := x1087) hm1093 tA124 rfl rfl rfl h1096 rfl rfl) (by decide) (fun _ _ _ q => absurd q (by decide)) ?_
     intro _ w1099 hm1098
     refine s_nil (by kernel_rfl) ?_
     refine qn_block (qn_then ?_)
     refine cw_region ?_
     refine t_mv rfl rfl ?_
     obtain ⟨x1100, h1101, q1102⟩ := ob q1097; clear q1097
     refine t_rd rfl (rd_sub64 h1101 rfl rfl) ?_
     refine t_as rfl rfl (rwt_n ?_)
     refine ⟨_, (os q1102), (by repeat (first | exact Sub.nil _ | refine Sub.cons rfl ?_)), (hm1098.pick [0] (by decide) rfl)⟩
    ·refine cw_f rfl hb1050 ?_
     refine cw_exit ?_
     refine qx_then (qx_then ?_)
     obtain rfl := hr985 _ (os q1051)
     exact ⟨rfl, (by repeat (first | exact Sub.nil _ | refine Sub.cons rfl ?_)), (hm1047.pick [0] (by decide) rfl)⟩
   ·skip
    intro e env1103 w1104 hX1105
    obtain ⟨rfl, hs1106, hm1107⟩ := hX1105
    refine qx_same (qn_block (qn_then ?_))
    refine cw_sub hs1106 ?_
    refine cw_region ?_
    refine t_mv rfl rfl ?_
    obtain ⟨x1108, h1109, q1110⟩ := ob q988; clear q988
    refine t_rd rfl (rd_add64 h1109 rfl rfl) (t_as rfl rfl (rwt_n ?_))
    refine ⟨_, (os q1110), (by repeat (first | exact Sub.nil _ | refine Sub.cons rfl ?_)), (hm1107.pick [0] (by decide) rfl)⟩
  ·refine cw_f rfl hb747 ?_
   refine cw_exit ?_
   refine qx_then (qx_then ?_)
   obtain rfl := hr742 _ (os q748)
   exact ⟨rfl, (by repeat (first | exact Sub.nil _ | refine Sub.cons rfl ?_)), (hm746.pick [0] (by decide) rfl)⟩
 ·skip
  intro e env1111 w1112 hX1113
  obtain ⟨rfl, hs1114, hm1115⟩ := hX1113
  refine qx_same ?_
  obtain rfl := os q745
  refine retn ?_
  refine ret_sub hs1114 ?_
  exact ret0 rfl ⟨rfl, (hm1115.pick [0] (by decide) rfl)⟩

theorem g_slices_swapRangeCmpFunc_api_Scheme_ok {N : Nat} {a0 : List T_Scheme} {a1 : Int} {a2 : Int} {a3 : Int} {res : List T_Scheme} (h : g_slices_swapRangeCmpFunc_api_Scheme N a0 a1 a2 a3 = some res) {w : World} {v0 : Value} (hk0 : (ownL 124 v0 (a0 : List T_Scheme)).φ w) :
  CallsR Tryz.prog 137 [v0, (Value.int .i64 a1), (Value.int .i64 a2), (Value.int .i64 a3), (Value.func (.func 81) #[] #[])] w (fun u w' => u = (Value.tuple #[]) ∧ Mem w (ownL 124 v0 (a0 : List T_Scheme)).D [ownL 124 v0 (res : List T_Scheme)] w') := by
 unfold g_slices_swapRangeCmpFunc_api_Scheme at h
 refine fn_ok Tryz.func137 rfl rfl rfl ?_
 have hm0 := Mem.one hk0
 refine cw_sr (t_as rfl rfl (rwt_n (cw_block ?_)))
 obtain ⟨r142, hit143, q144⟩ := ob h; clear h
 refine cw_loop2 (I := fun q envq wq => Sub [(0, v0), (1, (Value.int .i64 a1)), (2, (Value.int .i64 a2)), (3, (Value.int .i64 a3)), (10, (Value.int .i64 q.1))] envq ∧ Mem w (ownL 124 v0 (a0 : List T_Scheme)).D [ownL 124 v0 (q.2 : List T_Scheme)] wq) (X := fun eq envq wq => eq = .exit 0 ∧ Sub [] envq ∧ Mem w (ownL 124 v0 (a0 : List T_Scheme)).D [ownL 124 v0 (r142 : List T_Scheme)] wq) hit143 ⟨(by repeat (first | exact Sub.nil _ | refine Sub.cons rfl ?_)), (hm0.pick [0] (by decide) rfl)⟩ ?_ ?_
 ·rintro ⟨i134, l135⟩ x137 env138 w139 hf140 hr141 ⟨hs_, hm_⟩
  have hs_ : Sub [(0, v0), (1, (Value.int .i64 a1)), (2, (Value.int .i64 a2)), (3, (Value.int .i64 a3)), (10, (Value.int .i64 i134))] env138 := hs_
  have hm145 : Mem w (ownL 124 v0 (a0 : List T_Scheme)).D [ownL 124 v0 (l135 : List T_Scheme)] w139 := hm_
  refine cw_sub hs_ ?_
  clear hs_ hm_ q144
  have h : g_slices_swapRangeCmpFunc_api_Scheme_l1 N a1 a2 a3 i134 l135 = some x137 := hf140
  clear hf140
  refine cw_seq (cw_sr (t_mv rfl rfl (t_mv rfl rfl (t_rd rfl (rd_lss rfl rfl) (rwt_n ?_)))))
  obtain ⟨hb146, q147⟩ | ⟨hb146, q147⟩ := oi h <;> clear h
  ·refine cw_t rfl hb146 (cw_skip (qn_then (cw_seq (cw_block ?_))))
   obtain ⟨w177, he179⟩ : ∃ q, q = w139.drew := ⟨_, rfl⟩
   have hm178 := hm145.drew; rw [← he179] at hm178
   refine cw_region_s (fun q => q = w177) (cls [] [21, 23]) mixed ?_
   rintro _ rfl; rw [← he179]
   refine s_rp (i := 0) rfl (by kernel_rfl) rfl (fun _ => (rd_move rfl)) ?_
   refine s_rp (i := 1) rfl (by kernel_rfl) rfl (fun _ => (rd_move rfl)) ?_
   refine s_rp (i := 2) rfl (by kernel_rfl) rfl (fun _ => (rd_move rfl)) ?_
   obtain ⟨x180, h181, q182⟩ := ob q147; clear q147
   refine s_rp (i := 3) rfl (by kernel_rfl) rfl (fun _ => (rd_add64 h181 rfl rfl)) ?_
   refine s_rp (i := 4) rfl (by kernel_rfl) rfl (fun _ => (rd_move rfl)) ?_
   refine s_rp (i := 5) rfl (by kernel_rfl) rfl (fun _ => (rd_move rfl)) ?_
   refine s_rp (i := 6) rfl (by kernel_rfl) rfl (fun _ => (rd_move rfl)) ?_
   obtain ⟨x183, h184, q185⟩ := ob q182; clear q182
   refine s_rp (i := 7) rfl (by kernel_rfl) rfl (fun _ => (rd_add64 h184 rfl rfl)) ?_
   refine s_rp (i := 8) rfl (by kernel_rfl) rfl (fun _ => (rd_move rfl)) ?_
   refine s_rp (i := 9) rfl (by kernel_rfl) rfl (fun _ => (rd_move rfl)) ?_
   refine s_rp (i := 10) rfl (by kernel_rfl) rfl (fun _ => (rd_move rfl)) ?_
   obtain ⟨x186, h187, q188⟩ := ob q185; clear q185
   refine s_rp (i := 11) rfl (by kernel_rfl) rfl (fun _ => (rd_add64 h187 rfl rfl)) ?_
   obtain ⟨x189, h190, q191⟩ := ob q188; clear q188
   refine s_rp (i := 12) rfl (by kernel_rfl) rfl (fun _ => (rd_index tS120 rfl rfl (hm178.sl 0 rfl) h190)) ?_
   refine s_rd (i := 13) rfl (by kernel_rfl) rfl (fun _ hS => by rw [hS]; exact (rd_ld tA124 rfl ((hm178.sl 0 rfl).cells h190) rfl)) rfl ?_
   refine s_rp (i := 14) rfl (by kernel_rfl) rfl (fun _ => (rd_move rfl)) ?_
   refine s_rp (i := 15) rfl (by kernel_rfl) rfl (fun _ => (rd_move rfl)) ?_
   refine s_rp (i := 16) rfl (by kernel_rfl) rfl (fun _ => (rd_move rfl)) ?_
   obtain ⟨x192, h193, q194⟩ := ob q191; clear q191
   refine s_rp (i := 17) rfl (by kernel_rfl) rfl (fun _ => (rd_add64 h193 rfl rfl)) ?_
   obtain ⟨x195, h196, q197⟩ := ob q194; clear q194
   refine s_rp (i := 18) rfl (by kernel_rfl) rfl (fun _ => (rd_index tS120 rfl rfl (hm178.sl 0 rfl) h196)) ?_
   refine s_rd (i := 19) rfl (by kernel_rfl) rfl (fun _ hS => by rw [hS]; exact (rd_ld tA124 rfl ((hm178.sl 0 rfl).cells h196) rfl)) rfl ?_
   obtain ⟨x198, h199, q200⟩ := ob q197; clear q197
   refine s_rp (i := 20) rfl (by kernel_rfl) rfl (fun _ => (rd_index tS120 rfl rfl (hm178.sl 0 rfl) h199)) ?_
   refine s_ef0 (i := 21) rfl (by kernel_rfl) (ef_stlw (k := 0) (x' := x189) hm178 tA124 rfl rfl rfl h199 rfl rfl) (by decide) (fun _ _ _ q => absurd q (by decide)) ?_
   intro _ w202 hm201
   obtain ⟨x203, h204, q205⟩ := ob q200; clear q200
   refine s_rp (i := 22) rfl (by kernel_rfl) rfl (fun _ => (rd_index tS120 rfl rfl (hm201.sl 0 rfl) h204)) ?_
   refine s_ef0 (i := 23) rfl (by kernel_rfl) (ef_stlw (k := 0) (x' := x195) hm201 tA124 rfl rfl rfl h204 rfl rfl) (by decide) (fun _ _ _ q => absurd q (by decide)) ?_
   intro _ w207 hm206
   refine s_nil (by kernel_rfl) ?_
   refine qn_block (qn_then ?_)
   refine cw_region ?_
   refine t_mv rfl rfl ?_
   obtain ⟨x208, h209, q210⟩ := ob q205; clear q205
   refine t_rd rfl (rd_add64 h209 rfl rfl) (t_as rfl rfl (rwt_n ?_))
   refine ⟨_, (os q210), (by repeat (first | exact Sub.nil _ | refine Sub.cons rfl ?_)), (hm206.pick [0] (by decide) rfl)⟩
  ·refine cw_f rfl hb146 ?_
   refine cw_exit ?_
   refine qx_then (qx_then ?_)
   obtain rfl := hr141 _ (os q147)
   exact ⟨rfl, (by repeat (first | exact Sub.nil _ | refine Sub.cons rfl ?_)), (hm145.pick [0] (by decide) rfl)⟩
 ·skip
  intro e env211 w212 hX213
  obtain ⟨rfl, hs214, hm215⟩ := hX213
  refine qx_same ?_
  obtain rfl := os q144
  refine retn ?_
  refine ret_sub hs214 ?_
  exact ret0 rfl ⟨rfl, (hm215.pick [0] (by decide) rfl)⟩

theorem g_slices_rotateCmpFunc_api_Scheme_ok {N : Nat} {a0 : List T_Scheme} {a1 : Int} {a2 : Int} {a3 : Int} {res : List T_Scheme} (h : g_slices_rotateCmpFunc_api_Scheme N a0 a1 a2 a3 = some res) {w : World} {v0 : Value} (hk0 : (ownL 124 v0 (a0 : List T_Scheme)).φ w) :
  CallsR Tryz.prog 121 [v0, (Value.int .i64 a1), (Value.int .i64 a2), (Value.int .i64 a3), (Value.func (.func 81) #[] #[])] w (fun u w' => u = (Value.tuple #[]) ∧ Mem w (ownL 124 v0 (a0 : List T_Scheme)).D [ownL 124 v0 (res : List T_Scheme)] w') := by
 unfold g_slices_rotateCmpFunc_api_Scheme at h
 refine fn_ok Tryz.func121 rfl rfl rfl ?_
 have hm0 := Mem.one hk0
 refine cw_sr (t_mv rfl rfl (t_mv rfl rfl ?_))
 obtain ⟨x1, h2, q3⟩ := ob h; clear h
 refine t_rd rfl (rd_sub64 h2 rfl rfl) ?_
 refine t_as rfl rfl (rwt_n (cw_sr (t_mv rfl rfl (t_mv rfl rfl ?_))))
 obtain ⟨x4, h5, q6⟩ := ob q3; clear q3
 refine t_rd rfl (rd_sub64 h5 rfl rfl) ?_
 refine t_as rfl rfl (rwt_n (cw_seq (cw_block ?_)))
 obtain ⟨r89, hit90, q91⟩ := ob q6; clear q6
 refine cw_loop2 (I := fun q envq wq => Sub [(0, v0), (2, (Value.int .i64 a2)), (4, (Value.func (.func 81) #[] #[])), (10, (Value.int .i64 q.1)), (11, (Value.int .i64 q.2.1))] envq ∧ Mem w (ownL 124 v0 (a0 : List T_Scheme)).D [ownL 124 v0 (q.2.2 : List T_Scheme)] wq) (X := fun eq envq wq => eq = .exit 0 ∧ Sub [(0, v0), (2, (Value.int .i64 a2)), (4, (Value.func (.func 81) #[] #[])), (10, (Value.int .i64 r89.1))] envq ∧ Mem w (ownL 124 v0 (a0 : List T_Scheme)).D [ownL 124 v0 (r89.2 : List T_Scheme)] wq) hit90 ⟨(by repeat (first | exact Sub.nil _ | refine Sub.cons rfl ?_)), (hm0.pick [0] (by decide) rfl)⟩ ?_ ?_
 ·rintro ⟨i80, i81, l82⟩ x84 env85 w86 hf87 hr88 ⟨hs_, hm_⟩
  have hs_ : Sub [(0, v0), (2, (Value.int .i64 a2)), (4, (Value.func (.func 81) #[] #[])), (10, (Value.int .i64 i80)), (11, (Value.int .i64 i81))] env85 := hs_
  have hm92 : Mem w (ownL 124 v0 (a0 : List T_Scheme)).D [ownL 124 v0 (l82 : List T_Scheme)] w86 := hm_
  refine cw_sub hs_ ?_
  clear hs_ hm_ q91
  have h : g_slices_rotateCmpFunc_api_Scheme_l1 N a2 i80 i81 l82 = some x84 := hf87
  clear hf87
  refine cw_seq (cw_sr (t_mv rfl rfl (t_mv rfl rfl ?_)))
  refine t_rd rfl (rd_neq rfl rfl) ?_
  refine rwt_n ?_
  obtain ⟨hb93, q94⟩ | ⟨hb93, q94⟩ := oi h <;> clear h
  ·refine cw_t rfl hb93 (cw_skip (qn_then (cw_block (cw_sr (t_mv rfl rfl ?_)))))
   refine t_mv rfl rfl ?_
   refine t_rd rfl (rd_gtr rfl rfl) ?_
   refine rwt_n ?_
   obtain ⟨hb95, q96⟩ | ⟨hb95, q96⟩ := oi q94 <;> clear q94
   ·refine cw_t rfl hb95 (cw_sr (t_mv rfl rfl (t_mv rfl rfl (t_mv rfl rfl ?_))))
    obtain ⟨x97, h98, q99⟩ := ob q96; clear q96
    refine t_rd rfl (rd_sub64 h98 rfl rfl) ?_
    refine t_mv rfl rfl (t_mv rfl rfl (t_mv rfl rfl ?_))
    obtain ⟨r100, h101, q102⟩ := ob q99; clear q99
    refine t_ef rfl (ef_call tf137 rfl (g_slices_swapRangeCmpFunc_api_Scheme_ok h101 (hm92.get (k := 0) rfl))) ?_
    rintro _ w104 ⟨e_, hm103⟩
    obtain rfl := e_.symm
    have hm105 := hm92.callT (k := 0) rfl (fun _ h => h) hm103 (fun _ => Iff.rfl)
    refine rwt_n ?_
    refine cw_region ?_
    refine t_mv rfl rfl (t_mv rfl rfl ?_)
    obtain ⟨x106, h107, q108⟩ := ob q102; clear q102
    refine t_rd rfl (rd_sub64 h107 rfl rfl) ?_
    refine t_as rfl rfl ?_
    refine rwt_nil ?_
    refine qn_block (qn_then ?_)
    refine ⟨_, (os q108), (by repeat (first | exact Sub.nil _ | refine Sub.cons rfl ?_)), (hm105.pick [0] (by decide) rfl)⟩
   ·refine cw_f rfl hb95 (cw_sr (t_mv rfl rfl (t_mv rfl rfl (t_mv rfl rfl ?_))))
    obtain ⟨x109, h110, q111⟩ := ob q96; clear q96
    refine t_rd rfl (rd_sub64 h110 rfl rfl) ?_
    refine t_mv rfl rfl (t_mv rfl rfl ?_)
    obtain ⟨x112, h113, q114⟩ := ob q111; clear q111
    refine t_rd rfl (rd_add64 h113 rfl rfl) (t_mv rfl rfl ?_)
    obtain ⟨x115, h116, q117⟩ := ob q114; clear q114
    refine t_rd rfl (rd_sub64 h116 rfl rfl) ?_
    refine t_mv rfl rfl (t_mv rfl rfl ?_)
    obtain ⟨r118, h119, q120⟩ := ob q117; clear q117
    refine t_ef rfl (ef_call tf137 rfl (g_slices_swapRangeCmpFunc_api_Scheme_ok h119 (hm92.get (k := 0) rfl))) ?_
    rintro _ w122 ⟨e_, hm121⟩
    obtain rfl := e_.symm
    have hm123 := hm92.callT (k := 0) rfl (fun _ h => h) hm121 (fun _ => Iff.rfl)
    refine rwt_n ?_
    refine cw_region ?_
    refine t_mv rfl rfl (t_mv rfl rfl ?_)
    obtain ⟨x124, h125, q126⟩ := ob q120; clear q120
    refine t_rd rfl (rd_sub64 h125 rfl rfl) ?_
    refine t_as rfl rfl ?_
    refine rwt_nil ?_
    refine qn_block (qn_then ?_)
    refine ⟨_, (os q126), (by repeat (first | exact Sub.nil _ | refine Sub.cons rfl ?_)), (hm123.pick [0] (by decide) rfl)⟩
  ·refine cw_f rfl hb93 ?_
   refine cw_exit ?_
   refine qx_then (qx_then ?_)
   obtain rfl := hr88 _ (os q94)
   exact ⟨rfl, (by repeat (first | exact Sub.nil _ | refine Sub.cons rfl ?_)), (hm92.pick [0] (by decide) rfl)⟩
 ·skip
  intro e env127 w128 hX129
  obtain ⟨rfl, hs130, hm131⟩ := hX129
  refine qx_same (qn_then ?_)
  refine cw_sub hs130 ?_
  refine cw_region ?_
  refine t_mv rfl rfl (t_mv rfl rfl (t_mv rfl rfl ?_))
  obtain ⟨x132, h133, q134⟩ := ob q91; clear q91
  refine t_rd rfl (rd_sub64 h133 rfl rfl) ?_
  refine t_mv rfl rfl (t_mv rfl rfl (t_mv rfl rfl ?_))
  obtain ⟨r135, h136, q137⟩ := ob q134; clear q134
  refine t_ef rfl (ef_call tf137 rfl (g_slices_swapRangeCmpFunc_api_Scheme_ok h136 (hm131.get (k := 0) rfl))) ?_
  rintro _ w139 ⟨e_, hm138⟩
  obtain rfl := e_.symm
  have hm140 := hm131.callT (k := 0) rfl (fun _ h => h) hm138 (fun _ => Iff.rfl)
  refine rwt_nil ?_
  obtain rfl := os q137
  refine retn ?_
  exact ret0 rfl ⟨rfl, (hm140.pick [0] (by decide) rfl)⟩

theorem g_slices_symMergeCmpFunc_api_Scheme_r_ok {N : Nat} (M : Nat) : ∀ {a0 : List T_Scheme} {a1 : Int} {a2 : Int} {a3 : Int} {res : List T_Scheme} (h : g_slices_symMergeCmpFunc_api_Scheme_r N M a0 a1 a2 a3 = some res) {w : World} {v0 : Value} (hk0 : (ownL 124 v0 (a0 : List T_Scheme)).φ w),
  CallsR Tryz.prog 107 [v0, (Value.int .i64 a1), (Value.int .i64 a2), (Value.int .i64 a3), (Value.func (.func 81) #[] #[])] w (fun u w' => u = (Value.tuple #[]) ∧ Mem w (ownL 124 v0 (a0 : List T_Scheme)).D [ownL 124 v0 (res : List T_Scheme)] w') := by
 induction M with
 | zero =>
  intro a0 a1 a2 a3 res h
  rw [g_slices_symMergeCmpFunc_api_Scheme_r] at h
  cases h
 | succ M ih =>
 intro a0 a1 a2 a3 res h w v0 hk0
 rw [g_slices_symMergeCmpFunc_api_Scheme_r] at h
 refine fn_ok Tryz.func107 rfl rfl rfl ?_
 have hm0 := Mem.one hk0
 refine cw_seq (cw_sr (t_mv rfl rfl (t_mv rfl rfl ?_)))
 obtain ⟨x1, h2, q3⟩ := ob h; clear h
 refine t_rd rfl (rd_sub64 h2 rfl rfl) ?_
 refine t_rd rfl (rd_eql rfl rfl) ?_
 refine rwt_n ?_
 obtain ⟨hb4, q5⟩ | ⟨hb4, q5⟩ := oi q3 <;> clear q3
 ·refine cw_t rfl hb4 (cw_sr (t_mv rfl rfl (t_as rfl rfl (rwt_n (cw_sr (t_mv rfl rfl ?_))))))
  refine t_as rfl rfl (rwt_n (cw_seq (cw_block ?_)))
  obtain ⟨r105, hit106, q107⟩ := ob q5; clear q5
  refine cw_loop2 (I := fun q envq wq => Sub [(0, v0), (1, (Value.int .i64 a1)), (4, (Value.func (.func 81) #[] #[])), (10, (Value.int .i64 q.1)), (11, (Value.int .i64 q.2))] envq ∧ Mem w (ownL 124 v0 (a0 : List T_Scheme)).D [ownL 124 v0 (a0 : List T_Scheme)] wq) (X := fun eq envq wq => eq = .exit 0 ∧ Sub [(0, v0), (1, (Value.int .i64 a1)), (10, (Value.int .i64 r105))] envq ∧ Mem w (ownL 124 v0 (a0 : List T_Scheme)).D [ownL 124 v0 (a0 : List T_Scheme)] wq) hit106 ⟨(by repeat (first | exact Sub.nil _ | refine Sub.cons rfl ?_)), (hm0.pick [0] (by decide) rfl)⟩ ?_ ?_
  ·rintro ⟨i97, i98⟩ x100 env101 w102 hf103 hr104 ⟨hs_, hm_⟩
   have hs_ : Sub [(0, v0), (1, (Value.int .i64 a1)), (4, (Value.func (.func 81) #[] #[])), (10, (Value.int .i64 i97)), (11, (Value.int .i64 i98))] env101 := hs_
   have hm108 : Mem w (ownL 124 v0 (a0 : List T_Scheme)).D [ownL 124 v0 (a0 : List T_Scheme)] w102 := hm_
   refine cw_sub hs_ ?_
   clear hs_ hm_ q107
   have h : g_slices_symMergeCmpFunc_api_Scheme_l1 N a0 a1 i97 i98 = some x100 := hf103
   clear hf103
   refine cw_seq (cw_sr (t_mv rfl rfl (t_mv rfl rfl (t_rd rfl (rd_lss rfl rfl) (rwt_n ?_)))))
   obtain ⟨hb109, q110⟩ | ⟨hb109, q110⟩ := oi h <;> clear h
   ·refine cw_t rfl hb109 (cw_skip (qn_then (cw_block (cw_sr (t_mv rfl rfl ?_)))))
    refine t_mv rfl rfl ?_
    obtain ⟨x111, h112, q113⟩ := ob q110; clear q110
    refine t_rd rfl (rd_add64 h112 rfl rfl) ?_
    refine t_rd rfl (rd_cvu64 tH3 tI107 rfl) ?_
    obtain ⟨x114, h115, q116⟩ := ob q113; clear q113
    refine t_rd rfl (rd_shr_u64 h115 rfl rfl) ?_
    obtain ⟨x117, h118, q119⟩ := ob q116; clear q116
    refine t_rd rfl (rd_cv64 tH107 tI3 h118 rfl) ?_
    refine t_as rfl rfl (rwt_n (cw_seq ?_))
    obtain ⟨w133, he135⟩ : ∃ q, q = w102.drew := ⟨_, rfl⟩
    have hm134 := hm108.drew; rw [← he135] at hm134
    refine cw_region_s (fun q => q = w133) (cls [] [9]) mixed ?_
    rintro _ rfl; rw [← he135]
    refine s_rp (i := 0) rfl (by kernel_rfl) rfl (fun _ => (rd_move rfl)) ?_
    refine s_rp (i := 1) rfl (by kernel_rfl) rfl (fun _ => (rd_move rfl)) ?_
    refine s_rp (i := 2) rfl (by kernel_rfl) rfl (fun _ => (rd_move rfl)) ?_
    obtain ⟨x136, h137, q138⟩ := ob q119; clear q119
    refine s_rp (i := 3) rfl (by kernel_rfl) rfl (fun _ => (rd_index tS120 rfl rfl (hm134.sl 0 rfl) h137)) ?_
    refine s_rd (i := 4) rfl (by kernel_rfl) rfl (fun _ hS => by rw [hS]; exact (rd_ld tA124 rfl ((hm134.sl 0 rfl).cells h137) rfl)) rfl ?_
    refine s_rp (i := 5) rfl (by kernel_rfl) rfl (fun _ => (rd_move rfl)) ?_
    refine s_rp (i := 6) rfl (by kernel_rfl) rfl (fun _ => (rd_move rfl)) ?_
    obtain ⟨x139, h140, q141⟩ := ob q138; clear q138
    refine s_rp (i := 7) rfl (by kernel_rfl) rfl (fun _ => (rd_index tS120 rfl rfl (hm134.sl 0 rfl) h140)) ?_
    refine s_rd (i := 8) rfl (by kernel_rfl) rfl (fun _ hS => by rw [hS]; exact (rd_ld tA124 rfl ((hm134.sl 0 rfl).cells h140) rfl)) rfl ?_
    obtain ⟨r142, h143, q144⟩ := ob q141; clear q141
    refine s_ef (i := 9) rfl (by kernel_rfl) rfl (ef_callv tf81 rfl rfl (planner_Schemes_1_ok h143)) (by decide) (fun _ _ _ q => absurd q (by decide)) ?_
    rintro _ w146 ⟨e_, hm145⟩
    obtain rfl := e_.symm
    have hm147 := hm134.call hm145
    refine s_rp (i := 10) rfl (by kernel_rfl) rfl (fun _ => (rd_lss rfl rfl)) ?_
    refine s_nil (by kernel_rfl) ?_
    refine qn_then ?_
    obtain ⟨hb148, q149⟩ | ⟨hb148, q149⟩ := oi q144 <;> clear q144
    ·refine cw_t rfl hb148 ?_
     refine cw_region ?_
     refine t_mv rfl rfl ?_
     obtain ⟨x150, h151, q152⟩ := ob q149; clear q149
     refine t_rd rfl (rd_add64 h151 rfl rfl) (t_as rfl rfl ?_)
     refine rwt_nil ?_
     refine qn_block (qn_then ?_)
     refine ⟨_, (os q152), (by repeat (first | exact Sub.nil _ | refine Sub.cons rfl ?_)), (hm147.pick [0] (by decide) rfl)⟩
    ·refine cw_f rfl hb148 ?_
     refine cw_region ?_
     refine t_mv rfl rfl (t_as rfl rfl ?_)
     refine rwt_nil ?_
     refine qn_block (qn_then ?_)
     refine ⟨_, (os q149), (by repeat (first | exact Sub.nil _ | refine Sub.cons rfl ?_)), (hm147.pick [0] (by decide) rfl)⟩
   ·refine cw_f rfl hb109 ?_
    refine cw_exit ?_
    refine qx_then (qx_then ?_)
    obtain rfl := hr104 _ (os q110)
    exact ⟨rfl, (by repeat (first | exact Sub.nil _ | refine Sub.cons rfl ?_)), (hm108.pick [0] (by decide) rfl)⟩
  ·skip
   intro e env153 w154 hX155
   obtain ⟨rfl, hs156, hm157⟩ := hX155
   refine qx_same (qn_then ?_)
   refine cw_sub hs156 ?_
   refine cw_seq (cw_sr (t_mv rfl rfl (t_as rfl rfl (rwt_n (cw_block ?_)))))
   obtain ⟨r281, hit282, q283⟩ := ob q107; clear q107
   refine cw_loop2 (I := fun q envq wq => Sub [(0, v0), (10, (Value.int .i64 r105)), (13, (Value.int .i64 q.1))] envq ∧ Mem w (ownL 124 v0 (a0 : List T_Scheme)).D [ownL 124 v0 (q.2 : List T_Scheme)] wq) (X := fun eq envq wq => eq = .exit 2 ∧ Sub [] envq ∧ Mem w (ownL 124 v0 (a0 : List T_Scheme)).D [ownL 124 v0 (r281 : List T_Scheme)] wq) hit282 ⟨(by repeat (first | exact Sub.nil _ | refine Sub.cons rfl ?_)), (hm157.pick [0] (by decide) rfl)⟩ ?_ ?_
   ·rintro ⟨i273, l274⟩ x276 env277 w278 hf279 hr280 ⟨hs_, hm_⟩
    have hs_ : Sub [(0, v0), (10, (Value.int .i64 r105)), (13, (Value.int .i64 i273))] env277 := hs_
    have hm284 : Mem w (ownL 124 v0 (a0 : List T_Scheme)).D [ownL 124 v0 (l274 : List T_Scheme)] w278 := hm_
    refine cw_sub hs_ ?_
    clear hs_ hm_ q283
    have h : g_slices_symMergeCmpFunc_api_Scheme_l2 N r105 i273 l274 = some x276 := hf279
    clear hf279
    refine cw_seq (cw_sr (t_mv rfl rfl (t_mv rfl rfl ?_)))
    obtain ⟨x285, h286, q287⟩ := ob h; clear h
    refine t_rd rfl (rd_sub64 h286 rfl rfl) ?_
    refine t_rd rfl (rd_lss rfl rfl) (rwt_n ?_)
    obtain ⟨hb288, q289⟩ | ⟨hb288, q289⟩ := oi q287 <;> clear q287
    ·refine cw_t rfl hb288 (cw_skip (qn_then (cw_seq (cw_block ?_))))
     obtain ⟨w313, he315⟩ : ∃ q, q = w278.drew := ⟨_, rfl⟩
     have hm314 := hm284.drew; rw [← he315] at hm314
     refine cw_region_s (fun q => q = w313) (cls [] [15, 17]) mixed ?_
     rintro _ rfl; rw [← he315]
     refine s_rp (i := 0) rfl (by kernel_rfl) rfl (fun _ => (rd_move rfl)) ?_
     refine s_rp (i := 1) rfl (by kernel_rfl) rfl (fun _ => (rd_move rfl)) ?_
     refine s_rp (i := 2) rfl (by kernel_rfl) rfl (fun _ => (rd_move rfl)) ?_
     refine s_rp (i := 3) rfl (by kernel_rfl) rfl (fun _ => (rd_move rfl)) ?_
     obtain ⟨x316, h317, q318⟩ := ob q289; clear q289
     refine s_rp (i := 4) rfl (by kernel_rfl) rfl (fun _ => (rd_add64 h317 rfl rfl)) ?_
     refine s_rp (i := 5) rfl (by kernel_rfl) rfl (fun _ => (rd_move rfl)) ?_
     refine s_rp (i := 6) rfl (by kernel_rfl) rfl (fun _ => (rd_move rfl)) ?_
     obtain ⟨x319, h320, q321⟩ := ob q318; clear q318
     refine s_rp (i := 7) rfl (by kernel_rfl) rfl (fun _ => (rd_add64 h320 rfl rfl)) ?_
     obtain ⟨x322, h323, q324⟩ := ob q321; clear q321
     refine s_rp (i := 8) rfl (by kernel_rfl) rfl (fun _ => (rd_index tS120 rfl rfl (hm314.sl 0 rfl) h323)) ?_
     refine s_rd (i := 9) rfl (by kernel_rfl) rfl (fun _ hS => by rw [hS]; exact (rd_ld tA124 rfl ((hm314.sl 0 rfl).cells h323) rfl)) rfl ?_
     refine s_rp (i := 10) rfl (by kernel_rfl) rfl (fun _ => (rd_move rfl)) ?_
     refine s_rp (i := 11) rfl (by kernel_rfl) rfl (fun _ => (rd_move rfl)) ?_
     obtain ⟨x325, h326, q327⟩ := ob q324; clear q324
     refine s_rp (i := 12) rfl (by kernel_rfl) rfl (fun _ => (rd_index tS120 rfl rfl (hm314.sl 0 rfl) h326)) ?_
     refine s_rd (i := 13) rfl (by kernel_rfl) rfl (fun _ hS => by rw [hS]; exact (rd_ld tA124 rfl ((hm314.sl 0 rfl).cells h326) rfl)) rfl ?_
     obtain ⟨x328, h329, q330⟩ := ob q327; clear q327
     refine s_rp (i := 14) rfl (by kernel_rfl) rfl (fun _ => (rd_index tS120 rfl rfl (hm314.sl 0 rfl) h329)) ?_
     refine s_ef0 (i := 15) rfl (by kernel_rfl) (ef_stlw (k := 0) (x' := x322) hm314 tA124 rfl rfl rfl h329 rfl rfl) (by decide) (fun _ _ _ q => absurd q (by decide)) ?_
     intro _ w332 hm331
     obtain ⟨x333, h334, q335⟩ := ob q330; clear q330
     refine s_rp (i := 16) rfl (by kernel_rfl) rfl (fun _ => (rd_index tS120 rfl rfl (hm331.sl 0 rfl) h334)) ?_
     refine s_ef0 (i := 17) rfl (by kernel_rfl) (ef_stlw (k := 0) (x' := x325) hm331 tA124 rfl rfl rfl h334 rfl rfl) (by decide) (fun _ _ _ q => absurd q (by decide)) ?_
     intro _ w337 hm336
     refine s_nil (by kernel_rfl) ?_
     refine qn_block (qn_then ?_)
     refine cw_region ?_
     refine t_mv rfl rfl ?_
     obtain ⟨x338, h339, q340⟩ := ob q335; clear q335
     refine t_rd rfl (rd_add64 h339 rfl rfl) (t_as rfl rfl (rwt_n ?_))
     refine ⟨_, (os q340), (by repeat (first | exact Sub.nil _ | refine Sub.cons rfl ?_)), (hm336.pick [0] (by decide) rfl)⟩
    ·refine cw_f rfl hb288 ?_
     refine cw_exit ?_
     refine qx_then (qx_then ?_)
     obtain rfl := hr280 _ (os q289)
     exact ⟨rfl, (by repeat (first | exact Sub.nil _ | refine Sub.cons rfl ?_)), (hm284.pick [0] (by decide) rfl)⟩
   ·skip
    intro e env341 w342 hX343
    obtain ⟨rfl, hs344, hm345⟩ := hX343
    refine qx_same (qn_then ?_)
    refine cw_sub hs344 ?_
    refine cw_ret ?_
    refine qr_then ?_
    obtain rfl := os q283
    exact ret0 rfl ⟨rfl, (hm345.pick [0] (by decide) rfl)⟩
 ·refine cw_f rfl hb4 (cw_skip (qn_then (cw_seq (cw_sr (t_mv rfl rfl ?_)))))
  refine t_mv rfl rfl ?_
  obtain ⟨x346, h347, q348⟩ := ob q5; clear q5
  refine t_rd rfl (rd_sub64 h347 rfl rfl) ?_
  refine t_rd rfl (rd_eql rfl rfl) ?_
  refine rwt_n ?_
  obtain ⟨hb349, q350⟩ | ⟨hb349, q350⟩ := oi q348 <;> clear q348
  ·refine cw_t rfl hb349 (cw_sr (t_mv rfl rfl (t_as rfl rfl (rwt_n (cw_sr (t_mv rfl rfl ?_))))))
   refine t_as rfl rfl (rwt_n (cw_seq (cw_block ?_)))
   obtain ⟨r450, hit451, q452⟩ := ob q350; clear q350
   refine cw_loop2 (I := fun q envq wq => Sub [(0, v0), (2, (Value.int .i64 a2)), (4, (Value.func (.func 81) #[] #[])), (14, (Value.int .i64 q.1)), (15, (Value.int .i64 q.2))] envq ∧ Mem w (ownL 124 v0 (a0 : List T_Scheme)).D [ownL 124 v0 (a0 : List T_Scheme)] wq) (X := fun eq envq wq => eq = .exit 4 ∧ Sub [(0, v0), (2, (Value.int .i64 a2)), (14, (Value.int .i64 r450))] envq ∧ Mem w (ownL 124 v0 (a0 : List T_Scheme)).D [ownL 124 v0 (a0 : List T_Scheme)] wq) hit451 ⟨(by repeat (first | exact Sub.nil _ | refine Sub.cons rfl ?_)), (hm0.pick [0] (by decide) rfl)⟩ ?_ ?_
   ·rintro ⟨i442, i443⟩ x445 env446 w447 hf448 hr449 ⟨hs_, hm_⟩
    have hs_ : Sub [(0, v0), (2, (Value.int .i64 a2)), (4, (Value.func (.func 81) #[] #[])), (14, (Value.int .i64 i442)), (15, (Value.int .i64 i443))] env446 := hs_
    have hm453 : Mem w (ownL 124 v0 (a0 : List T_Scheme)).D [ownL 124 v0 (a0 : List T_Scheme)] w447 := hm_
    refine cw_sub hs_ ?_
    clear hs_ hm_ q452
    have h : g_slices_symMergeCmpFunc_api_Scheme_l3 N a0 a2 i442 i443 = some x445 := hf448
    clear hf448
    refine cw_seq (cw_sr (t_mv rfl rfl (t_mv rfl rfl (t_rd rfl (rd_lss rfl rfl) (rwt_n ?_)))))
    obtain ⟨hb454, q455⟩ | ⟨hb454, q455⟩ := oi h <;> clear h
    ·refine cw_t rfl hb454 (cw_skip (qn_then (cw_block (cw_sr (t_mv rfl rfl ?_)))))
     refine t_mv rfl rfl ?_
     obtain ⟨x456, h457, q458⟩ := ob q455; clear q455
     refine t_rd rfl (rd_add64 h457 rfl rfl) ?_
     refine t_rd rfl (rd_cvu64 tH3 tI107 rfl) ?_
     obtain ⟨x459, h460, q461⟩ := ob q458; clear q458
     refine t_rd rfl (rd_shr_u64 h460 rfl rfl) ?_
     obtain ⟨x462, h463, q464⟩ := ob q461; clear q461
     refine t_rd rfl (rd_cv64 tH107 tI3 h463 rfl) ?_
     refine t_as rfl rfl (rwt_n (cw_seq ?_))
     obtain ⟨w478, he480⟩ : ∃ q, q = w447.drew := ⟨_, rfl⟩
     have hm479 := hm453.drew; rw [← he480] at hm479
     refine cw_region_s (fun q => q = w478) (cls [] [9]) mixed ?_
     rintro _ rfl; rw [← he480]
     refine s_rp (i := 0) rfl (by kernel_rfl) rfl (fun _ => (rd_move rfl)) ?_
     refine s_rp (i := 1) rfl (by kernel_rfl) rfl (fun _ => (rd_move rfl)) ?_
     refine s_rp (i := 2) rfl (by kernel_rfl) rfl (fun _ => (rd_move rfl)) ?_
     obtain ⟨x481, h482, q483⟩ := ob q464; clear q464
     refine s_rp (i := 3) rfl (by kernel_rfl) rfl (fun _ => (rd_index tS120 rfl rfl (hm479.sl 0 rfl) h482)) ?_
     refine s_rd (i := 4) rfl (by kernel_rfl) rfl (fun _ hS => by rw [hS]; exact (rd_ld tA124 rfl ((hm479.sl 0 rfl).cells h482) rfl)) rfl ?_
     refine s_rp (i := 5) rfl (by kernel_rfl) rfl (fun _ => (rd_move rfl)) ?_
     refine s_rp (i := 6) rfl (by kernel_rfl) rfl (fun _ => (rd_move rfl)) ?_
     obtain ⟨x484, h485, q486⟩ := ob q483; clear q483
     refine s_rp (i := 7) rfl (by kernel_rfl) rfl (fun _ => (rd_index tS120 rfl rfl (hm479.sl 0 rfl) h485)) ?_
     refine s_rd (i := 8) rfl (by kernel_rfl) rfl (fun _ hS => by rw [hS]; exact (rd_ld tA124 rfl ((hm479.sl 0 rfl).cells h485) rfl)) rfl ?_
     obtain ⟨r487, h488, q489⟩ := ob q486; clear q486
     refine s_ef (i := 9) rfl (by kernel_rfl) rfl (ef_callv tf81 rfl rfl (planner_Schemes_1_ok h488)) (by decide) (fun _ _ _ q => absurd q (by decide)) ?_
     rintro _ w491 ⟨e_, hm490⟩
     obtain rfl := e_.symm
     have hm492 := hm479.call hm490
     refine s_rp (i := 10) rfl (by kernel_rfl) rfl (fun _ => (rd_lss rfl rfl)) ?_
     refine s_rp (i := 11) rfl (by kernel_rfl) rfl (fun _ => (rd_not rfl)) ?_
     refine s_nil (by kernel_rfl) ?_
     refine qn_then ?_
     obtain ⟨hb493, q494⟩ | ⟨hb493, q494⟩ := oi q489 <;> clear q489
     ·refine cw_t rfl hb493 ?_
      refine cw_region ?_
      refine t_mv rfl rfl ?_
      obtain ⟨x495, h496, q497⟩ := ob q494; clear q494
      refine t_rd rfl (rd_add64 h496 rfl rfl) (t_as rfl rfl ?_)
      refine rwt_nil ?_
      refine qn_block (qn_then ?_)
      refine ⟨_, (os q497), (by repeat (first | exact Sub.nil _ | refine Sub.cons rfl ?_)), (hm492.pick [0] (by decide) rfl)⟩
     ·refine cw_f rfl hb493 ?_
      refine cw_region ?_
      refine t_mv rfl rfl (t_as rfl rfl ?_)
      refine rwt_nil ?_
      refine qn_block (qn_then ?_)
      refine ⟨_, (os q494), (by repeat (first | exact Sub.nil _ | refine Sub.cons rfl ?_)), (hm492.pick [0] (by decide) rfl)⟩
    ·refine cw_f rfl hb454 ?_
     refine cw_exit ?_
     refine qx_then (qx_then ?_)
     obtain rfl := hr449 _ (os q455)
     exact ⟨rfl, (by repeat (first | exact Sub.nil _ | refine Sub.cons rfl ?_)), (hm453.pick [0] (by decide) rfl)⟩
   ·skip
    intro e env498 w499 hX500
    obtain ⟨rfl, hs501, hm502⟩ := hX500
    refine qx_same (qn_then ?_)
    refine cw_sub hs501 ?_
    refine cw_seq (cw_sr (t_mv rfl rfl (t_as rfl rfl (rwt_n (cw_block ?_)))))
    obtain ⟨r620, hit621, q622⟩ := ob q452; clear q452
    refine cw_loop2 (I := fun q envq wq => Sub [(0, v0), (14, (Value.int .i64 r450)), (17, (Value.int .i64 q.1))] envq ∧ Mem w (ownL 124 v0 (a0 : List T_Scheme)).D [ownL 124 v0 (q.2 : List T_Scheme)] wq) (X := fun eq envq wq => eq = .exit 6 ∧ Sub [] envq ∧ Mem w (ownL 124 v0 (a0 : List T_Scheme)).D [ownL 124 v0 (r620 : List T_Scheme)] wq) hit621 ⟨(by repeat (first | exact Sub.nil _ | refine Sub.cons rfl ?_)), (hm502.pick [0] (by decide) rfl)⟩ ?_ ?_
    ·rintro ⟨i612, l613⟩ x615 env616 w617 hf618 hr619 ⟨hs_, hm_⟩
     have hs_ : Sub [(0, v0), (14, (Value.int .i64 r450)), (17, (Value.int .i64 i612))] env616 := hs_
     have hm623 : Mem w (ownL 124 v0 (a0 : List T_Scheme)).D [ownL 124 v0 (l613 : List T_Scheme)] w617 := hm_
     refine cw_sub hs_ ?_
     clear hs_ hm_ q622
     have h : g_slices_symMergeCmpFunc_api_Scheme_l4 N r450 i612 l613 = some x615 := hf618
     clear hf618
     refine cw_seq (cw_sr (t_mv rfl rfl (t_mv rfl rfl ?_)))
     refine t_rd rfl (rd_gtr rfl rfl) ?_
     refine rwt_n ?_
     obtain ⟨hb624, q625⟩ | ⟨hb624, q625⟩ := oi h <;> clear h
     ·refine cw_t rfl hb624 (cw_skip (qn_then (cw_seq (cw_block ?_))))
      obtain ⟨w649, he651⟩ : ∃ q, q = w617.drew := ⟨_, rfl⟩
      have hm650 := hm623.drew; rw [← he651] at hm650
      refine cw_region_s (fun q => q = w649) (cls [] [15, 17]) mixed ?_
      rintro _ rfl; rw [← he651]
      refine s_rp (i := 0) rfl (by kernel_rfl) rfl (fun _ => (rd_move rfl)) ?_
      refine s_rp (i := 1) rfl (by kernel_rfl) rfl (fun _ => (rd_move rfl)) ?_
      refine s_rp (i := 2) rfl (by kernel_rfl) rfl (fun _ => (rd_move rfl)) ?_
      refine s_rp (i := 3) rfl (by kernel_rfl) rfl (fun _ => (rd_move rfl)) ?_
      obtain ⟨x652, h653, q654⟩ := ob q625; clear q625
      refine s_rp (i := 4) rfl (by kernel_rfl) rfl (fun _ => (rd_sub64 h653 rfl rfl)) ?_
      refine s_rp (i := 5) rfl (by kernel_rfl) rfl (fun _ => (rd_move rfl)) ?_
      refine s_rp (i := 6) rfl (by kernel_rfl) rfl (fun _ => (rd_move rfl)) ?_
      obtain ⟨x655, h656, q657⟩ := ob q654; clear q654
      refine s_rp (i := 7) rfl (by kernel_rfl) rfl (fun _ => (rd_sub64 h656 rfl rfl)) ?_
      obtain ⟨x658, h659, q660⟩ := ob q657; clear q657
      refine s_rp (i := 8) rfl (by kernel_rfl) rfl (fun _ => (rd_index tS120 rfl rfl (hm650.sl 0 rfl) h659)) ?_
      refine s_rd (i := 9) rfl (by kernel_rfl) rfl (fun _ hS => by rw [hS]; exact (rd_ld tA124 rfl ((hm650.sl 0 rfl).cells h659) rfl)) rfl ?_
      refine s_rp (i := 10) rfl (by kernel_rfl) rfl (fun _ => (rd_move rfl)) ?_
      refine s_rp (i := 11) rfl (by kernel_rfl) rfl (fun _ => (rd_move rfl)) ?_
      obtain ⟨x661, h662, q663⟩ := ob q660; clear q660
      refine s_rp (i := 12) rfl (by kernel_rfl) rfl (fun _ => (rd_index tS120 rfl rfl (hm650.sl 0 rfl) h662)) ?_
      refine s_rd (i := 13) rfl (by kernel_rfl) rfl (fun _ hS => by rw [hS]; exact (rd_ld tA124 rfl ((hm650.sl 0 rfl).cells h662) rfl)) rfl ?_
      obtain ⟨x664, h665, q666⟩ := ob q663; clear q663
      refine s_rp (i := 14) rfl (by kernel_rfl) rfl (fun _ => (rd_index tS120 rfl rfl (hm650.sl 0 rfl) h665)) ?_
      refine s_ef0 (i := 15) rfl (by kernel_rfl) (ef_stlw (k := 0) (x' := x658) hm650 tA124 rfl rfl rfl h665 rfl rfl) (by decide) (fun _ _ _ q => absurd q (by decide)) ?_
      intro _ w668 hm667
      obtain ⟨x669, h670, q671⟩ := ob q666; clear q666
      refine s_rp (i := 16) rfl (by kernel_rfl) rfl (fun _ => (rd_index tS120 rfl rfl (hm667.sl 0 rfl) h670)) ?_
      refine s_ef0 (i := 17) rfl (by kernel_rfl) (ef_stlw (k := 0) (x' := x661) hm667 tA124 rfl rfl rfl h670 rfl rfl) (by decide) (fun _ _ _ q => absurd q (by decide)) ?_
      intro _ w673 hm672
      refine s_nil (by kernel_rfl) ?_
      refine qn_block (qn_then ?_)
      refine cw_region ?_
      refine t_mv rfl rfl ?_
      obtain ⟨x674, h675, q676⟩ := ob q671; clear q671
      refine t_rd rfl (rd_sub64 h675 rfl rfl) ?_
      refine t_as rfl rfl (rwt_n ?_)
      refine ⟨_, (os q676), (by repeat (first | exact Sub.nil _ | refine Sub.cons rfl ?_)), (hm672.pick [0] (by decide) rfl)⟩
     ·refine cw_f rfl hb624 ?_
      refine cw_exit ?_
      refine qx_then (qx_then ?_)
      obtain rfl := hr619 _ (os q625)
      exact ⟨rfl, (by repeat (first | exact Sub.nil _ | refine Sub.cons rfl ?_)), (hm623.pick [0] (by decide) rfl)⟩
    ·skip
     intro e env677 w678 hX679
     obtain ⟨rfl, hs680, hm681⟩ := hX679
     refine qx_same (qn_then ?_)
     refine cw_sub hs680 ?_
     refine cw_ret ?_
     refine qr_then ?_
     obtain rfl := os q622
     exact ret0 rfl ⟨rfl, (hm681.pick [0] (by decide) rfl)⟩
  ·refine cw_f rfl hb349 (cw_skip (qn_then (cw_sr (t_mv rfl rfl (t_mv rfl rfl ?_)))))
   obtain ⟨x682, h683, q684⟩ := ob q350; clear q350
   refine t_rd rfl (rd_add64 h683 rfl rfl) ?_
   refine t_rd rfl (rd_cvu64 tH3 tI107 rfl) ?_
   obtain ⟨x685, h686, q687⟩ := ob q684; clear q684
   refine t_rd rfl (rd_shr_u64 h686 rfl rfl) ?_
   obtain ⟨x688, h689, q690⟩ := ob q687; clear q687
   refine t_rd rfl (rd_cv64 tH107 tI3 h689 rfl) ?_
   refine t_as rfl rfl (rwt_n (cw_sr (t_mv rfl rfl (t_mv rfl rfl ?_))))
   obtain ⟨x691, h692, q693⟩ := ob q690; clear q690
   refine t_rd rfl (rd_add64 h692 rfl rfl) (t_as rfl rfl (rwt_n (cw_sr (t_as rfl rfl (t_as rfl rfl (rwt_n ?_))))))
   refine cw_seq (cw_sr (t_mv rfl rfl (t_mv rfl rfl ?_)))
   refine t_rd rfl (rd_gtr rfl rfl) ?_
   refine rwt_n ?_
   obtain ⟨j701, hit702, q703⟩ := ob q693; clear q693
   refine cw_join (X := fun eq envq wq => eq = .normal ∧ Sub [(0, v0), (1, (Value.int .i64 a1)), (2, (Value.int .i64 a2)), (3, (Value.int .i64 a3)), (4, (Value.func (.func 81) #[] #[])), (18, (Value.int .i64 x688)), (19, (Value.int .i64 x691)), (20, (Value.int .i64 j701.1)), (21, (Value.int .i64 j701.2))] envq ∧ Mem w (ownL 124 v0 (a0 : List T_Scheme)).D [ownL 124 v0 (a0 : List T_Scheme)] wq) ?_ ?_
   ·clear q703
    obtain ⟨hb704, q705⟩ | ⟨hb704, q705⟩ := oi hit702 <;> clear hit702
    ·refine cw_t rfl hb704 (cw_sr (t_mv rfl rfl (t_mv rfl rfl ?_)))
     obtain ⟨x706, h707, q708⟩ := ob q705; clear q705
     refine t_rd rfl (rd_sub64 h707 rfl rfl) ?_
     refine t_as rfl rfl (rwt_n ?_)
     refine cw_region ?_
     refine t_mv rfl rfl (t_as rfl rfl ?_)
     refine rwt_nil ?_
     obtain rfl := os q708
     exact ⟨rfl, (by repeat (first | exact Sub.nil _ | refine Sub.cons rfl ?_)), (hm0.pick [0] (by decide) rfl)⟩
    ·refine cw_f rfl hb704 (cw_sr (t_mv rfl rfl (t_as rfl rfl (rwt_n ?_))))
     refine cw_region ?_
     refine t_mv rfl rfl (t_as rfl rfl ?_)
     refine rwt_nil ?_
     obtain rfl := os q705
     exact ⟨rfl, (by repeat (first | exact Sub.nil _ | refine Sub.cons rfl ?_)), (hm0.pick [0] (by decide) rfl)⟩
   ·clear hit702
    intro e env709 w710 hX711
    obtain ⟨rfl, hs712, hm713⟩ := hX711
    refine qn_then ?_
    refine cw_sub hs712 ?_
    refine cw_sr (t_mv rfl rfl ?_)
    obtain ⟨x714, h715, q716⟩ := ob q703; clear q703
    refine t_rd rfl (rd_sub64 h715 rfl rfl) ?_
    refine t_as rfl rfl (rwt_n (cw_seq (cw_block ?_)))
    obtain ⟨r828, hit829, q830⟩ := ob q716; clear q716
    refine cw_loop2 (I := fun q envq wq => Sub [(0, v0), (1, (Value.int .i64 a1)), (2, (Value.int .i64 a2)), (3, (Value.int .i64 a3)), (4, (Value.func (.func 81) #[] #[])), (18, (Value.int .i64 x688)), (19, (Value.int .i64 x691)), (20, (Value.int .i64 q.1)), (21, (Value.int .i64 q.2)), (22, (Value.int .i64 x714))] envq ∧ Mem w (ownL 124 v0 (a0 : List T_Scheme)).D [ownL 124 v0 (a0 : List T_Scheme)] wq) (X := fun eq envq wq => eq = .exit 8 ∧ Sub [(0, v0), (1, (Value.int .i64 a1)), (2, (Value.int .i64 a2)), (3, (Value.int .i64 a3)), (4, (Value.func (.func 81) #[] #[])), (18, (Value.int .i64 x688)), (19, (Value.int .i64 x691)), (20, (Value.int .i64 r828))] envq ∧ Mem w (ownL 124 v0 (a0 : List T_Scheme)).D [ownL 124 v0 (a0 : List T_Scheme)] wq) hit829 ⟨(by repeat (first | exact Sub.nil _ | refine Sub.cons rfl ?_)), (hm713.pick [0] (by decide) rfl)⟩ ?_ ?_
    ·rintro ⟨i820, i821⟩ x823 env824 w825 hf826 hr827 ⟨hs_, hm_⟩
     have hs_ : Sub [(0, v0), (1, (Value.int .i64 a1)), (2, (Value.int .i64 a2)), (3, (Value.int .i64 a3)), (4, (Value.func (.func 81) #[] #[])), (18, (Value.int .i64 x688)), (19, (Value.int .i64 x691)), (20, (Value.int .i64 i820)), (21, (Value.int .i64 i821)), (22, (Value.int .i64 x714))] env824 := hs_
     have hm831 : Mem w (ownL 124 v0 (a0 : List T_Scheme)).D [ownL 124 v0 (a0 : List T_Scheme)] w825 := hm_
     refine cw_sub hs_ ?_
     clear hs_ hm_ q830
     have h : g_slices_symMergeCmpFunc_api_Scheme_l5 N a0 x714 i820 i821 = some x823 := hf826
     clear hf826
     refine cw_seq (cw_sr (t_mv rfl rfl (t_mv rfl rfl (t_rd rfl (rd_lss rfl rfl) (rwt_n ?_)))))
     obtain ⟨hb832, q833⟩ | ⟨hb832, q833⟩ := oi h <;> clear h
     ·refine cw_t rfl hb832 (cw_skip (qn_then (cw_block (cw_sr (t_mv rfl rfl ?_)))))
      refine t_mv rfl rfl ?_
      obtain ⟨x834, h835, q836⟩ := ob q833; clear q833
      refine t_rd rfl (rd_add64 h835 rfl rfl) ?_
      refine t_rd rfl (rd_cvu64 tH3 tI107 rfl) ?_
      obtain ⟨x837, h838, q839⟩ := ob q836; clear q836
      refine t_rd rfl (rd_shr_u64 h838 rfl rfl) ?_
      obtain ⟨x840, h841, q842⟩ := ob q839; clear q839
      refine t_rd rfl (rd_cv64 tH107 tI3 h841 rfl) ?_
      refine t_as rfl rfl (rwt_n (cw_seq ?_))
      obtain ⟨w859, he861⟩ : ∃ q, q = w825.drew := ⟨_, rfl⟩
      have hm860 := hm831.drew; rw [← he861] at hm860
      refine cw_region_s (fun q => q = w859) (cls [] [11]) mixed ?_
      rintro _ rfl; rw [← he861]
      refine s_rp (i := 0) rfl (by kernel_rfl) rfl (fun _ => (rd_move rfl)) ?_
      refine s_rp (i := 1) rfl (by kernel_rfl) rfl (fun _ => (rd_move rfl)) ?_
      refine s_rp (i := 2) rfl (by kernel_rfl) rfl (fun _ => (rd_move rfl)) ?_
      refine s_rp (i := 3) rfl (by kernel_rfl) rfl (fun _ => (rd_move rfl)) ?_
      obtain ⟨x862, h863, q864⟩ := ob q842; clear q842
      refine s_rp (i := 4) rfl (by kernel_rfl) rfl (fun _ => (rd_sub64 h863 rfl rfl)) ?_
      obtain ⟨x865, h866, q867⟩ := ob q864; clear q864
      refine s_rp (i := 5) rfl (by kernel_rfl) rfl (fun _ => (rd_index tS120 rfl rfl (hm860.sl 0 rfl) h866)) ?_
      refine s_rd (i := 6) rfl (by kernel_rfl) rfl (fun _ hS => by rw [hS]; exact (rd_ld tA124 rfl ((hm860.sl 0 rfl).cells h866) rfl)) rfl ?_
      refine s_rp (i := 7) rfl (by kernel_rfl) rfl (fun _ => (rd_move rfl)) ?_
      refine s_rp (i := 8) rfl (by kernel_rfl) rfl (fun _ => (rd_move rfl)) ?_
      obtain ⟨x868, h869, q870⟩ := ob q867; clear q867
      refine s_rp (i := 9) rfl (by kernel_rfl) rfl (fun _ => (rd_index tS120 rfl rfl (hm860.sl 0 rfl) h869)) ?_
      refine s_rd (i := 10) rfl (by kernel_rfl) rfl (fun _ hS => by rw [hS]; exact (rd_ld tA124 rfl ((hm860.sl 0 rfl).cells h869) rfl)) rfl ?_
      obtain ⟨r871, h872, q873⟩ := ob q870; clear q870
      refine s_ef (i := 11) rfl (by kernel_rfl) rfl (ef_callv tf81 rfl rfl (planner_Schemes_1_ok h872)) (by decide) (fun _ _ _ q => absurd q (by decide)) ?_
      rintro _ w875 ⟨e_, hm874⟩
      obtain rfl := e_.symm
      have hm876 := hm860.call hm874
      refine s_rp (i := 12) rfl (by kernel_rfl) rfl (fun _ => (rd_lss rfl rfl)) ?_
      refine s_rp (i := 13) rfl (by kernel_rfl) rfl (fun _ => (rd_not rfl)) ?_
      refine s_nil (by kernel_rfl) ?_
      refine qn_then ?_
      obtain ⟨hb877, q878⟩ | ⟨hb877, q878⟩ := oi q873 <;> clear q873
      ·refine cw_t rfl hb877 ?_
       refine cw_region ?_
       refine t_mv rfl rfl ?_
       obtain ⟨x879, h880, q881⟩ := ob q878; clear q878
       refine t_rd rfl (rd_add64 h880 rfl rfl) (t_as rfl rfl ?_)
       refine rwt_nil ?_
       refine qn_block (qn_then ?_)
       refine ⟨_, (os q881), (by repeat (first | exact Sub.nil _ | refine Sub.cons rfl ?_)), (hm876.pick [0] (by decide) rfl)⟩
      ·refine cw_f rfl hb877 ?_
       refine cw_region ?_
       refine t_mv rfl rfl (t_as rfl rfl ?_)
       refine rwt_nil ?_
       refine qn_block (qn_then ?_)
       refine ⟨_, (os q878), (by repeat (first | exact Sub.nil _ | refine Sub.cons rfl ?_)), (hm876.pick [0] (by decide) rfl)⟩
     ·refine cw_f rfl hb832 ?_
      refine cw_exit ?_
      refine qx_then (qx_then ?_)
      obtain rfl := hr827 _ (os q833)
      exact ⟨rfl, (by repeat (first | exact Sub.nil _ | refine Sub.cons rfl ?_)), (hm831.pick [0] (by decide) rfl)⟩
    ·skip
     intro e env882 w883 hX884
     obtain ⟨rfl, hs885, hm886⟩ := hX884
     refine qx_same (qn_then ?_)
     refine cw_sub hs885 ?_
     refine cw_sr (t_mv rfl rfl (t_mv rfl rfl ?_))
     obtain ⟨x887, h888, q889⟩ := ob q830; clear q830
     refine t_rd rfl (rd_sub64 h888 rfl rfl) ?_
     refine t_as rfl rfl (rwt_n (cw_seq (cw_sr (t_mv rfl rfl (t_mv rfl rfl ?_)))))
     refine t_rd rfl (rd_lss rfl rfl) (t_mv rfl rfl ?_)
     refine t_rdg rfl rfl rfl rfl (gv_t _) (fun hg890 => (rd_move rfl)) ?_
     refine t_rdg rfl rfl rfl rfl (gv_t _) (fun hg891 => (rd_move rfl)) ?_
     refine t_rdg rfl rfl rfl rfl (gv_t _) (fun hg892 => (rd_lss (gvx rfl hg892) (gvx rfl hg892))) ?_
     refine t_rd rfl (rd_and rfl (fun hc893 => (gvx rfl hc893))) ?_
     refine rwt_n ?_
     obtain ⟨j903, hit904, q905⟩ := ob q889; clear q889
     refine cw_join (X := fun eq envq wq => eq = .normal ∧ Sub [(0, v0), (1, (Value.int .i64 a1)), (3, (Value.int .i64 a3)), (4, (Value.func (.func 81) #[] #[])), (18, (Value.int .i64 x688)), (20, (Value.int .i64 r828)), (24, (Value.int .i64 x887))] envq ∧ Mem w (ownL 124 v0 (a0 : List T_Scheme)).D [ownL 124 v0 (j903 : List T_Scheme)] wq) ?_ ?_
     ·clear q905
      obtain ⟨hb906, q907⟩ | ⟨hb906, q907⟩ := oi hit904 <;> clear hit904
      ·refine cw_t rfl hb906 ?_
       refine cw_region ?_
       refine t_mv rfl rfl (t_mv rfl rfl (t_mv rfl rfl (t_mv rfl rfl (t_mv rfl rfl ?_))))
       obtain ⟨r908, h909, q910⟩ := ob q907; clear q907
       refine t_ef rfl (ef_call tf121 rfl (g_slices_rotateCmpFunc_api_Scheme_ok h909 (hm886.get (k := 0) rfl))) ?_
       rintro _ w912 ⟨e_, hm911⟩
       obtain rfl := e_.symm
       have hm913 := hm886.callT (k := 0) rfl (fun _ h => h) hm911 (fun _ => Iff.rfl)
       refine rwt_nil ?_
       obtain rfl := os q910
       exact ⟨rfl, (by repeat (first | exact Sub.nil _ | refine Sub.cons rfl ?_)), (hm913.pick [0] (by decide) rfl)⟩
      ·refine cw_f rfl hb906 (cw_skip ?_)
       obtain rfl := os q907
       exact ⟨rfl, (by repeat (first | exact Sub.nil _ | refine Sub.cons rfl ?_)), (hm886.pick [0] (by decide) rfl)⟩
     ·clear hit904
      intro e env914 w915 hX916
      obtain ⟨rfl, hs917, hm918⟩ := hX916
      refine qn_then ?_
      refine cw_sub hs917 ?_
      refine cw_seq (cw_sr (t_mv rfl rfl (t_mv rfl rfl (t_rd rfl (rd_lss rfl rfl) (t_mv rfl rfl ?_)))))
      refine t_rdg rfl rfl rfl rfl (gv_t _) (fun hg919 => (rd_move rfl)) ?_
      refine t_rdg rfl rfl rfl rfl (gv_t _) (fun hg920 => (rd_move rfl)) ?_
      refine t_rdg rfl rfl rfl rfl (gv_t _) (fun hg921 => (rd_lss (gvx rfl hg921) (gvx rfl hg921))) ?_
      refine t_rd rfl (rd_and rfl (fun hc922 => (gvx rfl hc922))) ?_
      refine rwt_n ?_
      obtain ⟨j932, hit933, q934⟩ := ob q905; clear q905
      refine cw_join (X := fun eq envq wq => eq = .normal ∧ Sub [(0, v0), (3, (Value.int .i64 a3)), (4, (Value.func (.func 81) #[] #[])), (18, (Value.int .i64 x688)), (24, (Value.int .i64 x887))] envq ∧ Mem w (ownL 124 v0 (a0 : List T_Scheme)).D [ownL 124 v0 (j932 : List T_Scheme)] wq) ?_ ?_
      ·clear q934
       obtain ⟨hb935, q936⟩ | ⟨hb935, q936⟩ := oi hit933 <;> clear hit933
       ·refine cw_t rfl hb935 ?_
        refine cw_region ?_
        refine t_mv rfl rfl (t_mv rfl rfl (t_mv rfl rfl (t_mv rfl rfl (t_mv rfl rfl ?_))))
        obtain ⟨r937, h938, q939⟩ := ob q936; clear q936
        refine t_ef rfl (ef_call tf107 rfl (ih h938 (hm918.get (k := 0) rfl))) ?_
        rintro _ w941 ⟨e_, hm940⟩
        obtain rfl := e_.symm
        have hm942 := hm918.callT (k := 0) rfl (fun _ h => h) hm940 (fun _ => Iff.rfl)
        refine rwt_nil ?_
        obtain rfl := os q939
        exact ⟨rfl, (by repeat (first | exact Sub.nil _ | refine Sub.cons rfl ?_)), (hm942.pick [0] (by decide) rfl)⟩
       ·refine cw_f rfl hb935 (cw_skip ?_)
        obtain rfl := os q936
        exact ⟨rfl, (by repeat (first | exact Sub.nil _ | refine Sub.cons rfl ?_)), (hm918.pick [0] (by decide) rfl)⟩
      ·clear hit933
       intro e env943 w944 hX945
       obtain ⟨rfl, hs946, hm947⟩ := hX945
       refine qn_then ?_
       refine cw_sub hs946 ?_
       refine cw_sr (t_mv rfl rfl (t_mv rfl rfl (t_rd rfl (rd_lss rfl rfl) (t_mv rfl rfl ?_))))
       refine t_rdg rfl rfl rfl rfl (gv_t _) (fun hg948 => (rd_move rfl)) ?_
       refine t_rdg rfl rfl rfl rfl (gv_t _) (fun hg949 => (rd_move rfl)) ?_
       refine t_rdg rfl rfl rfl rfl (gv_t _) (fun hg950 => (rd_lss (gvx rfl hg950) (gvx rfl hg950))) ?_
       refine t_rd rfl (rd_and rfl (fun hc951 => (gvx rfl hc951))) ?_
       refine rwt_n ?_
       obtain ⟨hb952, q953⟩ | ⟨hb952, q953⟩ := oi q934 <;> clear q934
       ·refine cw_t rfl hb952 ?_
        refine cw_region ?_
        refine t_mv rfl rfl (t_mv rfl rfl (t_mv rfl rfl (t_mv rfl rfl (t_mv rfl rfl ?_))))
        obtain ⟨r954, h955, q956⟩ := ob q953; clear q953
        refine t_ef rfl (ef_call tf107 rfl (ih h955 (hm947.get (k := 0) rfl))) ?_
        rintro _ w958 ⟨e_, hm957⟩
        obtain rfl := e_.symm
        have hm959 := hm947.callT (k := 0) rfl (fun _ h => h) hm957 (fun _ => Iff.rfl)
        refine rwt_nil ?_
        obtain rfl := os q956
        refine retn ?_
        exact ret0 rfl ⟨rfl, (hm959.pick [0] (by decide) rfl)⟩
       ·refine cw_f rfl hb952 (cw_skip ?_)
        obtain rfl := os q953
        refine retn ?_
        exact ret0 rfl ⟨rfl, (hm947.pick [0] (by decide) rfl)⟩

theorem g_slices_symMergeCmpFunc_api_Scheme_ok {N : Nat} {a0 : List T_Scheme} {a1 : Int} {a2 : Int} {a3 : Int} {res : List T_Scheme} (h : g_slices_symMergeCmpFunc_api_Scheme N a0 a1 a2 a3 = some res) {w : World} {v0 : Value} (hk0 : (ownL 124 v0 (a0 : List T_Scheme)).φ w) :
  CallsR Tryz.prog 107 [v0, (Value.int .i64 a1), (Value.int .i64 a2), (Value.int .i64 a3), (Value.func (.func 81) #[] #[])] w (fun u w' => u = (Value.tuple #[]) ∧ Mem w (ownL 124 v0 (a0 : List T_Scheme)).D [ownL 124 v0 (res : List T_Scheme)] w') := g_slices_symMergeCmpFunc_api_Scheme_r_ok N h hk0

theorem g_slices_stableCmpFunc_api_Scheme_ok {N : Nat} {a0 : List T_Scheme} {a1 : Int} {res : List T_Scheme} (h : g_slices_stableCmpFunc_api_Scheme N a0 a1 = some res) {w : World} {v0 : Value} (hk0 : (ownL 124 v0 (a0 : List T_Scheme)).φ w) :
  CallsR Tryz.prog 97 [v0, (Value.int .i64 a1), (Value.func (.func 81) #[] #[])] w (fun u w' => u = (Value.tuple #[]) ∧ Mem w (ownL 124 v0 (a0 : List T_Scheme)).D [ownL 124 v0 (res : List T_Scheme)] w') := by
 unfold g_slices_stableCmpFunc_api_Scheme at h
 refine fn_ok Tryz.func97 rfl rfl rfl ?_
 have hm0 := Mem.one hk0
 refine cw_sr (t_as rfl rfl (rwt_n (cw_sr (t_mv rfl rfl (t_as rfl rfl (t_as rfl rfl ?_))))))
 refine rwt_n (cw_seq (cw_block ?_))
 obtain ⟨r37, hit38, q39⟩ := ob h; clear h
 refine cw_loop2 (I := fun q envq wq => Sub [(0, v0), (1, (Value.int .i64 a1)), (2, (Value.func (.func 81) #[] #[])), (6, (Value.int .i64 20)), (7, (Value.int .i64 q.1)), (8, (Value.int .i64 q.2.1))] envq ∧ Mem w (ownL 124 v0 (a0 : List T_Scheme)).D [ownL 124 v0 (q.2.2 : List T_Scheme)] wq) (X := fun eq envq wq => eq = .exit 0 ∧ Sub [(0, v0), (1, (Value.int .i64 a1)), (2, (Value.func (.func 81) #[] #[])), (6, (Value.int .i64 20)), (7, (Value.int .i64 r37.1))] envq ∧ Mem w (ownL 124 v0 (a0 : List T_Scheme)).D [ownL 124 v0 (r37.2 : List T_Scheme)] wq) hit38 ⟨(by repeat (first | exact Sub.nil _ | refine Sub.cons rfl ?_)), (hm0.pick [0] (by decide) rfl)⟩ ?_ ?_
 ·rintro ⟨i28, i29, l30⟩ x32 env33 w34 hf35 hr36 ⟨hs_, hm_⟩
  have hs_ : Sub [(0, v0), (1, (Value.int .i64 a1)), (2, (Value.func (.func 81) #[] #[])), (6, (Value.int .i64 20)), (7, (Value.int .i64 i28)), (8, (Value.int .i64 i29))] env33 := hs_
  have hm40 : Mem w (ownL 124 v0 (a0 : List T_Scheme)).D [ownL 124 v0 (l30 : List T_Scheme)] w34 := hm_
  refine cw_sub hs_ ?_
  clear hs_ hm_ q39
  have h : g_slices_stableCmpFunc_api_Scheme_l1 N a1 i28 i29 l30 = some x32 := hf35
  clear hf35
  refine cw_seq (cw_sr (t_mv rfl rfl (t_mv rfl rfl ?_)))
  refine t_rd rfl (rd_leq rfl rfl) ?_
  refine rwt_n ?_
  obtain ⟨hb41, q42⟩ | ⟨hb41, q42⟩ := oi h <;> clear h
  ·refine cw_t rfl hb41 (cw_skip (qn_then (cw_block (cw_sr (t_mv rfl rfl ?_)))))
   refine t_mv rfl rfl (t_mv rfl rfl (t_mv rfl rfl ?_))
   obtain ⟨r43, h44, q45⟩ := ob q42; clear q42
   refine t_ef rfl (ef_call tf106 rfl (g_slices_insertionSortCmpFunc_api_Scheme_ok h44 (hm40.get (k := 0) rfl))) ?_
   rintro _ w47 ⟨e_, hm46⟩
   obtain rfl := e_.symm
   have hm48 := hm40.callT (k := 0) rfl (fun _ h => h) hm46 (fun _ => Iff.rfl)
   refine rwt_n (cw_sr (t_mv rfl rfl (t_as rfl rfl (rwt_n ?_))))
   refine cw_region ?_
   refine t_mv rfl rfl (t_mv rfl rfl ?_)
   obtain ⟨x49, h50, q51⟩ := ob q45; clear q45
   refine t_rd rfl (rd_add64 h50 rfl rfl) (t_as rfl rfl ?_)
   refine rwt_nil ?_
   refine qn_block (qn_then ?_)
   refine ⟨_, (os q51), (by repeat (first | exact Sub.nil _ | refine Sub.cons rfl ?_)), (hm48.pick [0] (by decide) rfl)⟩
  ·refine cw_f rfl hb41 ?_
   refine cw_exit ?_
   refine qx_then (qx_then ?_)
   obtain rfl := hr36 _ (os q42)
   exact ⟨rfl, (by repeat (first | exact Sub.nil _ | refine Sub.cons rfl ?_)), (hm40.pick [0] (by decide) rfl)⟩
 ·skip
  intro e env52 w53 hX54
  obtain ⟨rfl, hs55, hm56⟩ := hX54
  refine qx_same (qn_then ?_)
  refine cw_sub hs55 ?_
  refine cw_sr (t_mv rfl rfl (t_mv rfl rfl (t_mv rfl rfl (t_mv rfl rfl ?_))))
  obtain ⟨r57, h58, q59⟩ := ob q39; clear q39
  refine t_ef rfl (ef_call tf106 rfl (g_slices_insertionSortCmpFunc_api_Scheme_ok h58 (hm56.get (k := 0) rfl))) ?_
  rintro _ w61 ⟨e_, hm60⟩
  obtain rfl := e_.symm
  have hm62 := hm56.callT (k := 0) rfl (fun _ h => h) hm60 (fun _ => Iff.rfl)
  refine rwt_n (cw_block ?_)
  obtain ⟨r266, hit267, q268⟩ := ob q59; clear q59
  refine cw_loop2 (I := fun q envq wq => Sub [(0, v0), (1, (Value.int .i64 a1)), (2, (Value.func (.func 81) #[] #[])), (6, (Value.int .i64 q.1))] envq ∧ Mem w (ownL 124 v0 (a0 : List T_Scheme)).D [ownL 124 v0 (q.2 : List T_Scheme)] wq) (X := fun eq envq wq => eq = .exit 2 ∧ Sub [] envq ∧ Mem w (ownL 124 v0 (a0 : List T_Scheme)).D [ownL 124 v0 (r266 : List T_Scheme)] wq) hit267 ⟨(by repeat (first | exact Sub.nil _ | refine Sub.cons rfl ?_)), (hm62.pick [0] (by decide) rfl)⟩ ?_ ?_
  ·rintro ⟨i258, l259⟩ x261 env262 w263 hf264 hr265 ⟨hs_, hm_⟩
   have hs_ : Sub [(0, v0), (1, (Value.int .i64 a1)), (2, (Value.func (.func 81) #[] #[])), (6, (Value.int .i64 i258))] env262 := hs_
   have hm269 : Mem w (ownL 124 v0 (a0 : List T_Scheme)).D [ownL 124 v0 (l259 : List T_Scheme)] w263 := hm_
   refine cw_sub hs_ ?_
   clear hs_ hm_ q268
   have h : g_slices_stableCmpFunc_api_Scheme_l4 N a1 i258 l259 = some x261 := hf264
   clear hf264
   refine cw_seq (cw_sr (t_mv rfl rfl (t_mv rfl rfl (t_rd rfl (rd_lss rfl rfl) (rwt_n ?_)))))
   obtain ⟨hb270, q271⟩ | ⟨hb270, q271⟩ := oi h <;> clear h
   ·refine cw_t rfl hb270 (cw_skip (qn_then (cw_block (cw_sr (t_mv rfl rfl ?_)))))
    obtain ⟨x272, h273, q274⟩ := ob q271; clear q271
    refine t_rd rfl (rd_mul64 h273 rfl rfl) ?_
    refine t_as rfl rfl (t_as rfl rfl (rwt_n (cw_seq (cw_block ?_))))
    obtain ⟨r323, hit324, q325⟩ := ob q274; clear q274
    refine cw_loop2 (I := fun q envq wq => Sub [(0, v0), (1, (Value.int .i64 a1)), (2, (Value.func (.func 81) #[] #[])), (6, (Value.int .i64 i258)), (7, (Value.int .i64 q.1)), (8, (Value.int .i64 q.2.1))] envq ∧ Mem w (ownL 124 v0 (a0 : List T_Scheme)).D [ownL 124 v0 (q.2.2 : List T_Scheme)] wq) (X := fun eq envq wq => eq = .exit 4 ∧ Sub [(0, v0), (1, (Value.int .i64 a1)), (2, (Value.func (.func 81) #[] #[])), (6, (Value.int .i64 i258)), (7, (Value.int .i64 r323.1))] envq ∧ Mem w (ownL 124 v0 (a0 : List T_Scheme)).D [ownL 124 v0 (r323.2 : List T_Scheme)] wq) hit324 ⟨(by repeat (first | exact Sub.nil _ | refine Sub.cons rfl ?_)), (hm269.pick [0] (by decide) rfl)⟩ ?_ ?_
    ·rintro ⟨i314, i315, l316⟩ x318 env319 w320 hf321 hr322 ⟨hs_, hm_⟩
     have hs_ : Sub [(0, v0), (1, (Value.int .i64 a1)), (2, (Value.func (.func 81) #[] #[])), (6, (Value.int .i64 i258)), (7, (Value.int .i64 i314)), (8, (Value.int .i64 i315))] env319 := hs_
     have hm326 : Mem w (ownL 124 v0 (a0 : List T_Scheme)).D [ownL 124 v0 (l316 : List T_Scheme)] w320 := hm_
     refine cw_sub hs_ ?_
     clear hs_ hm_ q325
     have h : g_slices_stableCmpFunc_api_Scheme_l5 N a1 i258 i314 i315 l316 = some x318 := hf321
     clear hf321
     refine cw_seq (cw_sr (t_mv rfl rfl (t_mv rfl rfl ?_)))
     refine t_rd rfl (rd_leq rfl rfl) ?_
     refine rwt_n ?_
     obtain ⟨hb327, q328⟩ | ⟨hb327, q328⟩ := oi h <;> clear h
     ·refine cw_t rfl hb327 (cw_skip (qn_then (cw_block (cw_sr (t_mv rfl rfl ?_)))))
      refine t_mv rfl rfl (t_mv rfl rfl (t_mv rfl rfl ?_))
      obtain ⟨x329, h330, q331⟩ := ob q328; clear q328
      refine t_rd rfl (rd_add64 h330 rfl rfl) (t_mv rfl rfl (t_mv rfl rfl ?_))
      obtain ⟨r332, h333, q334⟩ := ob q331; clear q331
      refine t_ef rfl (ef_call tf107 rfl (g_slices_symMergeCmpFunc_api_Scheme_ok h333 (hm326.get (k := 0) rfl))) ?_
      rintro _ w336 ⟨e_, hm335⟩
      obtain rfl := e_.symm
      have hm337 := hm326.callT (k := 0) rfl (fun _ h => h) hm335 (fun _ => Iff.rfl)
      refine rwt_n (cw_sr (t_mv rfl rfl (t_as rfl rfl (rwt_n ?_))))
      refine cw_region ?_
      refine t_mv rfl rfl (t_mv rfl rfl ?_)
      obtain ⟨x338, h339, q340⟩ := ob q334; clear q334
      refine t_rd rfl (rd_mul64 h339 rfl rfl) ?_
      obtain ⟨x341, h342, q343⟩ := ob q340; clear q340
      refine t_rd rfl (rd_add64 h342 rfl rfl) (t_as rfl rfl ?_)
      refine rwt_nil ?_
      refine qn_block (qn_then ?_)
      refine ⟨_, (os q343), (by repeat (first | exact Sub.nil _ | refine Sub.cons rfl ?_)), (hm337.pick [0] (by decide) rfl)⟩
     ·refine cw_f rfl hb327 ?_
      refine cw_exit ?_
      refine qx_then (qx_then ?_)
      obtain rfl := hr322 _ (os q328)
      exact ⟨rfl, (by repeat (first | exact Sub.nil _ | refine Sub.cons rfl ?_)), (hm326.pick [0] (by decide) rfl)⟩
    ·skip
     intro e env344 w345 hX346
     obtain ⟨rfl, hs347, hm348⟩ := hX346
     refine qx_same (qn_then ?_)
     refine cw_sub hs347 ?_
     refine cw_seq (cw_sr (t_mv rfl rfl (t_mv rfl rfl ?_)))
     obtain ⟨x349, h350, q351⟩ := ob q325; clear q325
     refine t_rd rfl (rd_add64 h350 rfl rfl) (t_as rfl rfl (rwt_n (cw_sr (t_mv rfl rfl (t_mv rfl rfl (t_rd rfl (rd_lss rfl rfl) ?_))))))
     refine rwt_n ?_
     obtain ⟨hb352, q353⟩ | ⟨hb352, q353⟩ := oi q351 <;> clear q351
     ·refine cw_t rfl hb352 ?_
      refine cw_region ?_
      refine t_mv rfl rfl (t_mv rfl rfl (t_mv rfl rfl (t_mv rfl rfl (t_mv rfl rfl ?_))))
      obtain ⟨r354, h355, q356⟩ := ob q353; clear q353
      refine t_ef rfl (ef_call tf107 rfl (g_slices_symMergeCmpFunc_api_Scheme_ok h355 (hm348.get (k := 0) rfl))) ?_
      rintro _ w358 ⟨e_, hm357⟩
      obtain rfl := e_.symm
      have hm359 := hm348.callT (k := 0) rfl (fun _ h => h) hm357 (fun _ => Iff.rfl)
      refine rwt_n ?_
      refine cw_region ?_
      refine t_mv rfl rfl ?_
      obtain ⟨x360, h361, q362⟩ := ob q356; clear q356
      refine t_rd rfl (rd_mul64 h361 rfl rfl) ?_
      refine t_as rfl rfl ?_
      refine rwt_nil ?_
      refine qn_block (qn_then ?_)
      refine ⟨_, (os q362), (by repeat (first | exact Sub.nil _ | refine Sub.cons rfl ?_)), (hm359.pick [0] (by decide) rfl)⟩
     ·refine cw_f rfl hb352 (cw_skip (qn_then ?_))
      refine cw_region ?_
      refine t_mv rfl rfl ?_
      obtain ⟨x363, h364, q365⟩ := ob q353; clear q353
      refine t_rd rfl (rd_mul64 h364 rfl rfl) ?_
      refine t_as rfl rfl ?_
      refine rwt_nil ?_
      refine qn_block (qn_then ?_)
      refine ⟨_, (os q365), (by repeat (first | exact Sub.nil _ | refine Sub.cons rfl ?_)), (hm348.pick [0] (by decide) rfl)⟩
   ·refine cw_f rfl hb270 ?_
    refine cw_exit ?_
    refine qx_then (qx_then ?_)
    obtain rfl := hr265 _ (os q271)
    exact ⟨rfl, (by repeat (first | exact Sub.nil _ | refine Sub.cons rfl ?_)), (hm269.pick [0] (by decide) rfl)⟩
  ·skip
   intro e env366 w367 hX368
   obtain ⟨rfl, hs369, hm370⟩ := hX368
   refine qx_same ?_
   obtain rfl := os q268
   refine retn ?_
   refine ret_sub hs369 ?_
   exact ret0 rfl ⟨rfl, (hm370.pick [0] (by decide) rfl)⟩

theorem g_slices_SortStableFunc_api_Scheme_api_Scheme_ok {N : Nat} {a0 : List T_Scheme} {res : List T_Scheme} (h : g_slices_SortStableFunc_api_Scheme_api_Scheme N a0 = some res) {w : World} {v0 : Value} (hk0 : (ownL 124 v0 (a0 : List T_Scheme)).φ w) :
  CallsR Tryz.prog 80 [v0, (Value.func (.func 81) #[] #[])] w (fun u w' => u = (Value.tuple #[]) ∧ Mem w (ownL 124 v0 (a0 : List T_Scheme)).D [ownL 124 v0 (res : List T_Scheme)] w') := by
 unfold g_slices_SortStableFunc_api_Scheme_api_Scheme at h
 refine fn_ok Tryz.func80 rfl rfl rfl ?_
 have hm0 := Mem.one hk0
 refine cw_region ?_
 refine t_mv rfl rfl (t_mv rfl rfl ?_)
 refine t_rd rfl (rd_lenS tS120 rfl (hm0.sl 0 rfl)) ?_
 refine t_mv rfl rfl ?_
 obtain ⟨r1, h2, q3⟩ := ob h; clear h
 refine t_ef rfl (ef_call tf97 rfl (g_slices_stableCmpFunc_api_Scheme_ok h2 (hm0.get (k := 0) rfl))) ?_
 rintro _ w5 ⟨e_, hm4⟩
 obtain rfl := e_.symm
 have hm6 := hm0.callT (k := 0) rfl (fun _ h => h) hm4 (fun _ => Iff.rfl)
 refine rwt_nil ?_
 obtain rfl := os q3
 refine retn ?_
 exact ret0 rfl ⟨rfl, (hm6.pick [0] (by decide) rfl)⟩

theorem planner_Schemes_ok {N : Nat} {a0 : List T_Item} {res : List T_Scheme × Int} (h : planner_Schemes N a0 = some res) {w : World} {v0 : Value} (hv0 : Sl (Old w No) w v0 a0) :
  CallsR Tryz.prog 54 [v0] w (fun u w' => ∃ (y0 : Value), u = (Value.tuple #[y0, (Value.int .i64 res.2)]) ∧ Mem w No [ownL 124 y0 (res.1 : List T_Scheme)] w') := by
 unfold planner_Schemes at h
 refine fn_ok Tryz.func54 rfl rfl rfl ?_
 have hm0 := Mem.nil w
 refine cw_sr (t_as rfl rfl (t_as rfl rfl (rwt_n (cw_seq (cw_sr ?_)))))
 refine t_mv rfl rfl ?_
 refine t_rd rfl (rd_build (cs := #[v0, (Value.int .i64 0)]) rfl (by obtain ⟨_, _, e⟩ := ((hv0.of_old hm0)).val; rw [e]; clear e; kernel_rfl)) ?_
 obtain ⟨r1, h2, q3⟩ := ob h; clear h
 refine t_ef rfl (ef_call tf59 rfl (job_Valid_ok h2 (hv0.to_call hm0))) ?_
 rintro _ w5 ⟨e_, hm4⟩
 obtain rfl := e_.symm
 have hm6 := hm0.call hm4
 refine t_as rfl rfl (rwt_n (cw_sr (t_mv rfl rfl ?_)))
 refine t_rd rfl (rd_neq rfl rfl) ?_
 refine rwt_n ?_
 obtain ⟨hb7, q8⟩ | ⟨hb7, q8⟩ := oi q3 <;> clear q3
 ·refine cw_t rfl hb7 (cw_sr (t_mv rfl rfl (t_as rfl rfl (t_as rfl rfl (rwt_n ?_)))))
  refine cw_ret ?_
  refine qr_then ?_
  obtain rfl := os q8
  have hm9 := hm6.addNil (α := T_Scheme) 124
  exact ret2 rfl rfl rfl ⟨(Value.slice none 0 0), rfl, (hm9.pick [0] (by decide) rfl)⟩
 ·refine cw_f rfl hb7 (cw_skip (qn_then (cw_sr (t_as rfl rfl (rwt_n ?_)))))
  refine cw_seq (cw_sr ?_)
  refine t_rd rfl (rd_build (cs := #[(Value.int .i64 0), (Value.int .i64 1), (Value.int .i64 2), (Value.int .i64 12)]) rfl (by kernel_rfl)) ?_
  refine t_mv rfl rfl (rwt_n (cw_block ?_))
  have hm50 := hm6.addNil (α := T_Scheme) 124
  obtain ⟨r144, hit145, q146⟩ := ob q8; clear q8
  refine cw_loop2 (I := fun q envq wq => ∃ (v137 : Value), Sub [(0, v0), (5, v137), (17, (Value.agg #[(Value.int .i64 0), (Value.int .i64 1), (Value.int .i64 2), (Value.int .i64 12)])), (18, (Value.int .i64 q.1))] envq ∧ Mem w No [ownL 124 v137 (q.2 : List T_Scheme)] wq) (X := fun eq envq wq => eq = .exit 0 ∧ ∃ (v134 : Value), Sub [(5, v134)] envq ∧ Mem w No [ownL 124 v134 (r144 : List T_Scheme)] wq) hit145 ⟨(Value.slice none 0 0), (by repeat (first | exact Sub.nil _ | refine Sub.cons rfl ?_)), (hm50.pick [0] (by decide) rfl)⟩ ?_ ?_
  ·rintro ⟨i135, l136⟩ x139 env140 w141 hf142 hr143 ⟨v137, hs_, hm_⟩
   have hs_ : Sub [(0, v0), (5, v137), (17, (Value.agg #[(Value.int .i64 0), (Value.int .i64 1), (Value.int .i64 2), (Value.int .i64 12)])), (18, (Value.int .i64 i135))] env140 := hs_
   have hm147 : Mem w No [ownL 124 v137 (l136 : List T_Scheme)] w141 := hm_
   refine cw_sub hs_ ?_
   clear hs_ hm_ q146
   have h : planner_Schemes_l1 N a0 i135 l136 = some x139 := hf142
   clear hf142
   refine cw_sr (t_rd rfl (rd_lss rfl rfl) (rwt_n (cw_seq ?_)))
   obtain ⟨hb148, q149⟩ | ⟨hb148, q149⟩ := oi h <;> clear h
   ·refine cw_t rfl hb148 (cw_skip (qn_then (cw_seq (cw_block (cw_sr ?_)))))
    obtain ⟨x150, h151, q152⟩ := ob q149; clear q149
    refine t_rd rfl (rd_idxa (l := [0, 1, 2, 12]) tAr149 tO3 rfl rfl rfl h151) ?_
    refine t_as rfl rfl (rwt_n (cw_sr (t_mv rfl rfl (t_mv rfl rfl ?_))))
    obtain ⟨r153, h154, q155⟩ := ob q152; clear q152
    refine t_ef rfl (ef_call tf79 rfl (planner_scheme_ok h154 (hv0.to_call hm147))) ?_
    rintro _ w158 ⟨v156, e_, hm157⟩
    obtain rfl := e_.symm
    have hm159 := hm147.call hm157
    refine t_mv rfl rfl ?_
    refine t_rd rfl (rd_extract rfl rfl) ?_
    refine t_rd rfl (rd_extract rfl rfl) ?_
    refine t_rd rfl (rd_extract rfl rfl) ?_
    refine t_ef rfl (ef_alloc hm159 tZ124 rfl) ?_
    rintro _ w162 ⟨g160, rfl, hm161⟩
    refine t_ef rfl (ef_alloc hm161 tZ30 rfl) ?_
    rintro _ w165 ⟨g163, rfl, hm164⟩
    refine t_ef0 (ef_stw (k := 1) hm164 tA124 rfl rfl (oc_cons rfl (oc_cons rfl (oc_cons rfl (oc_cons rfl oc_nil)))) rfl rfl rfl) ?_
    intro _ w167 hm166
    refine t_ef0 (ef_stw (k := 0) hm166 tA30 rfl rfl (oc_cons rfl (oc_cons (sl_one (hm166.sl 2 rfl)) oc_nil)) rfl rfl rfl) ?_
    intro _ w169 hm168
    refine t_as rfl rfl (rwt_n (cw_sr (t_mv rfl rfl (rwt_n ?_))))
    obtain ⟨hb170, q171⟩ | ⟨hb170, q171⟩ := oi q155 <;> clear q155
    ·refine cw_t rfl hb170 ?_
     refine cw_region ?_
     refine t_mv rfl rfl ?_
     refine t_rd rfl (rd_ld tA124 rfl (hm168.blk 1 rfl) rfl) ?_
     refine t_ef rfl (ef_bslice (l := ([r153.1] : List T_Scheme)) hm168 tS120 rfl (cs := #[(Value.int .i64 r153.1.Weight), (Value.int .i64 r153.1.Steps), (Value.int .i64 r153.1.Moves), (Value.int .i64 r153.1.Pushes)]) (by unfold bsl; kernel_rfl) rfl rfl) ?_
     intro v172 w174 hm173
     obtain ⟨l175, h176, q177⟩ := ob q171; clear q171
     refine t_ef rfl (ef_append (k := 4) hm173 tS120 tE124 rfl rfl rfl rfl (hm173.sl 0 rfl) h176) ?_
     intro v178 w180 hm179
     refine t_as rfl rfl ?_
     refine rwt_nil ?_
     refine qn_block (qn_then ?_)
     refine cw_region ?_
     obtain ⟨x181, h182, q183⟩ := ob q177; clear q177
     refine t_rd rfl (rd_add64 h182 rfl rfl) (t_mv rfl rfl (rwt_n ?_))
     refine ⟨_, (os q183), v178, (by repeat (first | exact Sub.nil _ | refine Sub.cons rfl ?_)), (hm179.pick [4] (by decide) rfl)⟩
    ·refine cw_f rfl hb170 (cw_skip ?_)
     refine qn_block (qn_then ?_)
     refine cw_region ?_
     obtain ⟨x184, h185, q186⟩ := ob q171; clear q171
     refine t_rd rfl (rd_add64 h185 rfl rfl) (t_mv rfl rfl (rwt_n ?_))
     refine ⟨_, (os q186), v137, (by repeat (first | exact Sub.nil _ | refine Sub.cons rfl ?_)), (hm168.pick [3] (by decide) rfl)⟩
   ·refine cw_f rfl hb148 ?_
    refine cw_exit ?_
    refine qx_then (qx_then ?_)
    obtain rfl := hr143 _ (os q149)
    exact ⟨rfl, v137, (by repeat (first | exact Sub.nil _ | refine Sub.cons rfl ?_)), (hm147.pick [0] (by decide) rfl)⟩
  ·skip
   intro e env187 w188 hX189
   obtain ⟨rfl, v134, hs190, hm191⟩ := hX189
   refine qx_same (qn_then ?_)
   refine cw_sub hs190 ?_
   refine cw_seq (cw_sr (t_mv rfl rfl ?_))
   refine t_rd rfl (rd_lenS tS120 rfl (hm191.sl 0 rfl)) ?_
   refine t_rd rfl (rd_eql rfl rfl) ?_
   refine rwt_n ?_
   obtain ⟨hb192, q193⟩ | ⟨hb192, q193⟩ := oi q146 <;> clear q146
   ·refine cw_t rfl hb192 (cw_sr (t_as rfl rfl (t_as rfl rfl (rwt_n ?_))))
    refine cw_ret ?_
    refine qr_then ?_
    obtain rfl := os q193
    have hm194 := hm191.addNil (α := T_Scheme) 124
    exact ret2 rfl rfl rfl ⟨(Value.slice none 0 0), rfl, (hm194.pick [0] (by decide) rfl)⟩
   ·refine cw_f rfl hb192 (cw_skip (qn_then (cw_sr (t_mv rfl rfl ?_))))
    obtain ⟨r195, h196, q197⟩ := ob q193; clear q193
    refine t_ef rfl (ef_call tf80 rfl (g_slices_SortStableFunc_api_Scheme_api_Scheme_ok h196 (hm191.get (k := 0) rfl))) ?_
    rintro _ w199 ⟨e_, hm198⟩
    obtain rfl := e_.symm
    have hm200 := hm191.callT (k := 0) rfl (fun _ h => h) hm198 (fun _ => Iff.rfl)
    refine rwt_n (cw_sr (t_mv rfl rfl (t_as rfl rfl (t_as rfl rfl (rwt_n ?_)))))
    refine cw_ret ?_
    obtain rfl := os q197
    exact ret2 rfl rfl rfl ⟨v134, rfl, (hm200.pick [0] (by decide) rfl)⟩

theorem g_slices_Clone_api_Item_api_Item_ok {N : Nat} {a0 : List T_Item} {res : List T_Item} (h : g_slices_Clone_api_Item_api_Item N a0 = some res) {w : World} {v0 : Value} (hv0 : Sl (Old w No) w v0 a0) :
  CallsR Tryz.prog 83 [v0] w (fun u w' => ∃ (y0 : Value), u = y0 ∧ Mem w No [ownL 40 y0 (res : List T_Item)] w') := by
 unfold g_slices_Clone_api_Item_api_Item at h
 refine fn_ok Tryz.func83 rfl rfl rfl ?_
 have hm0 := Mem.nil w
 refine cw_sr (t_as rfl rfl (rwt_n (cw_seq (cw_sr (t_mv rfl rfl ?_)))))
 obtain ⟨tb, hr, hb⟩ := rd_nilS tS25 (hv0.of_old hm0)
 refine t_rd rfl (hr rfl) ?_
 refine rwt_n ?_
 cases tb with
 | true =>
  refine cw_t rfl rfl (cw_sr (t_as rfl rfl (rwt_n ?_)))
  refine cw_ret ?_
  refine qr_then ?_
  have e := hb rfl
  rw [e] at h
  obtain rfl := app_nn h
  exact ret1 rfl rfl ⟨_, rfl, hm0.addNil (α := T_Item) 40⟩
 | false =>
  refine cw_f rfl rfl (cw_skip (qn_then (cw_sr ?_)))
  refine t_ef rfl (ef_bslice0 (α := T_Item) hm0 tS25) ?_
  intro v1 w1 hm1
  refine t_mv rfl rfl ?_
  refine t_ef rfl (ef_append (k := 0) hm1 tS25 tE40 rfl rfl rfl rfl (hv0.of_old hm1) h) ?_
  intro v2 w2 hm2
  refine t_as rfl rfl (rwt_n ?_)
  refine cw_ret ?_
  exact ret1 rfl rfl ⟨v2, rfl, hm2.pick [0] (by decide) rfl⟩

theorem g_slices_Max_int_int_ok {N : Nat} {a0 : List Int} {res : Int} (h : g_slices_Max_int_int N a0 = some res) {w : World} {v0 : Value} (hv0 : Sl (Old w No) w v0 a0) :
  CallsR Tryz.prog 63 [v0] w (fun u w' => u = (Value.int .i64 res) ∧ Mem w No [] w') := by
 unfold g_slices_Max_int_int at h
 refine fn_ok Tryz.func63 rfl rfl rfl ?_
 have hm0 := Mem.nil w
 refine cw_sr (t_as rfl rfl (rwt_n (cw_seq (cw_sr (t_mv rfl rfl ?_)))))
 refine t_rd rfl (rd_lenS tS22 rfl (hv0.of_old hm0)) ?_
 refine t_rd rfl (rd_lss rfl rfl) (rwt_n ?_)
 obtain ⟨j3, hit4, q5⟩ := ob h; clear h
 refine cw_join (X := fun eq envq wq => eq = .normal ∧ Sub [(0, v0)] envq ∧ Mem w No [] wq) ?_ ?_
 ·clear q5
  obtain ⟨hb6, q7⟩ | ⟨hb6, q7⟩ := oi hit4 <;> clear hit4
  ·refine cw_t rfl hb6 ?_
   cases q7
  ·refine cw_f rfl hb6 (cw_skip ?_)
   obtain rfl := os q7
   exact ⟨rfl, (by repeat (first | exact Sub.nil _ | refine Sub.cons rfl ?_)), (hm0.pick [] (by decide) rfl)⟩
 ·clear hit4
  intro e env8 w9 hX10
  obtain ⟨rfl, hs11, hm12⟩ := hX10
  refine qn_then ?_
  refine cw_sub hs11 ?_
  refine cw_sr (t_mv rfl rfl ?_)
  obtain ⟨x13, h14, q15⟩ := ob q5; clear q5
  refine t_rd rfl (rd_index tS22 rfl rfl (hv0.of_old hm12) h14) ?_
  refine t_rd rfl (rd_ld1 tO3 rfl ((hv0.of_old hm12).cells h14) (off := 0) rfl) ?_
  refine t_as rfl rfl (rwt_n (cw_seq (cw_sr (t_as rfl rfl (rwt_n ?_)))))
  refine cw_block ?_
  obtain ⟨r43, hit44, q45⟩ := ob q15; clear q15
  refine cw_loop2 (I := fun q envq wq => Sub [(0, v0), (3, (Value.int .i64 q.1)), (4, (Value.int .i64 q.2))] envq ∧ Mem w No [] wq) (X := fun eq envq wq => eq = .exit 0 ∧ Sub [(3, (Value.int .i64 r43))] envq ∧ Mem w No [] wq) hit44 ⟨(by repeat (first | exact Sub.nil _ | refine Sub.cons rfl ?_)), (hm12.pick [] (by decide) rfl)⟩ ?_ ?_
  ·rintro ⟨i35, i36⟩ x38 env39 w40 hf41 hr42 ⟨hs_, hm_⟩
   have hs_ : Sub [(0, v0), (3, (Value.int .i64 i35)), (4, (Value.int .i64 i36))] env39 := hs_
   have hm46 : Mem w No [] w40 := hm_
   refine cw_sub hs_ ?_
   clear hs_ hm_ q45
   have h : g_slices_Max_int_int_l1 N a0 i35 i36 = some x38 := hf41
   clear hf41
   refine cw_seq (cw_sr (t_mv rfl rfl (t_mv rfl rfl ?_)))
   refine t_rd rfl (rd_lenS tS22 rfl (hv0.of_old hm46)) ?_
   refine t_rd rfl (rd_lss rfl rfl) (rwt_n ?_)
   obtain ⟨hb47, q48⟩ | ⟨hb47, q48⟩ := oi h <;> clear h
   ·refine cw_t rfl hb47 (cw_skip (qn_then (cw_seq (cw_block ?_))))
    refine cw_region ?_
    refine t_mv rfl rfl (t_mv rfl rfl (t_mv rfl rfl ?_))
    obtain ⟨x49, h50, q51⟩ := ob q48; clear q48
    refine t_rd rfl (rd_index tS22 rfl rfl (hv0.of_old hm46) h50) ?_
    refine t_rd rfl (rd_ld1 tO3 rfl ((hv0.of_old hm46).cells h50) (off := 0) rfl) ?_
    refine t_rd rfl (rd_max rfl rfl) ?_
    refine t_as rfl rfl ?_
    refine rwt_nil ?_
    refine qn_block (qn_then ?_)
    refine cw_region ?_
    refine t_mv rfl rfl ?_
    obtain ⟨x52, h53, q54⟩ := ob q51; clear q51
    refine t_rd rfl (rd_add64 h53 rfl rfl) (t_as rfl rfl (rwt_n ?_))
    refine ⟨_, (os q54), (by repeat (first | exact Sub.nil _ | refine Sub.cons rfl ?_)), (hm46.pick [] (by decide) rfl)⟩
   ·refine cw_f rfl hb47 ?_
    refine cw_exit ?_
    refine qx_then (qx_then ?_)
    obtain rfl := hr42 _ (os q48)
    exact ⟨rfl, (by repeat (first | exact Sub.nil _ | refine Sub.cons rfl ?_)), (hm46.pick [] (by decide) rfl)⟩
  ·skip
   intro e env55 w56 hX57
   obtain ⟨rfl, hs58, hm59⟩ := hX57
   refine qx_same (qn_then ?_)
   refine cw_sub hs58 ?_
   refine cw_sr (t_mv rfl rfl (t_as rfl rfl (rwt_n ?_)))
   refine cw_ret ?_
   obtain rfl := os q45
   exact ret1 rfl rfl ⟨rfl, (hm59.pick [] (by decide) rfl)⟩

theorem g_slices_Index_int_int_ok {N : Nat} {a0 : List Int} {a1 : Int} {res : Int} (h : g_slices_Index_int_int N a0 a1 = some res) {w : World} {v0 : Value} (hv0 : Sl (Old w No) w v0 a0) :
  CallsR Tryz.prog 62 [v0, (Value.int .i64 a1)] w (fun u w' => u = (Value.int .i64 res) ∧ Mem w No [] w') := by
 unfold g_slices_Index_int_int at h
 refine fn_ok Tryz.func62 rfl rfl rfl ?_
 have hm0 := Mem.nil w
 refine cw_sr (t_as rfl rfl (rwt_n (cw_seq (cw_sr (t_mv rfl rfl ?_)))))
 refine t_rd rfl (rd_lenS tS22 rfl (hv0.of_old hm0)) ?_
 refine t_mv rfl rfl (rwt_n (cw_block ?_))
 obtain ⟨r29, hit30, q31⟩ := ob h; clear h
 refine cw_loop2 (I := fun q envq wq => Sub [(0, v0), (1, (Value.int .i64 a1)), (7, (Value.int .i64 (List.length a0 : Int))), (8, (Value.int .i64 q))] envq ∧ Mem w No [] wq) (X := fun eq envq wq => (∃ p32, r29 = (Sum.inl p32) ∧ eq = .ret ∧ retQ Tryz.prog 19 Tryz.f62 (fun u w' => u = (Value.int .i64 p32) ∧ Mem w No [] w') .ret envq wq) ∨ (∃ p33, r29 = (Sum.inr p33) ∧ eq = .exit 0 ∧ Sub [] envq ∧ Mem w No [] wq)) hit30 ⟨(by repeat (first | exact Sub.nil _ | refine Sub.cons rfl ?_)), (hm0.pick [] (by decide) rfl)⟩ ?_ ?_
 ·rintro i22 x24 env25 w26 hf27 hr28 ⟨hs_, hm_⟩
  have hs_ : Sub [(0, v0), (1, (Value.int .i64 a1)), (7, (Value.int .i64 (List.length a0 : Int))), (8, (Value.int .i64 i22))] env25 := hs_
  have hm34 : Mem w No [] w26 := hm_
  refine cw_sub hs_ ?_
  clear hs_ hm_ q31
  have h : g_slices_Index_int_int_l1 N a0 a1 i22 = some x24 := hf27
  clear hf27
  refine cw_sr (t_rd rfl (rd_lss rfl rfl) (rwt_n (cw_seq ?_)))
  obtain ⟨hb35, q36⟩ | ⟨hb35, q36⟩ := oi h <;> clear h
  ·refine cw_t rfl hb35 (cw_skip (qn_then (cw_seq (cw_block (cw_sr ?_)))))
   refine t_mv rfl rfl (t_as rfl rfl (rwt_n (cw_sr (t_mv rfl rfl (t_mv rfl rfl (t_mv rfl rfl ?_))))))
   obtain ⟨x37, h38, q39⟩ := ob q36; clear q36
   refine t_rd rfl (rd_index tS22 rfl rfl (hv0.of_old hm34) h38) ?_
   refine t_rd rfl (rd_ld1 tO3 rfl ((hv0.of_old hm34).cells h38) (off := 0) rfl) ?_
   refine t_rd rfl (rd_eql rfl rfl) ?_
   refine rwt_n ?_
   obtain ⟨hb40, q41⟩ | ⟨hb40, q41⟩ := oi q39 <;> clear q39
   ·refine cw_t rfl hb40 (cw_sr (t_mv rfl rfl (t_as rfl rfl (rwt_n ?_))))
    refine cw_ret ?_
    refine qr_block (qr_then (qr_then ?_))
    obtain rfl := hr28 _ (os q41)
    refine .inl (⟨_, rfl, ⟨rfl, ?_⟩⟩)
    exact ret1 rfl rfl ⟨rfl, (hm34.pick [] (by decide) rfl)⟩
   ·refine cw_f rfl hb40 (cw_skip ?_)
    refine qn_block (qn_then ?_)
    refine cw_region ?_
    obtain ⟨x42, h43, q44⟩ := ob q41; clear q41
    refine t_rd rfl (rd_add64 h43 rfl rfl) (t_mv rfl rfl (rwt_n ?_))
    refine ⟨_, (os q44), (by repeat (first | exact Sub.nil _ | refine Sub.cons rfl ?_)), (hm34.pick [] (by decide) rfl)⟩
  ·refine cw_f rfl hb35 ?_
   refine cw_exit ?_
   refine qx_then (qx_then ?_)
   obtain rfl := hr28 _ (os q36)
   exact .inr (⟨_, rfl, ⟨rfl, (by repeat (first | exact Sub.nil _ | refine Sub.cons rfl ?_)), (hm34.pick [] (by decide) rfl)⟩⟩)
 ·skip
  intro e env45 w46 hX47
  rcases hX47 with hX47 | hX47
  ·obtain ⟨p49, rfl, hX47⟩ := hX47
   obtain ⟨rfl, hq51⟩ := hX47
   exact qr_block (qr_then ((by have e := os q31; subst e; exact hq51)))
  ·obtain ⟨p52, rfl, hX47⟩ := hX47
   obtain ⟨rfl, hs53, hm54⟩ := hX47
   refine qx_same (qn_then ?_)
   refine cw_sub hs53 ?_
   refine cw_sr (t_as rfl rfl (rwt_n ?_))
   refine cw_ret ?_
   obtain rfl := os q31
   exact ret1 rfl rfl ⟨rfl, (hm54.pick [] (by decide) rfl)⟩

theorem g_slices_Reverse_int_int_ok {N : Nat} {a0 : List Int} {res : List Int} (h : g_slices_Reverse_int_int N a0 = some res) {w : World} {v0 : Value} (hk0 : (ownL 3 v0 (a0 : List Int)).φ w) :
  CallsR Tryz.prog 64 [v0] w (fun u w' => u = (Value.tuple #[]) ∧ Mem w (ownL 3 v0 (a0 : List Int)).D [ownL 3 v0 (res : List Int)] w') := by
 unfold g_slices_Reverse_int_int at h
 refine fn_ok Tryz.func64 rfl rfl rfl ?_
 have hm0 := Mem.one hk0
 refine cw_sr (t_mv rfl rfl ?_)
 refine t_rd rfl (rd_lenS tS22 rfl (hm0.sl 0 rfl)) ?_
 obtain ⟨x1, h2, q3⟩ := ob h; clear h
 refine t_rd rfl (rd_sub64 h2 rfl rfl) ?_
 refine t_as rfl rfl (t_as rfl rfl (rwt_n (cw_block ?_)))
 obtain ⟨r93, hit94, q95⟩ := ob q3; clear q3
 refine cw_loop2 (I := fun q envq wq => Sub [(0, v0), (2, (Value.int .i64 q.1)), (3, (Value.int .i64 q.2.1))] envq ∧ Mem w (ownL 3 v0 (a0 : List Int)).D [ownL 3 v0 (q.2.2 : List Int)] wq) (X := fun eq envq wq => eq = .exit 0 ∧ Sub [] envq ∧ Mem w (ownL 3 v0 (a0 : List Int)).D [ownL 3 v0 (r93 : List Int)] wq) hit94 ⟨(by repeat (first | exact Sub.nil _ | refine Sub.cons rfl ?_)), (hm0.pick [0] (by decide) rfl)⟩ ?_ ?_
 ·rintro ⟨i84, i85, l86⟩ x88 env89 w90 hf91 hr92 ⟨hs_, hm_⟩
  have hs_ : Sub [(0, v0), (2, (Value.int .i64 i84)), (3, (Value.int .i64 i85))] env89 := hs_
  have hm96 : Mem w (ownL 3 v0 (a0 : List Int)).D [ownL 3 v0 (l86 : List Int)] w90 := hm_
  refine cw_sub hs_ ?_
  clear hs_ hm_ q95
  have h : g_slices_Reverse_int_int_l1 N i84 i85 l86 = some x88 := hf91
  clear hf91
  refine cw_seq (cw_sr (t_mv rfl rfl (t_mv rfl rfl (t_rd rfl (rd_lss rfl rfl) (rwt_n ?_)))))
  obtain ⟨hb97, q98⟩ | ⟨hb97, q98⟩ := oi h <;> clear h
  ·refine cw_t rfl hb97 (cw_skip (qn_then (cw_seq (cw_block ?_))))
   obtain ⟨w113, he115⟩ : ∃ q, q = w90.drew := ⟨_, rfl⟩
   have hm114 := hm96.drew; rw [← he115] at hm114
   refine cw_region_s (fun q => q = w113) (cls [] [13, 15]) mixed ?_
   rintro _ rfl; rw [← he115]
   refine s_rp (i := 0) rfl (by kernel_rfl) rfl (fun _ => (rd_move rfl)) ?_
   refine s_rp (i := 1) rfl (by kernel_rfl) rfl (fun _ => (rd_move rfl)) ?_
   refine s_rp (i := 2) rfl (by kernel_rfl) rfl (fun _ => (rd_move rfl)) ?_
   refine s_rp (i := 3) rfl (by kernel_rfl) rfl (fun _ => (rd_move rfl)) ?_
   refine s_rp (i := 4) rfl (by kernel_rfl) rfl (fun _ => (rd_move rfl)) ?_
   refine s_rp (i := 5) rfl (by kernel_rfl) rfl (fun _ => (rd_move rfl)) ?_
   obtain ⟨x116, h117, q118⟩ := ob q98; clear q98
   refine s_rp (i := 6) rfl (by kernel_rfl) rfl (fun _ => (rd_index tS22 rfl rfl (hm114.sl 0 rfl) h117)) ?_
   refine s_rd (i := 7) rfl (by kernel_rfl) rfl (fun _ hS => by rw [hS]; exact (rd_ld1 tO3 rfl ((hm114.sl 0 rfl).cells h117) (off := 0) rfl)) rfl ?_
   refine s_rp (i := 8) rfl (by kernel_rfl) rfl (fun _ => (rd_move rfl)) ?_
   refine s_rp (i := 9) rfl (by kernel_rfl) rfl (fun _ => (rd_move rfl)) ?_
   obtain ⟨x119, h120, q121⟩ := ob q118; clear q118
   refine s_rp (i := 10) rfl (by kernel_rfl) rfl (fun _ => (rd_index tS22 rfl rfl (hm114.sl 0 rfl) h120)) ?_
   refine s_rd (i := 11) rfl (by kernel_rfl) rfl (fun _ hS => by rw [hS]; exact (rd_ld1 tO3 rfl ((hm114.sl 0 rfl).cells h120) (off := 0) rfl)) rfl ?_
   refine s_rp (i := 12) rfl (by kernel_rfl) rfl (fun _ => (rd_index tS22 rfl rfl (hm114.sl 0 rfl) h120)) ?_
   refine s_ef0 (i := 13) rfl (by kernel_rfl) (ef_stl (k := 0) (off := 0) (x' := x116) hm114 tO3 rfl rfl rfl rfl h120 rfl rfl) (by decide) (fun _ _ _ q => absurd q (by decide)) ?_
   intro _ w123 hm122
   obtain ⟨x124, h125, q126⟩ := ob q121; clear q121
   refine s_rp (i := 14) rfl (by kernel_rfl) rfl (fun _ => (rd_index tS22 rfl rfl (hm122.sl 0 rfl) h125)) ?_
   refine s_ef0 (i := 15) rfl (by kernel_rfl) (ef_stl (k := 0) (off := 0) (x' := x119) hm122 tO3 rfl rfl rfl rfl h125 rfl rfl) (by decide) (fun _ _ _ q => absurd q (by decide)) ?_
   intro _ w128 hm127
   refine s_nil (by kernel_rfl) ?_
   refine qn_block (qn_then ?_)
   refine cw_region ?_
   refine t_mv rfl rfl ?_
   obtain ⟨x129, h130, q131⟩ := ob q126; clear q126
   refine t_rd rfl (rd_add64 h130 rfl rfl) (t_mv rfl rfl ?_)
   obtain ⟨x132, h133, q134⟩ := ob q131; clear q131
   refine t_rd rfl (rd_sub64 h133 rfl rfl) ?_
   refine t_as rfl rfl (t_as rfl rfl (rwt_n ?_))
   refine ⟨_, (os q134), (by repeat (first | exact Sub.nil _ | refine Sub.cons rfl ?_)), (hm127.pick [0] (by decide) rfl)⟩
  ·refine cw_f rfl hb97 ?_
   refine cw_exit ?_
   refine qx_then (qx_then ?_)
   obtain rfl := hr92 _ (os q98)
   exact ⟨rfl, (by repeat (first | exact Sub.nil _ | refine Sub.cons rfl ?_)), (hm96.pick [0] (by decide) rfl)⟩
 ·skip
  intro e env135 w136 hX137
  obtain ⟨rfl, hs138, hm139⟩ := hX137
  refine qx_same ?_
  obtain rfl := os q95
  refine retn ?_
  refine ret_sub hs138 ?_
  exact ret0 rfl ⟨rfl, (hm139.pick [0] (by decide) rfl)⟩

theorem leastcode_Witness_ok {N : Nat} {a0_Items : List T_Item} {a0_Weight : Int} {res : List Int × Int} (h : leastcode_Witness N a0_Items a0_Weight = some res) {w : World} {v0_Items : Value} (hv0_Items : Sl (Old w No) w v0_Items a0_Items) :
  CallsR Tryz.prog 29 [(Value.agg #[v0_Items, (Value.int .i64 a0_Weight)])] w (fun u w' => ∃ (y0 : Value), u = (Value.tuple #[y0, (Value.int .i64 res.2)]) ∧ Mem w No [ownL 3 y0 (res.1 : List Int)] w') := by
 unfold leastcode_Witness at h
 refine fn_ok Tryz.func29 rfl rfl rfl ?_
 have hm0 := Mem.nil w
 refine cw_sr ?_
 refine t_ef rfl (ef_box hm0 rfl rfl) ?_
 rintro _ w3 ⟨g1, rfl, hm2⟩
 refine t_as rfl rfl (t_as rfl rfl (rwt_n (cw_seq (cw_sr ?_))))
 refine t_rd rfl (rd_ld tA27 rfl (hm2.blk 0 rfl) rfl) ?_
 obtain ⟨r4, h5, q6⟩ := ob h; clear h
 refine t_ef rfl (ef_call tf59 rfl (job_Valid_ok h5 (hv0_Items.to_call hm2))) ?_
 rintro _ w8 ⟨e_, hm7⟩
 obtain rfl := e_.symm
 have hm9 := hm2.call hm7
 refine t_as rfl rfl (rwt_n (cw_sr (t_mv rfl rfl ?_)))
 refine t_rd rfl (rd_neq rfl rfl) ?_
 refine rwt_n ?_
 obtain ⟨hb10, q11⟩ | ⟨hb10, q11⟩ := oi q6 <;> clear q6
 ·refine cw_t rfl hb10 (cw_sr (t_mv rfl rfl (t_as rfl rfl (t_as rfl rfl (rwt_n ?_)))))
  refine cw_ret ?_
  refine qr_then ?_
  obtain rfl := os q11
  have hm12 := hm9.addNil (α := Int) 3
  exact ret2 rfl rfl rfl ⟨(Value.slice none 0 0), rfl, (hm12.pick [0] (by decide) rfl)⟩
 ·refine cw_f rfl hb10 (cw_skip (qn_then (cw_sr ?_)))
  refine t_rd rfl (rd_ld tA27 rfl (hm9.blk 0 rfl) rfl) ?_
  obtain ⟨r13, h14, q15⟩ := ob q11; clear q11
  refine t_ef rfl (ef_call tf61 rfl (leastcode_relations_ok h14 (hv0_Items.to_call hm9))) ?_
  rintro _ w19 ⟨zs17, v16, e_, hm18⟩
  obtain rfl := e_.symm
  have hm20 := hm9.call hm18
  refine t_as rfl rfl (rwt_n (cw_sr ?_))
  refine t_rd rfl (rd_ld tA27 rfl (hm20.blk 2 rfl) rfl) ?_
  refine t_mv rfl rfl ?_
  obtain ⟨r21, h22, q23⟩ := ob q15; clear q15
  refine t_ef rfl (ef_call tf60 rfl (leastcode_solve_ok h22 (hv0_Items.to_call hm20) ((Nl.mk (hm20.sl_call 0 rfl) (hm20.rows_call 1 rfl)).sl))) ?_
  rintro _ w27 ⟨v24, v25, e_, hm26⟩
  obtain rfl := e_.symm
  have hm28 := hm20.call hm26
  refine t_mv rfl rfl ?_
  refine t_rd rfl (rd_extract rfl rfl) ?_
  refine t_rd rfl (rd_extract rfl rfl) ?_
  refine t_rd rfl (rd_extract rfl rfl) ?_
  refine t_as rfl rfl (t_as rfl rfl (t_as rfl rfl (rwt_n (cw_seq (cw_sr ?_)))))
  refine t_mv rfl rfl ?_
  refine t_rd rfl (rd_neq rfl rfl) ?_
  refine rwt_n ?_
  obtain ⟨hb29, q30⟩ | ⟨hb29, q30⟩ := oi q23 <;> clear q23
  ·refine cw_t rfl hb29 (cw_sr (t_mv rfl rfl (t_as rfl rfl (t_as rfl rfl (rwt_n ?_)))))
   refine cw_ret ?_
   refine qr_then ?_
   obtain rfl := os q30
   have hm31 := hm28.addNil (α := Int) 3
   exact ret2 rfl rfl rfl ⟨(Value.slice none 0 0), rfl, (hm31.pick [0] (by decide) rfl)⟩
  ·refine cw_f rfl hb29 (cw_skip (qn_then (cw_seq (cw_sr (t_mv rfl rfl ?_)))))
   refine t_rd rfl (rd_lenS tS22 rfl (hm28.sl 1 rfl)) ?_
   refine t_rd rfl (rd_eql rfl rfl) ?_
   refine rwt_n ?_
   obtain ⟨hb32, q33⟩ | ⟨hb32, q33⟩ := oi q30 <;> clear q30
   ·refine cw_t rfl hb32 (cw_sr (t_as rfl rfl (t_as rfl rfl (rwt_n ?_))))
    refine cw_ret ?_
    refine qr_then ?_
    obtain rfl := os q33
    have hm34 := hm28.addNil (α := Int) 3
    exact ret2 rfl rfl rfl ⟨(Value.slice none 0 0), rfl, (hm34.pick [0] (by decide) rfl)⟩
   ·refine cw_f rfl hb32 (cw_skip (qn_then (cw_sr (t_mv rfl rfl (t_mv rfl rfl ?_)))))
    obtain ⟨r35, h36, q37⟩ := ob q33; clear q33
    refine t_ef rfl (ef_call tf63 rfl (g_slices_Max_int_int_ok h36 (hm28.sl_call 1 rfl))) ?_
    rintro _ w39 ⟨e_, hm38⟩
    obtain rfl := e_.symm
    have hm40 := hm28.call hm38
    obtain ⟨r41, h42, q43⟩ := ob q37; clear q37
    refine t_ef rfl (ef_call tf62 rfl (g_slices_Index_int_int_ok h42 (hm40.sl_call 1 rfl))) ?_
    rintro _ w45 ⟨e_, hm44⟩
    obtain rfl := e_.symm
    have hm46 := hm40.call hm44
    refine t_as rfl rfl (rwt_n (cw_sr (t_mv rfl rfl ?_)))
    refine t_ef rfl (ef_bslice (l := ([r41] : List Int)) hm46 tS22 rfl (cs := #[(Value.int .i64 r41)]) (by unfold bsl; kernel_rfl) rfl rfl) ?_
    intro v47 w49 hm48
    refine t_as rfl rfl (rwt_n (cw_seq (cw_block ?_)))
    obtain ⟨r542, hit543, q544⟩ := ob q43; clear q43
    refine cw_loop2 (I := fun q envq wq => ∃ (v535 : Value), Sub [(5, v16), (6, v24), (7, v25), (9, (Value.int .i64 q.1)), (10, v535)] envq ∧ Mem w No [ownL 3 v535 (q.2 : List Int), ownL 3 v24 (r21.1 : List Int), ownL 3 v25 (r21.2.1 : List Int), ownL 22 v16 (zs17 : List Hdr), rowsC 3 zs17 (r13 : List (List Int)) none] wq) (X := fun eq envq wq => eq = .exit 0 ∧ ∃ (v532 : Value), Sub [(10, v532)] envq ∧ Mem w No [ownL 3 v532 (r542 : List Int)] wq) hit543 ⟨v47, (by repeat (first | exact Sub.nil _ | refine Sub.cons rfl ?_)), (hm48.pick [0, 1, 2, 3, 4] (by decide) rfl)⟩ ?_ ?_
    ·rintro ⟨i533, l534⟩ x537 env538 w539 hf540 hr541 ⟨v535, hs_, hm_⟩
     have hs_ : Sub [(5, v16), (6, v24), (7, v25), (9, (Value.int .i64 i533)), (10, v535)] env538 := hs_
     have hm545 : Mem w No [ownL 3 v535 (l534 : List Int), ownL 3 v24 (r21.1 : List Int), ownL 3 v25 (r21.2.1 : List Int), ownL 22 v16 (zs17 : List Hdr), rowsC 3 zs17 (r13 : List (List Int)) none] w539 := hm_
     refine cw_sub hs_ ?_
     clear hs_ hm_ q544
     have h : leastcode_Witness_l3 N r13 r21 i533 l534 = some x537 := hf540
     clear hf540
     refine cw_seq (cw_sr (t_mv rfl rfl (t_mv rfl rfl ?_)))
     obtain ⟨x546, h547, q548⟩ := ob h; clear h
     refine t_rd rfl (rd_index tS22 rfl rfl (hm545.sl 1 rfl) h547) ?_
     refine t_rd rfl (rd_ld1 tO3 rfl ((hm545.sl 1 rfl).cells h547) (off := 0) rfl) ?_
     refine t_rd rfl (rd_gtr rfl rfl) ?_
     refine rwt_n ?_
     obtain ⟨hb549, q550⟩ | ⟨hb549, q550⟩ := oi q548 <;> clear q548
     ·refine cw_t rfl hb549 (cw_skip (qn_then (cw_block (cw_seq (cw_sr ?_)))))
      refine t_mv rfl rfl ?_
      refine t_rd rfl (rd_lenS tS22 rfl (hm545.sl 2 rfl)) ?_
      refine t_mv rfl rfl (rwt_n (cw_block ?_))
      obtain ⟨r698, hit699, q700⟩ := ob q550; clear q550
      refine cw_loop2 (I := fun q envq wq => Sub [(5, v16), (6, v24), (7, v25), (9, (Value.int .i64 i533)), (10, v535), (45, (Value.int .i64 (List.length r21.2.1 : Int))), (46, (Value.int .i64 q))] envq ∧ Mem w No [ownL 3 v535 (l534 : List Int), ownL 3 v24 (r21.1 : List Int), ownL 3 v25 (r21.2.1 : List Int), ownL 22 v16 (zs17 : List Hdr), rowsC 3 zs17 (r13 : List (List Int)) none] wq) (X := fun eq envq wq => eq = .exit 2 ∧ Sub [(5, v16), (6, v24), (7, v25), (9, (Value.int .i64 r698)), (10, v535)] envq ∧ Mem w No [ownL 3 v535 (l534 : List Int), ownL 3 v24 (r21.1 : List Int), ownL 3 v25 (r21.2.1 : List Int), ownL 22 v16 (zs17 : List Hdr), rowsC 3 zs17 (r13 : List (List Int)) none] wq) hit699 ⟨(by repeat (first | exact Sub.nil _ | refine Sub.cons rfl ?_)), (hm545.pick [0, 1, 2, 3, 4] (by decide) rfl)⟩ ?_ ?_
      ·rintro i691 x693 env694 w695 hf696 hr697 ⟨hs_, hm_⟩
       have hs_ : Sub [(5, v16), (6, v24), (7, v25), (9, (Value.int .i64 i533)), (10, v535), (45, (Value.int .i64 (List.length r21.2.1 : Int))), (46, (Value.int .i64 i691))] env694 := hs_
       have hm701 : Mem w No [ownL 3 v535 (l534 : List Int), ownL 3 v24 (r21.1 : List Int), ownL 3 v25 (r21.2.1 : List Int), ownL 22 v16 (zs17 : List Hdr), rowsC 3 zs17 (r13 : List (List Int)) none] w695 := hm_
       refine cw_sub hs_ ?_
       clear hs_ hm_ q700
       have h : leastcode_Witness_l4 N r13 r21 i533 i691 = some x693 := hf696
       clear hf696
       refine cw_sr (t_rd rfl (rd_lss rfl rfl) (rwt_n (cw_seq ?_)))
       obtain ⟨hb702, q703⟩ | ⟨hb702, q703⟩ := oi h <;> clear h
       ·refine cw_t rfl hb702 (cw_skip (qn_then (cw_seq (cw_block (cw_sr ?_)))))
        refine t_mv rfl rfl (t_as rfl rfl (rwt_n (cw_sr (t_mv rfl rfl (t_mv rfl rfl ?_)))))
        obtain ⟨x704, h705, q706⟩ := ob q703; clear q703
        refine t_rd rfl (rd_index tS41 rfl rfl ((Nl.mk (hm701.sl_call 3 rfl) (hm701.rows_call 4 rfl)).sl) h705) ?_
        obtain ⟨zd707, hz708⟩ := (Nl.mk (hm701.sl_call 3 rfl) (hm701.rows_call 4 rfl)).row h705
        refine t_rd rfl (rd_ld1 tO22 rfl ((Nl.mk (hm701.sl_call 3 rfl) (hm701.rows_call 4 rfl)).cells hz708) (off := 0) rfl) ?_
        refine t_mv rfl rfl ?_
        obtain ⟨x709, h710, q711⟩ := ob q706; clear q706
        refine t_rd rfl (rd_index tS22 rfl rfl ((Nl.mk (hm701.sl_call 3 rfl) (hm701.rows_call 4 rfl)).get hz708 h705) h710) ?_
        refine t_rd rfl (rd_ld1 tO3 rfl (((Nl.mk (hm701.sl_call 3 rfl) (hm701.rows_call 4 rfl)).get hz708 h705).cells h710) (off := 0) rfl) ?_
        refine t_as rfl rfl (rwt_n (cw_seq ?_))
        obtain ⟨w738, he740⟩ : ∃ q, q = w695.drew := ⟨_, rfl⟩
        have hm739 := hm701.drew; rw [← he740] at hm739
        refine cw_region_s (fun q => q = w738) (cls [] []) mixed ?_
        rintro _ rfl; rw [← he740]
        refine s_rp (i := 0) rfl (by kernel_rfl) rfl (fun _ => (rd_move rfl)) ?_
        refine s_rp (i := 1) rfl (by kernel_rfl) rfl (fun _ => (rd_gtr rfl rfl)) ?_
        refine s_rp (i := 2) rfl (by kernel_rfl) rfl (fun _ => (rd_move rfl)) ?_
        refine s_rpg (i := 3) rfl (by kernel_rfl) rfl rfl rfl rfl (gv_t _) (fun hg741 _ => (rd_move rfl)) ?_
        refine s_rpg (i := 4) rfl (by kernel_rfl) rfl rfl rfl rfl (gv_t _) (fun hg742 _ => (rd_move rfl)) ?_
        obtain ⟨x744, h745, q746⟩ := ob q711; clear q711
        refine s_rpg (i := 5) rfl (by kernel_rfl) rfl rfl rfl rfl (gv_t _) (fun hg743 _ => (rd_index tS22 (gvx rfl hg743) (gvx rfl hg743) (hm739.sl 2 rfl) (gO_t h745 hg743))) ?_
        refine s_rdg (i := 6) rfl (by kernel_rfl) rfl rfl rfl rfl (gv_t _) (fun hg747 => (fun _ hS => by rw [hS]; exact (rd_ld1 tO3 (gvx rfl hg747) ((hm739.sl 2 rfl).cells (gO_t h745 hg747)) (off := 0) rfl))) rfl ?_
        refine s_rpg (i := 7) rfl (by kernel_rfl) rfl rfl rfl rfl (gv_t _) (fun hg748 _ => (rd_move rfl)) ?_
        obtain ⟨x750, h751, q752⟩ := ob q746; clear q746
        refine s_rpg (i := 8) rfl (by kernel_rfl) rfl rfl rfl rfl (gv_t _) (fun hg749 _ => (rd_add64 (gO_t h751 hg749) (gvx rfl hg749) (gvx rfl hg749))) ?_
        obtain ⟨x754, h755, q756⟩ := ob q752; clear q752
        refine s_rpg (i := 9) rfl (by kernel_rfl) rfl rfl rfl rfl (gv_t _) (fun hg753 _ => (rd_sub64 (gO_t h755 hg753) (gvx rfl hg753) rfl)) ?_
        refine s_rpg (i := 10) rfl (by kernel_rfl) rfl rfl rfl rfl (gv_t _) (fun hg757 _ => (rd_move rfl)) ?_
        refine s_rpg (i := 11) rfl (by kernel_rfl) rfl rfl rfl rfl (gv_t _) (fun hg758 _ => (rd_move rfl)) ?_
        obtain ⟨x760, h761, q762⟩ := ob q756; clear q756
        refine s_rpg (i := 12) rfl (by kernel_rfl) rfl rfl rfl rfl (gv_t _) (fun hg759 _ => (rd_index tS22 (gvx rfl hg759) (gvx rfl hg759) (hm739.sl 1 rfl) (gO_t h761 hg759))) ?_
        refine s_rdg (i := 13) rfl (by kernel_rfl) rfl rfl rfl rfl (gv_t _) (fun hg763 => (fun _ hS => by rw [hS]; exact (rd_ld1 tO3 (gvx rfl hg763) ((hm739.sl 1 rfl).cells (gO_t h761 hg763)) (off := 0) rfl))) rfl ?_
        refine s_rpg (i := 14) rfl (by kernel_rfl) rfl rfl rfl rfl (gv_t _) (fun hg764 _ => (rd_eql (gvx rfl hg764) (gvx rfl hg764))) ?_
        refine s_rp (i := 15) rfl (by kernel_rfl) rfl (fun _ => (rd_and rfl (fun hc765 => (gvx rfl hc765)))) ?_
        refine s_nil (by kernel_rfl) ?_
        refine qn_then ?_
        obtain ⟨hb766, q767⟩ | ⟨hb766, q767⟩ := oi q762 <;> clear q762
        ·refine cw_t rfl hb766 (cw_sr (t_mv rfl rfl (t_as rfl rfl (rwt_n ?_))))
         refine cw_exit ?_
         refine qx_other rfl (qx_then (qx_then ?_))
         obtain rfl := hr697 _ (os q767)
         exact ⟨rfl, (by repeat (first | exact Sub.nil _ | refine Sub.cons rfl ?_)), (hm739.pick [0, 1, 2, 3, 4] (by decide) rfl)⟩
        ·refine cw_f rfl hb766 (cw_skip ?_)
         refine qn_block (qn_then ?_)
         refine cw_region ?_
         obtain ⟨x768, h769, q770⟩ := ob q767; clear q767
         refine t_rd rfl (rd_add64 h769 rfl rfl) (t_mv rfl rfl (rwt_n ?_))
         refine ⟨_, (os q770), (by repeat (first | exact Sub.nil _ | refine Sub.cons rfl ?_)), (hm739.pick [0, 1, 2, 3, 4] (by decide) rfl)⟩
       ·refine cw_f rfl hb702 ?_
        refine cw_exit ?_
        refine qx_then (qx_then ?_)
        obtain rfl := hr697 _ (os q703)
        exact ⟨rfl, (by repeat (first | exact Sub.nil _ | refine Sub.cons rfl ?_)), (hm701.pick [0, 1, 2, 3, 4] (by decide) rfl)⟩
      ·skip
       intro e env771 w772 hX773
       obtain ⟨rfl, hs774, hm775⟩ := hX773
       refine qx_same (qn_then ?_)
       refine cw_sub hs774 ?_
       refine cw_region ?_
       refine t_mv rfl rfl (t_mv rfl rfl ?_)
       refine t_ef rfl (ef_bslice (l := ([r698] : List Int)) hm775 tS22 rfl (cs := #[(Value.int .i64 r698)]) (by unfold bsl; kernel_rfl) rfl rfl) ?_
       intro v776 w778 hm777
       obtain ⟨l779, h780, q781⟩ := ob q700; clear q700
       refine t_ef rfl (ef_append (k := 1) hm777 tS22 tE3 rfl rfl rfl rfl (hm777.sl 0 rfl) h780) ?_
       intro v782 w784 hm783
       refine t_as rfl rfl ?_
       refine rwt_nil ?_
       refine qn_block (qn_then ?_)
       refine ⟨_, (os q781), v782, (by repeat (first | exact Sub.nil _ | refine Sub.cons rfl ?_)), (hm783.pick [1, 2, 3, 4, 5] (by decide) rfl)⟩
     ·refine cw_f rfl hb549 ?_
      refine cw_exit ?_
      refine qx_then (qx_then ?_)
      obtain rfl := hr541 _ (os q550)
      exact ⟨rfl, v535, (by repeat (first | exact Sub.nil _ | refine Sub.cons rfl ?_)), (hm545.pick [0] (by decide) rfl)⟩
    ·skip
     intro e env785 w786 hX787
     obtain ⟨rfl, v532, hs788, hm789⟩ := hX787
     refine qx_same (qn_then ?_)
     refine cw_sub hs788 ?_
     refine cw_sr (t_mv rfl rfl ?_)
     obtain ⟨r790, h791, q792⟩ := ob q544; clear q544
     refine t_ef rfl (ef_call tf64 rfl (g_slices_Reverse_int_int_ok h791 (hm789.get (k := 0) rfl))) ?_
     rintro _ w794 ⟨e_, hm793⟩
     obtain rfl := e_.symm
     have hm795 := hm789.callT (k := 0) rfl (fun _ h => h) hm793 (fun _ => Iff.rfl)
     refine rwt_n (cw_sr (t_mv rfl rfl (t_as rfl rfl (t_as rfl rfl (rwt_n ?_)))))
     refine cw_ret ?_
     obtain rfl := os q792
     exact ret2 rfl rfl rfl ⟨v532, rfl, (hm795.pick [0] (by decide) rfl)⟩

theorem certificate_Make_ok {N : Nat} {a0_Items : List T_Item} {a0_Weight : Int} {res : Int × List Int × List Int × Int} (h : certificate_Make N a0_Items a0_Weight = some res) {w : World} {v0_Items : Value} (hv0_Items : Sl (Old w No) w v0_Items a0_Items) :
  CallsR Tryz.prog 8 [(Value.agg #[v0_Items, (Value.int .i64 a0_Weight)])] w (fun u w' => ∃ (y0 : Value) (y1 : Value), u = (Value.tuple #[(Value.agg #[(Value.int .i64 res.1), y0, y1]), (Value.int .i64 res.2.2.2)]) ∧ Mem w No [ownL 3 y0 (res.2.1 : List Int), ownL 3 y1 (res.2.2.1 : List Int)] w') := by
 unfold certificate_Make at h
 refine fn_ok Tryz.func8 rfl rfl rfl ?_
 have hm0 := Mem.nil w
 refine cw_sr ?_
 refine t_ef rfl (ef_box hm0 rfl rfl) ?_
 rintro _ w3 ⟨g1, rfl, hm2⟩
 refine t_ef rfl (ef_alloc hm2 tZ32 rfl) ?_
 rintro _ w6 ⟨g4, rfl, hm5⟩
 refine t_as rfl rfl (rwt_n (cw_sr ?_))
 refine t_rd rfl (rd_ld tA27 rfl (hm5.blk 1 rfl) rfl) ?_
 obtain ⟨r7, h8, q9⟩ := ob h; clear h
 refine t_ef rfl (ef_call tf28 rfl (leastcode_Least_ok h8 (hv0_Items.to_call hm5))) ?_
 rintro _ w12 ⟨v10, e_, hm11⟩
 obtain rfl := e_.symm
 have hm13 := hm5.call hm11
 refine t_mv rfl rfl ?_
 refine t_rd rfl (rd_extract rfl rfl) ?_
 refine t_rd rfl (rd_extract rfl rfl) ?_
 refine t_ef rfl (ef_alloc hm13 tZ30 rfl) ?_
 rintro _ w16 ⟨g14, rfl, hm15⟩
 refine t_ef0 (ef_stw (k := 0) hm15 tA30 rfl rfl (oc_cons rfl (oc_cons (sl_one (hm15.sl 1 rfl)) oc_nil)) rfl rfl rfl) ?_
 intro _ w18 hm17
 refine t_as rfl rfl (rwt_n (cw_seq (cw_sr (t_mv rfl rfl ?_))))
 refine t_rd rfl (rd_neq rfl rfl) ?_
 refine rwt_n ?_
 obtain ⟨hb19, q20⟩ | ⟨hb19, q20⟩ := oi q9 <;> clear q9
 ·refine cw_t rfl hb19 (cw_sr ?_)
  refine t_rd rfl (rd_build (cs := #[(Value.int .i64 0), (Value.slice none 0 0), (Value.slice none 0 0)]) rfl (by kernel_rfl)) ?_
  refine t_mv rfl rfl ?_
  refine t_ef0 (ef_stw (k := 2) hm17 tA32 rfl rfl (oc_cons rfl (oc_cons (sl_one (Sl.nil (α := Int) No w18)) (oc_cons (sl_one (Sl.nil (α := Int) No w18)) oc_nil))) rfl rfl rfl) ?_
  intro _ w22 hm21
  refine t_as rfl rfl (rwt_n ?_)
  refine cw_ret ?_
  refine qr_then ?_
  obtain rfl := os q20
  have hm23 := hm21.addNil (α := Int) 3
  have hm24 := hm23.addNil (α := Int) 3
  exact retLn (rs := [.cell 2 32, .tmp 3]) rfl (.rc rfl tA32 (hm24.blk 4 rfl) rfl (.rt rfl .rn)) rfl ⟨(Value.slice none 0 0), (Value.slice none 0 0), rfl, (hm24.pick [1, 0] (by decide) rfl)⟩
 ·refine cw_f rfl hb19 (cw_skip (qn_then (cw_sr ?_)))
  refine t_rd rfl (rd_ld tA27 rfl (hm17.blk 3 rfl) rfl) ?_
  obtain ⟨r25, h26, q27⟩ := ob q20; clear q20
  refine t_ef rfl (ef_call tf29 rfl (leastcode_Witness_ok h26 (hv0_Items.to_call hm17))) ?_
  rintro _ w30 ⟨v28, e_, hm29⟩
  obtain rfl := e_.symm
  have hm31 := hm17.call hm29
  refine t_mv rfl rfl ?_
  refine t_rd rfl (rd_extract rfl rfl) ?_
  refine t_rd rfl (rd_extract rfl rfl) ?_
  refine t_as rfl rfl (t_as rfl rfl (rwt_n (cw_seq (cw_sr (t_mv rfl rfl ?_)))))
  refine t_rd rfl (rd_neq rfl rfl) ?_
  refine rwt_n ?_
  obtain ⟨hb32, q33⟩ | ⟨hb32, q33⟩ := oi q27 <;> clear q27
  ·refine cw_t rfl hb32 (cw_sr ?_)
   refine t_rd rfl (rd_build (cs := #[(Value.int .i64 0), (Value.slice none 0 0), (Value.slice none 0 0)]) rfl (by kernel_rfl)) ?_
   refine t_mv rfl rfl ?_
   refine t_ef0 (ef_stw (k := 3) hm31 tA32 rfl rfl (oc_cons rfl (oc_cons (sl_one (Sl.nil (α := Int) No w30)) (oc_cons (sl_one (Sl.nil (α := Int) No w30)) oc_nil))) rfl rfl rfl) ?_
   intro _ w35 hm34
   refine t_as rfl rfl (rwt_n ?_)
   refine cw_ret ?_
   refine qr_then ?_
   obtain rfl := os q33
   have hm36 := hm34.addNil (α := Int) 3
   have hm37 := hm36.addNil (α := Int) 3
   exact retLn (rs := [.cell 2 32, .tmp 3]) rfl (.rc rfl tA32 (hm37.blk 5 rfl) rfl (.rt rfl .rn)) rfl ⟨(Value.slice none 0 0), (Value.slice none 0 0), rfl, (hm37.pick [1, 0] (by decide) rfl)⟩
  ·refine cw_f rfl hb32 (cw_skip (qn_then (cw_sr ?_)))
   refine t_rd rfl (rd_ld tA30 rfl (hm31.blk 1 rfl) rfl) ?_
   refine t_mv rfl rfl ?_
   refine t_rd rfl (rd_build (cs := #[(Value.int .i64 r7.1), v10, v28]) rfl (by obtain ⟨_, _, e⟩ := ((hm31.sl 2 rfl)).val; rw [e]; clear e; obtain ⟨_, _, e⟩ := ((hm31.sl 0 rfl)).val; rw [e]; clear e; kernel_rfl)) ?_
   refine t_ef0 (ef_stw (k := 3) hm31 tA32 rfl rfl (oc_cons rfl (oc_cons (sl_one (hm31.sl 2 rfl)) (oc_cons (sl_one (hm31.sl 0 rfl)) oc_nil))) rfl rfl rfl) ?_
   intro _ w39 hm38
   refine t_as rfl rfl (rwt_n ?_)
   refine cw_ret ?_
   obtain rfl := os q33
   exact retLn (rs := [.cell 2 32, .tmp 3]) rfl (.rc rfl tA32 (hm38.blk 3 rfl) rfl (.rt rfl .rn)) rfl ⟨v10, v28, rfl, (hm38.pick [2, 0] (by decide) rfl)⟩

theorem rollin_Loads_ok {N : Nat} {a0_Items : List T_Item} {a0_Weight : Int} {a1_Steps : Int} {a1_Codes : List Int} {res : List Int × Int} (h : rollin_Loads N a0_Items a0_Weight a1_Steps a1_Codes = some res) {w : World} {v0_Items : Value} {v1_Codes : Value} (hv0_Items : Sl (Old w No) w v0_Items a0_Items) (hv1_Codes : Sl (Old w No) w v1_Codes a1_Codes) :
  CallsR Tryz.prog 56 [(Value.agg #[v0_Items, (Value.int .i64 a0_Weight)]), (Value.agg #[(Value.int .i64 a1_Steps), v1_Codes])] w (fun u w' => ∃ (y0 : Value), u = (Value.tuple #[y0, (Value.int .i64 res.2)]) ∧ Mem w No [ownL 3 y0 (res.1 : List Int)] w') := by
 unfold rollin_Loads at h
 refine fn_ok Tryz.func56 rfl rfl rfl ?_
 have hm0 := Mem.nil w
 refine cw_sr ?_
 refine t_ef rfl (ef_box hm0 rfl rfl) ?_
 rintro _ w3 ⟨g1, rfl, hm2⟩
 refine t_ef rfl (ef_box hm2 rfl rfl) ?_
 rintro _ w6 ⟨g4, rfl, hm5⟩
 refine t_as rfl rfl (t_as rfl rfl (rwt_n (cw_seq (cw_sr ?_))))
 refine t_rd rfl (rd_ld tA27 rfl (hm5.blk 1 rfl) rfl) ?_
 refine t_rd rfl (rd_ld tA30 rfl (hm5.blk 0 rfl) rfl) ?_
 obtain ⟨r7, h8, q9⟩ := ob h; clear h
 refine t_ef rfl (ef_call tf31 rfl (rollin_Valid_ok h8 (hv0_Items.to_call hm5) (hv1_Codes.to_call hm5))) ?_
 rintro _ w11 ⟨e_, hm10⟩
 obtain rfl := e_.symm
 have hm12 := hm5.call hm10
 refine t_as rfl rfl (rwt_n (cw_sr (t_mv rfl rfl ?_)))
 refine t_rd rfl (rd_neq rfl rfl) ?_
 refine rwt_n ?_
 obtain ⟨hb13, q14⟩ | ⟨hb13, q14⟩ := oi q9 <;> clear q9
 ·refine cw_t rfl hb13 (cw_sr (t_mv rfl rfl (t_as rfl rfl (t_as rfl rfl (rwt_n ?_)))))
  refine cw_ret ?_
  refine qr_then ?_
  obtain rfl := os q14
  have hm15 := hm12.addNil (α := Int) 3
  exact ret2 rfl rfl rfl ⟨(Value.slice none 0 0), rfl, (hm15.pick [0] (by decide) rfl)⟩
 ·refine cw_f rfl hb13 (cw_skip (qn_then (cw_seq ?_)))
  obtain ⟨w37, he39⟩ : ∃ q, q = w11.drew := ⟨_, rfl⟩
  have hm38 := hm12.drew; rw [← he39] at hm38
  refine cw_region_s (fun q => (blk g4 30 [(Value.int .i64 a1_Steps), v1_Codes]).φ q ∧ (blk g1 27 [v0_Items, (Value.int .i64 a0_Weight)]).φ q) (cls [4] [10]) mixed ?_
  rintro _ rfl; rw [← he39]
  refine s_rp (i := 0) rfl (by kernel_rfl) rfl (fun _ => (rd_fld tF30_0 rfl)) ?_
  refine s_rd (i := 1) rfl (by kernel_rfl) rfl (fun w36 hS => (rd_ld1 tO3 rfl (cells_blk hS.1) (off := 0) rfl)) ⟨(hm38.get (k := 0) rfl), (hm38.get (k := 1) rfl)⟩ ?_
  refine s_rd (i := 2) rfl (by kernel_rfl) rfl (fun w36 hS => (rd_ld tA27 rfl (cells_blk hS.2) rfl)) ⟨(hm38.get (k := 0) rfl), (hm38.get (k := 1) rfl)⟩ ?_
  refine s_rd (i := 3) rfl (by kernel_rfl) rfl (fun w36 hS => (rd_ld tA30 rfl (cells_blk hS.1) rfl)) ⟨(hm38.get (k := 0) rfl), (hm38.get (k := 1) rfl)⟩ ?_
  obtain ⟨r60, h61, q62⟩ := ob q14; clear q14
  refine s_ef (i := 4) rfl (by kernel_rfl) rfl (ef_call tf85 rfl (rollin_start_ok h61 (hv0_Items.to_call hm38) (hv1_Codes.to_call hm38))) (by decide) ?_ ?_
  ·rintro _ w69 ⟨g63, zs64, v65, zs66, v67, e_, hm68⟩
   obtain rfl := e_.symm
   have hm70 := hm38.call hm68
   intro _
   exact ⟨(hm70.get (k := 5) rfl), (hm70.get (k := 6) rfl)⟩
  rintro _ w69 ⟨g63, zs64, v65, zs66, v67, e_, hm68⟩
  obtain rfl := e_.symm
  have hm70 := hm38.call hm68
  refine s_rp (i := 5) rfl (by kernel_rfl) rfl (fun _ => (rd_nilCheck rfl)) ?_
  refine s_rp (i := 6) rfl (by kernel_rfl) rfl (fun _ => (rd_fld tF131_3 rfl)) ?_
  refine s_re (S' := fun q => q = w69) (T' := cls [] [10]) (by kernel_rfl) ?_
  refine s_rd (i := 7) rfl (by kernel_rfl) rfl (fun _ hS => by rw [hS]; exact (rd_ld1 tO41 rfl (hm70.blk 0 rfl) (off := 5) rfl)) rfl ?_
  refine s_rp (i := 8) rfl (by kernel_rfl) rfl (fun _ => (rd_lenS tS41 rfl ((Nl.mk (hm70.sl_call 3 rfl) (hm70.rows_call 4 rfl)).sl))) ?_
  obtain ⟨x71, h72, q73⟩ := ob q62; clear q62
  refine s_rp (i := 9) rfl (by kernel_rfl) rfl (fun _ => (rd_add64 h72 rfl rfl)) ?_
  obtain ⟨l74, h75, q76⟩ := ob q73; clear q73
  refine s_ef (i := 10) rfl (by kernel_rfl) rfl (ef_make hm70 tS22 tE3 rfl rfl rfl h75) (by decide) (fun _ _ _ q => absurd q (by decide)) ?_
  intro v77 w79 hm78
  refine s_rp (i := 11) rfl (by kernel_rfl) rfl (fun _ => (rd_assign rfl)) ?_
  refine s_nil (by kernel_rfl) ?_
  refine qn_then (cw_seq (cw_sr (t_rd rfl (rd_fld tF27_0 rfl) ?_)))
  refine t_rd rfl (rd_ld1 tO25 rfl (hm78.blk 7 rfl) (off := 0) rfl) ?_
  refine t_rd rfl (rd_lenS tS25 rfl (hv0_Items.of_old hm78)) ?_
  refine t_mv rfl rfl (rwt_n (cw_block ?_))
  obtain ⟨r443, hit444, q445⟩ := ob q76; clear q76
  refine cw_loop2 (I := fun q envq wq => Sub [(3, (Value.pointer (some ⟨g4, 0, none⟩))), (7, v77), (29, v0_Items), (30, (Value.int .i64 (List.length a0_Items : Int))), (31, (Value.int .i64 q.1))] envq ∧ Mem w No [ownL 3 v77 (q.2 : List Int), blk g4 30 [(Value.int .i64 a1_Steps), v1_Codes]] wq) (X := fun eq envq wq => eq = .exit 0 ∧ Sub [(7, v77)] envq ∧ Mem w No [ownL 3 v77 (r443 : List Int)] wq) hit444 ⟨(by repeat (first | exact Sub.nil _ | refine Sub.cons rfl ?_)), (hm78.pick [0, 6] (by decide) rfl)⟩ ?_ ?_
  ·rintro ⟨i435, l436⟩ x438 env439 w440 hf441 hr442 ⟨hs_, hm_⟩
   have hs_ : Sub [(3, (Value.pointer (some ⟨g4, 0, none⟩))), (7, v77), (29, v0_Items), (30, (Value.int .i64 (List.length a0_Items : Int))), (31, (Value.int .i64 i435))] env439 := hs_
   have hm446 : Mem w No [ownL 3 v77 (l436 : List Int), blk g4 30 [(Value.int .i64 a1_Steps), v1_Codes]] w440 := hm_
   refine cw_sub hs_ ?_
   clear hs_ hm_ q445
   have h : rollin_Loads_l3 N a0_Items a1_Steps a1_Codes i435 l436 = some x438 := hf441
   clear hf441
   refine cw_sr (t_rd rfl (rd_lss rfl rfl) (rwt_n (cw_seq ?_)))
   obtain ⟨hb447, q448⟩ | ⟨hb447, q448⟩ := oi h <;> clear h
   ·refine cw_t rfl hb447 (cw_skip (qn_then (cw_seq (cw_block (cw_sr ?_)))))
    refine t_mv rfl rfl ?_
    obtain ⟨x449, h450, q451⟩ := ob q448; clear q448
    refine t_rd rfl (rd_index tS25 rfl rfl (hv0_Items.of_old hm446) h450) ?_
    refine t_rd rfl (rd_ld tA40 rfl ((hv0_Items.of_old hm446).cells h450) rfl) ?_
    refine t_ef rfl (ef_alloc hm446 tZ40 rfl) ?_
    rintro _ w454 ⟨g452, rfl, hm453⟩
    refine t_as rfl rfl ?_
    refine t_ef0 (ef_stw (k := 0) hm453 tA40 rfl rfl (oc_cons rfl (oc_cons rfl (oc_cons rfl (oc_cons rfl oc_nil)))) rfl rfl rfl) ?_
    intro _ w456 hm455
    refine rwt_n (cw_seq (cw_sr (t_rd rfl (rd_fld tF40_2 rfl) ?_)))
    refine t_rd rfl (rd_ld1 tO3 rfl (hm455.blk 0 rfl) (off := 2) rfl) ?_
    refine t_as rfl rfl (rwt_n (cw_block ?_))
    obtain ⟨r546, hit547, q548⟩ := ob q451; clear q451
    refine cw_loop2 (I := fun q envq wq => Sub [(3, (Value.pointer (some ⟨g4, 0, none⟩))), (7, v77), (8, (Value.int .i64 i435)), (9, (Value.pointer (some ⟨g452, 0, none⟩))), (10, (Value.int .i64 q.1)), (29, v0_Items), (30, (Value.int .i64 (List.length a0_Items : Int))), (31, (Value.int .i64 i435))] envq ∧ Mem w No [blk g452 40 [(Value.int .i64 x449.Train), (Value.int .i64 x449.Block), (Value.int .i64 x449.Round), (Value.int .i64 x449.Length)], ownL 3 v77 (q.2 : List Int), blk g4 30 [(Value.int .i64 a1_Steps), v1_Codes]] wq) (X := fun eq envq wq => eq = .exit 2 ∧ Sub [(3, (Value.pointer (some ⟨g4, 0, none⟩))), (7, v77), (9, (Value.pointer (some ⟨g452, 0, none⟩))), (29, v0_Items), (30, (Value.int .i64 (List.length a0_Items : Int))), (31, (Value.int .i64 i435))] envq ∧ Mem w No [blk g452 40 [(Value.int .i64 x449.Train), (Value.int .i64 x449.Block), (Value.int .i64 x449.Round), (Value.int .i64 x449.Length)], ownL 3 v77 (r546 : List Int), blk g4 30 [(Value.int .i64 a1_Steps), v1_Codes]] wq) hit547 ⟨(by repeat (first | exact Sub.nil _ | refine Sub.cons rfl ?_)), (hm455.pick [0, 1, 2] (by decide) rfl)⟩ ?_ ?_
    ·rintro ⟨i538, l539⟩ x541 env542 w543 hf544 hr545 ⟨hs_, hm_⟩
     have hs_ : Sub [(3, (Value.pointer (some ⟨g4, 0, none⟩))), (7, v77), (8, (Value.int .i64 i435)), (9, (Value.pointer (some ⟨g452, 0, none⟩))), (10, (Value.int .i64 i538)), (29, v0_Items), (30, (Value.int .i64 (List.length a0_Items : Int))), (31, (Value.int .i64 i435))] env542 := hs_
     have hm549 : Mem w No [blk g452 40 [(Value.int .i64 x449.Train), (Value.int .i64 x449.Block), (Value.int .i64 x449.Round), (Value.int .i64 x449.Length)], ownL 3 v77 (l539 : List Int), blk g4 30 [(Value.int .i64 a1_Steps), v1_Codes]] w543 := hm_
     refine cw_sub hs_ ?_
     clear hs_ hm_ q548
     have h : rollin_Loads_l4 N a1_Steps a1_Codes i435 x449 i538 l539 = some x541 := hf544
     clear hf544
     refine cw_seq (cw_sr (t_mv rfl rfl (t_rd rfl (rd_fld tF30_0 rfl) ?_)))
     refine t_rd rfl (rd_ld1 tO3 rfl (hm549.blk 2 rfl) (off := 0) rfl) ?_
     refine t_rd rfl (rd_lss rfl rfl) (rwt_n ?_)
     obtain ⟨hb550, q551⟩ | ⟨hb550, q551⟩ := oi h <;> clear h
     ·refine cw_t rfl hb550 (cw_skip (qn_then (cw_seq (cw_block (cw_sr ?_)))))
      refine t_rd rfl (rd_fld tF30_1 rfl) ?_
      refine t_rd rfl (rd_ld1 tO22 rfl (hm549.blk 2 rfl) (off := 1) rfl) ?_
      refine t_mv rfl rfl ?_
      obtain ⟨x552, h553, q554⟩ := ob q551; clear q551
      refine t_rd rfl (rd_index tS22 rfl rfl (hv1_Codes.of_old hm549) h553) ?_
      refine t_rd rfl (rd_ld1 tO3 rfl ((hv1_Codes.of_old hm549).cells h553) (off := 0) rfl) ?_
      refine t_mv rfl rfl ?_
      obtain ⟨x555, h556, q557⟩ := ob q554; clear q554
      refine t_rd rfl (rd_shr_i64 h556 rfl rfl) ?_
      obtain ⟨x558, h559, q560⟩ := ob q557; clear q557
      refine t_rd rfl (rd_bits_and_i64 h559 rfl rfl) ?_
      refine t_rd rfl (rd_eql rfl rfl) ?_
      refine rwt_n ?_
      obtain ⟨hb561, q562⟩ | ⟨hb561, q562⟩ := oi q560 <;> clear q560
      ·refine cw_t rfl hb561 ?_
       obtain ⟨w572, he574⟩ : ∃ q, q = w543.drew := ⟨_, rfl⟩
       have hm573 := hm549.drew; rw [← he574] at hm573
       refine cw_region_s (fun q => q = w572) (cls [] [8]) mixed ?_
       rintro _ rfl; rw [← he574]
       refine s_rp (i := 0) rfl (by kernel_rfl) rfl (fun _ => (rd_move rfl)) ?_
       refine s_rp (i := 1) rfl (by kernel_rfl) rfl (fun _ => (rd_move rfl)) ?_
       obtain ⟨x575, h576, q577⟩ := ob q562; clear q562
       refine s_rp (i := 2) rfl (by kernel_rfl) rfl (fun _ => (rd_index tS22 rfl rfl (hm573.sl 1 rfl) h576)) ?_
       refine s_rd (i := 3) rfl (by kernel_rfl) rfl (fun _ hS => by rw [hS]; exact (rd_ld1 tO3 rfl ((hm573.sl 1 rfl).cells h576) (off := 0) rfl)) rfl ?_
       refine s_rp (i := 4) rfl (by kernel_rfl) rfl (fun _ => (rd_fld tF40_3 rfl)) ?_
       refine s_rd (i := 5) rfl (by kernel_rfl) rfl (fun _ hS => by rw [hS]; exact (rd_ld1 tO3 rfl (hm573.blk 0 rfl) (off := 3) rfl)) rfl ?_
       obtain ⟨x578, h579, q580⟩ := ob q577; clear q577
       refine s_rp (i := 6) rfl (by kernel_rfl) rfl (fun _ => (rd_add64 h579 rfl rfl)) ?_
       refine s_rp (i := 7) rfl (by kernel_rfl) rfl (fun _ => (rd_index tS22 rfl rfl (hm573.sl 1 rfl) h576)) ?_
       refine s_ef0 (i := 8) rfl (by kernel_rfl) (ef_stl (k := 1) (off := 0) (x' := x578) hm573 tO3 rfl rfl rfl rfl h576 rfl rfl) (by decide) (fun _ _ _ q => absurd q (by decide)) ?_
       intro _ w582 hm581
       refine s_nil (by kernel_rfl) ?_
       refine qn_block (qn_then ?_)
       refine cw_region ?_
       refine t_mv rfl rfl ?_
       obtain ⟨x583, h584, q585⟩ := ob q580; clear q580
       refine t_rd rfl (rd_add64 h584 rfl rfl) (t_as rfl rfl (rwt_n ?_))
       refine ⟨_, (os q585), (by repeat (first | exact Sub.nil _ | refine Sub.cons rfl ?_)), (hm581.pick [0, 1, 2] (by decide) rfl)⟩
      ·refine cw_f rfl hb561 (cw_skip ?_)
       refine qn_block (qn_then ?_)
       refine cw_region ?_
       refine t_mv rfl rfl ?_
       obtain ⟨x586, h587, q588⟩ := ob q562; clear q562
       refine t_rd rfl (rd_add64 h587 rfl rfl) (t_as rfl rfl (rwt_n ?_))
       refine ⟨_, (os q588), (by repeat (first | exact Sub.nil _ | refine Sub.cons rfl ?_)), (hm549.pick [0, 1, 2] (by decide) rfl)⟩
     ·refine cw_f rfl hb550 ?_
      refine cw_exit ?_
      refine qx_then (qx_then ?_)
      obtain rfl := hr545 _ (os q551)
      exact ⟨rfl, (by repeat (first | exact Sub.nil _ | refine Sub.cons rfl ?_)), (hm549.pick [0, 1, 2] (by decide) rfl)⟩
    ·skip
     intro e env589 w590 hX591
     obtain ⟨rfl, hs592, hm593⟩ := hX591
     refine qx_same (qn_then ?_)
     refine cw_sub hs592 ?_
     obtain ⟨w606, he608⟩ : ∃ q, q = w590.drew := ⟨_, rfl⟩
     have hm607 := hm593.drew; rw [← he608] at hm607
     refine cw_region_s (fun q => q = w606) (cls [] [12]) mixed ?_
     rintro _ rfl; rw [← he608]
     refine s_rp (i := 0) rfl (by kernel_rfl) rfl (fun _ => (rd_move rfl)) ?_
     refine s_rp (i := 1) rfl (by kernel_rfl) rfl (fun _ => (rd_fld tF30_0 rfl)) ?_
     refine s_rd (i := 2) rfl (by kernel_rfl) rfl (fun _ hS => by rw [hS]; exact (rd_ld1 tO3 rfl (hm607.blk 2 rfl) (off := 0) rfl)) rfl ?_
     refine s_rp (i := 3) rfl (by kernel_rfl) rfl (fun _ => (rd_fld tF40_0 rfl)) ?_
     refine s_rd (i := 4) rfl (by kernel_rfl) rfl (fun _ hS => by rw [hS]; exact (rd_ld1 tO3 rfl (hm607.blk 0 rfl) (off := 0) rfl)) rfl ?_
     obtain ⟨x609, h610, q611⟩ := ob q548; clear q548
     refine s_rp (i := 5) rfl (by kernel_rfl) rfl (fun _ => (rd_add64 h610 rfl rfl)) ?_
     obtain ⟨x612, h613, q614⟩ := ob q611; clear q611
     refine s_rp (i := 6) rfl (by kernel_rfl) rfl (fun _ => (rd_index tS22 rfl rfl (hm607.sl 1 rfl) h613)) ?_
     refine s_rd (i := 7) rfl (by kernel_rfl) rfl (fun _ hS => by rw [hS]; exact (rd_ld1 tO3 rfl ((hm607.sl 1 rfl).cells h613) (off := 0) rfl)) rfl ?_
     refine s_rp (i := 8) rfl (by kernel_rfl) rfl (fun _ => (rd_fld tF40_3 rfl)) ?_
     refine s_rd (i := 9) rfl (by kernel_rfl) rfl (fun _ hS => by rw [hS]; exact (rd_ld1 tO3 rfl (hm607.blk 0 rfl) (off := 3) rfl)) rfl ?_
     obtain ⟨x615, h616, q617⟩ := ob q614; clear q614
     refine s_rp (i := 10) rfl (by kernel_rfl) rfl (fun _ => (rd_add64 h616 rfl rfl)) ?_
     refine s_rp (i := 11) rfl (by kernel_rfl) rfl (fun _ => (rd_index tS22 rfl rfl (hm607.sl 1 rfl) h613)) ?_
     refine s_ef0 (i := 12) rfl (by kernel_rfl) (ef_stl (k := 1) (off := 0) (x' := x615) hm607 tO3 rfl rfl rfl rfl h613 rfl rfl) (by decide) (fun _ _ _ q => absurd q (by decide)) ?_
     intro _ w619 hm618
     refine s_nil (by kernel_rfl) ?_
     refine qn_block (qn_then ?_)
     refine cw_region ?_
     obtain ⟨x620, h621, q622⟩ := ob q617; clear q617
     refine t_rd rfl (rd_add64 h621 rfl rfl) (t_mv rfl rfl (rwt_n ?_))
     refine ⟨_, (os q622), (by repeat (first | exact Sub.nil _ | refine Sub.cons rfl ?_)), (hm618.pick [1, 2] (by decide) rfl)⟩
   ·refine cw_f rfl hb447 ?_
    refine cw_exit ?_
    refine qx_then (qx_then ?_)
    obtain rfl := hr442 _ (os q448)
    exact ⟨rfl, (by repeat (first | exact Sub.nil _ | refine Sub.cons rfl ?_)), (hm446.pick [0] (by decide) rfl)⟩
  ·skip
   intro e env623 w624 hX625
   obtain ⟨rfl, hs626, hm627⟩ := hX625
   refine qx_same (qn_then ?_)
   refine cw_sub hs626 ?_
   refine cw_sr (t_mv rfl rfl (t_as rfl rfl (t_as rfl rfl (rwt_n ?_))))
   refine cw_ret ?_
   obtain rfl := os q445
   exact ret2 rfl rfl rfl ⟨v77, rfl, (hm627.pick [0] (by decide) rfl)⟩

theorem assign_check_ok {N : Nat} {a0 : List Int} {a1 : List Int} {res : Int} (h : assign_check N a0 a1 = some res) {w : World} {v0 : Value} {v1 : Value} (hv0 : Sl (Old w No) w v0 a0) (hv1 : Sl (Old w No) w v1 a1) :
  CallsR Tryz.prog 86 [v0, v1] w (fun u w' => u = (Value.int .i64 res) ∧ Mem w No [] w') := by
 unfold assign_check at h
 refine fn_ok Tryz.func86 rfl rfl rfl ?_
 have hm0 := Mem.nil w
 refine cw_sr (t_as rfl rfl (rwt_n (cw_seq (cw_sr (t_mv rfl rfl ?_)))))
 refine t_rd rfl (rd_lenS tS22 rfl (hv0.of_old hm0)) ?_
 refine t_rd rfl (rd_gtr rfl rfl) ?_
 refine t_mv rfl rfl ?_
 refine t_rdg rfl rfl rfl rfl (gv_f _) (fun hg1 => (rd_move rfl)) ?_
 refine t_rdg rfl rfl rfl rfl (gv_f _) (fun hg2 => (rd_lenS tS22 (gvx rfl hg2) (hv1.of_old hm0))) ?_
 refine t_rdg rfl rfl rfl rfl (gv_f _) (fun hg3 => (rd_gtr (gvx rfl hg3) rfl)) ?_
 refine t_rd rfl (rd_or rfl (fun hc4 => (gvx rfl (bnotIt hc4)))) ?_
 refine rwt_n ?_
 obtain ⟨hb5, q6⟩ | ⟨hb5, q6⟩ := oi h <;> clear h
 ·refine cw_t rfl hb5 (cw_sr (t_as rfl rfl (rwt_n ?_)))
  refine cw_ret ?_
  refine qr_then ?_
  obtain rfl := os q6
  exact ret1 rfl rfl ⟨rfl, (hm0.pick [] (by decide) rfl)⟩
 ·refine cw_f rfl hb5 (cw_skip (qn_then (cw_seq (cw_sr (t_mv rfl rfl ?_)))))
  refine t_rd rfl (rd_lenS tS22 rfl (hv0.of_old hm0)) ?_
  refine t_mv rfl rfl (rwt_n (cw_block ?_))
  obtain ⟨r41, hit42, q43⟩ := ob q6; clear q6
  refine cw_loop2 (I := fun q envq wq => Sub [(1, v1), (17, v0), (18, (Value.int .i64 (List.length a0 : Int))), (19, (Value.int .i64 q))] envq ∧ Mem w No [] wq) (X := fun eq envq wq => (∃ p44, r41 = (Sum.inl p44) ∧ eq = .ret ∧ retQ Tryz.prog 43 Tryz.f86 (fun u w' => u = (Value.int .i64 p44) ∧ Mem w No [] w') .ret envq wq) ∨ (∃ p45, r41 = (Sum.inr p45) ∧ eq = .exit 0 ∧ Sub [(1, v1)] envq ∧ Mem w No [] wq)) hit42 ⟨(by repeat (first | exact Sub.nil _ | refine Sub.cons rfl ?_)), (hm0.pick [] (by decide) rfl)⟩ ?_ ?_
  ·rintro i34 x36 env37 w38 hf39 hr40 ⟨hs_, hm_⟩
   have hs_ : Sub [(1, v1), (17, v0), (18, (Value.int .i64 (List.length a0 : Int))), (19, (Value.int .i64 i34))] env37 := hs_
   have hm46 : Mem w No [] w38 := hm_
   refine cw_sub hs_ ?_
   clear hs_ hm_ q43
   have h : assign_check_l1 N a0 i34 = some x36 := hf39
   clear hf39
   refine cw_sr (t_rd rfl (rd_lss rfl rfl) (rwt_n (cw_seq ?_)))
   obtain ⟨hb47, q48⟩ | ⟨hb47, q48⟩ := oi h <;> clear h
   ·refine cw_t rfl hb47 (cw_skip (qn_then (cw_seq (cw_block (cw_sr ?_)))))
    obtain ⟨x49, h50, q51⟩ := ob q48; clear q48
    refine t_rd rfl (rd_index tS22 rfl rfl (hv0.of_old hm46) h50) ?_
    refine t_rd rfl (rd_ld1 tO3 rfl ((hv0.of_old hm46).cells h50) (off := 0) rfl) ?_
    refine t_as rfl rfl (rwt_n (cw_sr (t_mv rfl rfl (t_rd rfl (rd_lss rfl rfl) (t_mv rfl rfl ?_)))))
    refine t_rdg rfl rfl rfl rfl (gv_f _) (fun hg52 => (rd_move rfl)) ?_
    refine t_rdg rfl rfl rfl rfl (gv_f _) (fun hg53 => (rd_gtr (gvx rfl hg53) rfl)) ?_
    refine t_rd rfl (rd_or rfl (fun hc54 => (gvx rfl (bnotIt hc54)))) ?_
    refine rwt_n ?_
    obtain ⟨hb55, q56⟩ | ⟨hb55, q56⟩ := oi q51 <;> clear q51
    ·refine cw_t rfl hb55 (cw_sr (t_as rfl rfl (rwt_n ?_)))
     refine cw_ret ?_
     refine qr_block (qr_then (qr_then ?_))
     obtain rfl := hr40 _ (os q56)
     refine .inl (⟨_, rfl, ⟨rfl, ?_⟩⟩)
     exact ret1 rfl rfl ⟨rfl, (hm46.pick [] (by decide) rfl)⟩
    ·refine cw_f rfl hb55 (cw_skip ?_)
     refine qn_block (qn_then ?_)
     refine cw_region ?_
     obtain ⟨x57, h58, q59⟩ := ob q56; clear q56
     refine t_rd rfl (rd_add64 h58 rfl rfl) (t_mv rfl rfl (rwt_n ?_))
     refine ⟨_, (os q59), (by repeat (first | exact Sub.nil _ | refine Sub.cons rfl ?_)), (hm46.pick [] (by decide) rfl)⟩
   ·refine cw_f rfl hb47 ?_
    refine cw_exit ?_
    refine qx_then (qx_then ?_)
    obtain rfl := hr40 _ (os q48)
    exact .inr (⟨_, rfl, ⟨rfl, (by repeat (first | exact Sub.nil _ | refine Sub.cons rfl ?_)), (hm46.pick [] (by decide) rfl)⟩⟩)
  ·skip
   intro e env60 w61 hX62
   rcases hX62 with hX62 | hX62
   ·obtain ⟨p64, rfl, hX62⟩ := hX62
    obtain ⟨rfl, hq66⟩ := hX62
    exact qr_block (qr_then ((by have e := os q43; subst e; exact hq66)))
   ·obtain ⟨p67, rfl, hX62⟩ := hX62
    obtain ⟨rfl, hs68, hm69⟩ := hX62
    refine qx_same (qn_then ?_)
    refine cw_sub hs68 ?_
    refine cw_seq (cw_sr (t_mv rfl rfl ?_))
    refine t_rd rfl (rd_lenS tS22 rfl (hv1.of_old hm69)) ?_
    refine t_mv rfl rfl (rwt_n (cw_block ?_))
    obtain ⟨r104, hit105, q106⟩ := ob q43; clear q43
    refine cw_loop2 (I := fun q envq wq => Sub [(30, v1), (31, (Value.int .i64 (List.length a1 : Int))), (32, (Value.int .i64 q))] envq ∧ Mem w No [] wq) (X := fun eq envq wq => (∃ p107, r104 = (Sum.inl p107) ∧ eq = .ret ∧ retQ Tryz.prog 43 Tryz.f86 (fun u w' => u = (Value.int .i64 p107) ∧ Mem w No [] w') .ret envq wq) ∨ (∃ p108, r104 = (Sum.inr p108) ∧ eq = .exit 2 ∧ Sub [] envq ∧ Mem w No [] wq)) hit105 ⟨(by repeat (first | exact Sub.nil _ | refine Sub.cons rfl ?_)), (hm69.pick [] (by decide) rfl)⟩ ?_ ?_
    ·rintro i97 x99 env100 w101 hf102 hr103 ⟨hs_, hm_⟩
     have hs_ : Sub [(30, v1), (31, (Value.int .i64 (List.length a1 : Int))), (32, (Value.int .i64 i97))] env100 := hs_
     have hm109 : Mem w No [] w101 := hm_
     refine cw_sub hs_ ?_
     clear hs_ hm_ q106
     have h : assign_check_l2 N a1 i97 = some x99 := hf102
     clear hf102
     refine cw_sr (t_rd rfl (rd_lss rfl rfl) (rwt_n (cw_seq ?_)))
     obtain ⟨hb110, q111⟩ | ⟨hb110, q111⟩ := oi h <;> clear h
     ·refine cw_t rfl hb110 (cw_skip (qn_then (cw_seq (cw_block (cw_sr ?_)))))
      obtain ⟨x112, h113, q114⟩ := ob q111; clear q111
      refine t_rd rfl (rd_index tS22 rfl rfl (hv1.of_old hm109) h113) ?_
      refine t_rd rfl (rd_ld1 tO3 rfl ((hv1.of_old hm109).cells h113) (off := 0) rfl) ?_
      refine t_as rfl rfl (rwt_n (cw_sr (t_mv rfl rfl (t_rd rfl (rd_lss rfl rfl) (t_mv rfl rfl ?_)))))
      refine t_rdg rfl rfl rfl rfl (gv_f _) (fun hg115 => (rd_move rfl)) ?_
      refine t_rdg rfl rfl rfl rfl (gv_f _) (fun hg116 => (rd_gtr (gvx rfl hg116) rfl)) ?_
      refine t_rd rfl (rd_or rfl (fun hc117 => (gvx rfl (bnotIt hc117)))) ?_
      refine rwt_n ?_
      obtain ⟨hb118, q119⟩ | ⟨hb118, q119⟩ := oi q114 <;> clear q114
      ·refine cw_t rfl hb118 (cw_sr (t_as rfl rfl (rwt_n ?_)))
       refine cw_ret ?_
       refine qr_block (qr_then (qr_then ?_))
       obtain rfl := hr103 _ (os q119)
       refine .inl (⟨_, rfl, ⟨rfl, ?_⟩⟩)
       exact ret1 rfl rfl ⟨rfl, (hm109.pick [] (by decide) rfl)⟩
      ·refine cw_f rfl hb118 (cw_skip ?_)
       refine qn_block (qn_then ?_)
       refine cw_region ?_
       obtain ⟨x120, h121, q122⟩ := ob q119; clear q119
       refine t_rd rfl (rd_add64 h121 rfl rfl) (t_mv rfl rfl (rwt_n ?_))
       refine ⟨_, (os q122), (by repeat (first | exact Sub.nil _ | refine Sub.cons rfl ?_)), (hm109.pick [] (by decide) rfl)⟩
     ·refine cw_f rfl hb110 ?_
      refine cw_exit ?_
      refine qx_then (qx_then ?_)
      obtain rfl := hr103 _ (os q111)
      exact .inr (⟨_, rfl, ⟨rfl, (by repeat (first | exact Sub.nil _ | refine Sub.cons rfl ?_)), (hm109.pick [] (by decide) rfl)⟩⟩)
    ·skip
     intro e env123 w124 hX125
     rcases hX125 with hX125 | hX125
     ·obtain ⟨p127, rfl, hX125⟩ := hX125
      obtain ⟨rfl, hq129⟩ := hX125
      exact qr_block (qr_then ((by have e := os q106; subst e; exact hq129)))
     ·obtain ⟨p130, rfl, hX125⟩ := hX125
      obtain ⟨rfl, hs131, hm132⟩ := hX125
      refine qx_same (qn_then ?_)
      refine cw_sub hs131 ?_
      refine cw_sr (t_as rfl rfl (rwt_n ?_))
      refine cw_ret ?_
      obtain rfl := os q106
      exact ret1 rfl rfl ⟨rfl, (hm132.pick [] (by decide) rfl)⟩

theorem assign_order_1_ok {N : Nat} {a0 : Int} {a1 : Int} {a2 : List (List Int)} {res : Int} (h : assign_order_1 N a0 a1 a2 = some res) {w : World} {v2 : Value} (hv2 : Sl (Old w No) w v2 a2) :
  CallsR Tryz.prog 109 [(Value.int .i64 a0), (Value.int .i64 a1), (Value.pointer (some ⟨pB v2, pO v2, none⟩))] w (fun u w' => u = (Value.int .i64 res) ∧ Mem w No [] w') := by
 unfold assign_order_1 at h
 refine fn_ok Tryz.func109 rfl rfl rfl ?_
 obtain ⟨zs_a2, hn2⟩ := hv2.nest
 have hm0 := Mem.nil w
 obtain ⟨x1, h2, q3⟩ := ob h; clear h
 refine cw_sr (t_as rfl rfl (rwt_n (cw_seq ?_)))
 obtain ⟨w18, he20⟩ : ∃ q, q = w.drew := ⟨_, rfl⟩
 have hm19 := hm0.drew; rw [← he20] at hm19
 refine cw_region_s (fun q => q = w18) (cls [] []) mixed ?_
 rintro _ rfl; rw [← he20]
 obtain ⟨zd21, hz22⟩ := (hn2.of_old hm19).row h2
 refine s_rd (i := 0) rfl (by kernel_rfl) rfl (fun _ hS => by rw [hS]; exact (rd_ld1 tO22 rfl ((hn2.of_old hm19).cells hz22) (off := 0) rfl)) rfl ?_
 refine s_rp (i := 1) rfl (by kernel_rfl) rfl (fun _ => (rd_move rfl)) ?_
 obtain ⟨x23, h24, q25⟩ := ob q3; clear q3
 refine s_rp (i := 2) rfl (by kernel_rfl) rfl (fun _ => (rd_index tS22 rfl rfl ((hn2.of_old hm19).get hz22 h2) h24)) ?_
 refine s_rd (i := 3) rfl (by kernel_rfl) rfl (fun _ hS => by rw [hS]; exact (rd_ld1 tO3 rfl (((hn2.of_old hm19).get hz22 h2).cells h24) (off := 0) rfl)) rfl ?_
 obtain ⟨zd26, hz27⟩ := (hn2.of_old hm19).row h2
 refine s_rd (i := 4) rfl (by kernel_rfl) rfl (fun _ hS => by rw [hS]; exact (rd_ld1 tO22 rfl ((hn2.of_old hm19).cells hz27) (off := 0) rfl)) rfl ?_
 refine s_rp (i := 5) rfl (by kernel_rfl) rfl (fun _ => (rd_move rfl)) ?_
 obtain ⟨x28, h29, q30⟩ := ob q25; clear q25
 refine s_rp (i := 6) rfl (by kernel_rfl) rfl (fun _ => (rd_index tS22 rfl rfl ((hn2.of_old hm19).get hz27 h2) h29)) ?_
 refine s_rd (i := 7) rfl (by kernel_rfl) rfl (fun _ hS => by rw [hS]; exact (rd_ld1 tO3 rfl (((hn2.of_old hm19).get hz27 h2).cells h29) (off := 0) rfl)) rfl ?_
 obtain ⟨x31, h32, q33⟩ := ob q30; clear q30
 refine s_rp (i := 8) rfl (by kernel_rfl) rfl (fun _ => (rd_sub64 h32 rfl rfl)) ?_
 refine s_rp (i := 9) rfl (by kernel_rfl) rfl (fun _ => (rd_assign rfl)) ?_
 refine s_nil (by kernel_rfl) ?_
 refine qn_then ?_
 refine cw_ret ?_
 obtain rfl := os q33
 exact ret1 rfl rfl ⟨rfl, (hm19.pick [] (by decide) rfl)⟩

end Go.Proofs.YtlpkbkbjohhleaaGreat
