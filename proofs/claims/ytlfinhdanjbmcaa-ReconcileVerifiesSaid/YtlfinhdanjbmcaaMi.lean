/- Plain functions that mirror the program, written by a program of mine (gowalk.py). -/
import Derived.Test.YtlfinhdanjbmcaaPu
namespace Go.Gv
set_option linter.unusedVariables false

structure T_Maker where
  l : List Int
  n : Int
deriving DecidableEq, Inhabited

def humpgen_New (N : Nat) (a0 : List Int) : Option (Int) :=
 some 0

def Maker_Next (N : Nat) (a0_l : List Int) (a0_n : Int) (a1 : Int) : Option (Int × Int) :=
 Option.bind (
 bif decide (0 < (List.length a0_l : Int)) then (
 Option.bind (rem64 a0_n (List.length a0_l : Int)) fun x78 =>
 Option.bind (idx a0_l x78) fun x81 =>
 Option.bind (quo64 a0_n (List.length a0_l : Int)) fun x84 =>
 some (wr64 (x81 + (wr64 (x84 * 7919))))) else (
 some 0)) fun j69 =>
 Option.bind (in64 (a0_n + 1)) fun x92 =>
 Option.bind (rem64 j69 a1) fun x97 =>
 bif decide (x97 < 0) then (
 Option.bind (in64 (x97 + a1)) fun x102 =>
 some (x92, x102)) else (
 some (x92, x97))

def law08_lists_l1 (N : Nat) (a0_l : List Int) (i758 : Int) (i759 : Int) (l760 : List Int) : Option ((Int × Int × List Int) ⊕ (Int × List Int)) :=
 bif decide (0 < i758) then (
 Option.bind (Maker_Next N a0_l i759 4) fun r774 =>
 Option.bind (app 8 l760 ([r774.2])) fun l783 =>
 Option.bind (in64 (i758 - 1)) fun x789 =>
 some (.inl (x789, r774.1, l783))) else (
 some (.inr (i759, l760)))

def law08_lists_l2 (N : Nat) (a0_l : List Int) (r768 : Int × List Int) (i1205 : Int) (i1206 : Int) (l1207 : List Int) : Option ((Int × Int × List Int) ⊕ (Int × List Int)) :=
 bif decide (i1205 < (List.length r768.2 : Int)) then (
 Option.bind (Maker_Next N a0_l i1206 9) fun r1221 =>
 bif decide (r1221.2 = 0) then (
 Option.bind (in64 (i1205 + 1)) fun x1229 =>
 some (.inl (x1229, r1221.1, l1207))) else (
 bif decide (r1221.2 = 1) then (
 Option.bind (idx r768.2 i1205) fun x1256 =>
 Option.bind (Maker_Next N a0_l r1221.1 4) fun r1259 =>
 Option.bind (app 8 l1207 ([x1256, r1259.2])) fun l1268 =>
 Option.bind (in64 (i1205 + 1)) fun x1274 =>
 some (.inl (x1274, r1259.1, l1268))) else (
 bif decide (r1221.2 = 2) then (
 Option.bind (Maker_Next N a0_l r1221.1 4) fun r1279 =>
 Option.bind (app 8 l1207 ([r1279.2])) fun l1288 =>
 Option.bind (in64 (i1205 + 1)) fun x1294 =>
 some (.inl (x1294, r1279.1, l1288))) else (
 bif decide (r1221.2 = 3) then (
 Option.bind (in64 (i1205 + 1)) fun x1299 =>
 bif decide (x1299 < (List.length r768.2 : Int)) then (
 Option.bind (in64 (i1205 + 1)) fun x1308 =>
 Option.bind (idx r768.2 x1308) fun x1311 =>
 Option.bind (idx r768.2 i1205) fun x1314 =>
 Option.bind (app 8 l1207 ([x1311, x1314])) fun l1320 =>
 Option.bind (in64 (i1205 + 1)) fun x1326 =>
 Option.bind (in64 (x1326 + 1)) fun x1329 =>
 some (.inl (x1329, r1221.1, l1320))) else (
 Option.bind (in64 (i1205 + 1)) fun x1332 =>
 some (.inl (x1332, r1221.1, l1207)))) else (
 Option.bind (idx r768.2 i1205) fun x1335 =>
 Option.bind (app 8 l1207 ([x1335])) fun l1341 =>
 Option.bind (in64 (i1205 + 1)) fun x1347 =>
 some (.inl (x1347, r1221.1, l1341))))))) else (
 some (.inr (i1206, l1207)))

def law08_lists (N : Nat) (a0_l : List Int) (a0_n : Int) (a1 : Int) : Option (Int × List Int × List Int) :=
 Option.bind (in64 (a1 + 1)) fun x678 =>
 Option.bind (Maker_Next N a0_l a0_n x678) fun r681 =>
 Option.bind (iterN (fun s : Int × Int × List Int => law08_lists_l1 N a0_l s.1 s.2.1 s.2.2) N (r681.2, r681.1, [])) fun r768 =>
 Option.bind (iterN (fun s : Int × Int × List Int => law08_lists_l2 N a0_l r768 s.1 s.2.1 s.2.2) N (0, r768.1, [])) fun r1215 =>
 some (r1215.1, r768.2, r1215.2)

def reconcile_long (N : Nat) (a0 : List Int) (a1 : List Int) : Option (Bool) :=
 some (decide (96 < (List.length a0 : Int)) || decide (96 < (List.length a1 : Int)))

def reconcile_table_l4 (N : Nat) (a2 : Int) (i222 : Int) (x259 : List Int) (i301 : Int) (l302 : List (List Int)) : Option ((Int × List (List Int)) ⊕ (List (List Int))) :=
 bif decide (i301 < (List.length x259 : Int)) then (
 Option.bind (idx l302 i222) fun x317 =>
 Option.bind (idx x317 i301) fun x322 =>
 Option.bind (in64 (i301 + 1)) fun x327 =>
 some (.inl (x327, (List.set l302 (Int.toNat i222) (List.set x317 (Int.toNat i301) a2))))) else (
 some (.inr l302))

def reconcile_table_l3 (N : Nat) (a1 : List Int) (a2 : Int) (l4 : List (List Int)) (i222 : Int) (l223 : List (List Int)) : Option ((Int × List (List Int)) ⊕ (List (List Int))) :=
 bif decide (i222 < (List.length l4 : Int)) then (
 Option.bind (in64 ((List.length a1 : Int) + 1)) fun x238 =>
 Option.bind (mkL 8 x238 0) fun l241 =>
 Option.bind (idx l223 i222) fun x247 =>
 Option.bind (idx (List.set l223 (Int.toNat i222) l241) i222) fun x259 =>
 Option.bind (iterN (fun s : Int × List (List Int) => reconcile_table_l4 N a2 i222 x259 s.1 s.2) N (0, (List.set l223 (Int.toNat i222) l241))) fun r311 =>
 Option.bind (in64 (i222 + 1)) fun x335 =>
 some (.inl (x335, r311))) else (
 some (.inr l223))

def reconcile_table (N : Nat) (a0 : List Int) (a1 : List Int) (a2 : Int) : Option (List (List Int)) :=
 Option.bind (in64 ((List.length a0 : Int) + 1)) fun x1 =>
 Option.bind (mkL 24 x1 ([] : List Int)) fun l4 =>
 Option.bind (iterN (fun s : Int × List (List Int) => reconcile_table_l3 N a1 a2 l4 s.1 s.2) N (0, l4)) fun r232 =>
 some r232

def reconcile_step (N : Nat) (a0 : List Int) (a1 : List Int) (a2 : Int) (a3 : Int) (a4 : Int) : Option (Int × Int × Bool) :=
 bif decide (a4 = 0) then (
 Option.bind (in64 (a2 + 1)) fun x12 =>
 Option.bind (in64 (a3 + 1)) fun x15 =>
 Option.bind (gO (decide (a2 < (List.length a0 : Int)) && decide (a3 < (List.length a1 : Int))) (idx a0 a2)) fun x21 =>
 Option.bind (gO (decide (a2 < (List.length a0 : Int)) && decide (a3 < (List.length a1 : Int))) (idx a1 a3)) fun x28 =>
 some (x12, x15, ((decide (a2 < (List.length a0 : Int)) && decide (a3 < (List.length a1 : Int))) && decide (x21 = x28)))) else (
 bif decide (a4 = 1) then (
 Option.bind (in64 (a2 + 1)) fun x40 =>
 Option.bind (in64 (a3 + 1)) fun x43 =>
 Option.bind (gO (decide (a2 < (List.length a0 : Int)) && decide (a3 < (List.length a1 : Int))) (idx a0 a2)) fun x49 =>
 Option.bind (gO (decide (a2 < (List.length a0 : Int)) && decide (a3 < (List.length a1 : Int))) (idx a1 a3)) fun x56 =>
 some (x40, x43, ((decide (a2 < (List.length a0 : Int)) && decide (a3 < (List.length a1 : Int))) && (!decide (x49 = x56))))) else (
 bif decide (a4 = 2) then (
 Option.bind (in64 (a2 + 1)) fun x64 =>
 some (x64, a3, decide (a2 < (List.length a0 : Int)))) else (
 bif decide (a4 = 3) then (
 Option.bind (in64 (a3 + 1)) fun x69 =>
 some (a2, x69, decide (a3 < (List.length a1 : Int)))) else (
 bif decide (a4 = 4) then (
 Option.bind (in64 (a2 + 1)) fun x78 =>
 Option.bind (gO (decide (x78 < (List.length a0 : Int))) (in64 (a3 + 1))) fun x83 =>
 Option.bind (gO (decide (x78 < (List.length a0 : Int)) && decide (x83 < (List.length a1 : Int))) (idx a0 a2)) fun x93 =>
 Option.bind (gO (decide (x78 < (List.length a0 : Int)) && decide (x83 < (List.length a1 : Int))) (in64 (a3 + 1))) fun x100 =>
 Option.bind (gO (decide (x78 < (List.length a0 : Int)) && decide (x83 < (List.length a1 : Int))) (idx a1 x100)) fun x104 =>
 Option.bind (gO ((decide (x78 < (List.length a0 : Int)) && decide (x83 < (List.length a1 : Int))) && decide (x93 = x104)) (in64 (a2 + 1))) fun x113 =>
 Option.bind (gO ((decide (x78 < (List.length a0 : Int)) && decide (x83 < (List.length a1 : Int))) && decide (x93 = x104)) (idx a0 x113)) fun x117 =>
 Option.bind (gO ((decide (x78 < (List.length a0 : Int)) && decide (x83 < (List.length a1 : Int))) && decide (x93 = x104)) (idx a1 a3)) fun x124 =>
 Option.bind (gO (((decide (x78 < (List.length a0 : Int)) && decide (x83 < (List.length a1 : Int))) && decide (x93 = x104)) && decide (x117 = x124)) (idx a0 a2)) fun x133 =>
 Option.bind (gO (((decide (x78 < (List.length a0 : Int)) && decide (x83 < (List.length a1 : Int))) && decide (x93 = x104)) && decide (x117 = x124)) (in64 (a2 + 1))) fun x140 =>
 Option.bind (gO (((decide (x78 < (List.length a0 : Int)) && decide (x83 < (List.length a1 : Int))) && decide (x93 = x104)) && decide (x117 = x124)) (idx a0 x140)) fun x144 =>
 Option.bind (in64 (a2 + 2)) fun x150 =>
 Option.bind (in64 (a3 + 2)) fun x153 =>
 some (x150, x153, ((((decide (x78 < (List.length a0 : Int)) && decide (x83 < (List.length a1 : Int))) && decide (x93 = x104)) && decide (x117 = x124)) && (!decide (x133 = x144))))) else (
 some (0, 0, false))))))

def reconcile_cost (N : Nat) (a0 : Int) : Option (Int) :=
 Option.bind (idx [0, 3, 4, 4, 4] a0) fun x1 =>
 some x1

def reconcile_Align_l13 (N : Nat) (a0 : List Int) (a1 : List Int) (i2141 : Int) (i2847 : Int) (i3084 : Int) (l3085 : List (List Int)) (l3088 : List (List Int)) : Option ((Int × List (List Int) × List (List Int)) ⊕ (List (List Int) × List (List Int))) :=
 bif decide (i3084 < 5) then (
 Option.bind (reconcile_step N a0 a1 i2141 i2847 i3084) fun r3103 =>
 bif (!r3103.2.2) then (
 Option.bind (in64 (i3084 + 1)) fun x3111 =>
 some (.inl (x3111, l3085, l3088))) else (
 Option.bind (idx l3085 r3103.1) fun x3135 =>
 Option.bind (idx x3135 r3103.2.1) fun x3140 =>
 Option.bind (reconcile_cost N i3084) fun r3143 =>
 Option.bind (in64 (r3143 + x3140)) fun x3149 =>
 Option.bind (idx l3085 i2141) fun x3152 =>
 Option.bind (idx x3152 i2847) fun x3157 =>
 bif decide (x3149 < x3157) then (
 Option.bind (idx l3085 i2141) fun x3166 =>
 Option.bind (idx l3088 i2141) fun x3171 =>
 Option.bind (idx x3166 i2847) fun x3176 =>
 Option.bind (idx x3171 i2847) fun x3181 =>
 Option.bind (in64 (i3084 + 1)) fun x3187 =>
 some (.inl (x3187, (List.set l3085 (Int.toNat i2141) (List.set x3166 (Int.toNat i2847) x3149)), (List.set l3088 (Int.toNat i2141) (List.set x3171 (Int.toNat i2847) i3084))))) else (
 Option.bind (in64 (i3084 + 1)) fun x3190 =>
 some (.inl (x3190, l3085, l3088))))) else (
 some (.inr (l3085, l3088)))

def reconcile_Align_l12 (N : Nat) (a0 : List Int) (a1 : List Int) (i2141 : Int) (i2847 : Int) (l2848 : List (List Int)) (l2851 : List (List Int)) : Option ((Int × List (List Int) × List (List Int)) ⊕ (List (List Int) × List (List Int))) :=
 bif decide (0 ≤ i2847) then (
 bif (decide (i2141 = (List.length a0 : Int)) && decide (i2847 = (List.length a1 : Int))) then (
 Option.bind (in64 (i2847 - 1)) fun x2873 =>
 some (.inl (x2873, l2848, l2851))) else (
 Option.bind (idx l2848 i2141) fun x2876 =>
 Option.bind (idx x2876 i2847) fun x2881 =>
 Option.bind (iterN (fun s : Int × List (List Int) × List (List Int) => reconcile_Align_l13 N a0 a1 i2141 i2847 s.1 s.2.1 s.2.2) N (0, (List.set l2848 (Int.toNat i2141) (List.set x2876 (Int.toNat i2847) 9223372036854775807)), l2851)) fun r3097 =>
 Option.bind (in64 (i2847 - 1)) fun x3198 =>
 some (.inl (x3198, r3097.1, r3097.2)))) else (
 some (.inr (l2848, l2851)))

def reconcile_Align_l9 (N : Nat) (a0 : List Int) (a1 : List Int) (i2141 : Int) (l2142 : List (List Int)) (l2145 : List (List Int)) : Option ((Int × List (List Int) × List (List Int)) ⊕ (List (List Int) × List (List Int))) :=
 bif decide (0 ≤ i2141) then (
 Option.bind (iterN (fun s : Int × List (List Int) × List (List Int) => reconcile_Align_l12 N a0 a1 i2141 s.1 s.2.1 s.2.2) N ((List.length a1 : Int), l2142, l2145)) fun r2860 =>
 Option.bind (in64 (i2141 - 1)) fun x3206 =>
 some (.inl (x3206, r2860.1, r2860.2))) else (
 some (.inr (l2142, l2145)))

def reconcile_Align_l14 (N : Nat) (a0 : List Int) (a1 : List Int) (r2154 : List (List Int) × List (List Int)) (i3314 : Int) (i3315 : Int) (l3316 : List Int) : Option ((Int × Int × List Int) ⊕ (List Int)) :=
 bif (decide (i3314 < (List.length a0 : Int)) || decide (i3315 < (List.length a1 : Int))) then (
 Option.bind (idx r2154.2 i3314) fun x3335 =>
 Option.bind (idx x3335 i3315) fun x3340 =>
 Option.bind (app 8 l3316 ([x3340])) fun l3346 =>
 Option.bind (reconcile_step N a0 a1 i3314 i3315 x3340) fun r3352 =>
 some (.inl (r3352.1, r3352.2.1, l3346))) else (
 some (.inr l3316))

def reconcile_Align (N : Nat) (a0 : List Int) (a1 : List Int) : Option (List Int × Int × Int) :=
 Option.bind (reconcile_long N a0 a1) fun r1 =>
 bif r1 then (
 some ([], 0, 3)) else (
 Option.bind (reconcile_table N a0 a1 0) fun r10 =>
 Option.bind (reconcile_table N a0 a1 0) fun r18 =>
 Option.bind (iterN (fun s : Int × List (List Int) × List (List Int) => reconcile_Align_l9 N a0 a1 s.1 s.2.1 s.2.2) N ((List.length a0 : Int), r10, r18)) fun r2154 =>
 Option.bind (iterN (fun s : Int × Int × List Int => reconcile_Align_l14 N a0 a1 r2154 s.1 s.2.1 s.2.2) N (0, 0, [])) fun r3324 =>
 Option.bind (idx r2154.1 0) fun x3367 =>
 Option.bind (idx x3367 0) fun x3372 =>
 some (r3324, x3372, 0))

def humpgen_Ints_l1 (N : Nat) (a0 : List Int) (a1 : List Int) (i38 : Int) : Option ((Int) ⊕ (Bool ⊕ Unit)) :=
 bif decide (i38 < (List.length a0 : Int)) then (
 Option.bind (idx a0 i38) fun x57 =>
 Option.bind (idx a1 i38) fun x60 =>
 bif (!decide (x57 = x60)) then (
 some (.inr (Sum.inl false))) else (
 Option.bind (in64 (i38 + 1)) fun x65 =>
 some (.inl x65))) else (
 some (.inr (Sum.inr ())))

def humpgen_Ints (N : Nat) (a0 : List Int) (a1 : List Int) : Option (Bool) :=
 bif (!decide ((List.length a0 : Int) = (List.length a1 : Int))) then (
 some false) else (
 Option.bind (iterN (fun s : Int => humpgen_Ints_l1 N a0 a1 s) N 0) fun r45 =>
 match r45 with
 | .inl p72 => (
 some p72)
 | .inr p75 => (
 some true))

def law08_sane (N : Nat) : Option (Bool) :=
 Option.bind (reconcile_Align N ([1, 2, 3]) ([1, 3])) fun r7 =>
 Option.bind (reconcile_Align N ([1, 2]) ([2, 1])) fun r20 =>
 bif (decide (r7.2.2 = 0) && decide (r7.2.1 = 4)) then (
 Option.bind (humpgen_Ints N r7.1 ([0, 2, 0])) fun r39 =>
 bif ((((decide (r7.2.2 = 0) && decide (r7.2.1 = 4)) && r39) && decide (r20.2.2 = 0)) && decide (r20.2.1 = 4)) then (
 Option.bind (humpgen_Ints N r20.1 ([4])) fun r61 =>
 some (((((decide (r7.2.2 = 0) && decide (r7.2.1 = 4)) && r39) && decide (r20.2.2 = 0)) && decide (r20.2.1 = 4)) && r61)) else (
 some (((((decide (r7.2.2 = 0) && decide (r7.2.1 = 4)) && r39) && decide (r20.2.2 = 0)) && decide (r20.2.1 = 4)) && false))) else (
 some (((((decide (r7.2.2 = 0) && decide (r7.2.1 = 4)) && false) && false) && false) && false))

def law08_ReconcileMetric (N : Nat) (a0 : List Int) (a1 : Int) : Option (Bool) :=
 Option.bind (humpgen_New N a0) fun r1 =>
 Option.bind (law08_lists N a0 r1 12) fun r8 =>
 Option.bind (reconcile_Align N r8.2.1 r8.2.2) fun r16 =>
 Option.bind (reconcile_Align N r8.2.2 r8.2.1) fun r23 =>
 Option.bind (reconcile_Align N r8.2.1 r8.2.1) fun r30 =>
 Option.bind (app 8 [] r8.2.1) fun l40 =>
 Option.bind (app 8 l40 ([a1])) fun l49 =>
 Option.bind (reconcile_Align N l49 r8.2.2) fun r55 =>
 Option.bind (gO (!(((((((!decide (r16.2.2 = 0)) || (!decide (r23.2.2 = 0))) || (!decide (r30.2.2 = 0))) || (!decide (r55.2.2 = 0))) || (!decide (r16.2.1 = r23.2.1))) || (!decide (r30.2.1 = 0))) || (!decide ((List.length r30.1 : Int) = (List.length r8.2.1 : Int))))) (humpgen_Ints N r8.2.1 r8.2.2)) fun r89 =>
 bif ((((((((!decide (r16.2.2 = 0)) || (!decide (r23.2.2 = 0))) || (!decide (r30.2.2 = 0))) || (!decide (r55.2.2 = 0))) || (!decide (r16.2.1 = r23.2.1))) || (!decide (r30.2.1 = 0))) || (!decide ((List.length r30.1 : Int) = (List.length r8.2.1 : Int)))) || (!(decide (r16.2.1 = 0) == r89))) then (
 some false) else (
 Option.bind (in64 (r16.2.1 + 4)) fun x99 =>
 Option.bind (gO (decide (r55.2.1 ≤ x99)) (in64 (r55.2.1 + 4))) fun x105 =>
 Option.bind (gO (decide (r55.2.1 ≤ x99) && decide (r16.2.1 ≤ x105)) (law08_sane N)) fun r111 =>
 some ((decide (r55.2.1 ≤ x99) && decide (r16.2.1 ≤ x105)) && r111))

def r08_long (N : Nat) (a0 : List Int) (a1 : List Int) : Option (Bool) :=
 some (decide (96 < (List.length a0 : Int)) || decide (96 < (List.length a1 : Int)))

def r08_table_l5 (N : Nat) (a1 : List Int) (i385 : Int) (l386 : List Int) : Option ((Int × List Int) ⊕ (List Int)) :=
 bif decide (i385 ≤ (List.length a1 : Int)) then (
 Option.bind (app 8 l386 ([(-1)])) fun l403 =>
 Option.bind (in64 (i385 + 1)) fun x409 =>
 some (.inl (x409, l403))) else (
 some (.inr l386))

def r08_table_l4 (N : Nat) (a0 : List Int) (a1 : List Int) (i319 : Int) (l320 : List (List Int)) : Option ((Int × List (List Int)) ⊕ (List (List Int))) :=
 bif decide (i319 ≤ (List.length a0 : Int)) then (
 Option.bind (iterN (fun s : Int × List Int => r08_table_l5 N a1 s.1 s.2) N (0, [])) fun r394 =>
 Option.bind (app 24 l320 ([r394])) fun l422 =>
 Option.bind (in64 (i319 + 1)) fun x432 =>
 some (.inl (x432, l422))) else (
 some (.inr l320))

def r08_table (N : Nat) (a0 : List Int) (a1 : List Int) : Option (List (List Int)) :=
 Option.bind (iterN (fun s : Int × List (List Int) => r08_table_l4 N a0 a1 s.1 s.2) N (0, [])) fun r329 =>
 some r329

def r08_edit (N : Nat) (a0 : List Int) (a1 : List Int) (a2 : Int) (a3 : Int) (a4 : Int) : Option (Int × Int × Int × Bool) :=
 bif decide (a4 = 0) then (
 Option.bind (in64 (a2 + 1)) fun x7 =>
 Option.bind (in64 (a3 + 1)) fun x10 =>
 Option.bind (gO (decide (a2 < (List.length a0 : Int)) && decide (a3 < (List.length a1 : Int))) (idx a0 a2)) fun x21 =>
 Option.bind (gO (decide (a2 < (List.length a0 : Int)) && decide (a3 < (List.length a1 : Int))) (idx a1 a3)) fun x28 =>
 some (x7, x10, 0, ((decide (a2 < (List.length a0 : Int)) && decide (a3 < (List.length a1 : Int))) && decide (x21 = x28)))) else (
 bif decide (a4 = 1) then (
 Option.bind (in64 (a2 + 1)) fun x40 =>
 Option.bind (in64 (a3 + 1)) fun x43 =>
 Option.bind (gO (decide (a2 < (List.length a0 : Int)) && decide (a3 < (List.length a1 : Int))) (idx a0 a2)) fun x54 =>
 Option.bind (gO (decide (a2 < (List.length a0 : Int)) && decide (a3 < (List.length a1 : Int))) (idx a1 a3)) fun x61 =>
 some (x40, x43, 3, ((decide (a2 < (List.length a0 : Int)) && decide (a3 < (List.length a1 : Int))) && (!decide (x54 = x61))))) else (
 bif decide (a4 = 2) then (
 Option.bind (in64 (a2 + 1)) fun x69 =>
 some (x69, a3, 4, decide (a2 < (List.length a0 : Int)))) else (
 bif decide (a4 = 3) then (
 Option.bind (in64 (a3 + 1)) fun x74 =>
 some (a2, x74, 4, decide (a3 < (List.length a1 : Int)))) else (
 bif decide (a4 = 4) then (
 Option.bind (in64 (a2 + 2)) fun x83 =>
 Option.bind (in64 (a3 + 2)) fun x86 =>
 Option.bind (in64 (a2 + 1)) fun x89 =>
 Option.bind (gO (decide (x89 < (List.length a0 : Int))) (in64 (a3 + 1))) fun x94 =>
 Option.bind (gO (decide (x89 < (List.length a0 : Int)) && decide (x94 < (List.length a1 : Int))) (idx a0 a2)) fun x104 =>
 Option.bind (gO (decide (x89 < (List.length a0 : Int)) && decide (x94 < (List.length a1 : Int))) (in64 (a3 + 1))) fun x111 =>
 Option.bind (gO (decide (x89 < (List.length a0 : Int)) && decide (x94 < (List.length a1 : Int))) (idx a1 x111)) fun x115 =>
 Option.bind (gO ((decide (x89 < (List.length a0 : Int)) && decide (x94 < (List.length a1 : Int))) && decide (x104 = x115)) (in64 (a2 + 1))) fun x124 =>
 Option.bind (gO ((decide (x89 < (List.length a0 : Int)) && decide (x94 < (List.length a1 : Int))) && decide (x104 = x115)) (idx a0 x124)) fun x128 =>
 Option.bind (gO ((decide (x89 < (List.length a0 : Int)) && decide (x94 < (List.length a1 : Int))) && decide (x104 = x115)) (idx a1 a3)) fun x135 =>
 Option.bind (gO (((decide (x89 < (List.length a0 : Int)) && decide (x94 < (List.length a1 : Int))) && decide (x104 = x115)) && decide (x128 = x135)) (idx a0 a2)) fun x144 =>
 Option.bind (gO (((decide (x89 < (List.length a0 : Int)) && decide (x94 < (List.length a1 : Int))) && decide (x104 = x115)) && decide (x128 = x135)) (in64 (a2 + 1))) fun x151 =>
 Option.bind (gO (((decide (x89 < (List.length a0 : Int)) && decide (x94 < (List.length a1 : Int))) && decide (x104 = x115)) && decide (x128 = x135)) (idx a0 x151)) fun x155 =>
 some (x83, x86, 4, ((((decide (x89 < (List.length a0 : Int)) && decide (x94 < (List.length a1 : Int))) && decide (x104 = x115)) && decide (x128 = x135)) && (!decide (x144 = x155))))) else (
 some (0, 0, 0, false))))))

def r08_Align_l13 (N : Nat) (a0 : List Int) (a1 : List Int) (i2519 : Int) (i3351 : Int) (i3630 : Int) (l3631 : List (List Int)) (l3634 : List (List Int)) : Option ((Int × List (List Int) × List (List Int)) ⊕ (List (List Int) × List (List Int))) :=
 bif decide (i3630 ≤ 4) then (
 Option.bind (r08_edit N a0 a1 i2519 i3351 i3630) fun r3649 =>
 Option.bind (gO r3649.2.2.2 (idx l3631 i2519)) fun x3662 =>
 Option.bind (gO r3649.2.2.2 (idx x3662 i3351)) fun x3670 =>
 Option.bind (gO (r3649.2.2.2 && (!decide (x3670 < 0))) (idx l3631 r3649.1)) fun x3680 =>
 Option.bind (gO (r3649.2.2.2 && (!decide (x3670 < 0))) (idx x3680 r3649.2.1)) fun x3688 =>
 Option.bind (gO (r3649.2.2.2 && (!decide (x3670 < 0))) (in64 (r3649.2.2.1 + x3688))) fun x3693 =>
 Option.bind (gO (r3649.2.2.2 && (!decide (x3670 < 0))) (idx l3631 i2519)) fun x3699 =>
 Option.bind (gO (r3649.2.2.2 && (!decide (x3670 < 0))) (idx x3699 i3351)) fun x3707 =>
 bif (r3649.2.2.2 && (decide (x3670 < 0) || decide (x3693 < x3707))) then (
 Option.bind (idx l3631 i2519) fun x3721 =>
 Option.bind (idx l3634 i2519) fun x3726 =>
 Option.bind (idx l3631 r3649.1) fun x3731 =>
 Option.bind (idx x3731 r3649.2.1) fun x3736 =>
 Option.bind (in64 (r3649.2.2.1 + x3736)) fun x3739 =>
 Option.bind (idx x3721 i3351) fun x3742 =>
 Option.bind (idx x3726 i3351) fun x3748 =>
 Option.bind (in64 (i3630 + 1)) fun x3754 =>
 some (.inl (x3754, (List.set l3631 (Int.toNat i2519) (List.set x3721 (Int.toNat i3351) x3739)), (List.set l3634 (Int.toNat i2519) (List.set x3726 (Int.toNat i3351) i3630))))) else (
 Option.bind (in64 (i3630 + 1)) fun x3757 =>
 some (.inl (x3757, l3631, l3634)))) else (
 some (.inr (l3631, l3634)))

def r08_Align_l12 (N : Nat) (a0 : List Int) (a1 : List Int) (i2519 : Int) (i3351 : Int) (l3352 : List (List Int)) (l3355 : List (List Int)) : Option ((Int × List (List Int) × List (List Int)) ⊕ (List (List Int) × List (List Int))) :=
 bif decide (0 ≤ i3351) then (
 bif (decide (i2519 = (List.length a0 : Int)) && decide (i3351 = (List.length a1 : Int))) then (
 Option.bind (idx l3352 i2519) fun x3377 =>
 Option.bind (idx x3377 i3351) fun x3382 =>
 Option.bind (in64 (i3351 - 1)) fun x3388 =>
 some (.inl (x3388, (List.set l3352 (Int.toNat i2519) (List.set x3377 (Int.toNat i3351) 0)), l3355))) else (
 Option.bind (iterN (fun s : Int × List (List Int) × List (List Int) => r08_Align_l13 N a0 a1 i2519 i3351 s.1 s.2.1 s.2.2) N (0, l3352, l3355)) fun r3643 =>
 Option.bind (in64 (i3351 - 1)) fun x3765 =>
 some (.inl (x3765, r3643.1, r3643.2)))) else (
 some (.inr (l3352, l3355)))

def r08_Align_l9 (N : Nat) (a0 : List Int) (a1 : List Int) (i2519 : Int) (l2520 : List (List Int)) (l2523 : List (List Int)) : Option ((Int × List (List Int) × List (List Int)) ⊕ (List (List Int) × List (List Int))) :=
 bif decide (0 ≤ i2519) then (
 Option.bind (iterN (fun s : Int × List (List Int) × List (List Int) => r08_Align_l12 N a0 a1 i2519 s.1 s.2.1 s.2.2) N ((List.length a1 : Int), l2520, l2523)) fun r3364 =>
 Option.bind (in64 (i2519 - 1)) fun x3773 =>
 some (.inl (x3773, r3364.1, r3364.2))) else (
 some (.inr (l2520, l2523)))

def r08_Align_l14 (N : Nat) (a0 : List Int) (a1 : List Int) (r2532 : List (List Int) × List (List Int)) (i3881 : Int) (i3882 : Int) (l3883 : List Int) : Option ((Int × Int × List Int) ⊕ (List Int)) :=
 bif (decide (i3881 < (List.length a0 : Int)) || decide (i3882 < (List.length a1 : Int))) then (
 Option.bind (idx r2532.2 i3881) fun x3902 =>
 Option.bind (idx x3902 i3882) fun x3907 =>
 Option.bind (app 8 l3883 ([x3907])) fun l3913 =>
 Option.bind (r08_edit N a0 a1 i3881 i3882 x3907) fun r3919 =>
 some (.inl (r3919.1, r3919.2.1, l3913))) else (
 some (.inr l3883))

def r08_Align (N : Nat) (a0 : List Int) (a1 : List Int) : Option (List Int × Int × Int) :=
 Option.bind (r08_long N a0 a1) fun r1 =>
 bif r1 then (
 some ([], 0, 3)) else (
 Option.bind (r08_table N a0 a1) fun r10 =>
 Option.bind (r08_table N a0 a1) fun r18 =>
 Option.bind (iterN (fun s : Int × List (List Int) × List (List Int) => r08_Align_l9 N a0 a1 s.1 s.2.1 s.2.2) N ((List.length a0 : Int), r10, r18)) fun r2532 =>
 Option.bind (iterN (fun s : Int × Int × List Int => r08_Align_l14 N a0 a1 r2532 s.1 s.2.1 s.2.2) N (0, 0, [])) fun r3891 =>
 Option.bind (idx r2532.1 0) fun x3934 =>
 Option.bind (idx x3934 0) fun x3939 =>
 some (r3891, x3939, 0))

def r08_Potential_l13 (N : Nat) (a0 : List Int) (a1 : List Int) (i2103 : Int) (i2794 : Int) (i3019 : Int) (l3020 : List (List Int)) : Option ((Int × List (List Int)) ⊕ (List (List Int))) :=
 bif decide (i3019 ≤ 4) then (
 Option.bind (r08_edit N a0 a1 i2103 i2794 i3019) fun r3035 =>
 Option.bind (gO r3035.2.2.2 (idx l3020 r3035.1)) fun x3048 =>
 Option.bind (gO r3035.2.2.2 (idx x3048 r3035.2.1)) fun x3056 =>
 Option.bind (gO (r3035.2.2.2 && (!decide (x3056 < 0))) (idx l3020 i2103)) fun x3065 =>
 Option.bind (gO (r3035.2.2.2 && (!decide (x3056 < 0))) (idx x3065 i2794)) fun x3073 =>
 Option.bind (gO (r3035.2.2.2 && (!decide (x3056 < 0))) (in64 (x3073 + r3035.2.2.1))) fun x3079 =>
 Option.bind (gO (r3035.2.2.2 && (!decide (x3056 < 0))) (idx l3020 r3035.1)) fun x3085 =>
 Option.bind (gO (r3035.2.2.2 && (!decide (x3056 < 0))) (idx x3085 r3035.2.1)) fun x3093 =>
 bif (r3035.2.2.2 && (decide (x3056 < 0) || decide (x3079 < x3093))) then (
 Option.bind (idx l3020 r3035.1) fun x3107 =>
 Option.bind (idx l3020 i2103) fun x3112 =>
 Option.bind (idx x3112 i2794) fun x3117 =>
 Option.bind (in64 (x3117 + r3035.2.2.1)) fun x3120 =>
 Option.bind (idx x3107 r3035.2.1) fun x3123 =>
 Option.bind (in64 (i3019 + 1)) fun x3128 =>
 some (.inl (x3128, (List.set l3020 (Int.toNat r3035.1) (List.set x3107 (Int.toNat r3035.2.1) x3120))))) else (
 Option.bind (in64 (i3019 + 1)) fun x3131 =>
 some (.inl (x3131, l3020)))) else (
 some (.inr l3020))

def r08_Potential_l12 (N : Nat) (a0 : List Int) (a1 : List Int) (i2103 : Int) (i2794 : Int) (l2795 : List (List Int)) : Option ((Int × List (List Int)) ⊕ (List (List Int))) :=
 bif decide (i2794 ≤ (List.length a1 : Int)) then (
 Option.bind (iterN (fun s : Int × List (List Int) => r08_Potential_l13 N a0 a1 i2103 i2794 s.1 s.2) N (0, l2795)) fun r3029 =>
 Option.bind (in64 (i2794 + 1)) fun x3139 =>
 some (.inl (x3139, r3029))) else (
 some (.inr l2795))

def r08_Potential_l9 (N : Nat) (a0 : List Int) (a1 : List Int) (i2103 : Int) (l2104 : List (List Int)) : Option ((Int × List (List Int)) ⊕ (List (List Int))) :=
 bif decide (i2103 ≤ (List.length a0 : Int)) then (
 Option.bind (iterN (fun s : Int × List (List Int) => r08_Potential_l12 N a0 a1 i2103 s.1 s.2) N (0, l2104)) fun r2804 =>
 Option.bind (in64 (i2103 + 1)) fun x3147 =>
 some (.inl (x3147, r2804))) else (
 some (.inr l2104))

def r08_Potential (N : Nat) (a0 : List Int) (a1 : List Int) : Option (List (List Int) × Int) :=
 Option.bind (r08_long N a0 a1) fun r1 =>
 bif r1 then (
 some ([], 3)) else (
 Option.bind (r08_table N a0 a1) fun r11 =>
 Option.bind (idx r11 0) fun x19 =>
 Option.bind (idx x19 0) fun x24 =>
 Option.bind (iterN (fun s : Int × List (List Int) => r08_Potential_l9 N a0 a1 s.1 s.2) N (0, (List.set r11 (Int.toNat 0) (List.set x19 (Int.toNat 0) 0)))) fun r2113 =>
 some (r2113, 0))

def Maker_Pick (N : Nat) (a0_l : List Int) (a0_n : Int) (a1 : List Int) : Option (Int × Int) :=
 Option.bind (Maker_Next N a0_l a0_n (List.length a1 : Int)) fun r10 =>
 Option.bind (idx a1 r10.2) fun x16 =>
 some (r10.1, x16)

def reconcile_Verify_l1 (N : Nat) (a1 : List Int) (a3 : List (List Int)) (i50 : Int) : Option ((Int) ⊕ (Bool ⊕ Unit)) :=
 bif decide (i50 < (List.length a3 : Int)) then (
 Option.bind (idx a3 i50) fun x65 =>
 Option.bind (in64 ((List.length a1 : Int) + 1)) fun x70 =>
 bif (!decide ((List.length x65 : Int) = x70)) then (
 some (.inr (Sum.inl false))) else (
 Option.bind (in64 (i50 + 1)) fun x75 =>
 some (.inl x75))) else (
 some (.inr (Sum.inr ())))

def reconcile_Verify_l14 (N : Nat) (a0 : List Int) (a1 : List Int) (a3 : List (List Int)) (i3275 : Int) (i4332 : Int) (i4674 : Int) : Option ((Int) ⊕ (Bool ⊕ Unit)) :=
 bif decide (i4674 < 5) then (
 Option.bind (reconcile_step N a0 a1 i3275 i4332 i4674) fun r4689 =>
 Option.bind (gO r4689.2.2 (idx a3 i3275)) fun x4775 =>
 Option.bind (gO r4689.2.2 (idx x4775 i4332)) fun x4783 =>
 Option.bind (gO r4689.2.2 (reconcile_cost N i4674)) fun r4789 =>
 Option.bind (gO r4689.2.2 (in64 (9223372036854775807 - r4789))) fun x4796 =>
 Option.bind (gO (r4689.2.2 && decide (x4783 ≤ x4796)) (idx a3 r4689.1)) fun x4804 =>
 Option.bind (gO (r4689.2.2 && decide (x4783 ≤ x4796)) (idx x4804 r4689.2.1)) fun x4812 =>
 Option.bind (gO (r4689.2.2 && decide (x4783 ≤ x4796)) (idx a3 i3275)) fun x4819 =>
 Option.bind (gO (r4689.2.2 && decide (x4783 ≤ x4796)) (idx x4819 i4332)) fun x4827 =>
 Option.bind (gO (r4689.2.2 && decide (x4783 ≤ x4796)) (reconcile_cost N i4674)) fun r4833 =>
 Option.bind (gO (r4689.2.2 && decide (x4783 ≤ x4796)) (in64 (x4827 + r4833))) fun x4840 =>
 bif ((r4689.2.2 && decide (x4783 ≤ x4796)) && decide (x4840 < x4812)) then (
 some (.inr (Sum.inl false))) else (
 Option.bind (in64 (i4674 + 1)) fun x4847 =>
 some (.inl x4847))) else (
 some (.inr (Sum.inr ())))

def reconcile_Verify_l13 (N : Nat) (a0 : List Int) (a1 : List Int) (a3 : List (List Int)) (i3275 : Int) (x3290 : List Int) (i4332 : Int) : Option ((Int) ⊕ (Bool ⊕ Unit)) :=
 bif decide (i4332 < (List.length x3290 : Int)) then (
 Option.bind (iterN (fun s : Int => reconcile_Verify_l14 N a0 a1 a3 i3275 i4332 s) N 0) fun r4681 =>
 match r4681 with
 | .inl p4854 => (
 some (.inr (Sum.inl p4854)))
 | .inr p4857 => (
 Option.bind (in64 (i4332 + 1)) fun x4860 =>
 some (.inl x4860))) else (
 some (.inr (Sum.inr ())))

def reconcile_Verify_l10 (N : Nat) (a0 : List Int) (a1 : List Int) (a3 : List (List Int)) (i3275 : Int) : Option ((Int) ⊕ (Bool ⊕ Unit)) :=
 bif decide (i3275 < (List.length a3 : Int)) then (
 Option.bind (idx a3 i3275) fun x3290 =>
 Option.bind (iterN (fun s : Int => reconcile_Verify_l13 N a0 a1 a3 i3275 x3290 s) N 0) fun r4339 =>
 match r4339 with
 | .inl p4867 => (
 some (.inr (Sum.inl p4867)))
 | .inr p4870 => (
 Option.bind (in64 (i3275 + 1)) fun x4873 =>
 some (.inl x4873))) else (
 some (.inr (Sum.inr ())))

def reconcile_Verify (N : Nat) (a0 : List Int) (a1 : List Int) (a2 : Int) (a3 : List (List Int)) : Option (Bool) :=
 Option.bind (reconcile_long N a0 a1) fun r1 =>
 Option.bind (gO (!r1) (in64 ((List.length a0 : Int) + 1))) fun x12 =>
 bif (r1 || (!decide ((List.length a3 : Int) = x12))) then (
 some false) else (
 Option.bind (iterN (fun s : Int => reconcile_Verify_l1 N a1 a3 s) N 0) fun r57 =>
 match r57 with
 | .inl p82 => (
 some p82)
 | .inr p85 => (
 Option.bind (idx a3 0) fun x88 =>
 Option.bind (idx x88 0) fun x93 =>
 bif (!decide (x93 = 0)) then (
 some false) else (
 Option.bind (iterN (fun s : Int => reconcile_Verify_l10 N a0 a1 a3 s) N 0) fun r3282 =>
 match r3282 with
 | .inl p4880 => (
 some p4880)
 | .inr p4883 => (
 Option.bind (idx a3 (List.length a0 : Int)) fun x4886 =>
 Option.bind (idx x4886 (List.length a1 : Int)) fun x4891 =>
 some (decide (a2 ≤ x4891))))))

def r08_near (N : Nat) (a0 : Int) (a1 : Int) (a2 : Int) : Option (Bool) :=
 some (decide (a0 ≤ a1) || decide ((((a0 % 18446744073709551616) - (a1 % 18446744073709551616)) % 18446744073709551616) ≤ (a2 % 18446744073709551616)))

def r08_Verify_l1 (N : Nat) (a0 : List Int) (a1 : List Int) (a3 : List (List Int)) (i50 : Int) : Option ((Int) ⊕ (Bool ⊕ Unit)) :=
 bif decide (i50 ≤ (List.length a0 : Int)) then (
 Option.bind (idx a3 i50) fun x65 =>
 Option.bind (in64 ((List.length a1 : Int) + 1)) fun x70 =>
 bif (!decide ((List.length x65 : Int) = x70)) then (
 some (.inr (Sum.inl false))) else (
 Option.bind (in64 (i50 + 1)) fun x75 =>
 some (.inl x75))) else (
 some (.inr (Sum.inr ())))

def r08_Verify_l14 (N : Nat) (a0 : List Int) (a1 : List Int) (a3 : List (List Int)) (i1357 : Int) (i1773 : Int) (i1903 : Int) : Option ((Int) ⊕ (Bool ⊕ Unit)) :=
 bif decide (i1903 ≤ 4) then (
 Option.bind (r08_edit N a0 a1 i1357 i1773 i1903) fun r1918 =>
 Option.bind (gO r1918.2.2.2 (idx a3 r1918.1)) fun x1931 =>
 Option.bind (gO r1918.2.2.2 (idx x1931 r1918.2.1)) fun x1939 =>
 Option.bind (gO r1918.2.2.2 (idx a3 i1357)) fun x1946 =>
 Option.bind (gO r1918.2.2.2 (idx x1946 i1773)) fun x1954 =>
 Option.bind (gO r1918.2.2.2 (r08_near N x1939 x1954 r1918.2.2.1)) fun r1960 =>
 bif (r1918.2.2.2 && (!r1960)) then (
 some (.inr (Sum.inl false))) else (
 Option.bind (in64 (i1903 + 1)) fun x1970 =>
 some (.inl x1970))) else (
 some (.inr (Sum.inr ())))

def r08_Verify_l13 (N : Nat) (a0 : List Int) (a1 : List Int) (a3 : List (List Int)) (i1357 : Int) (i1773 : Int) : Option ((Int) ⊕ (Bool ⊕ Unit)) :=
 bif decide (i1773 ≤ (List.length a1 : Int)) then (
 Option.bind (iterN (fun s : Int => r08_Verify_l14 N a0 a1 a3 i1357 i1773 s) N 0) fun r1910 =>
 match r1910 with
 | .inl p1977 => (
 some (.inr (Sum.inl p1977)))
 | .inr p1980 => (
 Option.bind (in64 (i1773 + 1)) fun x1983 =>
 some (.inl x1983))) else (
 some (.inr (Sum.inr ())))

def r08_Verify_l10 (N : Nat) (a0 : List Int) (a1 : List Int) (a3 : List (List Int)) (i1357 : Int) : Option ((Int) ⊕ (Bool ⊕ Unit)) :=
 bif decide (i1357 ≤ (List.length a0 : Int)) then (
 Option.bind (iterN (fun s : Int => r08_Verify_l13 N a0 a1 a3 i1357 s) N 0) fun r1780 =>
 match r1780 with
 | .inl p1990 => (
 some (.inr (Sum.inl p1990)))
 | .inr p1993 => (
 Option.bind (in64 (i1357 + 1)) fun x1996 =>
 some (.inl x1996))) else (
 some (.inr (Sum.inr ())))

def r08_Verify (N : Nat) (a0 : List Int) (a1 : List Int) (a2 : Int) (a3 : List (List Int)) : Option (Bool) :=
 Option.bind (r08_long N a0 a1) fun r1 =>
 Option.bind (gO (!r1) (in64 ((List.length a0 : Int) + 1))) fun x12 =>
 bif (r1 || (!decide ((List.length a3 : Int) = x12))) then (
 some false) else (
 Option.bind (iterN (fun s : Int => r08_Verify_l1 N a0 a1 a3 s) N 0) fun r57 =>
 match r57 with
 | .inl p82 => (
 some p82)
 | .inr p85 => (
 Option.bind (idx a3 0) fun x88 =>
 Option.bind (idx x88 0) fun x93 =>
 bif (!decide (x93 = 0)) then (
 some false) else (
 Option.bind (iterN (fun s : Int => r08_Verify_l10 N a0 a1 a3 s) N 0) fun r1364 =>
 match r1364 with
 | .inl p2003 => (
 some p2003)
 | .inr p2006 => (
 Option.bind (idx a3 (List.length a0 : Int)) fun x2009 =>
 Option.bind (idx x2009 (List.length a1 : Int)) fun x2014 =>
 some (decide (a2 ≤ x2014))))))

def law08_ReconcileVerifies_l4 (N : Nat) (a1 : Int) (r776 : Int × List Int × List Int) (r784 : List Int × Int × Int) (j908 : Int × List (List Int)) (x1021 : Int) (x1024 : Int) (i1075 : Int) : Option ((Int) ⊕ (Bool ⊕ Unit)) :=
 bif decide (i1075 < (List.length ([r784.2.1, x1021, x1024, a1]) : Int)) then (
 Option.bind (idx ([r784.2.1, x1021, x1024, a1]) i1075) fun x1090 =>
 Option.bind (reconcile_Verify N r776.2.1 r776.2.2 x1090 j908.2) fun r1093 =>
 Option.bind (r08_Verify N r776.2.1 r776.2.2 x1090 j908.2) fun r1099 =>
 bif (!(r1093 == r1099)) then (
 some (.inr (Sum.inl false))) else (
 Option.bind (in64 (i1075 + 1)) fun x1107 =>
 some (.inl x1107))) else (
 some (.inr (Sum.inr ())))

def law08_ReconcileVerifies_l3 (N : Nat) (a0 : List Int) (a1 : Int) (a2 : List (List Int)) (i760 : Int) (i761 : Int) : Option ((Int × Int) ⊕ (Bool ⊕ Unit)) :=
 bif decide (i760 < 4) then (
 Option.bind (law08_lists N a0 i761 8) fun r776 =>
 Option.bind (r08_Align N r776.2.1 r776.2.2) fun r784 =>
 Option.bind (r08_Potential N r776.2.1 r776.2.2) fun r791 =>
 Option.bind (
 bif decide (0 < i760) then (
 Option.bind (Maker_Next N a0 r776.1 (List.length r791.1 : Int)) fun r913 =>
 Option.bind (idx r791.1 r913.2) fun x919 =>
 Option.bind (Maker_Next N a0 r913.1 (List.length x919 : Int)) fun r924 =>
 Option.bind (idx r791.1 r913.2) fun x960 =>
 Option.bind (idx x960 r924.2) fun x965 =>
 Option.bind (Maker_Pick N a0 r924.1 ([(-5), (-1), 0, 1, 2])) fun r971 =>
 Option.bind (in64 (x965 + r971.2)) fun x977 =>
 Option.bind (idx x960 r924.2) fun x980 =>
 bif decide (i760 = 3) then (
 Option.bind (idx (List.set r791.1 (Int.toNat r913.2) (List.set x960 (Int.toNat r924.2) x977)) r913.2) fun x988 =>
 Option.bind (app 8 x988 ([0])) fun l998 =>
 Option.bind (idx (List.set r791.1 (Int.toNat r913.2) (List.set x960 (Int.toNat r924.2) x977)) r913.2) fun x1004 =>
 some (r971.1, (List.set (List.set r791.1 (Int.toNat r913.2) (List.set x960 (Int.toNat r924.2) x977)) (Int.toNat r913.2) l998))) else (
 some (r971.1, (List.set r791.1 (Int.toNat r913.2) (List.set x960 (Int.toNat r924.2) x977))))) else (
 some (r776.1, r791.1))) fun j908 =>
 Option.bind (in64 (r784.2.1 - 1)) fun x1021 =>
 Option.bind (in64 (r784.2.1 + 1)) fun x1024 =>
 Option.bind (iterN (fun s : Int => law08_ReconcileVerifies_l4 N a1 r776 r784 j908 x1021 x1024 s) N 0) fun r1082 =>
 match r1082 with
 | .inl p1114 => (
 some (.inr (Sum.inl p1114)))
 | .inr p1117 => (
 Option.bind (gO (decide ((List.length a2 : Int) ≤ 40)) (reconcile_Verify N r776.2.1 r776.2.2 a1 a2)) fun r1125 =>
 Option.bind (gO (decide ((List.length a2 : Int) ≤ 40)) (r08_Verify N r776.2.1 r776.2.2 a1 a2)) fun r1136 =>
 bif (decide ((List.length a2 : Int) ≤ 40) && (!(r1125 == r1136))) then (
 some (.inr (Sum.inl false))) else (
 Option.bind (in64 (i760 + 1)) fun x1146 =>
 some (.inl (x1146, j908.1))))) else (
 some (.inr (Sum.inr ())))

def law08_ReconcileVerifies (N : Nat) (a0 : List Int) (a1 : Int) (a2 : List (List Int)) : Option (Bool) :=
 Option.bind (humpgen_New N a0) fun r1 =>
 Option.bind (iterN (fun s : Int × Int => law08_ReconcileVerifies_l3 N a0 a1 a2 s.1 s.2) N (0, r1)) fun r768 =>
 match r768 with
 | .inl p1153 => (
 some p1153)
 | .inr p1156 => (
 Option.bind (law08_sane N) fun r1159 =>
 some r1159)

def reconcile_Potential_l13 (N : Nat) (a0 : List Int) (a1 : List Int) (i1915 : Int) (i2545 : Int) (i2748 : Int) (l2749 : List (List Int)) : Option ((Int × List (List Int)) ⊕ (List (List Int))) :=
 bif decide (i2748 < 5) then (
 Option.bind (reconcile_step N a0 a1 i1915 i2545 i2748) fun r2764 =>
 bif r2764.2.2 then (
 Option.bind (idx l2749 r2764.1) fun x2811 =>
 Option.bind (idx l2749 r2764.1) fun x2816 =>
 Option.bind (idx x2816 r2764.2.1) fun x2821 =>
 Option.bind (idx l2749 i1915) fun x2824 =>
 Option.bind (idx x2824 i2545) fun x2829 =>
 Option.bind (reconcile_cost N i2748) fun r2832 =>
 Option.bind (in64 (x2829 + r2832)) fun x2838 =>
 Option.bind (idx x2811 r2764.2.1) fun x2841 =>
 Option.bind (in64 (i2748 + 1)) fun x2846 =>
 some (.inl (x2846, (List.set l2749 (Int.toNat r2764.1) (List.set x2811 (Int.toNat r2764.2.1) (min x2821 x2838)))))) else (
 Option.bind (in64 (i2748 + 1)) fun x2849 =>
 some (.inl (x2849, l2749)))) else (
 some (.inr l2749))

def reconcile_Potential_l12 (N : Nat) (a0 : List Int) (a1 : List Int) (i1915 : Int) (x1931 : List Int) (i2545 : Int) (l2546 : List (List Int)) : Option ((Int × List (List Int)) ⊕ (List (List Int))) :=
 bif decide (i2545 < (List.length x1931 : Int)) then (
 Option.bind (iterN (fun s : Int × List (List Int) => reconcile_Potential_l13 N a0 a1 i1915 i2545 s.1 s.2) N (0, l2546)) fun r2758 =>
 Option.bind (in64 (i2545 + 1)) fun x2857 =>
 some (.inl (x2857, r2758))) else (
 some (.inr l2546))

def reconcile_Potential_l9 (N : Nat) (a0 : List Int) (a1 : List Int) (r11 : List (List Int)) (x19 : List Int) (i1915 : Int) (l1916 : List (List Int)) : Option ((Int × List (List Int)) ⊕ (List (List Int))) :=
 bif decide (i1915 < (List.length (List.set r11 (Int.toNat 0) (List.set x19 (Int.toNat 0) 0)) : Int)) then (
 Option.bind (idx l1916 i1915) fun x1931 =>
 Option.bind (iterN (fun s : Int × List (List Int) => reconcile_Potential_l12 N a0 a1 i1915 x1931 s.1 s.2) N (0, l1916)) fun r2555 =>
 Option.bind (in64 (i1915 + 1)) fun x2865 =>
 some (.inl (x2865, r2555))) else (
 some (.inr l1916))

def reconcile_Potential (N : Nat) (a0 : List Int) (a1 : List Int) : Option (List (List Int) × Int) :=
 Option.bind (reconcile_long N a0 a1) fun r1 =>
 bif r1 then (
 some ([], 3)) else (
 Option.bind (reconcile_table N a0 a1 9223372036854775807) fun r11 =>
 Option.bind (idx r11 0) fun x19 =>
 Option.bind (idx x19 0) fun x24 =>
 Option.bind (iterN (fun s : Int × List (List Int) => reconcile_Potential_l9 N a0 a1 r11 x19 s.1 s.2) N (0, (List.set r11 (Int.toNat 0) (List.set x19 (Int.toNat 0) 0)))) fun r1925 =>
 some (r1925, 0))

def humpgen_Lists_l1 (N : Nat) (a0 : List (List Int)) (a1 : List (List Int)) (i58 : Int) : Option ((Int) ⊕ (Bool ⊕ Unit)) :=
 bif decide (i58 < (List.length a0 : Int)) then (
 Option.bind (idx a0 i58) fun x77 =>
 Option.bind (idx a1 i58) fun x82 =>
 Option.bind (humpgen_Ints N x77 x82) fun r87 =>
 bif (!r87) then (
 some (.inr (Sum.inl false))) else (
 Option.bind (in64 (i58 + 1)) fun x95 =>
 some (.inl x95))) else (
 some (.inr (Sum.inr ())))

def humpgen_Lists (N : Nat) (a0 : List (List Int)) (a1 : List (List Int)) : Option (Bool) :=
 bif (!decide ((List.length a0 : Int) = (List.length a1 : Int))) then (
 some false) else (
 Option.bind (iterN (fun s : Int => humpgen_Lists_l1 N a0 a1 s) N 0) fun r65 =>
 match r65 with
 | .inl p102 => (
 some p102)
 | .inr p105 => (
 some true))

def reconcile_Cost_l1 (N : Nat) (a0 : List Int) (a1 : List Int) (a2 : List Int) (i66 : Int) (i67 : Int) (i68 : Int) (i69 : Int) : Option ((Int × Int × Int × Int) ⊕ ((Int × Int) ⊕ (Int × Int × Int))) :=
 bif decide (i69 < (List.length a2 : Int)) then (
 Option.bind (idx a2 i69) fun x84 =>
 Option.bind (reconcile_step N a0 a1 i66 i67 x84) fun r87 =>
 bif (!r87.2.2) then (
 some (.inr (Sum.inl (0, 1)))) else (
 Option.bind (reconcile_cost N x84) fun r95 =>
 Option.bind (in64 (i68 + r95)) fun x101 =>
 Option.bind (in64 (i69 + 1)) fun x104 =>
 some (.inl (r87.1, r87.2.1, x101, x104)))) else (
 some (.inr (Sum.inr (i66, i67, i68))))

def reconcile_Cost (N : Nat) (a0 : List Int) (a1 : List Int) (a2 : List Int) : Option (Int × Int) :=
 Option.bind (reconcile_long N a0 a1) fun r1 =>
 bif r1 then (
 some (0, 3)) else (
 Option.bind (iterN (fun s : Int × Int × Int × Int => reconcile_Cost_l1 N a0 a1 a2 s.1 s.2.1 s.2.2.1 s.2.2.2) N (0, 0, 0, 0)) fun r76 =>
 match r76 with
 | .inl p111 => (
 some p111)
 | .inr p114 => (
 bif ((!decide (p114.1 = (List.length a0 : Int))) || (!decide (p114.2.1 = (List.length a1 : Int)))) then (
 some (0, 1)) else (
 some (p114.2.2, 0))))

def r08_Cost_l1 (N : Nat) (a0 : List Int) (a1 : List Int) (a2 : List Int) (i54 : Int) (i55 : Int) (i56 : Int) (i57 : Int) : Option ((Int × Int × Int × Int) ⊕ ((Int × Int) ⊕ (Int × Int × Int))) :=
 bif decide (i57 < (List.length a2 : Int)) then (
 Option.bind (idx a2 i57) fun x72 =>
 Option.bind (r08_edit N a0 a1 i54 i55 x72) fun r75 =>
 bif (!r75.2.2.2) then (
 some (.inr (Sum.inl (0, 1)))) else (
 Option.bind (in64 (i56 + r75.2.2.1)) fun x83 =>
 Option.bind (in64 (i57 + 1)) fun x86 =>
 some (.inl (r75.1, r75.2.1, x83, x86)))) else (
 some (.inr (Sum.inr (i54, i55, i56))))

def r08_Cost (N : Nat) (a0 : List Int) (a1 : List Int) (a2 : List Int) : Option (Int × Int) :=
 Option.bind (r08_long N a0 a1) fun r1 =>
 bif r1 then (
 some (0, 3)) else (
 Option.bind (iterN (fun s : Int × Int × Int × Int => r08_Cost_l1 N a0 a1 a2 s.1 s.2.1 s.2.2.1 s.2.2.2) N (0, 0, 0, 0)) fun r64 =>
 match r64 with
 | .inl p93 => (
 some p93)
 | .inr p96 => (
 bif ((!decide (p96.1 = (List.length a0 : Int))) || (!decide (p96.2.1 = (List.length a1 : Int)))) then (
 some (0, 1)) else (
 some (p96.2.2, 0))))

def law08_ReconcileExact_l6 (N : Nat) (a1 : List Int) (a2 : List Int) (a3 : List Int) (r1079 : List Int × Int × Int) (j1166 : Int × List Int) (i1262 : Int) : Option ((Int) ⊕ (Bool ⊕ Unit)) :=
 bif decide (i1262 < (List.length ([r1079.1, j1166.2, a3]) : Int)) then (
 Option.bind (idx ([r1079.1, j1166.2, a3]) i1262) fun x1277 =>
 Option.bind (reconcile_Cost N a1 a2 x1277) fun r1282 =>
 Option.bind (r08_Cost N a1 a2 x1277) fun r1288 =>
 bif ((!decide (r1282.1 = r1288.1)) || (!decide (r1282.2 = r1288.2))) then (
 some (.inr (Sum.inl false))) else (
 Option.bind (in64 (i1262 + 1)) fun x1300 =>
 some (.inl x1300))) else (
 some (.inr (Sum.inr ())))

def law08_ReconcileExact_l7 (N : Nat) (a3 : List Int) (r1050 : Int × List Int × List Int) (r1323 : List Int × Int × Int) (j1410 : Int × List Int) (i1506 : Int) : Option ((Int) ⊕ (Bool ⊕ Unit)) :=
 bif decide (i1506 < (List.length ([r1323.1, j1410.2, a3]) : Int)) then (
 Option.bind (idx ([r1323.1, j1410.2, a3]) i1506) fun x1521 =>
 Option.bind (reconcile_Cost N r1050.2.1 r1050.2.2 x1521) fun r1526 =>
 Option.bind (r08_Cost N r1050.2.1 r1050.2.2 x1521) fun r1532 =>
 bif ((!decide (r1526.1 = r1532.1)) || (!decide (r1526.2 = r1532.2))) then (
 some (.inr (Sum.inl false))) else (
 Option.bind (in64 (i1506 + 1)) fun x1544 =>
 some (.inl x1544))) else (
 some (.inr (Sum.inr ())))

def law08_ReconcileExact_l5 (N : Nat) (a0 : List Int) (a1 : List Int) (a2 : List Int) (a3 : List Int) (i1034 : Int) (i1035 : Int) : Option ((Int × Int) ⊕ (Bool ⊕ Unit)) :=
 bif decide (i1034 < 4) then (
 Option.bind (law08_lists N a0 i1035 12) fun r1050 =>
 Option.bind (gO (decide (i1034 = 3)) (in64 ((List.length a1 : Int) + (List.length a2 : Int)))) fun x1063 =>
 bif (decide (i1034 = 3) && decide (x1063 ≤ 60)) then (
 Option.bind (reconcile_Align N a1 a2) fun r1072 =>
 Option.bind (r08_Align N a1 a2) fun r1079 =>
 Option.bind (reconcile_Potential N a1 a2) fun r1086 =>
 Option.bind (r08_Potential N a1 a2) fun r1094 =>
 Option.bind (humpgen_Ints N r1072.1 r1079.1) fun r1102 =>
 Option.bind (gO (!(((!r1102) || (!decide (r1072.2.1 = r1079.2.1))) || (!decide (r1072.2.2 = r1079.2.2)))) (humpgen_Lists N r1086.1 r1094.1)) fun r1119 =>
 bif (((((!r1102) || (!decide (r1072.2.1 = r1079.2.1))) || (!decide (r1072.2.2 = r1079.2.2))) || (!r1119)) || (!decide (r1086.2 = r1094.2))) then (
 some (.inr (Sum.inl false))) else (
 Option.bind (app 8 [] r1079.1) fun l1136 =>
 Option.bind (
 bif decide (0 < (List.length l1136 : Int)) then (
 Option.bind (Maker_Next N a0 r1050.1 (List.length l1136 : Int)) fun r1171 =>
 Option.bind (Maker_Pick N a0 r1171.1 ([(-1), 0, 1, 2, 3, 4, 5])) fun r1180 =>
 Option.bind (idx l1136 r1171.2) fun x1186 =>
 some (r1180.1, (List.set l1136 (Int.toNat r1171.2) r1180.2))) else (
 some (r1050.1, l1136))) fun j1166 =>
 Option.bind (iterN (fun s : Int => law08_ReconcileExact_l6 N a1 a2 a3 r1079 j1166 s) N 0) fun r1269 =>
 match r1269 with
 | .inl p1307 => (
 some (.inr (Sum.inl p1307)))
 | .inr p1310 => (
 Option.bind (in64 (i1034 + 1)) fun x1313 =>
 some (.inl (x1313, j1166.1))))) else (
 Option.bind (reconcile_Align N r1050.2.1 r1050.2.2) fun r1316 =>
 Option.bind (r08_Align N r1050.2.1 r1050.2.2) fun r1323 =>
 Option.bind (reconcile_Potential N r1050.2.1 r1050.2.2) fun r1330 =>
 Option.bind (r08_Potential N r1050.2.1 r1050.2.2) fun r1338 =>
 Option.bind (humpgen_Ints N r1316.1 r1323.1) fun r1346 =>
 Option.bind (gO (!(((!r1346) || (!decide (r1316.2.1 = r1323.2.1))) || (!decide (r1316.2.2 = r1323.2.2)))) (humpgen_Lists N r1330.1 r1338.1)) fun r1363 =>
 bif (((((!r1346) || (!decide (r1316.2.1 = r1323.2.1))) || (!decide (r1316.2.2 = r1323.2.2))) || (!r1363)) || (!decide (r1330.2 = r1338.2))) then (
 some (.inr (Sum.inl false))) else (
 Option.bind (app 8 [] r1323.1) fun l1380 =>
 Option.bind (
 bif decide (0 < (List.length l1380 : Int)) then (
 Option.bind (Maker_Next N a0 r1050.1 (List.length l1380 : Int)) fun r1415 =>
 Option.bind (Maker_Pick N a0 r1415.1 ([(-1), 0, 1, 2, 3, 4, 5])) fun r1424 =>
 Option.bind (idx l1380 r1415.2) fun x1430 =>
 some (r1424.1, (List.set l1380 (Int.toNat r1415.2) r1424.2))) else (
 some (r1050.1, l1380))) fun j1410 =>
 Option.bind (iterN (fun s : Int => law08_ReconcileExact_l7 N a3 r1050 r1323 j1410 s) N 0) fun r1513 =>
 match r1513 with
 | .inl p1551 => (
 some (.inr (Sum.inl p1551)))
 | .inr p1554 => (
 Option.bind (in64 (i1034 + 1)) fun x1557 =>
 some (.inl (x1557, j1410.1)))))) else (
 some (.inr (Sum.inr ())))

def law08_ReconcileExact (N : Nat) (a0 : List Int) (a1 : List Int) (a2 : List Int) (a3 : List Int) : Option (Bool) :=
 Option.bind (humpgen_New N a0) fun r1 =>
 Option.bind (iterN (fun s : Int × Int => law08_ReconcileExact_l5 N a0 a1 a2 a3 s.1 s.2) N (0, r1)) fun r1042 =>
 match r1042 with
 | .inl p1564 => (
 some p1564)
 | .inr p1567 => (
 Option.bind (law08_sane N) fun r1570 =>
 some r1570)

def law08_ReconcileLimits_l1 (N : Nat) (j45 : List Int × List Int) (i102 : Int) (l103 : List Int) : Option ((Int × List Int) ⊕ (List Int)) :=
 bif decide (i102 < (List.length j45.2 : Int)) then (
 Option.bind (idx l103 i102) fun x116 =>
 Option.bind (in64 (i102 + 1)) fun x121 =>
 some (.inl (x121, (List.set l103 (Int.toNat i102) 1)))) else (
 some (.inr l103))

def law08_ReconcileLimits (N : Nat) (a0 : Int) (a1 : Int) : Option (Bool) :=
 Option.bind (in64 ((Int.tmod a0 4) + 4)) fun x1 =>
 Option.bind (in64 (94 + (Int.tmod x1 4))) fun x4 =>
 Option.bind (in64 ((Int.tmod a1 4) + 4)) fun x7 =>
 Option.bind (in64 (94 + (Int.tmod x7 4))) fun x10 =>
 Option.bind (
 Option.bind (mkL 8 x4 0) fun l52 =>
 Option.bind (mkL 8 x10 0) fun l58 =>
 some (l52, l58)) fun j45 =>
 Option.bind (iterN (fun s : Int × List Int => law08_ReconcileLimits_l1 N j45 s.1 s.2) N (0, j45.2)) fun r110 =>
 Option.bind (reconcile_Align N j45.1 r110) fun r129 =>
 Option.bind (reconcile_Potential N j45.1 r110) fun r136 =>
 bif (decide (96 < x4) || decide (96 < x10)) then (
 Option.bind (gO (((decide (r129.2.2 = 3) && decide (r136.2 = 3)) && decide ((List.length r129.1 : Int) = 0)) && decide ((List.length r136.1 : Int) = 0)) (law08_sane N)) fun r161 =>
 some ((((decide (r129.2.2 = 3) && decide (r136.2 = 3)) && decide ((List.length r129.1 : Int) = 0)) && decide ((List.length r136.1 : Int) = 0)) && r161)) else (
 Option.bind (gO (decide (r129.2.2 = 0) && decide (r136.2 = 0)) (in64 (3 * (min x4 x10)))) fun x176 =>
 Option.bind (gO (decide (r129.2.2 = 0) && decide (r136.2 = 0)) (in64 ((max x4 x10) - (min x4 x10)))) fun x186 =>
 Option.bind (gO (decide (r129.2.2 = 0) && decide (r136.2 = 0)) (in64 (4 * x186))) fun x190 =>
 Option.bind (gO (decide (r129.2.2 = 0) && decide (r136.2 = 0)) (in64 (x176 + x190))) fun x194 =>
 Option.bind (gO (((decide (r129.2.2 = 0) && decide (r136.2 = 0)) && decide (r129.2.1 = x194)) && decide ((List.length r129.1 : Int) = (max x4 x10))) (reconcile_Verify N j45.1 r110 r129.2.1 r136.1)) fun r211 =>
 Option.bind (gO ((((decide (r129.2.2 = 0) && decide (r136.2 = 0)) && decide (r129.2.1 = x194)) && decide ((List.length r129.1 : Int) = (max x4 x10))) && r211) (law08_sane N)) fun r219 =>
 some (((((decide (r129.2.2 = 0) && decide (r136.2 = 0)) && decide (r129.2.1 = x194)) && decide ((List.length r129.1 : Int) = (max x4 x10))) && r211) && r219))

def law08_ReconcileProof_l1 (N : Nat) (a0 : List Int) (a1 : List Int) (a2 : List Int) (i324 : Int) : Option ((Int) ⊕ (Bool ⊕ Unit)) :=
 bif decide (i324 < 2) then (
 Option.bind (humpgen_New N a0) fun r339 =>
 Option.bind (law08_lists N a0 r339 16) fun r346 =>
 Option.bind (gO (decide (i324 = 1)) (in64 ((List.length a1 : Int) + (List.length a2 : Int)))) fun x359 =>
 bif (decide (i324 = 1) && decide (x359 ≤ 60)) then (
 Option.bind (reconcile_Align N a1 a2) fun r368 =>
 Option.bind (reconcile_Cost N a1 a2 r368.1) fun r375 =>
 Option.bind (reconcile_Potential N a1 a2) fun r381 =>
 Option.bind (gO (!((((!decide (r368.2.2 = 0)) || (!decide (r375.2 = 0))) || (!decide (r381.2 = 0))) || (!decide (r368.2.1 = r375.1)))) (reconcile_Verify N a1 a2 r368.2.1 r381.1)) fun r404 =>
 Option.bind (gO (!(((((!decide (r368.2.2 = 0)) || (!decide (r375.2 = 0))) || (!decide (r381.2 = 0))) || (!decide (r368.2.1 = r375.1))) || (!r404))) (in64 (r368.2.1 + 1))) fun x416 =>
 Option.bind (gO (!(((((!decide (r368.2.2 = 0)) || (!decide (r375.2 = 0))) || (!decide (r381.2 = 0))) || (!decide (r368.2.1 = r375.1))) || (!r404))) (reconcile_Verify N a1 a2 x416 r381.1)) fun r421 =>
 bif ((((((!decide (r368.2.2 = 0)) || (!decide (r375.2 = 0))) || (!decide (r381.2 = 0))) || (!decide (r368.2.1 = r375.1))) || (!r404)) || r421) then (
 some (.inr (Sum.inl false))) else (
 Option.bind (in64 (i324 + 1)) fun x430 =>
 some (.inl x430))) else (
 Option.bind (reconcile_Align N r346.2.1 r346.2.2) fun r433 =>
 Option.bind (reconcile_Cost N r346.2.1 r346.2.2 r433.1) fun r440 =>
 Option.bind (reconcile_Potential N r346.2.1 r346.2.2) fun r446 =>
 Option.bind (gO (!((((!decide (r433.2.2 = 0)) || (!decide (r440.2 = 0))) || (!decide (r446.2 = 0))) || (!decide (r433.2.1 = r440.1)))) (reconcile_Verify N r346.2.1 r346.2.2 r433.2.1 r446.1)) fun r469 =>
 Option.bind (gO (!(((((!decide (r433.2.2 = 0)) || (!decide (r440.2 = 0))) || (!decide (r446.2 = 0))) || (!decide (r433.2.1 = r440.1))) || (!r469))) (in64 (r433.2.1 + 1))) fun x481 =>
 Option.bind (gO (!(((((!decide (r433.2.2 = 0)) || (!decide (r440.2 = 0))) || (!decide (r446.2 = 0))) || (!decide (r433.2.1 = r440.1))) || (!r469))) (reconcile_Verify N r346.2.1 r346.2.2 x481 r446.1)) fun r486 =>
 bif ((((((!decide (r433.2.2 = 0)) || (!decide (r440.2 = 0))) || (!decide (r446.2 = 0))) || (!decide (r433.2.1 = r440.1))) || (!r469)) || r486) then (
 some (.inr (Sum.inl false))) else (
 Option.bind (in64 (i324 + 1)) fun x495 =>
 some (.inl x495)))) else (
 some (.inr (Sum.inr ())))

def law08_ReconcileProof (N : Nat) (a0 : List Int) (a1 : List Int) (a2 : List Int) : Option (Bool) :=
 Option.bind (iterN (fun s : Int => law08_ReconcileProof_l1 N a0 a1 a2 s) N 0) fun r331 =>
 match r331 with
 | .inl p502 => (
 some p502)
 | .inr p505 => (
 Option.bind (law08_sane N) fun r508 =>
 some r508)

def law08_ReconcileCheaper_l1 (N : Nat) (a0 : List Int) (r8 : Int × List Int × List Int) (i397 : Int) (i398 : Int) (i399 : Int) (l400 : List Int) : Option ((Int × Int × Int × List Int) ⊕ (List Int)) :=
 bif (decide (i397 < (List.length r8.2.1 : Int)) || decide (i398 < (List.length r8.2.2 : Int))) then (
 Option.bind (Maker_Next N a0 i399 3) fun r419 =>
 bif ((decide (i397 < (List.length r8.2.1 : Int)) && decide (i398 < (List.length r8.2.2 : Int))) && decide (r419.2 = 0)) then (
 Option.bind (idx r8.2.1 i397) fun x439 =>
 Option.bind (idx r8.2.2 i398) fun x442 =>
 Option.bind (
 bif decide (x439 = x442) then (
 some 0) else (
 some 1)) fun j448 =>
 Option.bind (app 8 l400 ([j448])) fun l461 =>
 Option.bind (in64 (i397 + 1)) fun x467 =>
 Option.bind (in64 (i398 + 1)) fun x470 =>
 some (.inl (x467, x470, r419.1, l461))) else (
 bif (decide (i397 < (List.length r8.2.1 : Int)) && (decide (r419.2 = 1) || decide (i398 = (List.length r8.2.2 : Int)))) then (
 Option.bind (app 8 l400 ([2])) fun l488 =>
 Option.bind (in64 (i397 + 1)) fun x494 =>
 some (.inl (x494, i398, r419.1, l488))) else (
 bif decide (i398 = (List.length r8.2.2 : Int)) then (
 Option.bind (app 8 l400 ([2])) fun l502 =>
 Option.bind (in64 (i397 + 1)) fun x508 =>
 some (.inl (x508, i398, r419.1, l502))) else (
 Option.bind (app 8 l400 ([3])) fun l514 =>
 Option.bind (in64 (i398 + 1)) fun x520 =>
 some (.inl (i397, x520, r419.1, l514)))))) else (
 some (.inr l400))

def law08_ReconcileCheaper (N : Nat) (a0 : List Int) : Option (Bool) :=
 Option.bind (humpgen_New N a0) fun r1 =>
 Option.bind (law08_lists N a0 r1 10) fun r8 =>
 Option.bind (reconcile_Align N r8.2.1 r8.2.2) fun r16 =>
 Option.bind (reconcile_Potential N r8.2.1 r8.2.2) fun r23 =>
 Option.bind (gO (!((!decide (r16.2.2 = 0)) || (!decide (r23.2 = 0)))) (reconcile_Verify N r8.2.1 r8.2.2 r16.2.1 r23.1)) fun r39 =>
 bif (((!decide (r16.2.2 = 0)) || (!decide (r23.2 = 0))) || (!r39)) then (
 some false) else (
 Option.bind (iterN (fun s : Int × Int × Int × List Int => law08_ReconcileCheaper_l1 N a0 r8 s.1 s.2.1 s.2.2.1 s.2.2.2) N (0, 0, r8.1, [])) fun r408 =>
 Option.bind (reconcile_Cost N r8.2.1 r8.2.2 r408) fun r528 =>
 Option.bind (gO (decide (r528.2 = 0) && decide (r16.2.1 ≤ r528.1)) (law08_sane N)) fun r539 =>
 some ((decide (r528.2 = 0) && decide (r16.2.1 ≤ r528.1)) && r539))

end Go.Gv
