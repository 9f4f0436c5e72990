/- Plain functions that mirror the program, written by a program of mine (gowalk.py). -/
import Derived.Test.YtpljjjcfinpgeaaPu
namespace Go.Gv
set_option linter.unusedVariables false

structure T_Maker where
  l : List Int
  n : Int
deriving DecidableEq, Inhabited

structure T_SetOut where
  Stop : Int
  Wagons : Int
  Groups : Int
deriving DecidableEq, Inhabited

def humpgen_New (N : Nat) (a0 : List Int) : Option (Int) :=
 some 0

def Maker_Next (N : Nat) (a0_l : List Int) (a0_n : Int) (a1 : Int) : Option (Int × Int) :=
 Option.bind (
 bif decide (0 < (List.length a0_l : Int)) then (
 Option.bind (rem64 a0_n (List.length a0_l : Int)) fun x78 =>
 Option.bind (idx a0_l x78) fun x81 =>
 Option.bind (quo64 a0_n (List.length a0_l : Int)) fun x84 =>
 some (wr64 (x81 + (wr64 (x84 * 7919))))) else (
 some 0)) fun j69 =>
 Option.bind (in64 (a0_n + 1)) fun x92 =>
 Option.bind (rem64 j69 a1) fun x97 =>
 bif decide (x97 < 0) then (
 Option.bind (in64 (x97 + a1)) fun x102 =>
 some (x92, x102)) else (
 some (x92, x97))

def law34_train_l1 (N : Nat) (a0_l : List Int) (x135 : Int) (i218 : Int) (i219 : Int) (l220 : List Int) : Option ((Int × Int × List Int) ⊕ (Int × List Int)) :=
 bif decide (0 < i218) then (
 Option.bind (Maker_Next N a0_l i219 x135) fun r234 =>
 Option.bind (app 8 l220 ([r234.2])) fun l243 =>
 Option.bind (in64 (i218 - 1)) fun x249 =>
 some (.inl (x249, r234.1, l243))) else (
 some (.inr (i219, l220)))

def law34_train (N : Nat) (a0_l : List Int) (a0_n : Int) (a1 : Int) : Option (Int × List Int) :=
 Option.bind (Maker_Next N a0_l a0_n 5) fun r129 =>
 Option.bind (in64 (1 + r129.2)) fun x135 =>
 Option.bind (in64 (a1 + 1)) fun x138 =>
 Option.bind (Maker_Next N a0_l r129.1 x138) fun r141 =>
 Option.bind (iterN (fun s : Int × Int × List Int => law34_train_l1 N a0_l x135 s.1 s.2.1 s.2.2) N (r141.2, r141.1, [])) fun r228 =>
 some (r228.1, r228.2)

def setout_check_l1 (N : Nat) (a0 : List Int) (a1 : Int) (i32 : Int) : Option ((Int) ⊕ (Int ⊕ Unit)) :=
 bif decide (i32 < (List.length a0 : Int)) then (
 Option.bind (idx a0 i32) fun x47 =>
 bif (decide (x47 < 0) || decide (a1 ≤ x47)) then (
 some (.inr (Sum.inl 2))) else (
 Option.bind (in64 (i32 + 1)) fun x56 =>
 some (.inl x56))) else (
 some (.inr (Sum.inr ())))

def setout_check (N : Nat) (a0 : List Int) (a1 : Int) : Option (Int) :=
 bif decide (96 < (List.length a0 : Int)) then (
 some 3) else (
 Option.bind (iterN (fun s : Int => setout_check_l1 N a0 a1 s) N 0) fun r39 =>
 match r39 with
 | .inl p63 => (
 some p63)
 | .inr p66 => (
 some 0))

def setout_plan_l5 (N : Nat) (i799 : Int) (l802 : List Int) (i989 : Int) (i990 : Int) (i991 : Int) (l992 : List Int) : Option ((Int × Int × Int × List Int) ⊕ (Int × Int × List Int)) :=
 bif decide (i989 < (List.length l802 : Int)) then (
 Option.bind (idx l802 i989) fun x1006 =>
 bif (!decide (x1006 = i799)) then (
 Option.bind (app 8 l992 ([x1006])) fun l1014 =>
 Option.bind (in64 (i989 + 1)) fun x1020 =>
 some (.inl (x1020, i990, i991, l1014))) else (
 Option.bind (in64 (i990 + 1)) fun x1023 =>
 Option.bind (gO (!decide (i989 = 0)) (in64 (i989 - 1))) fun x1031 =>
 Option.bind (gO (!decide (i989 = 0)) (idx l802 x1031)) fun x1035 =>
 bif (decide (i989 = 0) || (!decide (x1035 = i799))) then (
 Option.bind (in64 (i991 + 1)) fun x1044 =>
 Option.bind (in64 (i989 + 1)) fun x1049 =>
 some (.inl (x1049, x1023, x1044, l992))) else (
 Option.bind (in64 (i989 + 1)) fun x1052 =>
 some (.inl (x1052, x1023, i991, l992))))) else (
 some (.inr (i990, i991, l992)))

def setout_plan_l4 (N : Nat) (a1 : Int) (i799 : Int) (l800 : List T_SetOut) (l802 : List Int) : Option ((Int × List T_SetOut × List Int) ⊕ (List T_SetOut)) :=
 bif decide (i799 < a1) then (
 Option.bind (iterN (fun s : Int × Int × Int × List Int => setout_plan_l5 N i799 l802 s.1 s.2.1 s.2.2.1 s.2.2.2) N (0, 0, 0, [])) fun r1000 =>
 bif decide (0 < r1000.1) then (
 Option.bind (app 24 l800 ([(T_SetOut.mk i799 r1000.1 r1000.2.1)])) fun l1065 =>
 Option.bind (in64 (i799 + 1)) fun x1071 =>
 some (.inl (x1071, l1065, r1000.2.2))) else (
 Option.bind (in64 (i799 + 1)) fun x1075 =>
 some (.inl (x1075, l800, r1000.2.2)))) else (
 some (.inr l800))

def setout_plan (N : Nat) (a0 : List Int) (a1 : Int) : Option (List T_SetOut) :=
 Option.bind (iterN (fun s : Int × List T_SetOut × List Int => setout_plan_l4 N a1 s.1 s.2.1 s.2.2) N (0, [], a0)) fun r811 =>
 some r811

def setout_Plan (N : Nat) (a0 : List Int) (a1 : Int) : Option (List T_SetOut × Int) :=
 bif (decide (a1 < 0) || decide (16 < a1)) then (
 some ([], 2)) else (
 Option.bind (setout_check N a0 a1) fun r7 =>
 bif (!decide (r7 = 0)) then (
 some ([], r7)) else (
 Option.bind (setout_plan N a0 a1) fun r16 =>
 some (r16, 0)))

def setout_Best_1 (N : Nat) (a0 : Int) (a1 : Int) (a2 : List (List Int)) : Option (Int) :=
 Option.bind (idx a2 0) fun x1 =>
 Option.bind (idx x1 a1) fun x10 =>
 Option.bind (idx x1 a0) fun x15 =>
 Option.bind (in64 (x10 - x15)) fun x18 =>
 some x18

def g_slices_insertionSortCmpFunc_int_l4 (N : Nat) (a1 : Int) (a3 : List (List Int)) (i578 : Int) (l579 : List Int) : Option ((Int × List Int) ⊕ (List Int)) :=
 Option.bind (gO (decide (a1 < i578)) (idx l579 i578)) fun x598 =>
 Option.bind (gO (decide (a1 < i578)) (in64 (i578 - 1))) fun x605 =>
 Option.bind (gO (decide (a1 < i578)) (idx l579 x605)) fun x609 =>
 Option.bind (gO (decide (a1 < i578)) (setout_Best_1 N x598 x609 a3)) fun r614 =>
 bif (decide (a1 < i578) && decide (r614 < 0)) then (
 Option.bind (in64 (i578 - 1)) fun x628 =>
 Option.bind (in64 (i578 - 1)) fun x631 =>
 Option.bind (idx l579 x631) fun x634 =>
 Option.bind (idx l579 i578) fun x637 =>
 Option.bind (idx l579 i578) fun x640 =>
 Option.bind (idx (List.set l579 (Int.toNat i578) x634) x628) fun x645 =>
 Option.bind (in64 (i578 - 1)) fun x650 =>
 some (.inl (x650, (List.set (List.set l579 (Int.toNat i578) x634) (Int.toNat x628) x637)))) else (
 some (.inr l579))

def g_slices_insertionSortCmpFunc_int_l3 (N : Nat) (a1 : Int) (a2 : Int) (a3 : List (List Int)) (i435 : Int) (l436 : List Int) : Option ((Int × List Int) ⊕ (List Int)) :=
 bif decide (i435 < a2) then (
 Option.bind (iterN (fun s : Int × List Int => g_slices_insertionSortCmpFunc_int_l4 N a1 a3 s.1 s.2) N (i435, l436)) fun r586 =>
 Option.bind (in64 (i435 + 1)) fun x658 =>
 some (.inl (x658, r586))) else (
 some (.inr l436))

def g_slices_insertionSortCmpFunc_int (N : Nat) (a0 : List Int) (a1 : Int) (a2 : Int) (a3 : List (List Int)) : Option (List Int) :=
 Option.bind (in64 (a1 + 1)) fun x1 =>
 Option.bind (iterN (fun s : Int × List Int => g_slices_insertionSortCmpFunc_int_l3 N a1 a2 a3 s.1 s.2) N (x1, a0)) fun r443 =>
 some r443

def g_slices_swapRangeCmpFunc_int_l1 (N : Nat) (a1 : Int) (a2 : Int) (a3 : Int) (i78 : Int) (l79 : List Int) : Option ((Int × List Int) ⊕ (List Int)) :=
 bif decide (i78 < a3) then (
 Option.bind (in64 (a1 + i78)) fun x96 =>
 Option.bind (in64 (a2 + i78)) fun x99 =>
 Option.bind (in64 (a2 + i78)) fun x102 =>
 Option.bind (idx l79 x102) fun x105 =>
 Option.bind (in64 (a1 + i78)) fun x108 =>
 Option.bind (idx l79 x108) fun x111 =>
 Option.bind (idx l79 x96) fun x114 =>
 Option.bind (idx (List.set l79 (Int.toNat x96) x105) x99) fun x119 =>
 Option.bind (in64 (i78 + 1)) fun x124 =>
 some (.inl (x124, (List.set (List.set l79 (Int.toNat x96) x105) (Int.toNat x99) x111)))) else (
 some (.inr l79))

def g_slices_swapRangeCmpFunc_int (N : Nat) (a0 : List Int) (a1 : Int) (a2 : Int) (a3 : Int) (a4 : List (List Int)) : Option (List Int) :=
 Option.bind (iterN (fun s : Int × List Int => g_slices_swapRangeCmpFunc_int_l1 N a1 a2 a3 s.1 s.2) N (0, a0)) fun r86 =>
 some r86

def g_slices_rotateCmpFunc_int_l1 (N : Nat) (a2 : Int) (a4 : List (List Int)) (i80 : Int) (i81 : Int) (l82 : List Int) : Option ((Int × Int × List Int) ⊕ (Int × List Int)) :=
 bif (!decide (i80 = i81)) then (
 bif decide (i81 < i80) then (
 Option.bind (in64 (a2 - i80)) fun x97 =>
 Option.bind (g_slices_swapRangeCmpFunc_int N l82 x97 a2 i81 a4) fun r100 =>
 Option.bind (in64 (i80 - i81)) fun x106 =>
 some (.inl (x106, i81, r100))) else (
 Option.bind (in64 (a2 - i80)) fun x109 =>
 Option.bind (in64 (a2 + i81)) fun x112 =>
 Option.bind (in64 (x112 - i80)) fun x115 =>
 Option.bind (g_slices_swapRangeCmpFunc_int N l82 x109 x115 i80 a4) fun r118 =>
 Option.bind (in64 (i81 - i80)) fun x124 =>
 some (.inl (i80, x124, r118)))) else (
 some (.inr (i80, l82)))

def g_slices_rotateCmpFunc_int (N : Nat) (a0 : List Int) (a1 : Int) (a2 : Int) (a3 : Int) (a4 : List (List Int)) : Option (List Int) :=
 Option.bind (in64 (a2 - a1)) fun x1 =>
 Option.bind (in64 (a3 - a2)) fun x4 =>
 Option.bind (iterN (fun s : Int × Int × List Int => g_slices_rotateCmpFunc_int_l1 N a2 a4 s.1 s.2.1 s.2.2) N (x1, x4, a0)) fun r89 =>
 Option.bind (in64 (a2 - r89.1)) fun x132 =>
 Option.bind (g_slices_swapRangeCmpFunc_int N r89.2 x132 a2 r89.1 a4) fun r135 =>
 some r135

def g_slices_symMergeCmpFunc_int_l1 (N : Nat) (a0 : List Int) (a1 : Int) (a4 : List (List Int)) (i73 : Int) (i74 : Int) : Option ((Int × Int) ⊕ (Int)) :=
 bif decide (i73 < i74) then (
 Option.bind (in64 (i73 + i74)) fun x87 =>
 Option.bind (shr_u64 (x87 % 18446744073709551616) 1) fun x90 =>
 Option.bind (in64 x90) fun x93 =>
 Option.bind (idx a0 x93) fun x100 =>
 Option.bind (idx a0 a1) fun x103 =>
 Option.bind (setout_Best_1 N x100 x103 a4) fun r106 =>
 bif decide (r106 < 0) then (
 Option.bind (in64 (x93 + 1)) fun x114 =>
 some (.inl (x114, i74))) else (
 some (.inl (i73, x93)))) else (
 some (.inr i73))

def g_slices_symMergeCmpFunc_int_l2 (N : Nat) (r81 : Int) (i193 : Int) (l194 : List Int) : Option ((Int × List Int) ⊕ (List Int)) :=
 Option.bind (in64 (r81 - 1)) fun x205 =>
 bif decide (i193 < x205) then (
 Option.bind (in64 (i193 + 1)) fun x214 =>
 Option.bind (in64 (i193 + 1)) fun x217 =>
 Option.bind (idx l194 x217) fun x220 =>
 Option.bind (idx l194 i193) fun x223 =>
 Option.bind (idx l194 i193) fun x226 =>
 Option.bind (idx (List.set l194 (Int.toNat i193) x220) x214) fun x231 =>
 Option.bind (in64 (i193 + 1)) fun x236 =>
 some (.inl (x236, (List.set (List.set l194 (Int.toNat i193) x220) (Int.toNat x214) x223)))) else (
 some (.inr l194))

def g_slices_symMergeCmpFunc_int_l3 (N : Nat) (a0 : List Int) (a2 : Int) (a4 : List (List Int)) (i316 : Int) (i317 : Int) : Option ((Int × Int) ⊕ (Int)) :=
 bif decide (i316 < i317) then (
 Option.bind (in64 (i316 + i317)) fun x330 =>
 Option.bind (shr_u64 (x330 % 18446744073709551616) 1) fun x333 =>
 Option.bind (in64 x333) fun x336 =>
 Option.bind (idx a0 a2) fun x343 =>
 Option.bind (idx a0 x336) fun x346 =>
 Option.bind (setout_Best_1 N x343 x346 a4) fun r349 =>
 bif (!decide (r349 < 0)) then (
 Option.bind (in64 (x336 + 1)) fun x357 =>
 some (.inl (x357, i317))) else (
 some (.inl (i316, x336)))) else (
 some (.inr i316))

def g_slices_symMergeCmpFunc_int_l4 (N : Nat) (r324 : Int) (i430 : Int) (l431 : List Int) : Option ((Int × List Int) ⊕ (List Int)) :=
 bif decide (r324 < i430) then (
 Option.bind (in64 (i430 - 1)) fun x448 =>
 Option.bind (in64 (i430 - 1)) fun x451 =>
 Option.bind (idx l431 x451) fun x454 =>
 Option.bind (idx l431 i430) fun x457 =>
 Option.bind (idx l431 i430) fun x460 =>
 Option.bind (idx (List.set l431 (Int.toNat i430) x454) x448) fun x465 =>
 Option.bind (in64 (i430 - 1)) fun x470 =>
 some (.inl (x470, (List.set (List.set l431 (Int.toNat i430) x454) (Int.toNat x448) x457)))) else (
 some (.inr l431))

def g_slices_symMergeCmpFunc_int_l5 (N : Nat) (a0 : List Int) (a4 : List (List Int)) (x510 : Int) (i586 : Int) (i587 : Int) : Option ((Int × Int) ⊕ (Int)) :=
 bif decide (i586 < i587) then (
 Option.bind (in64 (i586 + i587)) fun x600 =>
 Option.bind (shr_u64 (x600 % 18446744073709551616) 1) fun x603 =>
 Option.bind (in64 x603) fun x606 =>
 Option.bind (in64 (x510 - x606)) fun x613 =>
 Option.bind (idx a0 x613) fun x616 =>
 Option.bind (idx a0 x606) fun x619 =>
 Option.bind (setout_Best_1 N x616 x619 a4) fun r622 =>
 bif (!decide (r622 < 0)) then (
 Option.bind (in64 (x606 + 1)) fun x630 =>
 some (.inl (x630, i587))) else (
 some (.inl (i586, x606)))) else (
 some (.inr i586))

def g_slices_symMergeCmpFunc_int_r (N : Nat) : Nat → (List Int) → Int → Int → Int → (List (List Int)) → Option (List Int)
 | 0, _, _, _, _, _ => none
 | M + 1, a0, a1, a2, a3, a4 =>
 Option.bind (in64 (a2 - a1)) fun x1 =>
 bif decide (x1 = 1) then (
 Option.bind (iterN (fun s : Int × Int => g_slices_symMergeCmpFunc_int_l1 N a0 a1 a4 s.1 s.2) N (a2, a3)) fun r81 =>
 Option.bind (iterN (fun s : Int × List Int => g_slices_symMergeCmpFunc_int_l2 N r81 s.1 s.2) N (a1, a0)) fun r201 =>
 some r201) else (
 Option.bind (in64 (a3 - a2)) fun x244 =>
 bif decide (x244 = 1) then (
 Option.bind (iterN (fun s : Int × Int => g_slices_symMergeCmpFunc_int_l3 N a0 a2 a4 s.1 s.2) N (a1, a2)) fun r324 =>
 Option.bind (iterN (fun s : Int × List Int => g_slices_symMergeCmpFunc_int_l4 N r324 s.1 s.2) N (a2, a0)) fun r438 =>
 some r438) else (
 Option.bind (in64 (a1 + a3)) fun x478 =>
 Option.bind (shr_u64 (x478 % 18446744073709551616) 1) fun x481 =>
 Option.bind (in64 x481) fun x484 =>
 Option.bind (in64 (x484 + a2)) fun x487 =>
 Option.bind (
 bif decide (x484 < a2) then (
 Option.bind (in64 (x487 - a3)) fun x502 =>
 some (x502, x484)) else (
 some (a1, a2))) fun j497 =>
 Option.bind (in64 (x487 - 1)) fun x510 =>
 Option.bind (iterN (fun s : Int × Int => g_slices_symMergeCmpFunc_int_l5 N a0 a4 x510 s.1 s.2) N (j497.1, j497.2)) fun r594 =>
 Option.bind (in64 (x487 - r594)) fun x638 =>
 Option.bind (
 bif (decide (r594 < a2) && decide (a2 < x638)) then (
 Option.bind (g_slices_rotateCmpFunc_int N a0 r594 a2 x638 a4) fun r659 =>
 some r659) else (
 some a0)) fun j654 =>
 Option.bind (
 bif (decide (a1 < r594) && decide (r594 < x484)) then (
 Option.bind (g_slices_symMergeCmpFunc_int_r N M j654 a1 r594 x484 a4) fun r688 =>
 some r688) else (
 some j654)) fun j683 =>
 bif (decide (x484 < x638) && decide (x638 < a3)) then (
 Option.bind (g_slices_symMergeCmpFunc_int_r N M j683 x484 x638 a3 a4) fun r705 =>
 some r705) else (
 some j683)))

def g_slices_symMergeCmpFunc_int (N : Nat) (a0 : List Int) (a1 : Int) (a2 : Int) (a3 : Int) (a4 : List (List Int)) : Option (List Int) := g_slices_symMergeCmpFunc_int_r N N a0 a1 a2 a3 a4

def g_slices_stableCmpFunc_int_l1 (N : Nat) (a1 : Int) (a2 : List (List Int)) (i28 : Int) (i29 : Int) (l30 : List Int) : Option ((Int × Int × List Int) ⊕ (Int × List Int)) :=
 bif decide (i29 ≤ a1) then (
 Option.bind (g_slices_insertionSortCmpFunc_int N l30 i28 i29 a2) fun r43 =>
 Option.bind (in64 (i29 + 20)) fun x49 =>
 some (.inl (i29, x49, r43))) else (
 some (.inr (i28, l30)))

def g_slices_stableCmpFunc_int_l5 (N : Nat) (a1 : Int) (a2 : List (List Int)) (i258 : Int) (i314 : Int) (i315 : Int) (l316 : List Int) : Option ((Int × Int × List Int) ⊕ (Int × List Int)) :=
 bif decide (i315 ≤ a1) then (
 Option.bind (in64 (i314 + i258)) fun x329 =>
 Option.bind (g_slices_symMergeCmpFunc_int N l316 i314 x329 i315 a2) fun r332 =>
 Option.bind (in64 (2 * i258)) fun x338 =>
 Option.bind (in64 (i315 + x338)) fun x341 =>
 some (.inl (i315, x341, r332))) else (
 some (.inr (i314, l316)))

def g_slices_stableCmpFunc_int_l4 (N : Nat) (a1 : Int) (a2 : List (List Int)) (i258 : Int) (l259 : List Int) : Option ((Int × List Int) ⊕ (List Int)) :=
 bif decide (i258 < a1) then (
 Option.bind (in64 (2 * i258)) fun x272 =>
 Option.bind (iterN (fun s : Int × Int × List Int => g_slices_stableCmpFunc_int_l5 N a1 a2 i258 s.1 s.2.1 s.2.2) N (0, x272, l259)) fun r323 =>
 Option.bind (in64 (r323.1 + i258)) fun x349 =>
 bif decide (x349 < a1) then (
 Option.bind (g_slices_symMergeCmpFunc_int N r323.2 r323.1 x349 a1 a2) fun r354 =>
 Option.bind (in64 (i258 * 2)) fun x360 =>
 some (.inl (x360, r354))) else (
 Option.bind (in64 (i258 * 2)) fun x363 =>
 some (.inl (x363, r323.2)))) else (
 some (.inr l259))

def g_slices_stableCmpFunc_int (N : Nat) (a0 : List Int) (a1 : Int) (a2 : List (List Int)) : Option (List Int) :=
 Option.bind (iterN (fun s : Int × Int × List Int => g_slices_stableCmpFunc_int_l1 N a1 a2 s.1 s.2.1 s.2.2) N (0, 20, a0)) fun r37 =>
 Option.bind (g_slices_insertionSortCmpFunc_int N r37.2 r37.1 a1 a2) fun r57 =>
 Option.bind (iterN (fun s : Int × List Int => g_slices_stableCmpFunc_int_l4 N a1 a2 s.1 s.2) N (20, r57)) fun r266 =>
 some r266

def g_slices_SortStableFunc_int_int (N : Nat) (a0 : List Int) (a1 : List (List Int)) : Option (List Int) :=
 Option.bind (g_slices_stableCmpFunc_int N a0 (List.length a0 : Int) a1) fun r1 =>
 some r1

def setout_Best_l1 (N : Nat) (a0 : List Int) (i64 : Int) (l65 : List Int) : Option ((Int × List Int) ⊕ (List Int)) :=
 bif decide (i64 < (List.length a0 : Int)) then (
 Option.bind (app 8 l65 ([i64])) fun l82 =>
 Option.bind (in64 (i64 + 1)) fun x88 =>
 some (.inl (x88, l82))) else (
 some (.inr l65))

def setout_Best (N : Nat) (a0 : List Int) : Option (List Int × Int) :=
 Option.bind (setout_check N a0 16) fun r5 =>
 bif (!decide (r5 = 0)) then (
 some ([], r5)) else (
 Option.bind (iterN (fun s : Int × List Int => setout_Best_l1 N a0 s.1 s.2) N (0, [])) fun r73 =>
 Option.bind (g_slices_SortStableFunc_int_int N r73 [a0]) fun r96 =>
 some (r96, 0))

def yardgen_SameSetOuts_l1 (N : Nat) (a0 : List T_SetOut) (a1 : List T_SetOut) (i38 : Int) : Option ((Int) ⊕ (Bool ⊕ Unit)) :=
 bif decide (i38 < (List.length a0 : Int)) then (
 Option.bind (idx a0 i38) fun x57 =>
 Option.bind (idx a1 i38) fun x60 =>
 bif (!decide (x57 = x60)) then (
 some (.inr (Sum.inl false))) else (
 Option.bind (in64 (i38 + 1)) fun x65 =>
 some (.inl x65))) else (
 some (.inr (Sum.inr ())))

def yardgen_SameSetOuts (N : Nat) (a0 : List T_SetOut) (a1 : List T_SetOut) : Option (Bool) :=
 bif (!decide ((List.length a0 : Int) = (List.length a1 : Int))) then (
 some false) else (
 Option.bind (iterN (fun s : Int => yardgen_SameSetOuts_l1 N a0 a1 s) N 0) fun r45 =>
 match r45 with
 | .inl p72 => (
 some p72)
 | .inr p75 => (
 some true))

def humpgen_Ints_l1 (N : Nat) (a0 : List Int) (a1 : List Int) (i38 : Int) : Option ((Int) ⊕ (Bool ⊕ Unit)) :=
 bif decide (i38 < (List.length a0 : Int)) then (
 Option.bind (idx a0 i38) fun x57 =>
 Option.bind (idx a1 i38) fun x60 =>
 bif (!decide (x57 = x60)) then (
 some (.inr (Sum.inl false))) else (
 Option.bind (in64 (i38 + 1)) fun x65 =>
 some (.inl x65))) else (
 some (.inr (Sum.inr ())))

def humpgen_Ints (N : Nat) (a0 : List Int) (a1 : List Int) : Option (Bool) :=
 bif (!decide ((List.length a0 : Int) = (List.length a1 : Int))) then (
 some false) else (
 Option.bind (iterN (fun s : Int => humpgen_Ints_l1 N a0 a1 s) N 0) fun r45 =>
 match r45 with
 | .inl p72 => (
 some p72)
 | .inr p75 => (
 some true))

def law34_sane (N : Nat) : Option (Bool) :=
 Option.bind (setout_Plan N ([1, 0, 1, 0]) 2) fun r4 =>
 Option.bind (setout_Best N ([1, 0, 1, 0])) fun r14 =>
 bif decide (r4.2 = 0) then (
 Option.bind (yardgen_SameSetOuts N r4.1 ([(T_SetOut.mk 0 2 2), (T_SetOut.mk 1 2 1)])) fun r32 =>
 bif ((decide (r4.2 = 0) && r32) && decide (r14.2 = 0)) then (
 Option.bind (humpgen_Ints N r14.1 ([0, 2, 1, 3])) fun r51 =>
 some (((decide (r4.2 = 0) && r32) && decide (r14.2 = 0)) && r51)) else (
 some (((decide (r4.2 = 0) && r32) && decide (r14.2 = 0)) && false))) else (
 some (((decide (r4.2 = 0) && false) && false) && false))

def law34_SetoutTails_l6 (N : Nat) (r8 : Int × List Int) (r15 : List T_SetOut × Int) (i437 : Int) (i507 : Int) (i508 : Int) (i509 : Int) : Option ((Int × Int × Int) ⊕ (Int × Int)) :=
 bif decide (i509 < (List.length r8.2 : Int)) then (
 Option.bind (idx r8.2 i509) fun x526 =>
 Option.bind (idx r15.1 i437) fun x529 =>
 bif decide (x526 = x529.Stop) then (
 bif decide (i507 < 0) then (
 Option.bind (in64 (i509 + 1)) fun x536 =>
 some (.inl (i509, i509, x536))) else (
 Option.bind (in64 (i509 + 1)) fun x539 =>
 some (.inl (i507, i509, x539)))) else (
 Option.bind (in64 (i509 + 1)) fun x542 =>
 some (.inl (i507, i508, x542)))) else (
 some (.inr (i507, i508)))

def law34_SetoutTails_l7 (N : Nat) (r8 : Int × List Int) (r15 : List T_SetOut × Int) (i437 : Int) (r516 : Int × Int) (b605 : Bool) (i606 : Int) : Option ((Bool × Int) ⊕ (Bool)) :=
 bif decide (i606 < r516.2) then (
 Option.bind (gO (!b605) (idx r8.2 i606)) fun x626 =>
 Option.bind (gO (!b605) (idx r15.1 i437)) fun x633 =>
 Option.bind (in64 (i606 + 1)) fun x640 =>
 some (.inl ((b605 || decide (x633.Stop < x626)), x640))) else (
 some (.inr b605))

def law34_SetoutTails_l5 (N : Nat) (r8 : Int × List Int) (r15 : List T_SetOut × Int) (i437 : Int) : Option ((Int) ⊕ (Bool ⊕ Unit)) :=
 bif decide (i437 < (List.length r15.1 : Int)) then (
 Option.bind (iterN (fun s : Int × Int × Int => law34_SetoutTails_l6 N r8 r15 i437 s.1 s.2.1 s.2.2) N ((-1), (-1), 0)) fun r516 =>
 Option.bind (iterN (fun s : Bool × Int => law34_SetoutTails_l7 N r8 r15 i437 r516 s.1 s.2) N (false, (max r516.1 0))) fun r613 =>
 Option.bind (idx r15.1 i437) fun x648 =>
 bif (decide (x648.Groups = 1) == r613) then (
 some (.inr (Sum.inl false))) else (
 Option.bind (in64 (i437 + 1)) fun x653 =>
 some (.inl x653))) else (
 some (.inr (Sum.inr ())))

def law34_SetoutTails (N : Nat) (a0 : List Int) : Option (Bool) :=
 Option.bind (humpgen_New N a0) fun r1 =>
 Option.bind (law34_train N a0 r1 20) fun r8 =>
 Option.bind (setout_Plan N r8.2 16) fun r15 =>
 bif (!decide (r15.2 = 0)) then (
 some false) else (
 Option.bind (iterN (fun s : Int => law34_SetoutTails_l5 N r8 r15 s) N 0) fun r444 =>
 match r444 with
 | .inl p660 => (
 some p660)
 | .inr p663 => (
 Option.bind (law34_sane N) fun r666 =>
 some r666))

def Maker_Pick (N : Nat) (a0_l : List Int) (a0_n : Int) (a1 : List Int) : Option (Int × Int) :=
 Option.bind (Maker_Next N a0_l a0_n (List.length a1 : Int)) fun r10 =>
 Option.bind (idx a1 r10.2) fun x16 =>
 some (r10.1, x16)

def r34_inside_l1 (N : Nat) (a0 : List Int) (a1 : Int) (i42 : Int) : Option ((Int) ⊕ (Bool ⊕ Unit)) :=
 bif decide (i42 < (List.length a0 : Int)) then (
 Option.bind (idx a0 i42) fun x57 =>
 Option.bind (gO (!decide (x57 < 0)) (idx a0 i42)) fun x63 =>
 bif (decide (x57 < 0) || decide (a1 ≤ x63)) then (
 some (.inr (Sum.inl false))) else (
 Option.bind (in64 (i42 + 1)) fun x72 =>
 some (.inl x72))) else (
 some (.inr (Sum.inr ())))

def r34_inside (N : Nat) (a0 : List Int) (a1 : Int) : Option (Bool) :=
 Option.bind (iterN (fun s : Int => r34_inside_l1 N a0 a1 s) N 0) fun r49 =>
 match r49 with
 | .inl p79 => (
 some p79)
 | .inr p82 => (
 some true)

def r34_At_l1 (N : Nat) (a0 : List Int) (a1 : Int) (i71 : Int) (i72 : Int) (b73 : Bool) (i74 : Int) : Option ((Int × Int × Bool × Int) ⊕ (Int × Int)) :=
 bif decide (i74 < (List.length a0 : Int)) then (
 Option.bind (idx a0 i74) fun x87 =>
 bif decide (x87 = a1) then (
 Option.bind (in64 (i71 + 1)) fun x92 =>
 bif (!b73) then (
 Option.bind (in64 (i72 + 1)) fun x97 =>
 Option.bind (in64 (i74 + 1)) fun x100 =>
 some (.inl (x92, x97, true, x100))) else (
 Option.bind (in64 (i74 + 1)) fun x103 =>
 some (.inl (x92, i72, true, x103)))) else (
 Option.bind (idx a0 i74) fun x106 =>
 bif decide (a1 < x106) then (
 Option.bind (in64 (i74 + 1)) fun x111 =>
 some (.inl (i71, i72, false, x111))) else (
 Option.bind (in64 (i74 + 1)) fun x114 =>
 some (.inl (i71, i72, b73, x114))))) else (
 some (.inr (i71, i72)))

def r34_At (N : Nat) (a0 : List Int) (a1 : Int) : Option (Int × Int) :=
 Option.bind (iterN (fun s : Int × Int × Bool × Int => r34_At_l1 N a0 a1 s.1 s.2.1 s.2.2.1 s.2.2.2) N (0, 0, false, 0)) fun r81 =>
 some (r81.1, r81.2)

def r34_Plan_l1 (N : Nat) (a0 : List Int) (a1 : Int) (i102 : Int) (l103 : List T_SetOut) : Option ((Int × List T_SetOut) ⊕ (List T_SetOut)) :=
 bif decide (i102 < a1) then (
 Option.bind (r34_At N a0 i102) fun r117 =>
 bif decide (0 < r117.1) then (
 Option.bind (app 24 l103 ([(T_SetOut.mk i102 r117.1 r117.2)])) fun l128 =>
 Option.bind (in64 (i102 + 1)) fun x134 =>
 some (.inl (x134, l128))) else (
 Option.bind (in64 (i102 + 1)) fun x137 =>
 some (.inl (x137, l103)))) else (
 some (.inr l103))

def r34_Plan (N : Nat) (a0 : List Int) (a1 : Int) : Option (List T_SetOut × Int) :=
 bif (decide (a1 < 0) || decide (16 < a1)) then (
 some ([], 2)) else (
 bif decide (96 < (List.length a0 : Int)) then (
 some ([], 3)) else (
 Option.bind (r34_inside N a0 a1) fun r10 =>
 bif (!r10) then (
 some ([], 2)) else (
 Option.bind (iterN (fun s : Int × List T_SetOut => r34_Plan_l1 N a0 a1 s.1 s.2) N (0, [])) fun r111 =>
 some (r111, 0))))

def setout_Groups_l1 (N : Nat) (r9 : List T_SetOut) (i51 : Int) (i52 : Int) : Option ((Int × Int) ⊕ (Int)) :=
 bif decide (i52 < (List.length r9 : Int)) then (
 Option.bind (idx r9 i52) fun x65 =>
 Option.bind (in64 (i51 + x65.Groups)) fun x73 =>
 Option.bind (in64 (i52 + 1)) fun x76 =>
 some (.inl (x73, x76))) else (
 some (.inr i51))

def setout_Groups (N : Nat) (a0 : List Int) : Option (Int × Int) :=
 Option.bind (setout_check N a0 16) fun r1 =>
 bif (!decide (r1 = 0)) then (
 some (0, r1)) else (
 Option.bind (setout_plan N a0 16) fun r9 =>
 Option.bind (iterN (fun s : Int × Int => setout_Groups_l1 N r9 s.1 s.2) N (0, 0)) fun r59 =>
 some (r59, 0))

def r34_check (N : Nat) (a0 : List Int) : Option (Int) :=
 bif decide (96 < (List.length a0 : Int)) then (
 some 3) else (
 Option.bind (r34_inside N a0 16) fun r3 =>
 bif (!r3) then (
 some 2) else (
 some 0))

def r34_Groups_l1 (N : Nat) (a0 : List Int) (i40 : Int) (i41 : Int) : Option ((Int × Int) ⊕ (Int)) :=
 bif decide (i41 < 16) then (
 Option.bind (r34_At N a0 i41) fun r54 =>
 Option.bind (in64 (i40 + r54.2)) fun x60 =>
 Option.bind (in64 (i41 + 1)) fun x63 =>
 some (.inl (x60, x63))) else (
 some (.inr i40))

def r34_Groups (N : Nat) (a0 : List Int) : Option (Int × Int) :=
 Option.bind (r34_check N a0) fun r1 =>
 bif (!decide (r1 = 0)) then (
 some (0, r1)) else (
 Option.bind (iterN (fun s : Int × Int => r34_Groups_l1 N a0 s.1 s.2) N (0, 0)) fun r48 =>
 some (r48, 0))

def r34_Best_l5 (N : Nat) (a0 : List Int) (i324 : Int) (i388 : Int) (l389 : List Int) : Option ((Int × List Int) ⊕ (List Int)) :=
 bif decide (i388 < (List.length a0 : Int)) then (
 Option.bind (idx a0 i388) fun x403 =>
 bif decide (x403 = i324) then (
 Option.bind (app 8 l389 ([i388])) fun l411 =>
 Option.bind (in64 (i388 + 1)) fun x417 =>
 some (.inl (x417, l411))) else (
 Option.bind (in64 (i388 + 1)) fun x420 =>
 some (.inl (x420, l389)))) else (
 some (.inr l389))

def r34_Best_l4 (N : Nat) (a0 : List Int) (i324 : Int) (l325 : List Int) : Option ((Int × List Int) ⊕ (List Int)) :=
 bif decide (0 ≤ i324) then (
 Option.bind (iterN (fun s : Int × List Int => r34_Best_l5 N a0 i324 s.1 s.2) N (0, l325)) fun r397 =>
 Option.bind (in64 (i324 - 1)) fun x428 =>
 some (.inl (x428, r397))) else (
 some (.inr l325))

def r34_Best (N : Nat) (a0 : List Int) : Option (List Int × Int) :=
 Option.bind (r34_check N a0) fun r1 =>
 bif (!decide (r1 = 0)) then (
 some ([], r1)) else (
 Option.bind (iterN (fun s : Int × List Int => r34_Best_l4 N a0 s.1 s.2) N (15, [])) fun r333 =>
 some (r333, 0))

def law34_exact (N : Nat) (a0 : List Int) (a1 : Int) : Option (Bool) :=
 Option.bind (setout_Plan N a0 a1) fun r1 =>
 Option.bind (r34_Plan N a0 a1) fun r8 =>
 Option.bind (setout_Groups N a0) fun r15 =>
 Option.bind (r34_Groups N a0) fun r21 =>
 Option.bind (setout_Best N a0) fun r27 =>
 Option.bind (r34_Best N a0) fun r34 =>
 Option.bind (yardgen_SameSetOuts N r1.1 r8.1) fun r41 =>
 Option.bind (gO (((r41 && decide (r1.2 = r8.2)) && decide (r15.1 = r21.1)) && decide (r15.2 = r21.2)) (humpgen_Ints N r27.1 r34.1)) fun r62 =>
 some (((((r41 && decide (r1.2 = r8.2)) && decide (r15.1 = r21.1)) && decide (r15.2 = r21.2)) && r62) && decide (r27.2 = r34.2))

def law34_SetoutExact_l1 (N : Nat) (a0 : List Int) (a2 : Int) (i192 : Int) (i193 : Int) : Option ((Int × Int) ⊕ (Bool ⊕ Unit)) :=
 bif decide (i192 < 4) then (
 Option.bind (law34_train N a0 i193 20) fun r208 =>
 Option.bind (
 bif decide (i192 = 3) then (
 Option.bind (Maker_Pick N a0 r208.1 ([(-1), 15, 16])) fun r246 =>
 Option.bind (app 8 r208.2 ([r246.2])) fun l255 =>
 some (r246.1, l255)) else (
 some (r208.1, r208.2))) fun j238 =>
 Option.bind (Maker_Pick N a0 j238.1 ([0, 1, 4, 5, 16, 17, (-1)])) fun r269 =>
 Option.bind (law34_exact N j238.2 r269.2) fun r275 =>
 Option.bind (gO (!(!r275)) (law34_exact N j238.2 a2)) fun r284 =>
 bif ((!r275) || (!r284)) then (
 some (.inr (Sum.inl false))) else (
 Option.bind (in64 (i192 + 1)) fun x294 =>
 some (.inl (x294, r269.1)))) else (
 some (.inr (Sum.inr ())))

def law34_SetoutExact (N : Nat) (a0 : List Int) (a1 : List Int) (a2 : Int) : Option (Bool) :=
 Option.bind (humpgen_New N a0) fun r1 =>
 Option.bind (iterN (fun s : Int × Int => law34_SetoutExact_l1 N a0 a2 s.1 s.2) N (0, r1)) fun r200 =>
 match r200 with
 | .inl p301 => (
 some p301)
 | .inr p304 => (
 Option.bind (gO (!decide (300 < (List.length a1 : Int))) (law34_exact N a1 a2)) fun r310 =>
 Option.bind (gO ((!decide (300 < (List.length a1 : Int))) && r310) (law34_sane N)) fun r318 =>
 some (decide (300 < (List.length a1 : Int)) || (r310 && r318)))

def law34_SetoutAdds_l1 (N : Nat) (r15 : List T_SetOut × Int) (i184 : Int) (i185 : Int) (i186 : Int) : Option ((Int × Int × Int) ⊕ (Bool ⊕ (Int × Int))) :=
 bif decide (i186 < (List.length r15.1 : Int)) then (
 Option.bind (gO (decide (0 < i186)) (idx r15.1 i186)) fun x208 =>
 Option.bind (gO (decide (0 < i186)) (in64 (i186 - 1))) fun x216 =>
 Option.bind (gO (decide (0 < i186)) (idx r15.1 x216)) fun x220 =>
 Option.bind (gO (!(decide (0 < i186) && decide (x208.Stop ≤ x220.Stop))) (idx r15.1 i186)) fun x230 =>
 Option.bind (gO (!((decide (0 < i186) && decide (x208.Stop ≤ x220.Stop)) || decide (x230.Groups < 1))) (idx r15.1 i186)) fun x240 =>
 Option.bind (gO (!((decide (0 < i186) && decide (x208.Stop ≤ x220.Stop)) || decide (x230.Groups < 1))) (idx r15.1 i186)) fun x248 =>
 bif (((decide (0 < i186) && decide (x208.Stop ≤ x220.Stop)) || decide (x230.Groups < 1)) || decide (x248.Wagons < x240.Groups)) then (
 some (.inr (Sum.inl false))) else (
 Option.bind (idx r15.1 i186) fun x257 =>
 Option.bind (in64 (i185 + x257.Wagons)) fun x260 =>
 Option.bind (idx r15.1 i186) fun x263 =>
 Option.bind (in64 (i184 - x263.Groups)) fun x266 =>
 Option.bind (in64 (i186 + 1)) fun x269 =>
 some (.inl (x266, x260, x269)))) else (
 some (.inr (Sum.inr (i184, i185))))

def law34_SetoutAdds (N : Nat) (a0 : List Int) : Option (Bool) :=
 Option.bind (humpgen_New N a0) fun r1 =>
 Option.bind (law34_train N a0 r1 24) fun r8 =>
 Option.bind (setout_Plan N r8.2 16) fun r15 =>
 Option.bind (setout_Groups N r8.2) fun r22 =>
 bif ((!decide (r15.2 = 0)) || (!decide (r22.2 = 0))) then (
 some false) else (
 Option.bind (iterN (fun s : Int × Int × Int => law34_SetoutAdds_l1 N r15 s.1 s.2.1 s.2.2) N (r22.1, 0, 0)) fun r193 =>
 match r193 with
 | .inl p276 => (
 some p276)
 | .inr p279 => (
 Option.bind (gO (decide (p279.2 = (List.length r8.2 : Int)) && decide (p279.1 = 0)) (law34_sane N)) fun r286 =>
 some ((decide (p279.2 = (List.length r8.2 : Int)) && decide (p279.1 = 0)) && r286)))

def law34_SetoutBests_l1 (N : Nat) (r8 : Int × List Int) (r15 : List Int × Int) (i409 : Int) (l410 : List Bool) (l411 : List Int) : Option ((Int × List Bool × List Int) ⊕ (Bool ⊕ (List Int))) :=
 bif decide (i409 < (List.length r15.1 : Int)) then (
 Option.bind (idx r15.1 i409) fun x431 =>
 Option.bind (gO (!decide (x431 < 0)) (idx r15.1 i409)) fun x437 =>
 Option.bind (gO (!(decide (x431 < 0) || decide ((List.length r8.2 : Int) ≤ x437))) (idx r15.1 i409)) fun x449 =>
 Option.bind (gO (!(decide (x431 < 0) || decide ((List.length r8.2 : Int) ≤ x437))) (idx l410 x449)) fun x454 =>
 Option.bind (gO ((!((decide (x431 < 0) || decide ((List.length r8.2 : Int) ≤ x437)) || x454)) && decide (0 < i409)) (idx r15.1 i409)) fun x466 =>
 Option.bind (gO ((!((decide (x431 < 0) || decide ((List.length r8.2 : Int) ≤ x437)) || x454)) && decide (0 < i409)) (idx r8.2 x466)) fun x471 =>
 Option.bind (gO ((!((decide (x431 < 0) || decide ((List.length r8.2 : Int) ≤ x437)) || x454)) && decide (0 < i409)) (in64 (i409 - 1))) fun x479 =>
 Option.bind (gO ((!((decide (x431 < 0) || decide ((List.length r8.2 : Int) ≤ x437)) || x454)) && decide (0 < i409)) (idx r15.1 x479)) fun x483 =>
 Option.bind (gO ((!((decide (x431 < 0) || decide ((List.length r8.2 : Int) ≤ x437)) || x454)) && decide (0 < i409)) (idx r8.2 x483)) fun x488 =>
 Option.bind (gO ((!((decide (x431 < 0) || decide ((List.length r8.2 : Int) ≤ x437)) || x454)) && (decide (0 < i409) && decide (x471 = x488))) (idx r15.1 i409)) fun x499 =>
 Option.bind (gO ((!((decide (x431 < 0) || decide ((List.length r8.2 : Int) ≤ x437)) || x454)) && (decide (0 < i409) && decide (x471 = x488))) (in64 (i409 - 1))) fun x506 =>
 Option.bind (gO ((!((decide (x431 < 0) || decide ((List.length r8.2 : Int) ≤ x437)) || x454)) && (decide (0 < i409) && decide (x471 = x488))) (idx r15.1 x506)) fun x510 =>
 bif (((decide (x431 < 0) || decide ((List.length r8.2 : Int) ≤ x437)) || x454) || ((decide (0 < i409) && decide (x471 = x488)) && decide (x499 < x510))) then (
 some (.inr (Sum.inl false))) else (
 Option.bind (idx r15.1 i409) fun x520 =>
 Option.bind (idx l410 x520) fun x523 =>
 Option.bind (idx r15.1 i409) fun x528 =>
 Option.bind (idx r8.2 x528) fun x531 =>
 Option.bind (app 8 l411 ([x531])) fun l537 =>
 Option.bind (in64 (i409 + 1)) fun x543 =>
 some (.inl (x543, (List.set l410 (Int.toNat x520) true), l537)))) else (
 some (.inr (Sum.inr l411)))

def law34_SetoutBests_l2 (N : Nat) (r592 : List Int × Int) (i620 : Int) : Option ((Int) ⊕ (Bool ⊕ Unit)) :=
 bif decide (i620 < (List.length r592.1 : Int)) then (
 Option.bind (idx r592.1 i620) fun x635 =>
 bif (!decide (x635 = i620)) then (
 some (.inr (Sum.inl false))) else (
 Option.bind (in64 (i620 + 1)) fun x640 =>
 some (.inl x640))) else (
 some (.inr (Sum.inr ())))

def law34_SetoutBests (N : Nat) (a0 : List Int) : Option (Bool) :=
 Option.bind (humpgen_New N a0) fun r1 =>
 Option.bind (law34_train N a0 r1 24) fun r8 =>
 Option.bind (setout_Best N r8.2) fun r15 =>
 bif ((!decide (r15.2 = 0)) || (!decide ((List.length r15.1 : Int) = (List.length r8.2 : Int)))) then (
 some false) else (
 Option.bind (mkL 1 (List.length r8.2 : Int) false) fun l30 =>
 Option.bind (iterN (fun s : Int × List Bool × List Int => law34_SetoutBests_l1 N r8 r15 s.1 s.2.1 s.2.2) N (0, l30, [])) fun r419 =>
 match r419 with
 | .inl p550 => (
 some p550)
 | .inr p553 => (
 Option.bind (setout_Plan N p553 16) fun r556 =>
 Option.bind (setout_Groups N p553) fun r563 =>
 Option.bind (setout_Groups N r8.2) fun r569 =>
 bif (((((!decide (r556.2 = 0)) || (!decide (r563.2 = 0))) || (!decide (r569.2 = 0))) || (!decide (r563.1 = (List.length r556.1 : Int)))) || decide (r569.1 < r563.1)) then (
 some false) else (
 Option.bind (setout_Best N p553) fun r592 =>
 Option.bind (iterN (fun s : Int => law34_SetoutBests_l2 N r592 s) N 0) fun r627 =>
 match r627 with
 | .inl p647 => (
 some p647)
 | .inr p650 => (
 Option.bind (gO (decide (r592.2 = 0) && decide ((List.length r592.1 : Int) = (List.length r8.2 : Int))) (law34_sane N)) fun r660 =>
 some ((decide (r592.2 = 0) && decide ((List.length r592.1 : Int) = (List.length r8.2 : Int))) && r660)))))

end Go.Gv
