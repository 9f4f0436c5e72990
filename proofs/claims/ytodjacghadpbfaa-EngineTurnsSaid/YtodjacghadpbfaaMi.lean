/- Plain functions that mirror the program, written by a program of mine (gowalk.py). -/
import Derived.Test.YtodjacghadpbfaaPu
namespace Go.Gv
set_option linter.unusedVariables false

structure T_Task where
  From : Int
  To : Int
deriving DecidableEq, Inhabited

structure T_Maker where
  l : List Int
  n : Int
deriving DecidableEq, Inhabited

def humpgen_New (N : Nat) (a0 : List Int) : Option (Int) :=
 some 0

def Maker_Next (N : Nat) (a0_l : List Int) (a0_n : Int) (a1 : Int) : Option (Int × Int) :=
 Option.bind (
 bif decide (0 < (List.length a0_l : Int)) then (
 Option.bind (rem64 a0_n (List.length a0_l : Int)) fun x78 =>
 Option.bind (idx a0_l x78) fun x81 =>
 Option.bind (quo64 a0_n (List.length a0_l : Int)) fun x84 =>
 some (wr64 (x81 + (wr64 (x84 * 7919))))) else (
 some 0)) fun j69 =>
 Option.bind (in64 (a0_n + 1)) fun x92 =>
 Option.bind (rem64 j69 a1) fun x97 =>
 bif decide (x97 < 0) then (
 Option.bind (in64 (x97 + a1)) fun x102 =>
 some (x92, x102)) else (
 some (x92, x97))

def law39_tasks_l1 (N : Nat) (a0_l : List Int) (i284 : Int) (i285 : Int) (l286 : List T_Task) : Option ((Int × Int × List T_Task) ⊕ (Int × List T_Task)) :=
 bif decide (0 < i284) then (
 Option.bind (Maker_Next N a0_l i285 200) fun r300 =>
 Option.bind (in64 (r300.2 + 1)) fun x306 =>
 Option.bind (Maker_Next N a0_l r300.1 60) fun r309 =>
 Option.bind (in64 (x306 + r309.2)) fun x315 =>
 Option.bind (app 16 l286 ([(T_Task.mk r300.2 x315)])) fun l321 =>
 Option.bind (in64 (i284 - 1)) fun x327 =>
 some (.inl (x327, r309.1, l321))) else (
 some (.inr (i285, l286)))

def law39_tasks (N : Nat) (a0_l : List Int) (a0_n : Int) (a1 : Int) : Option (Int × List T_Task) :=
 Option.bind (in64 (a1 + 1)) fun x168 =>
 Option.bind (Maker_Next N a0_l a0_n x168) fun r171 =>
 Option.bind (iterN (fun s : Int × Int × List T_Task => law39_tasks_l1 N a0_l s.1 s.2.1 s.2.2) N (r171.2, r171.1, [])) fun r294 =>
 some (r294.1, r294.2)

def Maker_Pick (N : Nat) (a0_l : List Int) (a0_n : Int) (a1 : List Int) : Option (Int × Int) :=
 Option.bind (Maker_Next N a0_l a0_n (List.length a1 : Int)) fun r10 =>
 Option.bind (idx a1 r10.2) fun x16 =>
 some (r10.1, x16)

def r39_check_l1 (N : Nat) (a0 : List T_Task) (i93 : Int) : Option ((Int) ⊕ (Int ⊕ Unit)) :=
 bif decide (i93 < (List.length a0 : Int)) then (
 Option.bind (idx a0 i93) fun x112 =>
 Option.bind (gO (!decide (x112.From < 0)) (idx a0 i93)) fun x118 =>
 Option.bind (gO (!decide (x112.From < 0)) (idx a0 i93)) fun x126 =>
 Option.bind (gO (!(decide (x112.From < 0) || decide (x126.To ≤ x118.From))) (idx a0 i93)) fun x136 =>
 bif ((decide (x112.From < 0) || decide (x126.To ≤ x118.From)) || decide (10080 < x136.To)) then (
 some (.inr (Sum.inl 1))) else (
 Option.bind (in64 (i93 + 1)) fun x145 =>
 some (.inl x145))) else (
 some (.inr (Sum.inr ())))

def r39_check (N : Nat) (a0 : List T_Task) (a1 : Int) : Option (Int) :=
 bif decide (64 < (List.length a0 : Int)) then (
 some 3) else (
 bif (decide (a1 < 0) || decide (10080 < a1)) then (
 some 2) else (
 Option.bind (iterN (fun s : Int => r39_check_l1 N a0 s) N 0) fun r100 =>
 match r100 with
 | .inl p152 => (
 some p152)
 | .inr p155 => (
 some 0)))

def r39_order_l5 (N : Nat) (a0 : List T_Task) (i485 : Int) (l486 : List Int) (i576 : Int) : Option ((Int) ⊕ (Int)) :=
 Option.bind (gO (decide (0 < i576)) (in64 (i576 - 1))) fun x595 =>
 Option.bind (gO (decide (0 < i576)) (idx l486 x595)) fun x599 =>
 Option.bind (gO (decide (0 < i576)) (idx a0 x599)) fun x604 =>
 Option.bind (gO (decide (0 < i576)) (idx a0 i485)) fun x612 =>
 bif (decide (0 < i576) && decide (x612.From < x604.From)) then (
 Option.bind (in64 (i576 - 1)) fun x621 =>
 some (.inl x621)) else (
 some (.inr i576))

def r39_order_l4 (N : Nat) (a0 : List T_Task) (i485 : Int) (l486 : List Int) : Option ((Int × List Int) ⊕ (List Int)) :=
 bif decide (i485 < (List.length a0 : Int)) then (
 Option.bind (iterN (fun s : Int => r39_order_l5 N a0 i485 l486 s) N (List.length l486 : Int)) fun r583 =>
 Option.bind (slc l486 0 r583) fun l633 =>
 Option.bind (slc l486 r583 (List.length l486 : Int)) fun l636 =>
 Option.bind (app 8 [i485] l636) fun l642 =>
 Option.bind (appC 8 l633 l642) fun l648 =>
 Option.bind (in64 (i485 + 1)) fun x654 =>
 some (.inl (x654, l648))) else (
 some (.inr l486))

def r39_order (N : Nat) (a0 : List T_Task) : Option (List Int) :=
 Option.bind (iterN (fun s : Int × List Int => r39_order_l4 N a0 s.1 s.2) N (0, [])) fun r494 =>
 some r494

def r39_Excludes (N : Nat) (a0 : T_Task) (a1 : T_Task) (a2 : Int) : Option (Bool) :=
 Option.bind (in64 (a1.To + a2)) fun x7 =>
 Option.bind (gO (decide (a0.From < x7)) (in64 (a0.To + a2))) fun x16 =>
 some (decide (a0.From < x7) && decide (a1.From < x16))

def r39_Assign_l4 (N : Nat) (a0 : List T_Task) (a1 : Int) (r16 : List Int) (i449 : Int) (l450 : List Int) (i582 : Int) (i583 : Int) : Option ((Int × Int) ⊕ (Int)) :=
 bif decide (i583 < i449) then (
 Option.bind (idx r16 i583) fun x600 =>
 Option.bind (idx l450 x600) fun x603 =>
 Option.bind (gO (decide (x603 = i582)) (idx r16 i583)) fun x610 =>
 Option.bind (gO (decide (x603 = i582)) (idx a0 x610)) fun x615 =>
 Option.bind (gO (decide (x603 = i582)) (idx r16 i449)) fun x623 =>
 Option.bind (gO (decide (x603 = i582)) (idx a0 x623)) fun x628 =>
 Option.bind (gO (decide (x603 = i582)) (r39_Excludes N x615 x628 a1)) fun r634 =>
 bif (decide (x603 = i582) && r634) then (
 Option.bind (in64 (i582 + 1)) fun x643 =>
 Option.bind (in64 ((-1) + 1)) fun x646 =>
 some (.inl (x643, x646))) else (
 Option.bind (in64 (i583 + 1)) fun x649 =>
 some (.inl (i582, x649)))) else (
 some (.inr i582))

def r39_Assign_l3 (N : Nat) (a0 : List T_Task) (a1 : Int) (r16 : List Int) (i448 : Int) (i449 : Int) (l450 : List Int) : Option ((Int × Int × List Int) ⊕ (Int × List Int)) :=
 bif decide (i449 < (List.length r16 : Int)) then (
 Option.bind (iterN (fun s : Int × Int => r39_Assign_l4 N a0 a1 r16 i449 l450 s.1 s.2) N (0, 0)) fun r590 =>
 Option.bind (idx r16 i449) fun x657 =>
 Option.bind (idx l450 x657) fun x660 =>
 Option.bind (in64 (r590 + 1)) fun x665 =>
 Option.bind (in64 (i449 + 1)) fun x668 =>
 some (.inl ((max i448 x665), x668, (List.set l450 (Int.toNat x657) r590)))) else (
 some (.inr (i448, l450)))

def r39_Assign (N : Nat) (a0 : List T_Task) (a1 : Int) : Option (List Int × Int × Int) :=
 Option.bind (r39_check N a0 a1) fun r1 =>
 bif (!decide (r1 = 0)) then (
 some ([], 0, r1)) else (
 Option.bind (mkL 8 (List.length a0 : Int) 0) fun l10 =>
 Option.bind (r39_order N a0) fun r16 =>
 Option.bind (iterN (fun s : Int × Int × List Int => r39_Assign_l3 N a0 a1 r16 s.1 s.2.1 s.2.2) N (0, 0, l10)) fun r457 =>
 some (r457.2, r457.1, 0))

def engine_check_l1 (N : Nat) (a0 : List T_Task) (i59 : Int) : Option ((Int) ⊕ (Int ⊕ Unit)) :=
 bif decide (i59 < (List.length a0 : Int)) then (
 Option.bind (idx a0 i59) fun x74 =>
 bif ((decide (x74.From < 0) || decide (x74.To ≤ x74.From)) || decide (10080 < x74.To)) then (
 some (.inr (Sum.inl 1))) else (
 Option.bind (in64 (i59 + 1)) fun x94 =>
 some (.inl x94))) else (
 some (.inr (Sum.inr ())))

def engine_check (N : Nat) (a0 : List T_Task) (a1 : Int) : Option (Int) :=
 bif decide (64 < (List.length a0 : Int)) then (
 some 3) else (
 bif (decide (a1 < 0) || decide (10080 < a1)) then (
 some 2) else (
 Option.bind (iterN (fun s : Int => engine_check_l1 N a0 s) N 0) fun r66 =>
 match r66 with
 | .inl p101 => (
 some p101)
 | .inr p104 => (
 some 0)))

def g_cmp_isNaN_int (N : Nat) (a0 : Int) : Option (Bool) :=
 some (!decide (a0 = a0))

def g_cmp_Compare_int (N : Nat) (a0 : Int) (a1 : Int) : Option (Int) :=
 Option.bind (g_cmp_isNaN_int N a0) fun r1 =>
 Option.bind (g_cmp_isNaN_int N a1) fun r7 =>
 bif r1 then (
 bif r7 then (
 some 0) else (
 some (-1))) else (
 bif r7 then (
 some 1) else (
 bif decide (a0 < a1) then (
 some (-1)) else (
 bif decide (a1 < a0) then (
 some 1) else (
 some 0))))

def engine_order_1 (N : Nat) (a0 : Int) (a1 : Int) (a2 : List (List T_Task)) : Option (Int) :=
 Option.bind (idx a2 0) fun x1 =>
 Option.bind (idx x1 a0) fun x10 =>
 Option.bind (idx x1 a1) fun x15 =>
 Option.bind (g_cmp_Compare_int N x10.From x15.From) fun r18 =>
 some r18

def g_slices_insertionSortCmpFunc_int_l4 (N : Nat) (a1 : Int) (a3 : List (List T_Task)) (i578 : Int) (l579 : List Int) : Option ((Int × List Int) ⊕ (List Int)) :=
 Option.bind (gO (decide (a1 < i578)) (idx l579 i578)) fun x598 =>
 Option.bind (gO (decide (a1 < i578)) (in64 (i578 - 1))) fun x605 =>
 Option.bind (gO (decide (a1 < i578)) (idx l579 x605)) fun x609 =>
 Option.bind (gO (decide (a1 < i578)) (engine_order_1 N x598 x609 a3)) fun r614 =>
 bif (decide (a1 < i578) && decide (r614 < 0)) then (
 Option.bind (in64 (i578 - 1)) fun x628 =>
 Option.bind (in64 (i578 - 1)) fun x631 =>
 Option.bind (idx l579 x631) fun x634 =>
 Option.bind (idx l579 i578) fun x637 =>
 Option.bind (idx l579 i578) fun x640 =>
 Option.bind (idx (List.set l579 (Int.toNat i578) x634) x628) fun x645 =>
 Option.bind (in64 (i578 - 1)) fun x650 =>
 some (.inl (x650, (List.set (List.set l579 (Int.toNat i578) x634) (Int.toNat x628) x637)))) else (
 some (.inr l579))

def g_slices_insertionSortCmpFunc_int_l3 (N : Nat) (a1 : Int) (a2 : Int) (a3 : List (List T_Task)) (i435 : Int) (l436 : List Int) : Option ((Int × List Int) ⊕ (List Int)) :=
 bif decide (i435 < a2) then (
 Option.bind (iterN (fun s : Int × List Int => g_slices_insertionSortCmpFunc_int_l4 N a1 a3 s.1 s.2) N (i435, l436)) fun r586 =>
 Option.bind (in64 (i435 + 1)) fun x658 =>
 some (.inl (x658, r586))) else (
 some (.inr l436))

def g_slices_insertionSortCmpFunc_int (N : Nat) (a0 : List Int) (a1 : Int) (a2 : Int) (a3 : List (List T_Task)) : Option (List Int) :=
 Option.bind (in64 (a1 + 1)) fun x1 =>
 Option.bind (iterN (fun s : Int × List Int => g_slices_insertionSortCmpFunc_int_l3 N a1 a2 a3 s.1 s.2) N (x1, a0)) fun r443 =>
 some r443

def g_slices_swapRangeCmpFunc_int_l1 (N : Nat) (a1 : Int) (a2 : Int) (a3 : Int) (i78 : Int) (l79 : List Int) : Option ((Int × List Int) ⊕ (List Int)) :=
 bif decide (i78 < a3) then (
 Option.bind (in64 (a1 + i78)) fun x96 =>
 Option.bind (in64 (a2 + i78)) fun x99 =>
 Option.bind (in64 (a2 + i78)) fun x102 =>
 Option.bind (idx l79 x102) fun x105 =>
 Option.bind (in64 (a1 + i78)) fun x108 =>
 Option.bind (idx l79 x108) fun x111 =>
 Option.bind (idx l79 x96) fun x114 =>
 Option.bind (idx (List.set l79 (Int.toNat x96) x105) x99) fun x119 =>
 Option.bind (in64 (i78 + 1)) fun x124 =>
 some (.inl (x124, (List.set (List.set l79 (Int.toNat x96) x105) (Int.toNat x99) x111)))) else (
 some (.inr l79))

def g_slices_swapRangeCmpFunc_int (N : Nat) (a0 : List Int) (a1 : Int) (a2 : Int) (a3 : Int) (a4 : List (List T_Task)) : Option (List Int) :=
 Option.bind (iterN (fun s : Int × List Int => g_slices_swapRangeCmpFunc_int_l1 N a1 a2 a3 s.1 s.2) N (0, a0)) fun r86 =>
 some r86

def g_slices_rotateCmpFunc_int_l1 (N : Nat) (a2 : Int) (a4 : List (List T_Task)) (i80 : Int) (i81 : Int) (l82 : List Int) : Option ((Int × Int × List Int) ⊕ (Int × List Int)) :=
 bif (!decide (i80 = i81)) then (
 bif decide (i81 < i80) then (
 Option.bind (in64 (a2 - i80)) fun x97 =>
 Option.bind (g_slices_swapRangeCmpFunc_int N l82 x97 a2 i81 a4) fun r100 =>
 Option.bind (in64 (i80 - i81)) fun x106 =>
 some (.inl (x106, i81, r100))) else (
 Option.bind (in64 (a2 - i80)) fun x109 =>
 Option.bind (in64 (a2 + i81)) fun x112 =>
 Option.bind (in64 (x112 - i80)) fun x115 =>
 Option.bind (g_slices_swapRangeCmpFunc_int N l82 x109 x115 i80 a4) fun r118 =>
 Option.bind (in64 (i81 - i80)) fun x124 =>
 some (.inl (i80, x124, r118)))) else (
 some (.inr (i80, l82)))

def g_slices_rotateCmpFunc_int (N : Nat) (a0 : List Int) (a1 : Int) (a2 : Int) (a3 : Int) (a4 : List (List T_Task)) : Option (List Int) :=
 Option.bind (in64 (a2 - a1)) fun x1 =>
 Option.bind (in64 (a3 - a2)) fun x4 =>
 Option.bind (iterN (fun s : Int × Int × List Int => g_slices_rotateCmpFunc_int_l1 N a2 a4 s.1 s.2.1 s.2.2) N (x1, x4, a0)) fun r89 =>
 Option.bind (in64 (a2 - r89.1)) fun x132 =>
 Option.bind (g_slices_swapRangeCmpFunc_int N r89.2 x132 a2 r89.1 a4) fun r135 =>
 some r135

def g_slices_symMergeCmpFunc_int_l1 (N : Nat) (a0 : List Int) (a1 : Int) (a4 : List (List T_Task)) (i73 : Int) (i74 : Int) : Option ((Int × Int) ⊕ (Int)) :=
 bif decide (i73 < i74) then (
 Option.bind (in64 (i73 + i74)) fun x87 =>
 Option.bind (shr_u64 (x87 % 18446744073709551616) 1) fun x90 =>
 Option.bind (in64 x90) fun x93 =>
 Option.bind (idx a0 x93) fun x100 =>
 Option.bind (idx a0 a1) fun x103 =>
 Option.bind (engine_order_1 N x100 x103 a4) fun r106 =>
 bif decide (r106 < 0) then (
 Option.bind (in64 (x93 + 1)) fun x114 =>
 some (.inl (x114, i74))) else (
 some (.inl (i73, x93)))) else (
 some (.inr i73))

def g_slices_symMergeCmpFunc_int_l2 (N : Nat) (r81 : Int) (i193 : Int) (l194 : List Int) : Option ((Int × List Int) ⊕ (List Int)) :=
 Option.bind (in64 (r81 - 1)) fun x205 =>
 bif decide (i193 < x205) then (
 Option.bind (in64 (i193 + 1)) fun x214 =>
 Option.bind (in64 (i193 + 1)) fun x217 =>
 Option.bind (idx l194 x217) fun x220 =>
 Option.bind (idx l194 i193) fun x223 =>
 Option.bind (idx l194 i193) fun x226 =>
 Option.bind (idx (List.set l194 (Int.toNat i193) x220) x214) fun x231 =>
 Option.bind (in64 (i193 + 1)) fun x236 =>
 some (.inl (x236, (List.set (List.set l194 (Int.toNat i193) x220) (Int.toNat x214) x223)))) else (
 some (.inr l194))

def g_slices_symMergeCmpFunc_int_l3 (N : Nat) (a0 : List Int) (a2 : Int) (a4 : List (List T_Task)) (i316 : Int) (i317 : Int) : Option ((Int × Int) ⊕ (Int)) :=
 bif decide (i316 < i317) then (
 Option.bind (in64 (i316 + i317)) fun x330 =>
 Option.bind (shr_u64 (x330 % 18446744073709551616) 1) fun x333 =>
 Option.bind (in64 x333) fun x336 =>
 Option.bind (idx a0 a2) fun x343 =>
 Option.bind (idx a0 x336) fun x346 =>
 Option.bind (engine_order_1 N x343 x346 a4) fun r349 =>
 bif (!decide (r349 < 0)) then (
 Option.bind (in64 (x336 + 1)) fun x357 =>
 some (.inl (x357, i317))) else (
 some (.inl (i316, x336)))) else (
 some (.inr i316))

def g_slices_symMergeCmpFunc_int_l4 (N : Nat) (r324 : Int) (i430 : Int) (l431 : List Int) : Option ((Int × List Int) ⊕ (List Int)) :=
 bif decide (r324 < i430) then (
 Option.bind (in64 (i430 - 1)) fun x448 =>
 Option.bind (in64 (i430 - 1)) fun x451 =>
 Option.bind (idx l431 x451) fun x454 =>
 Option.bind (idx l431 i430) fun x457 =>
 Option.bind (idx l431 i430) fun x460 =>
 Option.bind (idx (List.set l431 (Int.toNat i430) x454) x448) fun x465 =>
 Option.bind (in64 (i430 - 1)) fun x470 =>
 some (.inl (x470, (List.set (List.set l431 (Int.toNat i430) x454) (Int.toNat x448) x457)))) else (
 some (.inr l431))

def g_slices_symMergeCmpFunc_int_l5 (N : Nat) (a0 : List Int) (a4 : List (List T_Task)) (x510 : Int) (i586 : Int) (i587 : Int) : Option ((Int × Int) ⊕ (Int)) :=
 bif decide (i586 < i587) then (
 Option.bind (in64 (i586 + i587)) fun x600 =>
 Option.bind (shr_u64 (x600 % 18446744073709551616) 1) fun x603 =>
 Option.bind (in64 x603) fun x606 =>
 Option.bind (in64 (x510 - x606)) fun x613 =>
 Option.bind (idx a0 x613) fun x616 =>
 Option.bind (idx a0 x606) fun x619 =>
 Option.bind (engine_order_1 N x616 x619 a4) fun r622 =>
 bif (!decide (r622 < 0)) then (
 Option.bind (in64 (x606 + 1)) fun x630 =>
 some (.inl (x630, i587))) else (
 some (.inl (i586, x606)))) else (
 some (.inr i586))

def g_slices_symMergeCmpFunc_int_r (N : Nat) : Nat → (List Int) → Int → Int → Int → (List (List T_Task)) → Option (List Int)
 | 0, _, _, _, _, _ => none
 | M + 1, a0, a1, a2, a3, a4 =>
 Option.bind (in64 (a2 - a1)) fun x1 =>
 bif decide (x1 = 1) then (
 Option.bind (iterN (fun s : Int × Int => g_slices_symMergeCmpFunc_int_l1 N a0 a1 a4 s.1 s.2) N (a2, a3)) fun r81 =>
 Option.bind (iterN (fun s : Int × List Int => g_slices_symMergeCmpFunc_int_l2 N r81 s.1 s.2) N (a1, a0)) fun r201 =>
 some r201) else (
 Option.bind (in64 (a3 - a2)) fun x244 =>
 bif decide (x244 = 1) then (
 Option.bind (iterN (fun s : Int × Int => g_slices_symMergeCmpFunc_int_l3 N a0 a2 a4 s.1 s.2) N (a1, a2)) fun r324 =>
 Option.bind (iterN (fun s : Int × List Int => g_slices_symMergeCmpFunc_int_l4 N r324 s.1 s.2) N (a2, a0)) fun r438 =>
 some r438) else (
 Option.bind (in64 (a1 + a3)) fun x478 =>
 Option.bind (shr_u64 (x478 % 18446744073709551616) 1) fun x481 =>
 Option.bind (in64 x481) fun x484 =>
 Option.bind (in64 (x484 + a2)) fun x487 =>
 Option.bind (
 bif decide (x484 < a2) then (
 Option.bind (in64 (x487 - a3)) fun x502 =>
 some (x502, x484)) else (
 some (a1, a2))) fun j497 =>
 Option.bind (in64 (x487 - 1)) fun x510 =>
 Option.bind (iterN (fun s : Int × Int => g_slices_symMergeCmpFunc_int_l5 N a0 a4 x510 s.1 s.2) N (j497.1, j497.2)) fun r594 =>
 Option.bind (in64 (x487 - r594)) fun x638 =>
 Option.bind (
 bif (decide (r594 < a2) && decide (a2 < x638)) then (
 Option.bind (g_slices_rotateCmpFunc_int N a0 r594 a2 x638 a4) fun r659 =>
 some r659) else (
 some a0)) fun j654 =>
 Option.bind (
 bif (decide (a1 < r594) && decide (r594 < x484)) then (
 Option.bind (g_slices_symMergeCmpFunc_int_r N M j654 a1 r594 x484 a4) fun r688 =>
 some r688) else (
 some j654)) fun j683 =>
 bif (decide (x484 < x638) && decide (x638 < a3)) then (
 Option.bind (g_slices_symMergeCmpFunc_int_r N M j683 x484 x638 a3 a4) fun r705 =>
 some r705) else (
 some j683)))

def g_slices_symMergeCmpFunc_int (N : Nat) (a0 : List Int) (a1 : Int) (a2 : Int) (a3 : Int) (a4 : List (List T_Task)) : Option (List Int) := g_slices_symMergeCmpFunc_int_r N N a0 a1 a2 a3 a4

def g_slices_stableCmpFunc_int_l1 (N : Nat) (a1 : Int) (a2 : List (List T_Task)) (i28 : Int) (i29 : Int) (l30 : List Int) : Option ((Int × Int × List Int) ⊕ (Int × List Int)) :=
 bif decide (i29 ≤ a1) then (
 Option.bind (g_slices_insertionSortCmpFunc_int N l30 i28 i29 a2) fun r43 =>
 Option.bind (in64 (i29 + 20)) fun x49 =>
 some (.inl (i29, x49, r43))) else (
 some (.inr (i28, l30)))

def g_slices_stableCmpFunc_int_l5 (N : Nat) (a1 : Int) (a2 : List (List T_Task)) (i258 : Int) (i314 : Int) (i315 : Int) (l316 : List Int) : Option ((Int × Int × List Int) ⊕ (Int × List Int)) :=
 bif decide (i315 ≤ a1) then (
 Option.bind (in64 (i314 + i258)) fun x329 =>
 Option.bind (g_slices_symMergeCmpFunc_int N l316 i314 x329 i315 a2) fun r332 =>
 Option.bind (in64 (2 * i258)) fun x338 =>
 Option.bind (in64 (i315 + x338)) fun x341 =>
 some (.inl (i315, x341, r332))) else (
 some (.inr (i314, l316)))

def g_slices_stableCmpFunc_int_l4 (N : Nat) (a1 : Int) (a2 : List (List T_Task)) (i258 : Int) (l259 : List Int) : Option ((Int × List Int) ⊕ (List Int)) :=
 bif decide (i258 < a1) then (
 Option.bind (in64 (2 * i258)) fun x272 =>
 Option.bind (iterN (fun s : Int × Int × List Int => g_slices_stableCmpFunc_int_l5 N a1 a2 i258 s.1 s.2.1 s.2.2) N (0, x272, l259)) fun r323 =>
 Option.bind (in64 (r323.1 + i258)) fun x349 =>
 bif decide (x349 < a1) then (
 Option.bind (g_slices_symMergeCmpFunc_int N r323.2 r323.1 x349 a1 a2) fun r354 =>
 Option.bind (in64 (i258 * 2)) fun x360 =>
 some (.inl (x360, r354))) else (
 Option.bind (in64 (i258 * 2)) fun x363 =>
 some (.inl (x363, r323.2)))) else (
 some (.inr l259))

def g_slices_stableCmpFunc_int (N : Nat) (a0 : List Int) (a1 : Int) (a2 : List (List T_Task)) : Option (List Int) :=
 Option.bind (iterN (fun s : Int × Int × List Int => g_slices_stableCmpFunc_int_l1 N a1 a2 s.1 s.2.1 s.2.2) N (0, 20, a0)) fun r37 =>
 Option.bind (g_slices_insertionSortCmpFunc_int N r37.2 r37.1 a1 a2) fun r57 =>
 Option.bind (iterN (fun s : Int × List Int => g_slices_stableCmpFunc_int_l4 N a1 a2 s.1 s.2) N (20, r57)) fun r266 =>
 some r266

def g_slices_SortStableFunc_int_int (N : Nat) (a0 : List Int) (a1 : List (List T_Task)) : Option (List Int) :=
 Option.bind (g_slices_stableCmpFunc_int N a0 (List.length a0 : Int) a1) fun r1 =>
 some r1

def engine_order_l1 (N : Nat) (a0 : List T_Task) (i55 : Int) (l56 : List Int) : Option ((Int × List Int) ⊕ (List Int)) :=
 bif decide (i55 < (List.length a0 : Int)) then (
 Option.bind (app 8 l56 ([i55])) fun l73 =>
 Option.bind (in64 (i55 + 1)) fun x79 =>
 some (.inl (x79, l73))) else (
 some (.inr l56))

def engine_order (N : Nat) (a0 : List T_Task) : Option (List Int) :=
 Option.bind (iterN (fun s : Int × List Int => engine_order_l1 N a0 s.1 s.2) N (0, [])) fun r64 =>
 Option.bind (g_slices_SortStableFunc_int_int N r64 [a0]) fun r87 =>
 some r87

def engine_Assign_l5 (N : Nat) (a0 : List T_Task) (l504 : List Int) (x518 : Int) (i575 : Int) : Option ((Int) ⊕ (Int)) :=
 Option.bind (gO (decide (i575 < (List.length l504 : Int))) (idx l504 i575)) fun x593 =>
 Option.bind (gO (decide (i575 < (List.length l504 : Int))) (idx a0 x518)) fun x600 =>
 bif (decide (i575 < (List.length l504 : Int)) && decide (x600.From < x593)) then (
 Option.bind (in64 (i575 + 1)) fun x609 =>
 some (.inl x609)) else (
 some (.inr i575))

def engine_Assign_l4 (N : Nat) (a0 : List T_Task) (a1 : Int) (r16 : List Int) (i502 : Int) (l503 : List Int) (l504 : List Int) : Option ((Int × List Int × List Int) ⊕ (List Int × List Int)) :=
 bif decide (i502 < (List.length r16 : Int)) then (
 Option.bind (idx r16 i502) fun x518 =>
 Option.bind (iterN (fun s : Int => engine_Assign_l5 N a0 l504 x518 s) N 0) fun r582 =>
 Option.bind (
 bif decide (r582 = (List.length l504 : Int)) then (
 Option.bind (app 8 l504 ([0])) fun l638 =>
 some l638) else (
 some l504)) fun j630 =>
 Option.bind (idx a0 x518) fun x649 =>
 Option.bind (in64 (x649.To + a1)) fun x652 =>
 Option.bind (idx l503 x518) fun x655 =>
 Option.bind (idx j630 r582) fun x660 =>
 Option.bind (in64 (i502 + 1)) fun x665 =>
 some (.inl (x665, (List.set l503 (Int.toNat x518) r582), (List.set j630 (Int.toNat r582) x652)))) else (
 some (.inr (l503, l504)))

def engine_Assign (N : Nat) (a0 : List T_Task) (a1 : Int) : Option (List Int × Int × Int) :=
 Option.bind (engine_check N a0 a1) fun r1 =>
 bif (!decide (r1 = 0)) then (
 some ([], 0, r1)) else (
 Option.bind (mkL 8 (List.length a0 : Int) 0) fun l10 =>
 Option.bind (engine_order N a0) fun r16 =>
 Option.bind (iterN (fun s : Int × List Int × List Int => engine_Assign_l4 N a0 a1 r16 s.1 s.2.1 s.2.2) N (0, l10, [])) fun r512 =>
 some (r512.1, (List.length r512.2 : Int), 0))

def engine_Witness_l4 (N : Nat) (a0 : List T_Task) (a1 : Int) (x411 : T_Task) (i533 : Int) (l534 : List Int) : Option ((Int × List Int) ⊕ (List Int)) :=
 bif decide (i533 < (List.length a0 : Int)) then (
 Option.bind (idx a0 i533) fun x548 =>
 Option.bind (gO (decide (x548.From ≤ x411.From)) (in64 (x548.To + a1))) fun x561 =>
 bif (decide (x548.From ≤ x411.From) && decide (x411.From < x561)) then (
 Option.bind (app 8 l534 ([i533])) fun l571 =>
 Option.bind (in64 (i533 + 1)) fun x577 =>
 some (.inl (x577, l571))) else (
 Option.bind (in64 (i533 + 1)) fun x580 =>
 some (.inl (x580, l534)))) else (
 some (.inr l534))

def engine_Witness_l3 (N : Nat) (a0 : List T_Task) (a1 : Int) (r1 : List Int × Int × Int) (r11 : List Int) (i393 : Int) : Option ((Int) ⊕ ((Int × List Int × Int) ⊕ Unit)) :=
 bif decide (i393 < (List.length r11 : Int)) then (
 Option.bind (idx r11 i393) fun x408 =>
 Option.bind (idx a0 x408) fun x411 =>
 Option.bind (iterN (fun s : Int × List Int => engine_Witness_l4 N a0 a1 x411 s.1 s.2) N (0, [])) fun r542 =>
 bif decide ((List.length r542 : Int) = r1.2.1) then (
 some (.inr (Sum.inl (x411.From, r542, 0)))) else (
 Option.bind (in64 (i393 + 1)) fun x590 =>
 some (.inl x590))) else (
 some (.inr (Sum.inr ())))

def engine_Witness (N : Nat) (a0 : List T_Task) (a1 : Int) : Option (Int × List Int × Int) :=
 Option.bind (engine_Assign N a0 a1) fun r1 =>
 bif (!decide (r1.2.2 = 0)) then (
 some (0, [], r1.2.2)) else (
 Option.bind (engine_order N a0) fun r11 =>
 Option.bind (iterN (fun s : Int => engine_Witness_l3 N a0 a1 r1 r11 s) N 0) fun r400 =>
 match r400 with
 | .inl p597 => (
 some p597)
 | .inr p600 => (
 some (0, [], 0)))

def r39_Witness_l4 (N : Nat) (a0 : List T_Task) (a1 : Int) (x422 : T_Task) (i547 : Int) (l548 : List Int) : Option ((Int × List Int) ⊕ (List Int)) :=
 bif decide (i547 < (List.length a0 : Int)) then (
 Option.bind (idx a0 i547) fun x562 =>
 Option.bind (gO (decide (x562.From ≤ x422.From)) (idx a0 i547)) fun x568 =>
 Option.bind (gO (decide (x562.From ≤ x422.From)) (in64 (x568.To + a1))) fun x575 =>
 bif (decide (x562.From ≤ x422.From) && decide (x422.From < x575)) then (
 Option.bind (app 8 l548 ([i547])) fun l586 =>
 Option.bind (in64 (i547 + 1)) fun x592 =>
 some (.inl (x592, l586))) else (
 Option.bind (in64 (i547 + 1)) fun x595 =>
 some (.inl (x595, l548)))) else (
 some (.inr l548))

def r39_Witness_l3 (N : Nat) (a0 : List T_Task) (a1 : Int) (r1 : List Int × Int × Int) (r14 : List Int) (i404 : Int) : Option ((Int) ⊕ ((Int × List Int × Int) ⊕ Unit)) :=
 bif decide (i404 < (List.length r14 : Int)) then (
 Option.bind (idx r14 i404) fun x419 =>
 Option.bind (idx a0 x419) fun x422 =>
 Option.bind (iterN (fun s : Int × List Int => r39_Witness_l4 N a0 a1 x422 s.1 s.2) N (0, [])) fun r556 =>
 bif decide ((List.length r556 : Int) = r1.2.1) then (
 some (.inr (Sum.inl (x422.From, r556, 0)))) else (
 Option.bind (in64 (i404 + 1)) fun x605 =>
 some (.inl x605))) else (
 some (.inr (Sum.inr ())))

def r39_Witness (N : Nat) (a0 : List T_Task) (a1 : Int) : Option (Int × List Int × Int) :=
 Option.bind (r39_Assign N a0 a1) fun r1 =>
 bif ((!decide (r1.2.2 = 0)) || decide (r1.2.1 = 0)) then (
 some (0, [], r1.2.2)) else (
 Option.bind (r39_order N a0) fun r14 =>
 Option.bind (iterN (fun s : Int => r39_Witness_l3 N a0 a1 r1 r14 s) N 0) fun r411 =>
 match r411 with
 | .inl p612 => (
 some p612)
 | .inr p615 => (
 some (0, [], 0)))

def engine_Check_l4 (N : Nat) (a1 : Int) (a2 : List Int) (i384 : Int) (x399 : T_Task) (l412 : List T_Task) (i510 : Int) : Option ((Int) ⊕ ((Bool × Int) ⊕ Unit)) :=
 bif decide (i510 < (List.length l412 : Int)) then (
 Option.bind (idx l412 i510) fun x525 =>
 Option.bind (idx a2 i384) fun x537 =>
 Option.bind (idx a2 i510) fun x540 =>
 Option.bind (gO (decide (x537 = x540)) (in64 (x525.To + a1))) fun x549 =>
 Option.bind (gO (decide (x537 = x540) && decide (x399.From < x549)) (in64 (x399.To + a1))) fun x560 =>
 bif ((decide (x537 = x540) && decide (x399.From < x549)) && decide (x525.From < x560)) then (
 some (.inr (Sum.inl (false, 0)))) else (
 Option.bind (in64 (i510 + 1)) fun x567 =>
 some (.inl x567))) else (
 some (.inr (Sum.inr ())))

def engine_Check_l3 (N : Nat) (a0 : List T_Task) (a1 : Int) (a2 : List Int) (i384 : Int) : Option ((Int) ⊕ ((Bool × Int) ⊕ Unit)) :=
 bif decide (i384 < (List.length a0 : Int)) then (
 Option.bind (idx a0 i384) fun x399 =>
 Option.bind (idx a2 i384) fun x407 =>
 bif decide (x407 < 0) then (
 some (.inr (Sum.inl (false, 0)))) else (
 Option.bind (slc a0 0 i384) fun l412 =>
 Option.bind (iterN (fun s : Int => engine_Check_l4 N a1 a2 i384 x399 l412 s) N 0) fun r517 =>
 match r517 with
 | .inl p574 => (
 some (.inr (Sum.inl p574)))
 | .inr p577 => (
 Option.bind (in64 (i384 + 1)) fun x580 =>
 some (.inl x580)))) else (
 some (.inr (Sum.inr ())))

def engine_Check (N : Nat) (a0 : List T_Task) (a1 : Int) (a2 : List Int) : Option (Bool × Int) :=
 Option.bind (engine_check N a0 a1) fun r1 =>
 bif (!decide (r1 = 0)) then (
 some (false, r1)) else (
 bif (!decide ((List.length a2 : Int) = (List.length a0 : Int))) then (
 some (false, 0)) else (
 Option.bind (iterN (fun s : Int => engine_Check_l3 N a0 a1 a2 s) N 0) fun r391 =>
 match r391 with
 | .inl p587 => (
 some p587)
 | .inr p590 => (
 some (true, 0))))

def r39_Check_l4 (N : Nat) (a0 : List T_Task) (a1 : Int) (a2 : List Int) (i320 : Int) (i421 : Int) : Option ((Int) ⊕ ((Bool × Int) ⊕ Unit)) :=
 bif decide (i421 < i320) then (
 Option.bind (idx a2 i421) fun x440 =>
 Option.bind (idx a2 i320) fun x443 =>
 Option.bind (gO (decide (x440 = x443)) (idx a0 i421)) fun x449 =>
 Option.bind (gO (decide (x440 = x443)) (idx a0 i320)) fun x456 =>
 Option.bind (gO (decide (x440 = x443)) (r39_Excludes N x449 x456 a1)) fun r462 =>
 bif (decide (x440 = x443) && r462) then (
 some (.inr (Sum.inl (false, 0)))) else (
 Option.bind (in64 (i421 + 1)) fun x471 =>
 some (.inl x471))) else (
 some (.inr (Sum.inr ())))

def r39_Check_l3 (N : Nat) (a0 : List T_Task) (a1 : Int) (a2 : List Int) (i320 : Int) : Option ((Int) ⊕ ((Bool × Int) ⊕ Unit)) :=
 bif decide (i320 < (List.length a0 : Int)) then (
 Option.bind (idx a2 i320) fun x335 =>
 bif decide (x335 < 0) then (
 some (.inr (Sum.inl (false, 0)))) else (
 Option.bind (iterN (fun s : Int => r39_Check_l4 N a0 a1 a2 i320 s) N 0) fun r428 =>
 match r428 with
 | .inl p478 => (
 some (.inr (Sum.inl p478)))
 | .inr p481 => (
 Option.bind (in64 (i320 + 1)) fun x484 =>
 some (.inl x484)))) else (
 some (.inr (Sum.inr ())))

def r39_Check (N : Nat) (a0 : List T_Task) (a1 : Int) (a2 : List Int) : Option (Bool × Int) :=
 Option.bind (r39_check N a0 a1) fun r1 =>
 bif (!decide (r1 = 0)) then (
 some (false, r1)) else (
 bif (!decide ((List.length a2 : Int) = (List.length a0 : Int))) then (
 some (false, 0)) else (
 Option.bind (iterN (fun s : Int => r39_Check_l3 N a0 a1 a2 s) N 0) fun r327 =>
 match r327 with
 | .inl p491 => (
 some p491)
 | .inr p494 => (
 some (true, 0))))

def humpgen_Ints_l1 (N : Nat) (a0 : List Int) (a1 : List Int) (i38 : Int) : Option ((Int) ⊕ (Bool ⊕ Unit)) :=
 bif decide (i38 < (List.length a0 : Int)) then (
 Option.bind (idx a0 i38) fun x57 =>
 Option.bind (idx a1 i38) fun x60 =>
 bif (!decide (x57 = x60)) then (
 some (.inr (Sum.inl false))) else (
 Option.bind (in64 (i38 + 1)) fun x65 =>
 some (.inl x65))) else (
 some (.inr (Sum.inr ())))

def humpgen_Ints (N : Nat) (a0 : List Int) (a1 : List Int) : Option (Bool) :=
 bif (!decide ((List.length a0 : Int) = (List.length a1 : Int))) then (
 some false) else (
 Option.bind (iterN (fun s : Int => humpgen_Ints_l1 N a0 a1 s) N 0) fun r45 =>
 match r45 with
 | .inl p72 => (
 some p72)
 | .inr p75 => (
 some true))

def law39_exact (N : Nat) (a0 : List T_Task) (a1 : Int) (a2 : List Int) : Option (Bool) :=
 Option.bind (engine_Assign N a0 a1) fun r1 =>
 Option.bind (r39_Assign N a0 a1) fun r8 =>
 Option.bind (engine_Witness N a0 a1) fun r15 =>
 Option.bind (r39_Witness N a0 a1) fun r22 =>
 Option.bind (engine_Check N a0 a1 a2) fun r29 =>
 Option.bind (r39_Check N a0 a1 a2) fun r35 =>
 Option.bind (humpgen_Ints N r1.1 r8.1) fun r41 =>
 Option.bind (gO (((r41 && decide (r1.2.1 = r8.2.1)) && decide (r1.2.2 = r8.2.2)) && decide (r15.1 = r22.1)) (humpgen_Ints N r15.2.1 r22.2.1)) fun r62 =>
 some (((((((r41 && decide (r1.2.1 = r8.2.1)) && decide (r1.2.2 = r8.2.2)) && decide (r15.1 = r22.1)) && r62) && decide (r15.2.2 = r22.2.2)) && (r29.1 == r35.1)) && decide (r29.2 = r35.2))

def law39_sane (N : Nat) : Option (Bool) :=
 Option.bind (engine_Assign N ([(T_Task.mk 0 10), (T_Task.mk 5 15), (T_Task.mk 10 20)]) 0) fun r4 =>
 Option.bind (engine_Witness N ([(T_Task.mk 0 10), (T_Task.mk 5 15), (T_Task.mk 10 20)]) 1) fun r11 =>
 Option.bind (engine_Check N ([(T_Task.mk 0 10), (T_Task.mk 5 15), (T_Task.mk 10 20)]) 0 r4.1) fun r18 =>
 bif (decide (r4.2.2 = 0) && decide (r4.2.1 = 2)) then (
 Option.bind (humpgen_Ints N r4.1 ([0, 1, 0])) fun r36 =>
 bif ((((decide (r4.2.2 = 0) && decide (r4.2.1 = 2)) && r36) && decide (r11.2.2 = 0)) && decide (r11.1 = 10)) then (
 Option.bind (humpgen_Ints N r11.2.1 ([0, 1, 2])) fun r58 =>
 some (((((((decide (r4.2.2 = 0) && decide (r4.2.1 = 2)) && r36) && decide (r11.2.2 = 0)) && decide (r11.1 = 10)) && r58) && decide (r18.2 = 0)) && r18.1)) else (
 some (((((((decide (r4.2.2 = 0) && decide (r4.2.1 = 2)) && r36) && decide (r11.2.2 = 0)) && decide (r11.1 = 10)) && false) && false) && false))) else (
 some (((((((decide (r4.2.2 = 0) && decide (r4.2.1 = 2)) && false) && false) && false) && false) && false) && false))

def law39_EngineExact_l1 (N : Nat) (a0 : List Int) (a2 : Int) (a3 : List Int) (i370 : Int) (i371 : Int) : Option ((Int × Int) ⊕ (Bool ⊕ Unit)) :=
 bif decide (i370 < 4) then (
 Option.bind (law39_tasks N a0 i371 12) fun r386 =>
 Option.bind (
 bif decide (i370 = 3) then (
 Option.bind (Maker_Pick N a0 r386.1 ([(-1), 0, 5])) fun r433 =>
 Option.bind (Maker_Pick N a0 r433.1 ([0, 5, 10080, 10081])) fun r442 =>
 Option.bind (app 16 r386.2 ([(T_Task.mk r433.2 r442.2)])) fun l451 =>
 some (r442.1, l451)) else (
 some (r386.1, r386.2))) fun j425 =>
 Option.bind (r39_Assign N j425.2 5) fun r462 =>
 Option.bind (
 bif (decide (0 < (List.length r462.1 : Int)) && decide (0 < i370)) then (
 Option.bind (Maker_Next N a0 j425.1 (List.length r462.1 : Int)) fun r501 =>
 Option.bind (Maker_Pick N a0 r501.1 ([0, 1, (-1), 99])) fun r510 =>
 Option.bind (idx r462.1 r501.2) fun x516 =>
 some (r510.1, (List.set r462.1 (Int.toNat r501.2) r510.2))) else (
 some (j425.1, r462.1))) fun j496 =>
 Option.bind (Maker_Pick N a0 j496.1 ([0, 5, 30, (-1), 10080, 10081])) fun r529 =>
 Option.bind (law39_exact N j425.2 r529.2 j496.2) fun r535 =>
 Option.bind (gO ((!(!r535)) && decide ((List.length a3 : Int) < 200)) (law39_exact N j425.2 a2 a3)) fun r549 =>
 bif ((!r535) || (decide ((List.length a3 : Int) < 200) && (!r549))) then (
 some (.inr (Sum.inl false))) else (
 Option.bind (in64 (i370 + 1)) fun x561 =>
 some (.inl (x561, r529.1)))) else (
 some (.inr (Sum.inr ())))

def law39_EngineExact (N : Nat) (a0 : List Int) (a1 : List T_Task) (a2 : Int) (a3 : List Int) : Option (Bool) :=
 Option.bind (humpgen_New N a0) fun r1 =>
 Option.bind (iterN (fun s : Int × Int => law39_EngineExact_l1 N a0 a2 a3 s.1 s.2) N (0, r1)) fun r378 =>
 match r378 with
 | .inl p568 => (
 some p568)
 | .inr p571 => (
 Option.bind (gO (!(decide (100 < (List.length a1 : Int)) || decide (200 < (List.length a3 : Int)))) (law39_exact N a1 a2 a3)) fun r582 =>
 Option.bind (gO ((!(decide (100 < (List.length a1 : Int)) || decide (200 < (List.length a3 : Int)))) && r582) (law39_sane N)) fun r590 =>
 some ((decide (100 < (List.length a1 : Int)) || decide (200 < (List.length a3 : Int))) || (r582 && r590)))

def yardgen_Place (N : Nat) (a0 : Int) (a1 : Int) : Option (Int) :=
 bif decide (a1 < 1) then (
 some 0) else (
 Option.bind (rem64 a0 a1) fun x3 =>
 bif decide (x3 < 0) then (
 Option.bind (in64 (x3 + a1)) fun x8 =>
 some x8) else (
 some x3))

def law39_EngineProves_l1 (N : Nat) (r21 : List Int × Int × Int) (i104 : Int) : Option ((Int) ⊕ (Bool ⊕ Unit)) :=
 bif decide (i104 < (List.length r21.1 : Int)) then (
 Option.bind (idx r21.1 i104) fun x119 =>
 Option.bind (gO (!decide (x119 < 0)) (idx r21.1 i104)) fun x125 =>
 bif (decide (x119 < 0) || decide (r21.2.1 ≤ x125)) then (
 some (.inr (Sum.inl false))) else (
 Option.bind (in64 (i104 + 1)) fun x134 =>
 some (.inl x134))) else (
 some (.inr (Sum.inr ())))

def law39_EngineProves_l2 (N : Nat) (r8 : Int × List T_Task) (r15 : Int) (r34 : Int × List Int × Int) (i328 : Int) : Option ((Int) ⊕ (Bool ⊕ Unit)) :=
 bif decide (i328 < (List.length r34.2.1 : Int)) then (
 Option.bind (gO (decide (0 < i328)) (idx r34.2.1 i328)) fun x350 =>
 Option.bind (gO (decide (0 < i328)) (in64 (i328 - 1))) fun x357 =>
 Option.bind (gO (decide (0 < i328)) (idx r34.2.1 x357)) fun x361 =>
 Option.bind (gO (!(decide (0 < i328) && decide (x350 ≤ x361))) (idx r34.2.1 i328)) fun x370 =>
 Option.bind (gO (!((decide (0 < i328) && decide (x350 ≤ x361)) || decide (x370 < 0))) (idx r34.2.1 i328)) fun x379 =>
 Option.bind (gO (!(((decide (0 < i328) && decide (x350 ≤ x361)) || decide (x370 < 0)) || decide ((List.length r8.2 : Int) ≤ x379))) (idx r34.2.1 i328)) fun x391 =>
 Option.bind (gO (!(((decide (0 < i328) && decide (x350 ≤ x361)) || decide (x370 < 0)) || decide ((List.length r8.2 : Int) ≤ x379))) (idx r8.2 x391)) fun x396 =>
 Option.bind (gO (!((((decide (0 < i328) && decide (x350 ≤ x361)) || decide (x370 < 0)) || decide ((List.length r8.2 : Int) ≤ x379)) || decide (r34.1 < x396.From))) (idx r34.2.1 i328)) fun x408 =>
 Option.bind (gO (!((((decide (0 < i328) && decide (x350 ≤ x361)) || decide (x370 < 0)) || decide ((List.length r8.2 : Int) ≤ x379)) || decide (r34.1 < x396.From))) (idx r8.2 x408)) fun x413 =>
 Option.bind (gO (!((((decide (0 < i328) && decide (x350 ≤ x361)) || decide (x370 < 0)) || decide ((List.length r8.2 : Int) ≤ x379)) || decide (r34.1 < x396.From))) (in64 (x413.To + r15))) fun x420 =>
 bif (((((decide (0 < i328) && decide (x350 ≤ x361)) || decide (x370 < 0)) || decide ((List.length r8.2 : Int) ≤ x379)) || decide (r34.1 < x396.From)) || decide (x420 ≤ r34.1)) then (
 some (.inr (Sum.inl false))) else (
 Option.bind (in64 (i328 + 1)) fun x428 =>
 some (.inl x428))) else (
 some (.inr (Sum.inr ())))

def law39_EngineProves (N : Nat) (a0 : List Int) (a1 : Int) : Option (Bool) :=
 Option.bind (humpgen_New N a0) fun r1 =>
 Option.bind (law39_tasks N a0 r1 30) fun r8 =>
 Option.bind (yardgen_Place N a1 80) fun r15 =>
 Option.bind (engine_Assign N r8.2 r15) fun r21 =>
 Option.bind (engine_Check N r8.2 r15 r21.1) fun r28 =>
 Option.bind (engine_Witness N r8.2 r15) fun r34 =>
 bif ((((((!decide (r21.2.2 = 0)) || (!decide (r28.2 = 0))) || (!decide (r34.2.2 = 0))) || (!r28.1)) || (!decide ((List.length r34.2.1 : Int) = r21.2.1))) || (!decide ((List.length r21.1 : Int) = (List.length r8.2 : Int)))) then (
 some false) else (
 Option.bind (iterN (fun s : Int => law39_EngineProves_l1 N r21 s) N 0) fun r111 =>
 match r111 with
 | .inl p141 => (
 some p141)
 | .inr p144 => (
 Option.bind (iterN (fun s : Int => law39_EngineProves_l2 N r8 r15 r34 s) N 0) fun r335 =>
 match r335 with
 | .inl p435 => (
 some p435)
 | .inr p438 => (
 Option.bind (law39_sane N) fun r441 =>
 some r441)))

def law39_EngineLeast_l5 (N : Nat) (r8 : Int × List T_Task) (r15 : Int) (i739 : Int) (l743 : List Int) (i914 : Int) (i915 : Int) : Option ((Int × Int) ⊕ (Int)) :=
 bif decide (i915 < (List.length l743 : Int)) then (
 Option.bind (idx l743 i915) fun x932 =>
 Option.bind (gO (decide (x932 = i914)) (idx r8.2 i915)) fun x938 =>
 Option.bind (gO (decide (x932 = i914)) (idx r8.2 i739)) fun x945 =>
 Option.bind (gO (decide (x932 = i914)) (r39_Excludes N x938 x945 r15)) fun r951 =>
 bif (decide (x932 = i914) && r951) then (
 Option.bind (in64 (i914 + 1)) fun x960 =>
 Option.bind (in64 ((-1) + 1)) fun x963 =>
 some (.inl (x960, x963))) else (
 Option.bind (in64 (i915 + 1)) fun x966 =>
 some (.inl (i914, x966)))) else (
 some (.inr i914))

def law39_EngineLeast_l4 (N : Nat) (a0 : List Int) (a2 : List Int) (r8 : Int × List T_Task) (r15 : Int) (i739 : Int) (i740 : Int) (l741 : List Int) (l743 : List Int) : Option ((Int × Int × List Int × List Int) ⊕ (List Int × List Int)) :=
 bif decide (i739 < (List.length r8.2 : Int)) then (
 Option.bind (Maker_Next N a0 i740 6) fun r757 =>
 Option.bind (app 8 l741 ([r757.2])) fun l766 =>
 Option.bind (
 bif decide (0 < (List.length a2 : Int)) then (
 Option.bind (rem64 i739 (List.length a2 : Int)) fun x797 =>
 Option.bind (idx a2 x797) fun x800 =>
 Option.bind (yardgen_Place N x800 6) fun r803 =>
 Option.bind (idx l766 i739) fun x809 =>
 some (List.set l766 (Int.toNat i739) r803)) else (
 some l766)) fun j792 =>
 Option.bind (Maker_Next N a0 r757.1 4) fun r819 =>
 Option.bind (iterN (fun s : Int × Int => law39_EngineLeast_l5 N r8 r15 i739 l743 s.1 s.2) N (r819.2, 0)) fun r922 =>
 Option.bind (app 8 l743 ([r922])) fun l977 =>
 Option.bind (in64 (i739 + 1)) fun x983 =>
 some (.inl (x983, r819.1, j792, l977))) else (
 some (.inr (l741, l743)))

def law39_EngineLeast_l18 (N : Nat) (l1759 : List Int) (i1990 : Int) (b2056 : Bool) (i2057 : Int) : Option ((Bool × Int) ⊕ (Bool)) :=
 bif decide (i2057 < i1990) then (
 Option.bind (gO b2056 (idx l1759 i2057)) fun x2077 =>
 Option.bind (gO b2056 (idx l1759 i1990)) fun x2084 =>
 Option.bind (in64 (i2057 + 1)) fun x2090 =>
 some (.inl ((b2056 && (!decide (x2077 = x2084))), x2090))) else (
 some (.inr b2056))

def law39_EngineLeast_l17 (N : Nat) (l1759 : List Int) (i1989 : Int) (i1990 : Int) : Option ((Int × Int) ⊕ (Int)) :=
 bif decide (i1990 < (List.length l1759 : Int)) then (
 Option.bind (iterN (fun s : Bool × Int => law39_EngineLeast_l18 N l1759 i1990 s.1 s.2) N (true, 0)) fun r2064 =>
 bif r2064 then (
 Option.bind (in64 (i1989 + 1)) fun x2100 =>
 Option.bind (in64 (i1990 + 1)) fun x2103 =>
 some (.inl (x2100, x2103))) else (
 Option.bind (in64 (i1990 + 1)) fun x2106 =>
 some (.inl (i1989, x2106)))) else (
 some (.inr i1989))

def law39_EngineLeast_l14 (N : Nat) (r8 : Int × List T_Task) (r15 : Int) (r21 : List Int × Int × Int) (r751 : List Int × List Int) (i1740 : Int) : Option ((Int) ⊕ (Bool ⊕ Unit)) :=
 bif decide (i1740 < 2) then (
 Option.bind (idx ([r751.1, r751.2] : List (List Int)) i1740) fun l1759 =>
 Option.bind (engine_Check N r8.2 r15 l1759) fun r1764 =>
 Option.bind (iterN (fun s : Int × Int => law39_EngineLeast_l17 N l1759 s.1 s.2) N (0, 0)) fun r1997 =>
 bif ((!decide (r1764.2 = 0)) || (r1764.1 && decide (r1997 < r21.2.1))) then (
 some (.inr (Sum.inl false))) else (
 Option.bind (in64 (i1740 + 1)) fun x2124 =>
 some (.inl x2124))) else (
 some (.inr (Sum.inr ())))

def law39_EngineLeast (N : Nat) (a0 : List Int) (a1 : Int) (a2 : List Int) : Option (Bool) :=
 Option.bind (humpgen_New N a0) fun r1 =>
 Option.bind (law39_tasks N a0 r1 9) fun r8 =>
 Option.bind (yardgen_Place N a1 80) fun r15 =>
 Option.bind (engine_Assign N r8.2 r15) fun r21 =>
 bif (!decide (r21.2.2 = 0)) then (
 some false) else (
 Option.bind (iterN (fun s : Int × Int × List Int × List Int => law39_EngineLeast_l4 N a0 a2 r8 r15 s.1 s.2.1 s.2.2.1 s.2.2.2) N (0, r8.1, [], [])) fun r751 =>
 Option.bind (iterN (fun s : Int => law39_EngineLeast_l14 N r8 r15 r21 r751 s) N 0) fun r1747 =>
 match r1747 with
 | .inl p2131 => (
 some p2131)
 | .inr p2134 => (
 Option.bind (engine_Check N r8.2 r15 r751.2) fun r2137 =>
 Option.bind (gO (decide (r2137.2 = 0) && r2137.1) (law39_sane N)) fun r2146 =>
 some ((decide (r2137.2 = 0) && r2137.1) && r2146)))

def law39_EngineTurns (N : Nat) (a0 : List Int) (a1 : Int) (a2 : Int) : Option (Bool) :=
 Option.bind (humpgen_New N a0) fun r1 =>
 Option.bind (law39_tasks N a0 r1 20) fun r8 =>
 Option.bind (yardgen_Place N a1 80) fun r15 =>
 Option.bind (yardgen_Place N a2 80) fun r21 =>
 Option.bind (engine_Assign N r8.2 r15) fun r27 =>
 Option.bind (in64 (r15 + r21)) fun x34 =>
 Option.bind (engine_Assign N r8.2 x34) fun r37 =>
 Option.bind (app 16 [] r8.2) fun l47 =>
 Option.bind (Maker_Next N a0 r8.1 200) fun r53 =>
 Option.bind (app 16 l47 ([(T_Task.mk r53.2 300)])) fun l62 =>
 Option.bind (engine_Assign N l62 r15) fun r68 =>
 Option.bind (engine_Assign N r8.2 10080) fun r75 =>
 Option.bind (gO (((((decide (r27.2.2 = 0) && decide (r37.2.2 = 0)) && decide (r68.2.2 = 0)) && decide (r75.2.2 = 0)) && decide (r27.2.1 ≤ r37.2.1)) && decide (r27.2.1 ≤ r68.2.1)) (in64 (r27.2.1 + 1))) fun x102 =>
 Option.bind (gO (((((((decide (r27.2.2 = 0) && decide (r37.2.2 = 0)) && decide (r68.2.2 = 0)) && decide (r75.2.2 = 0)) && decide (r27.2.1 ≤ r37.2.1)) && decide (r27.2.1 ≤ r68.2.1)) && decide (r68.2.1 ≤ x102)) && decide (r75.2.1 = (List.length r8.2 : Int))) (law39_sane N)) fun r113 =>
 some ((((((((decide (r27.2.2 = 0) && decide (r37.2.2 = 0)) && decide (r68.2.2 = 0)) && decide (r75.2.2 = 0)) && decide (r27.2.1 ≤ r37.2.1)) && decide (r27.2.1 ≤ r68.2.1)) && decide (r68.2.1 ≤ x102)) && decide (r75.2.1 = (List.length r8.2 : Int))) && r113)

end Go.Gv
