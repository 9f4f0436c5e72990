/- Plain functions that mirror the program, written by a program of mine (gowalk.py). -/
import Derived.Test.YtlpkbkbjohhleaaPv
namespace Go.Gv
set_option linter.unusedVariables false

structure T_Maker where
  l : List Int
  n : Int
deriving DecidableEq, Inhabited

structure T_Item where
  Train : Int
  Block : Int
  Round : Int
  Length : Int
deriving DecidableEq, Inhabited

structure T_Job where
  Items : List T_Item
  Weight : Int
deriving DecidableEq, Inhabited

structure T_Scheme where
  Weight : Int
  Steps : Int
  Moves : Int
  Pushes : Int
deriving DecidableEq, Inhabited

structure T_Plan where
  Steps : Int
  Codes : List Int
deriving DecidableEq, Inhabited

structure T_machine where
  j : T_Job
  p : T_Plan
  steps : List (List Int)
  trains : List (List Int)
  moves : Int
  pushes : Int
deriving DecidableEq, Inhabited

structure T_Pushed where
  Length : Int
  Axles : Int
  Mass : Int
  Gentle : Bool
  Track : Int
deriving DecidableEq, Inhabited

structure T_CutRules where
  Wagons : Int
  Axles : Int
  Length : Int
deriving DecidableEq, Inhabited

structure T_Cut where
  From : Int
  To : Int
  Track : Int
  Engine : Bool
deriving DecidableEq, Inhabited

noncomputable def humpgen_New (N : Nat) (a0 : List Int) : Option (Int) :=
 some 0

noncomputable def Maker_Next (N : Nat) (a0_l : List Int) (a0_n : Int) (a1 : Int) : Option (Int × Int) :=
 Option.bind (
 bif decide (0 < (List.length a0_l : Int)) then (
 Option.bind (rem64 a0_n (List.length a0_l : Int)) fun x114 =>
 Option.bind (idx a0_l x114) fun x117 =>
 Option.bind (quo64 a0_n (List.length a0_l : Int)) fun x120 =>
 some (wr64 (x117 + (wr64 (x120 * 7919))))) else (
 some 0)) fun j96 =>
 Option.bind (in64 (a0_n + 1)) fun x128 =>
 Option.bind (rem64 j96 a1) fun x133 =>
 bif decide (x133 < 0) then (
 Option.bind (in64 (x133 + a1)) fun x138 =>
 some (x128, x138)) else (
 some (x128, x133))

noncomputable def Maker_Pick (N : Nat) (a0_l : List Int) (a0_n : Int) (a1 : List Int) : Option (Int × Int) :=
 Option.bind (Maker_Next N a0_l a0_n (List.length a1 : Int)) fun r10 =>
 Option.bind (idx a1 r10.2) fun x16 =>
 some (r10.1, x16)

noncomputable def Maker_Items_l1 (N : Nat) (a0_l : List Int) (r371 : Int × Int) (x383 : Int) (x392 : Int) (i645 : Int) (i646 : Int) (i647 : Int) (l648 : List T_Item) : Option ((Int × Int × Int × List T_Item) ⊕ (Int × List T_Item)) :=
 bif decide (0 < i646) then (
 Option.bind (gD (decide (r371.2 = 0)) (i647, default) (Maker_Next N a0_l i647 4)) fun r664 =>
 Option.bind (
 bif (decide (r371.2 = 0) && decide (r664.2 = 0)) then (
 Option.bind (Maker_Next N a0_l r664.1 3) fun r689 =>
 Option.bind (in64 (i645 + r689.2)) fun x695 =>
 some ((min x695 4), r689.1)) else (
 some (i645, r664.1))) fun j684 =>
 Option.bind (Maker_Next N a0_l j684.2 x383) fun r703 =>
 Option.bind (Maker_Next N a0_l r703.1 x392) fun r709 =>
 Option.bind (Maker_Pick N a0_l r709.1 ([80, 142, 199, 262])) fun r718 =>
 Option.bind (app 32 l648 ([(T_Item.mk r703.2 r709.2 j684.1 r718.2)])) fun l727 =>
 Option.bind (in64 (i646 - 1)) fun x733 =>
 some (.inl (j684.1, x733, r718.1, l727))) else (
 some (.inr (i647, l648)))

noncomputable def Maker_Items (N : Nat) (a0_l : List Int) (a0_n : Int) (a1 : Int) : Option (Int × List T_Item) :=
 Option.bind (Maker_Next N a0_l a0_n 4) fun r371 =>
 Option.bind (Maker_Next N a0_l r371.1 3) fun r377 =>
 Option.bind (in64 (1 + r377.2)) fun x383 =>
 Option.bind (Maker_Next N a0_l r377.1 6) fun r386 =>
 Option.bind (in64 (1 + r386.2)) fun x392 =>
 Option.bind (in64 (a1 + 1)) fun x395 =>
 Option.bind (Maker_Next N a0_l r386.1 x395) fun r398 =>
 Option.bind (iterN (fun s : Int × Int × Int × List T_Item => Maker_Items_l1 N a0_l r371 x383 x392 s.1 s.2.1 s.2.2.1 s.2.2.2) N (0, r398.2, r398.1, [])) fun r656 =>
 some (r656.1, r656.2)

noncomputable def Maker_Job (N : Nat) (a0_l : List Int) (a0_n : Int) (a1 : Int) : Option (Int × List T_Item × Int) :=
 Option.bind (Maker_Items N a0_l a0_n a1) fun r25 =>
 Option.bind (Maker_Pick N a0_l r25.1 ([0, 1, 2, 3, 12, 12, 12])) fun r35 =>
 some (r35.1, r25.2, r35.2)

noncomputable def job_in (N : Nat) (a0 : Int) (a1 : Int) (a2 : Int) : Option (Bool) :=
 some (decide (a1 ≤ a0) && decide (a0 ≤ a2))

noncomputable def job_Valid_l1 (N : Nat) (a0_Items : List T_Item) (i203 : Int) : Option ((Int) ⊕ (Int ⊕ Unit)) :=
 bif decide (i203 < (List.length a0_Items : Int)) then (
 Option.bind (idx a0_Items i203) fun x218 =>
 Option.bind (job_in N x218.Train 0 15) fun r226 =>
 Option.bind (gO (!(!r226)) (job_in N x218.Block 0 31)) fun r235 =>
 Option.bind (gO (!((!r226) || (!r235))) (job_in N x218.Round 0 12)) fun r246 =>
 Option.bind (gO (!(((!r226) || (!r235)) || (!r246))) (job_in N x218.Length 1 400)) fun r257 =>
 bif ((((!r226) || (!r235)) || (!r246)) || (!r257)) then (
 some (.inr (Sum.inl 2))) else (
 Option.bind (gO (decide (0 < i203)) (in64 (i203 - 1))) fun x294 =>
 Option.bind (gO (decide (0 < i203)) (idx a0_Items x294)) fun x298 =>
 bif (decide (0 < i203) && decide (x218.Round < x298.Round)) then (
 some (.inr (Sum.inl 12))) else (
 Option.bind (in64 (i203 + 1)) fun x307 =>
 some (.inl x307)))) else (
 some (.inr (Sum.inr ())))

noncomputable def job_Valid (N : Nat) (a0_Items : List T_Item) (a0_Weight : Int) : Option (Int) :=
 bif decide (96 < (List.length a0_Items : Int)) then (
 some 3) else (
 Option.bind (job_in N a0_Weight 0 12) fun r6 =>
 bif (!r6) then (
 some 2) else (
 Option.bind (iterN (fun s : Int => job_Valid_l1 N a0_Items s) N 0) fun r210 =>
 match r210 with
 | .inl p314 => (
 some p314)
 | .inr p317 => (
 some 0)))

noncomputable def leastcode_relations_l4 (N : Nat) (a0_Items : List T_Item) (i1218 : Int) (x1252 : List Int) (i1628 : Int) (l1629 : List (List Int)) : Option ((Int × List (List Int)) ⊕ (List (List Int))) :=
 bif decide (i1628 < (List.length x1252 : Int)) then (
 Option.bind (
 Option.bind (idx a0_Items i1218) fun x1755 =>
 Option.bind (idx a0_Items i1628) fun x1758 =>
 some (x1755.Train, x1755.Block, x1755.Round, x1755.Length, x1758.Train, x1758.Block, x1758.Round, x1758.Length)) fun j1716 =>
 bif ((!decide (j1716.1 = j1716.2.2.2.2.1)) || decide (j1716.2.2.2.2.2.1 ≤ j1716.2.1)) then (
 Option.bind (in64 (i1628 + 1)) fun x1794 =>
 some (.inl (x1794, l1629))) else (
 bif decide (i1628 < i1218) then (
 Option.bind (idx l1629 i1218) fun x1799 =>
 Option.bind (idx x1799 i1628) fun x1804 =>
 Option.bind (in64 (i1628 + 1)) fun x1810 =>
 some (.inl (x1810, (List.set l1629 (Int.toNat i1218) (List.set x1799 (Int.toNat i1628) 2))))) else (
 Option.bind (idx l1629 i1218) fun x1813 =>
 Option.bind (idx x1813 i1628) fun x1818 =>
 Option.bind (in64 (i1628 + 1)) fun x1824 =>
 some (.inl (x1824, (List.set l1629 (Int.toNat i1218) (List.set x1813 (Int.toNat i1628) 1))))))) else (
 some (.inr l1629))

noncomputable def leastcode_relations_l3 (N : Nat) (a0_Items : List T_Item) (l4 : List (List Int)) (i1218 : Int) (l1219 : List (List Int)) : Option ((Int × List (List Int)) ⊕ (List (List Int))) :=
 bif decide (i1218 < (List.length l4 : Int)) then (
 Option.bind (mkL 8 (List.length a0_Items : Int) 0) fun l1234 =>
 Option.bind (idx l1219 i1218) fun x1240 =>
 Option.bind (idx (List.set l1219 (Int.toNat i1218) l1234) i1218) fun x1252 =>
 Option.bind (iterN (fun s : Int × List (List Int) => leastcode_relations_l4 N a0_Items i1218 x1252 s.1 s.2) N (0, (List.set l1219 (Int.toNat i1218) l1234))) fun r1638 =>
 Option.bind (in64 (i1218 + 1)) fun x1832 =>
 some (.inl (x1832, r1638))) else (
 some (.inr l1219))

noncomputable def leastcode_relations (N : Nat) (a0_Items : List T_Item) (a0_Weight : Int) : Option (List (List Int)) :=
 Option.bind (mkL 24 (List.length a0_Items : Int) ([] : List Int)) fun l4 =>
 Option.bind (iterN (fun s : Int × List (List Int) => leastcode_relations_l3 N a0_Items l4 s.1 s.2) N (0, l4)) fun r1228 =>
 some r1228

noncomputable def leastcode_solve_1 (N : Nat) (a0 : Int) (a1 : Int) (a2_Items : List T_Item) (a2_Weight : Int) : Option (Int) :=
 Option.bind (idx a2_Items a0) fun x14 =>
 Option.bind (idx a2_Items a1) fun x17 =>
 Option.bind (in64 (x14.Block - x17.Block)) fun x20 =>
 some x20

noncomputable def code_in (N : Nat) (a0 : Int) (a1 : Int) (a2 : Int) : Option (Bool) :=
 some (decide (a1 ≤ a0) && decide (a0 ≤ a2))

noncomputable def code_form (N : Nat) (a0 : Int) (a1 : Int) : Option (Bool) :=
 Option.bind (code_in N a0 0 12) fun r1 =>
 Option.bind (gO r1 (code_in N a1 0 12)) fun r9 =>
 some (r1 && r9)

noncomputable def code_missed (N : Nat) (a0 : Int) : Option (Int) :=
 Option.bind (shl_i64 1 a0) fun x1 =>
 Option.bind (in64 (x1 - 1)) fun x4 =>
 some x4

noncomputable def code_ones_l1 (N : Nat) (i26 : Int) (i27 : Int) : Option ((Int × Int) ⊕ (Int)) :=
 bif (!decide (i26 = 0)) then (
 Option.bind (in64 (i27 + 1)) fun x40 =>
 Option.bind (in64 (i26 - 1)) fun x43 =>
 Option.bind (andN 63 i26 x43) fun x46 =>
 some (.inl (x46, x40))) else (
 some (.inr i27))

noncomputable def code_ones (N : Nat) (a0 : Int) : Option (Int) :=
 Option.bind (iterN (fun s : Int × Int => code_ones_l1 N s.1 s.2) N (a0, 0)) fun r34 =>
 some r34

noncomputable def code_Next_l1 (N : Nat) (a2 : Int) (i97 : Int) : Option ((Int) ⊕ ((Int × Int) ⊕ Int)) :=
 Option.bind (code_ones N i97) fun r110 =>
 bif decide (a2 < r110) then (
 Option.bind (in64 (-i97)) fun x118 =>
 Option.bind (in64 (i97 + (andI i97 x118))) fun x121 =>
 bif decide (4096 ≤ x121) then (
 some (.inr (Sum.inl (0, 15)))) else (
 some (.inl x121))) else (
 some (.inr (Sum.inr i97)))

noncomputable def code_Next (N : Nat) (a0 : Int) (a1 : Int) (a2 : Int) : Option (Int × Int) :=
 Option.bind (code_form N a1 a2) fun r1 =>
 bif ((!r1) || decide (a0 < 0)) then (
 some (0, 2)) else (
 bif decide (4096 ≤ a0) then (
 some (0, 15)) else (
 Option.bind (code_missed N a1) fun r14 =>
 Option.bind (
 bif decide (r14 < a0) then (
 Option.bind (in64 (a0 - r14)) fun x43 =>
 Option.bind (shl_i64 1 a1) fun x46 =>
 Option.bind (in64 (x43 + x46)) fun x49 =>
 Option.bind (in64 (x49 - 1)) fun x52 =>
 Option.bind (shr_i64 x52 a1) fun x55 =>
 some x55) else (
 some 0)) fun j38 =>
 Option.bind (iterN (fun s : Int => code_Next_l1 N a2 s) N j38) fun r104 =>
 match r104 with
 | .inl p130 => (
 some p130)
 | .inr p133 => (
 Option.bind (shl_i64 p133 a1) fun x149 =>
 Option.bind (orN 63 x149 r14) fun x155 =>
 bif decide (x155 < 4096) then (
 some (x155, 0)) else (
 some (0, 15)))))

noncomputable def leastcode_solve_l1 (N : Nat) (l4 : List Int) (i33 : Int) (l34 : List Int) : Option ((Int × List Int) ⊕ (List Int)) :=
 bif decide (i33 < (List.length l4 : Int)) then (
 Option.bind (idx l34 i33) fun x47 =>
 Option.bind (in64 (i33 + 1)) fun x52 =>
 some (.inl (x52, (List.set l34 (Int.toNat i33) i33)))) else (
 some (.inr l34))

noncomputable def leastcode_solve_l5 (N : Nat) (a0_Items : List T_Item) (a1 : List (List Int)) (l511 : List Int) (x526 : Int) (i632 : Int) (l633 : List Int) : Option ((Int × List Int) ⊕ (List Int)) :=
 bif decide (i632 < (List.length a0_Items : Int)) then (
 Option.bind (idx a1 i632) fun x646 =>
 Option.bind (idx x646 x526) fun x651 =>
 bif decide (0 < x651) then (
 Option.bind (idx l633 x526) fun x674 =>
 Option.bind (idx l511 i632) fun x677 =>
 Option.bind (in64 (x677 + x651)) fun x680 =>
 Option.bind (in64 (x680 - 1)) fun x683 =>
 Option.bind (in64 (i632 + 1)) fun x688 =>
 some (.inl (x688, (List.set l633 (Int.toNat x526) (max x674 x683))))) else (
 Option.bind (in64 (i632 + 1)) fun x691 =>
 some (.inl (x691, l633)))) else (
 some (.inr l633))

noncomputable def leastcode_solve_l4 (N : Nat) (a0_Items : List T_Item) (a0_Weight : Int) (a1 : List (List Int)) (l60 : List Int) (i509 : Int) (l510 : List Int) (l511 : List Int) : Option ((Int × List Int × List Int) ⊕ ((List Int × List Int × Int) ⊕ (List Int × List Int))) :=
 bif decide (i509 < (List.length l60 : Int)) then (
 Option.bind (idx l60 i509) fun x526 =>
 Option.bind (iterN (fun s : Int × List Int => leastcode_solve_l5 N a0_Items a1 l511 x526 s.1 s.2) N (0, l510)) fun r640 =>
 Option.bind (idx r640 x526) fun x715 =>
 Option.bind (idx a0_Items x526) fun x718 =>
 Option.bind (code_Next N x715 x718.Round a0_Weight) fun r721 =>
 bif (!decide (r721.2 = 0)) then (
 some (.inr (Sum.inl ([], [], r721.2)))) else (
 Option.bind (idx l511 x526) fun x731 =>
 Option.bind (in64 (i509 + 1)) fun x736 =>
 some (.inl (x736, r640, (List.set l511 (Int.toNat x526) r721.1))))) else (
 some (.inr (Sum.inr (l510, l511))))

noncomputable def leastcode_solve (N : Nat) (a0_Items : List T_Item) (a0_Weight : Int) (a1 : List (List Int)) : Option (List Int × List Int × Int) :=
 Option.bind (mkL 8 (List.length a0_Items : Int) 0) fun l4 =>
 Option.bind (iterN (fun s : Int × List Int => leastcode_solve_l1 N l4 s.1 s.2) N (0, l4)) fun r41 =>
 Option.bind (sortFn (fun x y => leastcode_solve_1 N x y a0_Items a0_Weight) r41) fun l60 =>
 Option.bind (mkL 8 (List.length l60 : Int) 0) fun l66 =>
 Option.bind (mkL 8 (List.length l60 : Int) 0) fun l72 =>
 Option.bind (iterN (fun s : Int × List Int × List Int => leastcode_solve_l4 N a0_Items a0_Weight a1 l60 s.1 s.2.1 s.2.2) N (0, l66, l72)) fun r518 =>
 match r518 with
 | .inl p743 => (
 some p743)
 | .inr p746 => (
 some (p746.1, p746.2, 0))

noncomputable def code_Steps_l1 (N : Nat) (i28 : Int) (i29 : Int) : Option ((Int × Int) ⊕ (Int)) :=
 bif decide (0 < i28) then (
 Option.bind (in64 (i29 + 1)) fun x42 =>
 Option.bind (shr_i64 i28 1) fun x45 =>
 some (.inl (x45, x42))) else (
 some (.inr i29))

noncomputable def code_Steps (N : Nat) (a0 : Int) : Option (Int × Int) :=
 Option.bind (code_in N a0 0 4095) fun r1 =>
 bif (!r1) then (
 some (0, 2)) else (
 Option.bind (iterN (fun s : Int × Int => code_Steps_l1 N s.1 s.2) N (a0, 0)) fun r36 =>
 some (r36, 0))

noncomputable def leastcode_Least_l1 (N : Nat) (r62 : List Int × List Int × Int) (i115 : Int) (i116 : Int) : Option ((Int × Int) ⊕ (Int)) :=
 bif decide (i115 < (List.length r62.2.1 : Int)) then (
 Option.bind (idx r62.2.1 i115) fun x129 =>
 Option.bind (code_Steps N x129) fun r132 =>
 Option.bind (in64 (i115 + 1)) fun x140 =>
 some (.inl (x140, (max i116 r132.1)))) else (
 some (.inr i116))

noncomputable def leastcode_Least (N : Nat) (a0_Items : List T_Item) (a0_Weight : Int) : Option (Int × List Int × Int) :=
 Option.bind (job_Valid N a0_Items a0_Weight) fun r7 =>
 bif (!decide (r7 = 0)) then (
 some (0, [], r7)) else (
 Option.bind (leastcode_relations N a0_Items a0_Weight) fun r54 =>
 Option.bind (leastcode_solve N a0_Items a0_Weight r54) fun r62 =>
 bif (!decide (r62.2.2 = 0)) then (
 some (0, [], r62.2.2)) else (
 Option.bind (iterN (fun s : Int × Int => leastcode_Least_l1 N r62 s.1 s.2) N (0, 0)) fun r123 =>
 some (r123, r62.2.1, 0)))

noncomputable def g_slices_Max_int_int_l1 (N : Nat) (a0 : List Int) (i35 : Int) (i36 : Int) : Option ((Int × Int) ⊕ (Int)) :=
 bif decide (i36 < (List.length a0 : Int)) then (
 Option.bind (idx a0 i36) fun x49 =>
 Option.bind (in64 (i36 + 1)) fun x52 =>
 some (.inl ((max i35 x49), x52))) else (
 some (.inr i35))

noncomputable def g_slices_Max_int_int (N : Nat) (a0 : List Int) : Option (Int) :=
 Option.bind (
 bif decide ((List.length a0 : Int) < 1) then (
 none) else (
 some ())) fun j3 =>
 Option.bind (idx a0 0) fun x13 =>
 Option.bind (iterN (fun s : Int × Int => g_slices_Max_int_int_l1 N a0 s.1 s.2) N (x13, 1)) fun r43 =>
 some r43

noncomputable def g_slices_Index_int_int_l1 (N : Nat) (a0 : List Int) (a1 : Int) (i22 : Int) : Option ((Int) ⊕ (Int ⊕ Unit)) :=
 bif decide (i22 < (List.length a0 : Int)) then (
 Option.bind (idx a0 i22) fun x37 =>
 bif decide (a1 = x37) then (
 some (.inr (Sum.inl i22))) else (
 Option.bind (in64 (i22 + 1)) fun x42 =>
 some (.inl x42))) else (
 some (.inr (Sum.inr ())))

noncomputable def g_slices_Index_int_int (N : Nat) (a0 : List Int) (a1 : Int) : Option (Int) :=
 Option.bind (iterN (fun s : Int => g_slices_Index_int_int_l1 N a0 a1 s) N 0) fun r29 =>
 match r29 with
 | .inl p49 => (
 some p49)
 | .inr p52 => (
 some (-1))

noncomputable def g_slices_Reverse_int_int_l1 (N : Nat) (i84 : Int) (i85 : Int) (l86 : List Int) : Option ((Int × Int × List Int) ⊕ (List Int)) :=
 bif decide (i84 < i85) then (
 Option.bind (idx l86 i85) fun x116 =>
 Option.bind (idx l86 i84) fun x119 =>
 Option.bind (idx (List.set l86 (Int.toNat i84) x116) i85) fun x124 =>
 Option.bind (in64 (i84 + 1)) fun x129 =>
 Option.bind (in64 (i85 - 1)) fun x132 =>
 some (.inl (x129, x132, (List.set (List.set l86 (Int.toNat i84) x116) (Int.toNat i85) x119)))) else (
 some (.inr l86))

noncomputable def g_slices_Reverse_int_int (N : Nat) (a0 : List Int) : Option (List Int) :=
 Option.bind (in64 ((List.length a0 : Int) - 1)) fun x1 =>
 Option.bind (iterN (fun s : Int × Int × List Int => g_slices_Reverse_int_int_l1 N s.1 s.2.1 s.2.2) N (0, x1, a0)) fun r93 =>
 some r93

noncomputable def leastcode_Witness_l4 (N : Nat) (r13 : List (List Int)) (r21 : List Int × List Int × Int) (i533 : Int) (i691 : Int) : Option ((Int) ⊕ (Int)) :=
 bif decide (i691 < (List.length r21.2.1 : Int)) then (
 Option.bind (idx r13 i691) fun x704 =>
 Option.bind (idx x704 i533) fun x709 =>
 Option.bind (gO (decide (0 < x709)) (idx r21.2.1 i691)) fun x744 =>
 Option.bind (gO (decide (0 < x709)) (in64 (x744 + x709))) fun x750 =>
 Option.bind (gO (decide (0 < x709)) (in64 (x750 - 1))) fun x754 =>
 Option.bind (gO (decide (0 < x709)) (idx r21.1 i533)) fun x760 =>
 bif (decide (0 < x709) && decide (x754 = x760)) then (
 some (.inr i691)) else (
 Option.bind (in64 (i691 + 1)) fun x768 =>
 some (.inl x768))) else (
 some (.inr i533))

noncomputable def leastcode_Witness_l3 (N : Nat) (r13 : List (List Int)) (r21 : List Int × List Int × Int) (i533 : Int) (l534 : List Int) : Option ((Int × List Int) ⊕ (List Int)) :=
 Option.bind (idx r21.1 i533) fun x546 =>
 bif decide (0 < x546) then (
 Option.bind (iterN (fun s : Int => leastcode_Witness_l4 N r13 r21 i533 s) N 0) fun r698 =>
 Option.bind (app 8 l534 ([r698])) fun l779 =>
 some (.inl (r698, l779))) else (
 some (.inr l534))

noncomputable def leastcode_Witness (N : Nat) (a0_Items : List T_Item) (a0_Weight : Int) : Option (List Int × Int) :=
 Option.bind (job_Valid N a0_Items a0_Weight) fun r4 =>
 bif (!decide (r4 = 0)) then (
 some ([], r4)) else (
 Option.bind (leastcode_relations N a0_Items a0_Weight) fun r13 =>
 Option.bind (leastcode_solve N a0_Items a0_Weight r13) fun r21 =>
 bif (!decide (r21.2.2 = 0)) then (
 some ([], r21.2.2)) else (
 bif decide ((List.length r21.2.1 : Int) = 0) then (
 some ([], 0)) else (
 Option.bind (g_slices_Max_int_int N r21.2.1) fun r35 =>
 Option.bind (g_slices_Index_int_int N r21.2.1 r35) fun r41 =>
 Option.bind (iterN (fun s : Int × List Int => leastcode_Witness_l3 N r13 r21 s.1 s.2) N (r41, [r41])) fun r542 =>
 Option.bind (g_slices_Reverse_int_int N r542) fun r790 =>
 some (r790, 0))))

noncomputable def certificate_Make (N : Nat) (a0_Items : List T_Item) (a0_Weight : Int) : Option (Int × List Int × List Int × Int) :=
 Option.bind (leastcode_Least N a0_Items a0_Weight) fun r7 =>
 bif (!decide (r7.2.2 = 0)) then (
 some (0, [], [], r7.2.2)) else (
 Option.bind (leastcode_Witness N a0_Items a0_Weight) fun r25 =>
 bif (!decide (r25.2 = 0)) then (
 some (0, [], [], r25.2)) else (
 some (r7.1, r7.2.1, r25.1, 0)))

noncomputable def code_Is (N : Nat) (a0 : Int) (a1 : Int) (a2 : Int) : Option (Bool) :=
 Option.bind (code_form N a1 a2) fun r1 =>
 Option.bind (gO r1 (code_in N a0 0 4095)) fun r9 =>
 Option.bind (gO (r1 && r9) (code_missed N a1)) fun r19 =>
 Option.bind (gO (r1 && r9) (andN 63 a0 r19)) fun x26 =>
 Option.bind (gO (r1 && r9) (code_missed N a1)) fun r31 =>
 Option.bind (gO ((r1 && r9) && decide (x26 = r31)) (shr_i64 a0 a1)) fun x42 =>
 Option.bind (gO ((r1 && r9) && decide (x26 = r31)) (code_ones N x42)) fun r46 =>
 some (((r1 && r9) && decide (x26 = r31)) && decide (r46 ≤ a2))

noncomputable def rollin_Valid_l1 (N : Nat) (a0_Items : List T_Item) (a0_Weight : Int) (a1_Steps : Int) (a1_Codes : List Int) (i166 : Int) : Option ((Int) ⊕ (Int ⊕ Unit)) :=
 bif decide (i166 < (List.length a1_Codes : Int)) then (
 Option.bind (idx a1_Codes i166) fun x181 =>
 Option.bind (idx a0_Items i166) fun x224 =>
 Option.bind (code_Is N x181 x224.Round a0_Weight) fun r227 =>
 Option.bind (gO (!(!r227)) (shr_i64 x181 a1_Steps)) fun x237 =>
 bif ((!r227) || (!decide (x237 = 0))) then (
 some (.inr (Sum.inl 1))) else (
 Option.bind (in64 (i166 + 1)) fun x244 =>
 some (.inl x244))) else (
 some (.inr (Sum.inr ())))

noncomputable def rollin_Valid (N : Nat) (a0_Items : List T_Item) (a0_Weight : Int) (a1_Steps : Int) (a1_Codes : List Int) : Option (Int) :=
 Option.bind (job_Valid N a0_Items a0_Weight) fun r7 =>
 bif (!decide (r7 = 0)) then (
 some r7) else (
 bif ((decide (a1_Steps < 0) || decide (12 < a1_Steps)) || (!decide ((List.length a1_Codes : Int) = (List.length a0_Items : Int)))) then (
 some 1) else (
 Option.bind (iterN (fun s : Int => rollin_Valid_l1 N a0_Items a0_Weight a1_Steps a1_Codes s) N 0) fun r173 =>
 match r173 with
 | .inl p251 => (
 some p251)
 | .inr p254 => (
 some 0)))

noncomputable def rollin_start_l5 (N : Nat) (x955 : T_Item) (l1017 : List (List Int)) : Option ((List (List Int)) ⊕ (List (List Int))) :=
 bif decide ((List.length l1017 : Int) ≤ x955.Train) then (
 Option.bind (app 24 l1017 ([[]])) fun l1042 =>
 some (.inl l1042)) else (
 some (.inr l1017))

noncomputable def rollin_start_l4 (N : Nat) (a0_Items : List T_Item) (i939 : Int) (l940 : List (List Int)) : Option ((Int × List (List Int)) ⊕ (List (List Int))) :=
 bif decide (i939 < (List.length a0_Items : Int)) then (
 Option.bind (idx a0_Items i939) fun x955 =>
 Option.bind (iterN (fun s : List (List Int) => rollin_start_l5 N x955 s) N l940) fun r1026 =>
 Option.bind (in64 (i939 + 1)) fun x1059 =>
 some (.inl (x1059, r1026))) else (
 some (.inr l940))

noncomputable def rollin_start (N : Nat) (a0_Items : List T_Item) (a0_Weight : Int) (a1_Steps : Int) (a1_Codes : List Int) : Option (Int × Int × List (List Int) × List (List Int) × Int × Int) :=
 Option.bind (mkL 24 a1_Steps ([] : List Int)) fun l564 =>
 Option.bind (iterN (fun s : Int × List (List Int) => rollin_start_l4 N a0_Items s.1 s.2) N (0, [])) fun r949 =>
 some (a0_Weight, a1_Steps, l564, r949, 0, 0)

noncomputable def machine_push_l1 (N : Nat) (a0_p_Steps : Int) (a0_p_Codes : List Int) (a0_steps : List (List Int)) (a0_trains : List (List Int)) (a1 : Int) (x397 : Int) (i593 : Int) : Option ((Int) ⊕ ((List (List Int) × List (List Int) × Int) ⊕ Unit)) :=
 bif decide (i593 < a0_p_Steps) then (
 Option.bind (idx a0_p_Codes a1) fun x608 =>
 Option.bind (shr_i64 x608 i593) fun x611 =>
 Option.bind (andN 63 x611 1) fun x614 =>
 bif decide (x614 = 1) then (
 Option.bind (idx a0_steps i593) fun x673 =>
 Option.bind (app 8 x673 ([a1])) fun l683 =>
 some (.inr (Sum.inl ((List.set a0_steps (Int.toNat i593) l683), a0_trains, x397)))) else (
 Option.bind (in64 (i593 + 1)) fun x698 =>
 some (.inl x698))) else (
 some (.inr (Sum.inr ())))

noncomputable def machine_push (N : Nat) (a0_j_Items : List T_Item) (a0_j_Weight : Int) (a0_p_Steps : Int) (a0_p_Codes : List Int) (a0_steps : List (List Int)) (a0_trains : List (List Int)) (a0_moves : Int) (a0_pushes : Int) (a1 : Int) (a2 : Int) : Option (List (List Int) × List (List Int) × Int) :=
 Option.bind (in64 (a0_moves + 1)) fun x397 =>
 Option.bind (iterN (fun s : Int => machine_push_l1 N a0_p_Steps a0_p_Codes a0_steps a0_trains a1 x397 s) N a2) fun r600 =>
 match r600 with
 | .inl p705 => (
 some p705)
 | .inr p708 => (
 Option.bind (idx a0_j_Items a1) fun x711 =>
 Option.bind (idx a0_trains x711.Train) fun x768 =>
 Option.bind (app 8 x768 ([a1])) fun l778 =>
 some (a0_steps, (List.set a0_trains (Int.toNat x711.Train) l778), x397))

noncomputable def machine_at_l2 (N : Nat) (a0_j_Items : List T_Item) (a0_j_Weight : Int) (a0_p_Steps : Int) (a0_p_Codes : List Int) (a0_pushes : Int) (a1 : Int) (x511 : List Int) (i580 : Int) (l581 : List (List Int)) (l584 : List (List Int)) (i587 : Int) : Option ((Int × List (List Int) × List (List Int) × Int) ⊕ (List (List Int) × List (List Int) × Int)) :=
 bif decide (i580 < (List.length x511 : Int)) then (
 Option.bind (idx x511 i580) fun x600 =>
 Option.bind (machine_push N a0_j_Items a0_j_Weight a0_p_Steps a0_p_Codes l581 l584 i587 a0_pushes x600 a1) fun r605 =>
 Option.bind (in64 (i580 + 1)) fun x614 =>
 some (.inl (x614, r605.1, r605.2.1, r605.2.2))) else (
 some (.inr (l581, l584, i587)))

noncomputable def machine_at_l3 (N : Nat) (a0_j_Items : List T_Item) (a0_j_Weight : Int) (a0_p_Steps : Int) (a0_p_Codes : List Int) (a0_pushes : Int) (a1 : Int) (i700 : Int) (l701 : List (List Int)) (l704 : List (List Int)) (i707 : Int) : Option ((Int × List (List Int) × List (List Int) × Int) ⊕ (List (List Int) × List (List Int) × Int)) :=
 bif decide (i700 < (List.length a0_j_Items : Int)) then (
 Option.bind (idx a0_j_Items i700) fun x720 =>
 bif decide (x720.Round = a1) then (
 Option.bind (machine_push N a0_j_Items a0_j_Weight a0_p_Steps a0_p_Codes l701 l704 i707 a0_pushes i700 a1) fun r732 =>
 Option.bind (in64 (i700 + 1)) fun x741 =>
 some (.inl (x741, r732.1, r732.2.1, r732.2.2))) else (
 Option.bind (in64 (i700 + 1)) fun x744 =>
 some (.inl (x744, l701, l704, i707)))) else (
 some (.inr (l701, l704, i707)))

noncomputable def machine_at (N : Nat) (a0_j_Items : List T_Item) (a0_j_Weight : Int) (a0_p_Steps : Int) (a0_p_Codes : List Int) (a0_steps : List (List Int)) (a0_trains : List (List Int)) (a0_moves : Int) (a0_pushes : Int) (a1 : Int) : Option (List (List Int) × List (List Int) × Int × Int) :=
 Option.bind (
 bif decide (0 < a1) then (
 Option.bind (in64 (a1 - 1)) fun x508 =>
 Option.bind (idx a0_steps x508) fun x511 =>
 Option.bind (iterN (fun s : Int × List (List Int) × List (List Int) × Int => machine_at_l2 N a0_j_Items a0_j_Weight a0_p_Steps a0_p_Codes a0_pushes a1 x511 s.1 s.2.1 s.2.2.1 s.2.2.2) N (0, (List.set a0_steps (Int.toNat x508) []), a0_trains, a0_moves)) fun r594 =>
 some (r594.1, r594.2.1, r594.2.2)) else (
 some (a0_steps, a0_trains, a0_moves))) fun j503 =>
 Option.bind (iterN (fun s : Int × List (List Int) × List (List Int) × Int => machine_at_l3 N a0_j_Items a0_j_Weight a0_p_Steps a0_p_Codes a0_pushes a1 s.1 s.2.1 s.2.2.1 s.2.2.2) N (0, j503.1, j503.2.1, j503.2.2)) fun r714 =>
 bif decide (a0_moves < r714.2.2) then (
 Option.bind (in64 (a0_pushes + 1)) fun x754 =>
 some (r714.1, r714.2.1, r714.2.2, x754)) else (
 some (r714.1, r714.2.1, r714.2.2, a0_pushes))

noncomputable def rollin_run_l1 (N : Nat) (a0_Items : List T_Item) (a1_Codes : List Int) (a2 : Int) (r116 : Int × Int × List (List Int) × List (List Int) × Int × Int) (i178 : Int) (i179 : Int) (i180 : Int) (l181 : List (List Int)) (l184 : List (List Int)) : Option ((Int × Int × Int × List (List Int) × List (List Int)) ⊕ (Int × Int × List (List Int) × List (List Int))) :=
 bif decide (i178 ≤ a2) then (
 Option.bind (machine_at N a0_Items r116.1 r116.2.1 a1_Codes l181 l184 i179 i180 i178) fun r200 =>
 Option.bind (in64 (i178 + 1)) fun x211 =>
 some (.inl (x211, r200.2.2.1, r200.2.2.2, r200.1, r200.2.1))) else (
 some (.inr (i179, i180, l181, l184)))

noncomputable def rollin_run (N : Nat) (a0_Items : List T_Item) (a0_Weight : Int) (a1_Steps : Int) (a1_Codes : List Int) (a2 : Int) : Option (Int × Int × List (List Int) × List (List Int) × Int × Int) :=
 Option.bind (rollin_start N a0_Items a0_Weight a1_Steps a1_Codes) fun r116 =>
 Option.bind (iterN (fun s : Int × Int × Int × List (List Int) × List (List Int) => rollin_run_l1 N a0_Items a1_Codes a2 r116 s.1 s.2.1 s.2.2.1 s.2.2.2.1 s.2.2.2.2) N (0, r116.2.2.2.2.1, r116.2.2.2.2.2, r116.2.2.1, r116.2.2.2.1)) fun r193 =>
 some (r116.1, r116.2.1, r193.2.2.1, r193.2.2.2, r193.1, r193.2.1)

noncomputable def rollin_Run (N : Nat) (a0_Items : List T_Item) (a0_Weight : Int) (a1_Steps : Int) (a1_Codes : List Int) : Option (List (List Int) × Int × Int) :=
 Option.bind (rollin_Valid N a0_Items a0_Weight a1_Steps a1_Codes) fun r10 =>
 bif (!decide (r10 = 0)) then (
 some ([], 0, r10)) else (
 Option.bind (rollin_run N a0_Items a0_Weight a1_Steps a1_Codes a1_Steps) fun r22 =>
 some (r22.2.2.2.1, r22.2.2.2.2.1, 0))

noncomputable def rollin_Pushes (N : Nat) (a0_Items : List T_Item) (a0_Weight : Int) (a1_Steps : Int) (a1_Codes : List Int) : Option (Int × Int) :=
 Option.bind (rollin_Valid N a0_Items a0_Weight a1_Steps a1_Codes) fun r7 =>
 bif (!decide (r7 = 0)) then (
 some (0, r7)) else (
 Option.bind (rollin_run N a0_Items a0_Weight a1_Steps a1_Codes a1_Steps) fun r15 =>
 some (r15.2.2.2.2.2, 0))

noncomputable def planner_scheme (N : Nat) (a0 : List T_Item) (a1 : Int) : Option (T_Scheme × Int × List Int × Bool) :=
 Option.bind (leastcode_Least N a0 a1) fun r12 =>
 bif (!decide (r12.2.2 = 0)) then (
 some ((T_Scheme.mk 0 0 0 0), 0, [], false)) else (
 Option.bind (rollin_Run N a0 a1 r12.1 r12.2.1) fun r31 =>
 bif (!decide (r31.2.2 = 0)) then (
 some ((T_Scheme.mk 0 0 0 0), 0, [], false)) else (
 Option.bind (rollin_Pushes N a0 a1 r12.1 r12.2.1) fun r51 =>
 some ((T_Scheme.mk a1 r12.1 r31.2.1 r51.1), r12.1, r12.2.1, true)))

noncomputable def g_cmp_Or_int_l1 (N : Nat) (a0 : List Int) (i22 : Int) : Option ((Int) ⊕ (Int ⊕ Unit)) :=
 bif decide (i22 < (List.length a0 : Int)) then (
 Option.bind (idx a0 i22) fun x37 =>
 bif (!decide (x37 = 0)) then (
 some (.inr (Sum.inl x37))) else (
 Option.bind (in64 (i22 + 1)) fun x42 =>
 some (.inl x42))) else (
 some (.inr (Sum.inr ())))

noncomputable def g_cmp_Or_int (N : Nat) (a0 : List Int) : Option (Int) :=
 Option.bind (iterN (fun s : Int => g_cmp_Or_int_l1 N a0 s) N 0) fun r29 =>
 match r29 with
 | .inl p49 => (
 some p49)
 | .inr p52 => (
 some 0)

noncomputable def planner_Schemes_1 (N : Nat) (a0 : T_Scheme) (a1 : T_Scheme) : Option (Int) :=
 Option.bind (in64 (a0.Steps - a1.Steps)) fun x7 =>
 Option.bind (in64 (a0.Moves - a1.Moves)) fun x10 =>
 Option.bind (in64 (a0.Weight - a1.Weight)) fun x13 =>
 Option.bind (g_cmp_Or_int N ([x7, x10, x13])) fun r19 =>
 some r19

noncomputable def g_slices_insertionSortCmpFunc_api_Scheme_l4 (N : Nat) (a1 : Int) (i858 : Int) (l859 : List T_Scheme) : Option ((Int × List T_Scheme) ⊕ (List T_Scheme)) :=
 Option.bind (gO (decide (a1 < i858)) (idx l859 i858)) fun x906 =>
 Option.bind (gO (decide (a1 < i858)) (in64 (i858 - 1))) fun x913 =>
 Option.bind (gO (decide (a1 < i858)) (idx l859 x913)) fun x917 =>
 Option.bind (gO (decide (a1 < i858)) (planner_Schemes_1 N x906 x917)) fun r922 =>
 bif (decide (a1 < i858) && decide (r922 < 0)) then (
 Option.bind (in64 (i858 - 1)) fun x952 =>
 Option.bind (idx l859 x952) fun x955 =>
 Option.bind (idx l859 i858) fun x958 =>
 Option.bind (idx (List.set l859 (Int.toNat i858) x955) x952) fun x963 =>
 some (.inl (x952, (List.set (List.set l859 (Int.toNat i858) x955) (Int.toNat x952) x958)))) else (
 some (.inr l859))

noncomputable def g_slices_insertionSortCmpFunc_api_Scheme_l3 (N : Nat) (a1 : Int) (a2 : Int) (i645 : Int) (l646 : List T_Scheme) : Option ((Int × List T_Scheme) ⊕ (List T_Scheme)) :=
 bif decide (i645 < a2) then (
 Option.bind (iterN (fun s : Int × List T_Scheme => g_slices_insertionSortCmpFunc_api_Scheme_l4 N a1 s.1 s.2) N (i645, l646)) fun r866 =>
 Option.bind (in64 (i645 + 1)) fun x973 =>
 some (.inl (x973, r866))) else (
 some (.inr l646))

noncomputable def g_slices_insertionSortCmpFunc_api_Scheme (N : Nat) (a0 : List T_Scheme) (a1 : Int) (a2 : Int) : Option (List T_Scheme) :=
 Option.bind (in64 (a1 + 1)) fun x1 =>
 Option.bind (iterN (fun s : Int × List T_Scheme => g_slices_insertionSortCmpFunc_api_Scheme_l3 N a1 a2 s.1 s.2) N (x1, a0)) fun r653 =>
 some r653

noncomputable def g_slices_swapRangeCmpFunc_api_Scheme_l1 (N : Nat) (a1 : Int) (a2 : Int) (a3 : Int) (i98 : Int) (l99 : List T_Scheme) : Option ((Int × List T_Scheme) ⊕ (List T_Scheme)) :=
 bif decide (i98 < a3) then (
 Option.bind (in64 (a1 + i98)) fun x135 =>
 Option.bind (in64 (a2 + i98)) fun x138 =>
 Option.bind (idx l99 x138) fun x141 =>
 Option.bind (idx l99 x135) fun x144 =>
 Option.bind (idx (List.set l99 (Int.toNat x135) x141) x138) fun x149 =>
 Option.bind (in64 (i98 + 1)) fun x154 =>
 some (.inl (x154, (List.set (List.set l99 (Int.toNat x135) x141) (Int.toNat x138) x144)))) else (
 some (.inr l99))

noncomputable def g_slices_swapRangeCmpFunc_api_Scheme (N : Nat) (a0 : List T_Scheme) (a1 : Int) (a2 : Int) (a3 : Int) : Option (List T_Scheme) :=
 Option.bind (iterN (fun s : Int × List T_Scheme => g_slices_swapRangeCmpFunc_api_Scheme_l1 N a1 a2 a3 s.1 s.2) N (0, a0)) fun r106 =>
 some r106

noncomputable def g_slices_rotateCmpFunc_api_Scheme_l1 (N : Nat) (a2 : Int) (i80 : Int) (i81 : Int) (l82 : List T_Scheme) : Option ((Int × Int × List T_Scheme) ⊕ (Int × List T_Scheme)) :=
 bif (!decide (i80 = i81)) then (
 bif decide (i81 < i80) then (
 Option.bind (in64 (a2 - i80)) fun x97 =>
 Option.bind (g_slices_swapRangeCmpFunc_api_Scheme N l82 x97 a2 i81) fun r100 =>
 Option.bind (in64 (i80 - i81)) fun x106 =>
 some (.inl (x106, i81, r100))) else (
 Option.bind (in64 (a2 - i80)) fun x109 =>
 Option.bind (in64 (a2 + i81)) fun x112 =>
 Option.bind (in64 (x112 - i80)) fun x115 =>
 Option.bind (g_slices_swapRangeCmpFunc_api_Scheme N l82 x109 x115 i80) fun r118 =>
 Option.bind (in64 (i81 - i80)) fun x124 =>
 some (.inl (i80, x124, r118)))) else (
 some (.inr (i80, l82)))

noncomputable def g_slices_rotateCmpFunc_api_Scheme (N : Nat) (a0 : List T_Scheme) (a1 : Int) (a2 : Int) (a3 : Int) : Option (List T_Scheme) :=
 Option.bind (in64 (a2 - a1)) fun x1 =>
 Option.bind (in64 (a3 - a2)) fun x4 =>
 Option.bind (iterN (fun s : Int × Int × List T_Scheme => g_slices_rotateCmpFunc_api_Scheme_l1 N a2 s.1 s.2.1 s.2.2) N (x1, x4, a0)) fun r89 =>
 Option.bind (in64 (a2 - r89.1)) fun x132 =>
 Option.bind (g_slices_swapRangeCmpFunc_api_Scheme N r89.2 x132 a2 r89.1) fun r135 =>
 some r135

noncomputable def g_slices_symMergeCmpFunc_api_Scheme_l1 (N : Nat) (a0 : List T_Scheme) (a1 : Int) (i97 : Int) (i98 : Int) : Option ((Int × Int) ⊕ (Int)) :=
 bif decide (i97 < i98) then (
 Option.bind (in64 (i97 + i98)) fun x111 =>
 Option.bind (shr_u64 (x111 % 18446744073709551616) 1) fun x114 =>
 Option.bind (in64 x114) fun x117 =>
 Option.bind (idx a0 x117) fun x136 =>
 Option.bind (idx a0 a1) fun x139 =>
 Option.bind (planner_Schemes_1 N x136 x139) fun r142 =>
 bif decide (r142 < 0) then (
 Option.bind (in64 (x117 + 1)) fun x150 =>
 some (.inl (x150, i98))) else (
 some (.inl (i97, x117)))) else (
 some (.inr i97))

noncomputable def g_slices_symMergeCmpFunc_api_Scheme_l2 (N : Nat) (r105 : Int) (i243 : Int) (l244 : List T_Scheme) : Option ((Int × List T_Scheme) ⊕ (List T_Scheme)) :=
 Option.bind (in64 (r105 - 1)) fun x255 =>
 bif decide (i243 < x255) then (
 Option.bind (in64 (i243 + 1)) fun x280 =>
 Option.bind (idx l244 x280) fun x283 =>
 Option.bind (idx l244 i243) fun x286 =>
 Option.bind (idx (List.set l244 (Int.toNat i243) x283) x280) fun x291 =>
 some (.inl (x280, (List.set (List.set l244 (Int.toNat i243) x283) (Int.toNat x280) x286)))) else (
 some (.inr l244))

noncomputable def g_slices_symMergeCmpFunc_api_Scheme_l3 (N : Nat) (a0 : List T_Scheme) (a2 : Int) (i397 : Int) (i398 : Int) : Option ((Int × Int) ⊕ (Int)) :=
 bif decide (i397 < i398) then (
 Option.bind (in64 (i397 + i398)) fun x411 =>
 Option.bind (shr_u64 (x411 % 18446744073709551616) 1) fun x414 =>
 Option.bind (in64 x414) fun x417 =>
 Option.bind (idx a0 a2) fun x436 =>
 Option.bind (idx a0 x417) fun x439 =>
 Option.bind (planner_Schemes_1 N x436 x439) fun r442 =>
 bif (!decide (r442 < 0)) then (
 Option.bind (in64 (x417 + 1)) fun x450 =>
 some (.inl (x450, i398))) else (
 some (.inl (i397, x417)))) else (
 some (.inr i397))

noncomputable def g_slices_symMergeCmpFunc_api_Scheme_l4 (N : Nat) (r405 : Int) (i537 : Int) (l538 : List T_Scheme) : Option ((Int × List T_Scheme) ⊕ (List T_Scheme)) :=
 bif decide (r405 < i537) then (
 Option.bind (in64 (i537 - 1)) fun x571 =>
 Option.bind (idx l538 x571) fun x574 =>
 Option.bind (idx l538 i537) fun x577 =>
 Option.bind (idx (List.set l538 (Int.toNat i537) x574) x571) fun x582 =>
 some (.inl (x571, (List.set (List.set l538 (Int.toNat i537) x574) (Int.toNat x571) x577)))) else (
 some (.inr l538))

noncomputable def g_slices_symMergeCmpFunc_api_Scheme_l5 (N : Nat) (a0 : List T_Scheme) (x624 : Int) (i730 : Int) (i731 : Int) : Option ((Int × Int) ⊕ (Int)) :=
 bif decide (i730 < i731) then (
 Option.bind (in64 (i730 + i731)) fun x744 =>
 Option.bind (shr_u64 (x744 % 18446744073709551616) 1) fun x747 =>
 Option.bind (in64 x747) fun x750 =>
 Option.bind (in64 (x624 - x750)) fun x772 =>
 Option.bind (idx a0 x772) fun x775 =>
 Option.bind (idx a0 x750) fun x778 =>
 Option.bind (planner_Schemes_1 N x775 x778) fun r781 =>
 bif (!decide (r781 < 0)) then (
 Option.bind (in64 (x750 + 1)) fun x789 =>
 some (.inl (x789, i731))) else (
 some (.inl (i730, x750)))) else (
 some (.inr i730))

noncomputable def g_slices_symMergeCmpFunc_api_Scheme_r (N : Nat) : Nat → (List T_Scheme) → Int → Int → Int → Option (List T_Scheme)
 | 0, _, _, _, _ => none
 | M + 1, a0, a1, a2, a3 =>
 Option.bind (in64 (a2 - a1)) fun x1 =>
 bif decide (x1 = 1) then (
 Option.bind (iterN (fun s : Int × Int => g_slices_symMergeCmpFunc_api_Scheme_l1 N a0 a1 s.1 s.2) N (a2, a3)) fun r105 =>
 Option.bind (iterN (fun s : Int × List T_Scheme => g_slices_symMergeCmpFunc_api_Scheme_l2 N r105 s.1 s.2) N (a1, a0)) fun r251 =>
 some r251) else (
 Option.bind (in64 (a3 - a2)) fun x301 =>
 bif decide (x301 = 1) then (
 Option.bind (iterN (fun s : Int × Int => g_slices_symMergeCmpFunc_api_Scheme_l3 N a0 a2 s.1 s.2) N (a1, a2)) fun r405 =>
 Option.bind (iterN (fun s : Int × List T_Scheme => g_slices_symMergeCmpFunc_api_Scheme_l4 N r405 s.1 s.2) N (a2, a0)) fun r545 =>
 some r545) else (
 Option.bind (in64 (a1 + a3)) fun x592 =>
 Option.bind (shr_u64 (x592 % 18446744073709551616) 1) fun x595 =>
 Option.bind (in64 x595) fun x598 =>
 Option.bind (in64 (x598 + a2)) fun x601 =>
 Option.bind (
 bif decide (x598 < a2) then (
 Option.bind (in64 (x601 - a3)) fun x616 =>
 some (x616, x598)) else (
 some (a1, a2))) fun j611 =>
 Option.bind (in64 (x601 - 1)) fun x624 =>
 Option.bind (iterN (fun s : Int × Int => g_slices_symMergeCmpFunc_api_Scheme_l5 N a0 x624 s.1 s.2) N (j611.1, j611.2)) fun r738 =>
 Option.bind (in64 (x601 - r738)) fun x797 =>
 Option.bind (
 bif (decide (r738 < a2) && decide (a2 < x797)) then (
 Option.bind (g_slices_rotateCmpFunc_api_Scheme N a0 r738 a2 x797) fun r818 =>
 some r818) else (
 some a0)) fun j813 =>
 Option.bind (
 bif (decide (a1 < r738) && decide (r738 < x598)) then (
 Option.bind (g_slices_symMergeCmpFunc_api_Scheme_r N M j813 a1 r738 x598) fun r847 =>
 some r847) else (
 some j813)) fun j842 =>
 bif (decide (x598 < x797) && decide (x797 < a3)) then (
 Option.bind (g_slices_symMergeCmpFunc_api_Scheme_r N M j842 x598 x797 a3) fun r864 =>
 some r864) else (
 some j842)))

noncomputable def g_slices_symMergeCmpFunc_api_Scheme (N : Nat) (a0 : List T_Scheme) (a1 : Int) (a2 : Int) (a3 : Int) : Option (List T_Scheme) := g_slices_symMergeCmpFunc_api_Scheme_r N N a0 a1 a2 a3

noncomputable def g_slices_stableCmpFunc_api_Scheme_l1 (N : Nat) (a1 : Int) (i28 : Int) (i29 : Int) (l30 : List T_Scheme) : Option ((Int × Int × List T_Scheme) ⊕ (Int × List T_Scheme)) :=
 bif decide (i29 ≤ a1) then (
 Option.bind (g_slices_insertionSortCmpFunc_api_Scheme N l30 i28 i29) fun r43 =>
 Option.bind (in64 (i29 + 20)) fun x49 =>
 some (.inl (i29, x49, r43))) else (
 some (.inr (i28, l30)))

noncomputable def g_slices_stableCmpFunc_api_Scheme_l5 (N : Nat) (a1 : Int) (i240 : Int) (x254 : Int) (i290 : Int) (i291 : Int) (l292 : List T_Scheme) : Option ((Int × Int × List T_Scheme) ⊕ (Int × List T_Scheme)) :=
 bif decide (i291 ≤ a1) then (
 Option.bind (in64 (i290 + i240)) fun x305 =>
 Option.bind (g_slices_symMergeCmpFunc_api_Scheme N l292 i290 x305 i291) fun r308 =>
 Option.bind (in64 (i291 + x254)) fun x314 =>
 some (.inl (i291, x314, r308))) else (
 some (.inr (i290, l292)))

noncomputable def g_slices_stableCmpFunc_api_Scheme_l4 (N : Nat) (a1 : Int) (i240 : Int) (l241 : List T_Scheme) : Option ((Int × List T_Scheme) ⊕ (List T_Scheme)) :=
 bif decide (i240 < a1) then (
 Option.bind (in64 (2 * i240)) fun x254 =>
 Option.bind (iterN (fun s : Int × Int × List T_Scheme => g_slices_stableCmpFunc_api_Scheme_l5 N a1 i240 x254 s.1 s.2.1 s.2.2) N (0, x254, l241)) fun r299 =>
 Option.bind (in64 (r299.1 + i240)) fun x322 =>
 bif decide (x322 < a1) then (
 Option.bind (g_slices_symMergeCmpFunc_api_Scheme N r299.2 r299.1 x322 a1) fun r327 =>
 Option.bind (in64 (i240 * 2)) fun x333 =>
 some (.inl (x333, r327))) else (
 Option.bind (in64 (i240 * 2)) fun x336 =>
 some (.inl (x336, r299.2)))) else (
 some (.inr l241))

noncomputable def g_slices_stableCmpFunc_api_Scheme (N : Nat) (a0 : List T_Scheme) (a1 : Int) : Option (List T_Scheme) :=
 Option.bind (iterN (fun s : Int × Int × List T_Scheme => g_slices_stableCmpFunc_api_Scheme_l1 N a1 s.1 s.2.1 s.2.2) N (0, 20, a0)) fun r37 =>
 Option.bind (g_slices_insertionSortCmpFunc_api_Scheme N r37.2 r37.1 a1) fun r57 =>
 Option.bind (iterN (fun s : Int × List T_Scheme => g_slices_stableCmpFunc_api_Scheme_l4 N a1 s.1 s.2) N (20, r57)) fun r248 =>
 some r248

noncomputable def g_slices_SortStableFunc_api_Scheme_api_Scheme (N : Nat) (a0 : List T_Scheme) : Option (List T_Scheme) :=
 Option.bind (g_slices_stableCmpFunc_api_Scheme N a0 (List.length a0 : Int)) fun r1 =>
 some r1

noncomputable def planner_Schemes_l1 (N : Nat) (a0 : List T_Item) (i135 : Int) (l136 : List T_Scheme) : Option ((Int × List T_Scheme) ⊕ (List T_Scheme)) :=
 bif decide (i135 < 4) then (
 Option.bind (idx [0, 1, 2, 12] i135) fun x150 =>
 Option.bind (planner_scheme N a0 x150) fun r153 =>
 bif r153.2.2.2 then (
 Option.bind (app 32 l136 ([r153.1])) fun l175 =>
 Option.bind (in64 (i135 + 1)) fun x181 =>
 some (.inl (x181, l175))) else (
 Option.bind (in64 (i135 + 1)) fun x184 =>
 some (.inl (x184, l136)))) else (
 some (.inr l136))

noncomputable def planner_Schemes (N : Nat) (a0 : List T_Item) : Option (List T_Scheme × Int) :=
 Option.bind (job_Valid N a0 0) fun r1 =>
 bif (!decide (r1 = 0)) then (
 some ([], r1)) else (
 Option.bind (iterN (fun s : Int × List T_Scheme => planner_Schemes_l1 N a0 s.1 s.2) N (0, [])) fun r144 =>
 bif decide ((List.length r144 : Int) = 0) then (
 some ([], 15)) else (
 Option.bind (g_slices_SortStableFunc_api_Scheme_api_Scheme N r144) fun r195 =>
 some (r195, 0)))

noncomputable def g_slices_Clone_api_Item_api_Item (N : Nat) (a0 : List T_Item) : Option (List T_Item) :=
 app 32 [] a0

noncomputable def rollin_Loads_l4 (N : Nat) (a1_Steps : Int) (a1_Codes : List Int) (i435 : Int) (x449 : T_Item) (i538 : Int) (l539 : List Int) : Option ((Int × List Int) ⊕ (List Int)) :=
 bif decide (i538 < a1_Steps) then (
 Option.bind (idx a1_Codes i435) fun x552 =>
 Option.bind (shr_i64 x552 i538) fun x555 =>
 Option.bind (andN 63 x555 1) fun x558 =>
 bif decide (x558 = 1) then (
 Option.bind (idx l539 i538) fun x575 =>
 Option.bind (in64 (x575 + x449.Length)) fun x578 =>
 Option.bind (in64 (i538 + 1)) fun x583 =>
 some (.inl (x583, (List.set l539 (Int.toNat i538) x578)))) else (
 Option.bind (in64 (i538 + 1)) fun x586 =>
 some (.inl (x586, l539)))) else (
 some (.inr l539))

noncomputable def rollin_Loads_l3 (N : Nat) (a0_Items : List T_Item) (a1_Steps : Int) (a1_Codes : List Int) (i435 : Int) (l436 : List Int) : Option ((Int × List Int) ⊕ (List Int)) :=
 bif decide (i435 < (List.length a0_Items : Int)) then (
 Option.bind (idx a0_Items i435) fun x449 =>
 Option.bind (iterN (fun s : Int × List Int => rollin_Loads_l4 N a1_Steps a1_Codes i435 x449 s.1 s.2) N (x449.Round, l436)) fun r546 =>
 Option.bind (in64 (a1_Steps + x449.Train)) fun x609 =>
 Option.bind (idx r546 x609) fun x612 =>
 Option.bind (in64 (x612 + x449.Length)) fun x615 =>
 Option.bind (in64 (i435 + 1)) fun x620 =>
 some (.inl (x620, (List.set r546 (Int.toNat x609) x615)))) else (
 some (.inr l436))

noncomputable def rollin_Loads (N : Nat) (a0_Items : List T_Item) (a0_Weight : Int) (a1_Steps : Int) (a1_Codes : List Int) : Option (List Int × Int) :=
 Option.bind (rollin_Valid N a0_Items a0_Weight a1_Steps a1_Codes) fun r7 =>
 bif (!decide (r7 = 0)) then (
 some ([], r7)) else (
 Option.bind (rollin_start N a0_Items a0_Weight a1_Steps a1_Codes) fun r60 =>
 Option.bind (in64 (a1_Steps + (List.length r60.2.2.2.1 : Int))) fun x71 =>
 Option.bind (mkL 8 x71 0) fun l74 =>
 Option.bind (iterN (fun s : Int × List Int => rollin_Loads_l3 N a0_Items a1_Steps a1_Codes s.1 s.2) N (0, l74)) fun r443 =>
 some (r443, 0))

noncomputable def assign_check_l1 (N : Nat) (a0 : List Int) (i34 : Int) : Option ((Int) ⊕ (Int ⊕ Unit)) :=
 bif decide (i34 < (List.length a0 : Int)) then (
 Option.bind (idx a0 i34) fun x49 =>
 bif (decide (x49 < 0) || decide (38400 < x49)) then (
 some (.inr (Sum.inl 2))) else (
 Option.bind (in64 (i34 + 1)) fun x57 =>
 some (.inl x57))) else (
 some (.inr (Sum.inr ())))

noncomputable def assign_check_l2 (N : Nat) (a1 : List Int) (i97 : Int) : Option ((Int) ⊕ (Int ⊕ Unit)) :=
 bif decide (i97 < (List.length a1 : Int)) then (
 Option.bind (idx a1 i97) fun x112 =>
 bif (decide (x112 < 1) || decide (38400 < x112)) then (
 some (.inr (Sum.inl 2))) else (
 Option.bind (in64 (i97 + 1)) fun x120 =>
 some (.inl x120))) else (
 some (.inr (Sum.inr ())))

noncomputable def assign_check (N : Nat) (a0 : List Int) (a1 : List Int) : Option (Int) :=
 bif (decide (32 < (List.length a0 : Int)) || decide (32 < (List.length a1 : Int))) then (
 some 3) else (
 Option.bind (iterN (fun s : Int => assign_check_l1 N a0 s) N 0) fun r41 =>
 match r41 with
 | .inl p64 => (
 some p64)
 | .inr p67 => (
 Option.bind (iterN (fun s : Int => assign_check_l2 N a1 s) N 0) fun r104 =>
 match r104 with
 | .inl p127 => (
 some p127)
 | .inr p130 => (
 some 0)))

noncomputable def assign_order_1 (N : Nat) (a0 : Int) (a1 : Int) (a2 : List (List Int)) : Option (Int) :=
 Option.bind (idx a2 0) fun x1 =>
 Option.bind (idx x1 a1) fun x23 =>
 Option.bind (idx x1 a0) fun x28 =>
 Option.bind (in64 (x23 - x28)) fun x31 =>
 some x31

noncomputable def g_slices_insertionSortCmpFunc_int_l4 (N : Nat) (a1 : Int) (a3 : List (List Int)) (i858 : Int) (l859 : List Int) : Option ((Int × List Int) ⊕ (List Int)) :=
 Option.bind (gO (decide (a1 < i858)) (idx l859 i858)) fun x906 =>
 Option.bind (gO (decide (a1 < i858)) (in64 (i858 - 1))) fun x913 =>
 Option.bind (gO (decide (a1 < i858)) (idx l859 x913)) fun x917 =>
 Option.bind (gO (decide (a1 < i858)) (assign_order_1 N x906 x917 a3)) fun r922 =>
 bif (decide (a1 < i858) && decide (r922 < 0)) then (
 Option.bind (in64 (i858 - 1)) fun x952 =>
 Option.bind (idx l859 x952) fun x955 =>
 Option.bind (idx l859 i858) fun x958 =>
 Option.bind (idx (List.set l859 (Int.toNat i858) x955) x952) fun x963 =>
 some (.inl (x952, (List.set (List.set l859 (Int.toNat i858) x955) (Int.toNat x952) x958)))) else (
 some (.inr l859))

noncomputable def g_slices_insertionSortCmpFunc_int_l3 (N : Nat) (a1 : Int) (a2 : Int) (a3 : List (List Int)) (i645 : Int) (l646 : List Int) : Option ((Int × List Int) ⊕ (List Int)) :=
 bif decide (i645 < a2) then (
 Option.bind (iterN (fun s : Int × List Int => g_slices_insertionSortCmpFunc_int_l4 N a1 a3 s.1 s.2) N (i645, l646)) fun r866 =>
 Option.bind (in64 (i645 + 1)) fun x973 =>
 some (.inl (x973, r866))) else (
 some (.inr l646))

noncomputable def g_slices_insertionSortCmpFunc_int (N : Nat) (a0 : List Int) (a1 : Int) (a2 : Int) (a3 : List (List Int)) : Option (List Int) :=
 Option.bind (in64 (a1 + 1)) fun x1 =>
 Option.bind (iterN (fun s : Int × List Int => g_slices_insertionSortCmpFunc_int_l3 N a1 a2 a3 s.1 s.2) N (x1, a0)) fun r653 =>
 some r653

noncomputable def g_slices_swapRangeCmpFunc_int_l1 (N : Nat) (a1 : Int) (a2 : Int) (a3 : Int) (i98 : Int) (l99 : List Int) : Option ((Int × List Int) ⊕ (List Int)) :=
 bif decide (i98 < a3) then (
 Option.bind (in64 (a1 + i98)) fun x135 =>
 Option.bind (in64 (a2 + i98)) fun x138 =>
 Option.bind (idx l99 x138) fun x141 =>
 Option.bind (idx l99 x135) fun x144 =>
 Option.bind (idx (List.set l99 (Int.toNat x135) x141) x138) fun x149 =>
 Option.bind (in64 (i98 + 1)) fun x154 =>
 some (.inl (x154, (List.set (List.set l99 (Int.toNat x135) x141) (Int.toNat x138) x144)))) else (
 some (.inr l99))

noncomputable def g_slices_swapRangeCmpFunc_int (N : Nat) (a0 : List Int) (a1 : Int) (a2 : Int) (a3 : Int) (a4 : List (List Int)) : Option (List Int) :=
 Option.bind (iterN (fun s : Int × List Int => g_slices_swapRangeCmpFunc_int_l1 N a1 a2 a3 s.1 s.2) N (0, a0)) fun r106 =>
 some r106

noncomputable def g_slices_rotateCmpFunc_int_l1 (N : Nat) (a2 : Int) (a4 : List (List Int)) (i80 : Int) (i81 : Int) (l82 : List Int) : Option ((Int × Int × List Int) ⊕ (Int × List Int)) :=
 bif (!decide (i80 = i81)) then (
 bif decide (i81 < i80) then (
 Option.bind (in64 (a2 - i80)) fun x97 =>
 Option.bind (g_slices_swapRangeCmpFunc_int N l82 x97 a2 i81 a4) fun r100 =>
 Option.bind (in64 (i80 - i81)) fun x106 =>
 some (.inl (x106, i81, r100))) else (
 Option.bind (in64 (a2 - i80)) fun x109 =>
 Option.bind (in64 (a2 + i81)) fun x112 =>
 Option.bind (in64 (x112 - i80)) fun x115 =>
 Option.bind (g_slices_swapRangeCmpFunc_int N l82 x109 x115 i80 a4) fun r118 =>
 Option.bind (in64 (i81 - i80)) fun x124 =>
 some (.inl (i80, x124, r118)))) else (
 some (.inr (i80, l82)))

noncomputable def g_slices_rotateCmpFunc_int (N : Nat) (a0 : List Int) (a1 : Int) (a2 : Int) (a3 : Int) (a4 : List (List Int)) : Option (List Int) :=
 Option.bind (in64 (a2 - a1)) fun x1 =>
 Option.bind (in64 (a3 - a2)) fun x4 =>
 Option.bind (iterN (fun s : Int × Int × List Int => g_slices_rotateCmpFunc_int_l1 N a2 a4 s.1 s.2.1 s.2.2) N (x1, x4, a0)) fun r89 =>
 Option.bind (in64 (a2 - r89.1)) fun x132 =>
 Option.bind (g_slices_swapRangeCmpFunc_int N r89.2 x132 a2 r89.1 a4) fun r135 =>
 some r135

noncomputable def g_slices_symMergeCmpFunc_int_l1 (N : Nat) (a0 : List Int) (a1 : Int) (a4 : List (List Int)) (i97 : Int) (i98 : Int) : Option ((Int × Int) ⊕ (Int)) :=
 bif decide (i97 < i98) then (
 Option.bind (in64 (i97 + i98)) fun x111 =>
 Option.bind (shr_u64 (x111 % 18446744073709551616) 1) fun x114 =>
 Option.bind (in64 x114) fun x117 =>
 Option.bind (idx a0 x117) fun x136 =>
 Option.bind (idx a0 a1) fun x139 =>
 Option.bind (assign_order_1 N x136 x139 a4) fun r142 =>
 bif decide (r142 < 0) then (
 Option.bind (in64 (x117 + 1)) fun x150 =>
 some (.inl (x150, i98))) else (
 some (.inl (i97, x117)))) else (
 some (.inr i97))

noncomputable def g_slices_symMergeCmpFunc_int_l2 (N : Nat) (r105 : Int) (i243 : Int) (l244 : List Int) : Option ((Int × List Int) ⊕ (List Int)) :=
 Option.bind (in64 (r105 - 1)) fun x255 =>
 bif decide (i243 < x255) then (
 Option.bind (in64 (i243 + 1)) fun x280 =>
 Option.bind (idx l244 x280) fun x283 =>
 Option.bind (idx l244 i243) fun x286 =>
 Option.bind (idx (List.set l244 (Int.toNat i243) x283) x280) fun x291 =>
 some (.inl (x280, (List.set (List.set l244 (Int.toNat i243) x283) (Int.toNat x280) x286)))) else (
 some (.inr l244))

noncomputable def g_slices_symMergeCmpFunc_int_l3 (N : Nat) (a0 : List Int) (a2 : Int) (a4 : List (List Int)) (i397 : Int) (i398 : Int) : Option ((Int × Int) ⊕ (Int)) :=
 bif decide (i397 < i398) then (
 Option.bind (in64 (i397 + i398)) fun x411 =>
 Option.bind (shr_u64 (x411 % 18446744073709551616) 1) fun x414 =>
 Option.bind (in64 x414) fun x417 =>
 Option.bind (idx a0 a2) fun x436 =>
 Option.bind (idx a0 x417) fun x439 =>
 Option.bind (assign_order_1 N x436 x439 a4) fun r442 =>
 bif (!decide (r442 < 0)) then (
 Option.bind (in64 (x417 + 1)) fun x450 =>
 some (.inl (x450, i398))) else (
 some (.inl (i397, x417)))) else (
 some (.inr i397))

noncomputable def g_slices_symMergeCmpFunc_int_l4 (N : Nat) (r405 : Int) (i537 : Int) (l538 : List Int) : Option ((Int × List Int) ⊕ (List Int)) :=
 bif decide (r405 < i537) then (
 Option.bind (in64 (i537 - 1)) fun x571 =>
 Option.bind (idx l538 x571) fun x574 =>
 Option.bind (idx l538 i537) fun x577 =>
 Option.bind (idx (List.set l538 (Int.toNat i537) x574) x571) fun x582 =>
 some (.inl (x571, (List.set (List.set l538 (Int.toNat i537) x574) (Int.toNat x571) x577)))) else (
 some (.inr l538))

noncomputable def g_slices_symMergeCmpFunc_int_l5 (N : Nat) (a0 : List Int) (a4 : List (List Int)) (x624 : Int) (i730 : Int) (i731 : Int) : Option ((Int × Int) ⊕ (Int)) :=
 bif decide (i730 < i731) then (
 Option.bind (in64 (i730 + i731)) fun x744 =>
 Option.bind (shr_u64 (x744 % 18446744073709551616) 1) fun x747 =>
 Option.bind (in64 x747) fun x750 =>
 Option.bind (in64 (x624 - x750)) fun x772 =>
 Option.bind (idx a0 x772) fun x775 =>
 Option.bind (idx a0 x750) fun x778 =>
 Option.bind (assign_order_1 N x775 x778 a4) fun r781 =>
 bif (!decide (r781 < 0)) then (
 Option.bind (in64 (x750 + 1)) fun x789 =>
 some (.inl (x789, i731))) else (
 some (.inl (i730, x750)))) else (
 some (.inr i730))

noncomputable def g_slices_symMergeCmpFunc_int_r (N : Nat) : Nat → (List Int) → Int → Int → Int → (List (List Int)) → Option (List Int)
 | 0, _, _, _, _, _ => none
 | M + 1, a0, a1, a2, a3, a4 =>
 Option.bind (in64 (a2 - a1)) fun x1 =>
 bif decide (x1 = 1) then (
 Option.bind (iterN (fun s : Int × Int => g_slices_symMergeCmpFunc_int_l1 N a0 a1 a4 s.1 s.2) N (a2, a3)) fun r105 =>
 Option.bind (iterN (fun s : Int × List Int => g_slices_symMergeCmpFunc_int_l2 N r105 s.1 s.2) N (a1, a0)) fun r251 =>
 some r251) else (
 Option.bind (in64 (a3 - a2)) fun x301 =>
 bif decide (x301 = 1) then (
 Option.bind (iterN (fun s : Int × Int => g_slices_symMergeCmpFunc_int_l3 N a0 a2 a4 s.1 s.2) N (a1, a2)) fun r405 =>
 Option.bind (iterN (fun s : Int × List Int => g_slices_symMergeCmpFunc_int_l4 N r405 s.1 s.2) N (a2, a0)) fun r545 =>
 some r545) else (
 Option.bind (in64 (a1 + a3)) fun x592 =>
 Option.bind (shr_u64 (x592 % 18446744073709551616) 1) fun x595 =>
 Option.bind (in64 x595) fun x598 =>
 Option.bind (in64 (x598 + a2)) fun x601 =>
 Option.bind (
 bif decide (x598 < a2) then (
 Option.bind (in64 (x601 - a3)) fun x616 =>
 some (x616, x598)) else (
 some (a1, a2))) fun j611 =>
 Option.bind (in64 (x601 - 1)) fun x624 =>
 Option.bind (iterN (fun s : Int × Int => g_slices_symMergeCmpFunc_int_l5 N a0 a4 x624 s.1 s.2) N (j611.1, j611.2)) fun r738 =>
 Option.bind (in64 (x601 - r738)) fun x797 =>
 Option.bind (
 bif (decide (r738 < a2) && decide (a2 < x797)) then (
 Option.bind (g_slices_rotateCmpFunc_int N a0 r738 a2 x797 a4) fun r818 =>
 some r818) else (
 some a0)) fun j813 =>
 Option.bind (
 bif (decide (a1 < r738) && decide (r738 < x598)) then (
 Option.bind (g_slices_symMergeCmpFunc_int_r N M j813 a1 r738 x598 a4) fun r847 =>
 some r847) else (
 some j813)) fun j842 =>
 bif (decide (x598 < x797) && decide (x797 < a3)) then (
 Option.bind (g_slices_symMergeCmpFunc_int_r N M j842 x598 x797 a3 a4) fun r864 =>
 some r864) else (
 some j842)))

noncomputable def g_slices_symMergeCmpFunc_int (N : Nat) (a0 : List Int) (a1 : Int) (a2 : Int) (a3 : Int) (a4 : List (List Int)) : Option (List Int) := g_slices_symMergeCmpFunc_int_r N N a0 a1 a2 a3 a4

noncomputable def g_slices_stableCmpFunc_int_l1 (N : Nat) (a1 : Int) (a2 : List (List Int)) (i28 : Int) (i29 : Int) (l30 : List Int) : Option ((Int × Int × List Int) ⊕ (Int × List Int)) :=
 bif decide (i29 ≤ a1) then (
 Option.bind (g_slices_insertionSortCmpFunc_int N l30 i28 i29 a2) fun r43 =>
 Option.bind (in64 (i29 + 20)) fun x49 =>
 some (.inl (i29, x49, r43))) else (
 some (.inr (i28, l30)))

noncomputable def g_slices_stableCmpFunc_int_l5 (N : Nat) (a1 : Int) (a2 : List (List Int)) (i240 : Int) (x254 : Int) (i290 : Int) (i291 : Int) (l292 : List Int) : Option ((Int × Int × List Int) ⊕ (Int × List Int)) :=
 bif decide (i291 ≤ a1) then (
 Option.bind (in64 (i290 + i240)) fun x305 =>
 Option.bind (g_slices_symMergeCmpFunc_int N l292 i290 x305 i291 a2) fun r308 =>
 Option.bind (in64 (i291 + x254)) fun x314 =>
 some (.inl (i291, x314, r308))) else (
 some (.inr (i290, l292)))

noncomputable def g_slices_stableCmpFunc_int_l4 (N : Nat) (a1 : Int) (a2 : List (List Int)) (i240 : Int) (l241 : List Int) : Option ((Int × List Int) ⊕ (List Int)) :=
 bif decide (i240 < a1) then (
 Option.bind (in64 (2 * i240)) fun x254 =>
 Option.bind (iterN (fun s : Int × Int × List Int => g_slices_stableCmpFunc_int_l5 N a1 a2 i240 x254 s.1 s.2.1 s.2.2) N (0, x254, l241)) fun r299 =>
 Option.bind (in64 (r299.1 + i240)) fun x322 =>
 bif decide (x322 < a1) then (
 Option.bind (g_slices_symMergeCmpFunc_int N r299.2 r299.1 x322 a1 a2) fun r327 =>
 Option.bind (in64 (i240 * 2)) fun x333 =>
 some (.inl (x333, r327))) else (
 Option.bind (in64 (i240 * 2)) fun x336 =>
 some (.inl (x336, r299.2)))) else (
 some (.inr l241))

noncomputable def g_slices_stableCmpFunc_int (N : Nat) (a0 : List Int) (a1 : Int) (a2 : List (List Int)) : Option (List Int) :=
 Option.bind (iterN (fun s : Int × Int × List Int => g_slices_stableCmpFunc_int_l1 N a1 a2 s.1 s.2.1 s.2.2) N (0, 20, a0)) fun r37 =>
 Option.bind (g_slices_insertionSortCmpFunc_int N r37.2 r37.1 a1 a2) fun r57 =>
 Option.bind (iterN (fun s : Int × List Int => g_slices_stableCmpFunc_int_l4 N a1 a2 s.1 s.2) N (20, r57)) fun r248 =>
 some r248

noncomputable def g_slices_SortStableFunc_int_int (N : Nat) (a0 : List Int) (a1 : List (List Int)) : Option (List Int) :=
 Option.bind (g_slices_stableCmpFunc_int N a0 (List.length a0 : Int) a1) fun r1 =>
 some r1

noncomputable def assign_order_l1 (N : Nat) (a0 : List Int) (i79 : Int) (l80 : List Int) : Option ((Int × List Int) ⊕ (List Int)) :=
 bif decide (i79 < (List.length a0 : Int)) then (
 Option.bind (idx a0 i79) fun x94 =>
 bif decide (0 < x94) then (
 Option.bind (app 8 l80 ([i79])) fun l102 =>
 Option.bind (in64 (i79 + 1)) fun x108 =>
 some (.inl (x108, l102))) else (
 Option.bind (in64 (i79 + 1)) fun x111 =>
 some (.inl (x111, l80)))) else (
 some (.inr l80))

noncomputable def assign_order (N : Nat) (a0 : List Int) : Option (List Int) :=
 Option.bind (iterN (fun s : Int × List Int => assign_order_l1 N a0 s.1 s.2) N (0, [])) fun r88 =>
 Option.bind (g_slices_SortStableFunc_int_int N r88 [a0]) fun r119 =>
 some r119

noncomputable def g_slices_Clone_int_int (N : Nat) (a0 : List Int) : Option (List Int) :=
 app 8 [] a0

noncomputable def assign_Match_l1 (N : Nat) (l11 : List Int) (i40 : Int) (l41 : List Int) : Option ((Int × List Int) ⊕ (List Int)) :=
 bif decide (i40 < (List.length l11 : Int)) then (
 Option.bind (idx l41 i40) fun x54 =>
 Option.bind (in64 (i40 + 1)) fun x59 =>
 some (.inl (x59, (List.set l41 (Int.toNat i40) (-1))))) else (
 some (.inr l41))

noncomputable def assign_Match_l5 (N : Nat) (a0 : List Int) (a1 : List Int) (l450 : List Bool) (x465 : Int) (i553 : Int) (i554 : Int) : Option ((Int × Int) ⊕ (Int)) :=
 bif decide (i554 < (List.length a1 : Int)) then (
 Option.bind (idx a1 i554) fun x567 =>
 Option.bind (idx l450 i554) fun x570 =>
 Option.bind (gO (!x570) (idx a0 x465)) fun x577 =>
 Option.bind (gO (((!x570) && decide (x577 ≤ x567)) && (!decide (i553 < 0))) (idx a1 i553)) fun x590 =>
 bif (((!x570) && decide (x577 ≤ x567)) && (decide (i553 < 0) || decide (x567 < x590))) then (
 Option.bind (in64 (i554 + 1)) fun x600 =>
 some (.inl (i554, x600))) else (
 Option.bind (in64 (i554 + 1)) fun x603 =>
 some (.inl (i553, x603)))) else (
 some (.inr i553))

noncomputable def assign_Match_l4 (N : Nat) (a0 : List Int) (a1 : List Int) (r73 : List Int) (i448 : Int) (l449 : List Int) (l450 : List Bool) : Option ((Int × List Int × List Bool) ⊕ ((List Int × List Int × Int) ⊕ (List Int))) :=
 bif decide (i448 < (List.length r73 : Int)) then (
 Option.bind (idx r73 i448) fun x465 =>
 Option.bind (iterN (fun s : Int × Int => assign_Match_l5 N a0 a1 l450 x465 s.1 s.2) N ((-1), 0)) fun r561 =>
 bif decide (r561 < 0) then (
 Option.bind (in64 (i448 + 1)) fun x613 =>
 Option.bind (slc r73 0 x613) fun l616 =>
 Option.bind (g_slices_Clone_int_int N l616) fun r619 =>
 Option.bind (sortI r619) fun l626 =>
 some (.inr (Sum.inl ([], l626, 14)))) else (
 Option.bind (idx l450 r561) fun x633 =>
 Option.bind (idx l449 x465) fun x638 =>
 Option.bind (in64 (i448 + 1)) fun x643 =>
 some (.inl (x643, (List.set l449 (Int.toNat x465) r561), (List.set l450 (Int.toNat r561) true))))) else (
 some (.inr (Sum.inr l449)))

noncomputable def assign_Match (N : Nat) (a0 : List Int) (a1 : List Int) : Option (List Int × List Int × Int) :=
 Option.bind (assign_check N a0 a1) fun r1 =>
 bif (!decide (r1 = 0)) then (
 some ([], [], r1)) else (
 Option.bind (mkL 8 (List.length a0 : Int) 0) fun l11 =>
 Option.bind (iterN (fun s : Int × List Int => assign_Match_l1 N l11 s.1 s.2) N (0, l11)) fun r48 =>
 Option.bind (mkL 1 (List.length a1 : Int) false) fun l67 =>
 Option.bind (assign_order N a0) fun r73 =>
 Option.bind (iterN (fun s : Int × List Int × List Bool => assign_Match_l4 N a0 a1 r73 s.1 s.2.1 s.2.2) N (0, r48, l67)) fun r457 =>
 match r457 with
 | .inl p650 => (
 some p650)
 | .inr p653 => (
 some (p653, [], 0)))

noncomputable def planner_sheet (N : Nat) (a0 : List T_Item) (a1 : Int) (a2 : List Int) : Option (List T_Item × Int × Int × List Int × List Int × List Int × List Int × Int) :=
 Option.bind (g_slices_Clone_api_Item_api_Item N a0) fun r4 =>
 Option.bind (certificate_Make N r4 a1) fun r16 =>
 bif (!decide (r16.2.2.2 = 0)) then (
 some ([], 0, 0, [], [], [], [], r16.2.2.2)) else (
 Option.bind (rollin_Loads N r4 a1 r16.1 r16.2.1) fun r38 =>
 bif (!decide (r38.2 = 0)) then (
 some ([], 0, 0, [], [], [], [], r38.2)) else (
 Option.bind (assign_Match N r38.1 a2) fun r54 =>
 bif (!decide (r54.2.2 = 0)) then (
 some ([], 0, 0, [], [], [], r54.2.1, r54.2.2)) else (
 some (r4, a1, r16.1, r16.2.1, r16.2.2.1, r54.1, [], 0))))

noncomputable def planner_Plan_l1 (N : Nat) (a0 : List T_Item) (a1 : List Int) (r4 : List T_Scheme × Int) (i153 : Int) (l154 : List Int) : Option ((Int × List Int) ⊕ ((List T_Item × Int × Int × List Int × List Int × List Int × List Int × Int) ⊕ (List Int))) :=
 bif decide (i153 < (List.length r4.1 : Int)) then (
 Option.bind (idx r4.1 i153) fun x170 =>
 Option.bind (planner_sheet N a0 x170.Weight a1) fun r178 =>
 bif decide (r178.2.2.2.2.2.2.2 = 0) then (
 some (.inr (Sum.inl (r178.1, r178.2.1, r178.2.2.1, r178.2.2.2.1, r178.2.2.2.2.1, r178.2.2.2.2.2.1, [], 0)))) else (
 bif decide (r178.2.2.2.2.2.2.2 = 14) then (
 bif decide (i153 = 0) then (
 Option.bind (in64 (i153 + 1)) fun x203 =>
 some (.inl (x203, r178.2.2.2.2.2.2.1))) else (
 Option.bind (in64 (i153 + 1)) fun x206 =>
 some (.inl (x206, l154)))) else (
 some (.inr (Sum.inl ([], 0, 0, [], [], [], [], r178.2.2.2.2.2.2.2)))))) else (
 some (.inr (Sum.inr l154)))

noncomputable def planner_Plan (N : Nat) (a0 : List T_Item) (a1 : List Int) : Option (List T_Item × Int × Int × List Int × List Int × List Int × List Int × Int) :=
 Option.bind (planner_Schemes N a0) fun r4 =>
 bif (!decide (r4.2 = 0)) then (
 some ([], 0, 0, [], [], [], [], r4.2)) else (
 Option.bind (iterN (fun s : Int × List Int => planner_Plan_l1 N a0 a1 r4 s.1 s.2) N (0, [])) fun r162 =>
 match r162 with
 | .inl p220 => (
 some p220)
 | .inr p223 => (
 some ([], 0, 0, [], [], [], p223, 14)))

noncomputable def humpgen_Ints_l1 (N : Nat) (a0 : List Int) (a1 : List Int) (i50 : Int) : Option ((Int) ⊕ (Bool ⊕ Unit)) :=
 bif decide (i50 < (List.length a0 : Int)) then (
 Option.bind (idx a0 i50) fun x75 =>
 Option.bind (idx a1 i50) fun x78 =>
 bif (!decide (x75 = x78)) then (
 some (.inr (Sum.inl false))) else (
 Option.bind (in64 (i50 + 1)) fun x83 =>
 some (.inl x83))) else (
 some (.inr (Sum.inr ())))

noncomputable def humpgen_Ints (N : Nat) (a0 : List Int) (a1 : List Int) : Option (Bool) :=
 bif (!decide ((List.length a0 : Int) = (List.length a1 : Int))) then (
 some false) else (
 Option.bind (iterN (fun s : Int => humpgen_Ints_l1 N a0 a1 s) N 0) fun r57 =>
 match r57 with
 | .inl p90 => (
 some p90)
 | .inr p93 => (
 some true))

noncomputable def humpgen_Lists_l1 (N : Nat) (a0 : List (List Int)) (a1 : List (List Int)) (i90 : Int) : Option ((Int) ⊕ (Bool ⊕ Unit)) :=
 bif decide (i90 < (List.length a0 : Int)) then (
 Option.bind (idx a0 i90) fun x125 =>
 Option.bind (idx a1 i90) fun x130 =>
 Option.bind (humpgen_Ints N x125 x130) fun r135 =>
 bif (!r135) then (
 some (.inr (Sum.inl false))) else (
 Option.bind (in64 (i90 + 1)) fun x143 =>
 some (.inl x143))) else (
 some (.inr (Sum.inr ())))

noncomputable def humpgen_Lists (N : Nat) (a0 : List (List Int)) (a1 : List (List Int)) : Option (Bool) :=
 bif (!decide ((List.length a0 : Int) = (List.length a1 : Int))) then (
 some false) else (
 Option.bind (iterN (fun s : Int => humpgen_Lists_l1 N a0 a1 s) N 0) fun r97 =>
 match r97 with
 | .inl p150 => (
 some p150)
 | .inr p153 => (
 some true))

noncomputable def humpyardtop_awake (N : Nat) : Option (Bool) :=
 Option.bind (planner_Plan N ([(T_Item.mk 0 1 0 100), (T_Item.mk 0 0 0 100)]) ([300, 300])) fun r7 =>
 Option.bind (rollin_Run N r7.1 r7.2.1 r7.2.2.1 r7.2.2.2.1) fun r23 =>
 bif ((decide (r7.2.2.2.2.2.2.2 = 0) && decide (r23.2.2 = 0)) && decide (r7.2.2.1 = 1)) then (
 Option.bind (humpgen_Lists N r23.1 ([[1, 0]])) fun r61 =>
 some (((decide (r7.2.2.2.2.2.2.2 = 0) && decide (r23.2.2 = 0)) && decide (r7.2.2.1 = 1)) && r61)) else (
 some (((decide (r7.2.2.2.2.2.2.2 = 0) && decide (r23.2.2 = 0)) && decide (r7.2.2.1 = 1)) && false))

noncomputable def rollin_Contents (N : Nat) (a0_Items : List T_Item) (a0_Weight : Int) (a1_Steps : Int) (a1_Codes : List Int) (a2 : Int) : Option (List (List Int) × List (List Int) × Int) :=
 Option.bind (rollin_Valid N a0_Items a0_Weight a1_Steps a1_Codes) fun r7 =>
 bif (!decide (r7 = 0)) then (
 some ([], [], r7)) else (
 bif (decide (a2 < 0) || decide (a1_Steps < a2)) then (
 some ([], [], 2)) else (
 Option.bind (rollin_run N a0_Items a0_Weight a1_Steps a1_Codes a2) fun r30 =>
 some (r30.2.2.1, r30.2.2.2.1, 0)))

noncomputable def Maker_From (N : Nat) (a0_l : List Int) (a0_n : Int) (a1 : Int) (a2 : Int) : Option (Int × Int) :=
 Option.bind (in64 (a2 - a1)) fun x16 =>
 Option.bind (in64 (x16 + 1)) fun x19 =>
 Option.bind (Maker_Next N a0_l a0_n x19) fun r22 =>
 Option.bind (in64 (a1 + r22.2)) fun x28 =>
 some (r22.1, x28)

noncomputable def cut_in (N : Nat) (a0 : Int) (a1 : Int) (a2 : Int) : Option (Bool) :=
 some (decide (a1 ≤ a0) && decide (a0 ≤ a2))

noncomputable def cut_Valid_l1 (N : Nat) (a0 : List T_Pushed) (a1 : T_CutRules) (i151 : Int) : Option ((Int) ⊕ (Int ⊕ Unit)) :=
 bif decide (i151 < (List.length a0 : Int)) then (
 Option.bind (idx a0 i151) fun x166 =>
 Option.bind (cut_in N x166.Length 1 (min 400 a1.Length)) fun r174 =>
 Option.bind (gO (!(!r174)) (cut_in N x166.Axles 1 (min 8 a1.Axles))) fun r186 =>
 Option.bind (gO (!((!r174) || (!r186))) (cut_in N x166.Mass 1 2000)) fun r197 =>
 Option.bind (gO (!(((!r174) || (!r186)) || (!r197))) (cut_in N x166.Track 0 31)) fun r208 =>
 bif ((((!r174) || (!r186)) || (!r197)) || (!r208)) then (
 some (.inr (Sum.inl 1))) else (
 Option.bind (in64 (i151 + 1)) fun x218 =>
 some (.inl x218))) else (
 some (.inr (Sum.inr ())))

noncomputable def cut_Valid (N : Nat) (a0 : List T_Pushed) (a1 : T_CutRules) : Option (Int) :=
 Option.bind (cut_in N a1.Wagons 1 32) fun r4 =>
 Option.bind (gO (!(!r4)) (cut_in N a1.Axles 2 128)) fun r13 =>
 Option.bind (gO (!((!r4) || (!r13))) (cut_in N a1.Length 80 8000)) fun r24 =>
 bif (((!r4) || (!r13)) || (!r24)) then (
 some 2) else (
 bif decide (96 < (List.length a0 : Int)) then (
 some 3) else (
 Option.bind (iterN (fun s : Int => cut_Valid_l1 N a0 a1 s) N 0) fun r158 =>
 match r158 with
 | .inl p225 => (
 some p225)
 | .inr p228 => (
 some 0)))

noncomputable def cut_longest_l1 (N : Nat) (a0 : List T_Pushed) (a1 : T_CutRules) (a2 : Int) (a3 : Int) (i250 : Int) (i251 : Int) (i252 : Int) : Option ((Int × Int × Int) ⊕ (Int)) :=
 bif decide (i252 < a3) then (
 Option.bind (idx a0 i252) fun x265 =>
 Option.bind (in64 (i250 + x265.Axles)) fun x273 =>
 Option.bind (in64 (i251 + x265.Length)) fun x276 =>
 Option.bind (gO (decide (a2 < i252) && (!x265.Gentle)) (idx a0 a2)) fun x337 =>
 Option.bind (gO (decide (a2 < i252) && (!(x265.Gentle || x337.Gentle))) (idx a0 a2)) fun x350 =>
 Option.bind (gO (!(decide (a2 < i252) && ((x265.Gentle || x337.Gentle) || (!decide (x265.Track = x350.Track))))) (in64 (i252 - a2))) fun x362 =>
 bif ((((decide (a2 < i252) && ((x265.Gentle || x337.Gentle) || (!decide (x265.Track = x350.Track)))) || decide (a1.Wagons ≤ x362)) || decide (a1.Axles < x273)) || decide (a1.Length < x276)) then (
 some (.inr i252)) else (
 Option.bind (in64 (i252 + 1)) fun x381 =>
 some (.inl (x273, x276, x381)))) else (
 some (.inr i252))

noncomputable def cut_longest (N : Nat) (a0 : List T_Pushed) (a1 : T_CutRules) (a2 : Int) (a3 : Int) : Option (Int) :=
 Option.bind (iterN (fun s : Int × Int × Int => cut_longest_l1 N a0 a1 a2 a3 s.1 s.2.1 s.2.2) N (0, 0, a2)) fun r259 =>
 some r259

noncomputable def cut_Form_l1 (N : Nat) (a0 : List T_Pushed) (a1 : T_CutRules) (i130 : Int) (l131 : List T_Cut) : Option ((Int × List T_Cut) ⊕ (List T_Cut)) :=
 bif decide (i130 < (List.length a0 : Int)) then (
 Option.bind (cut_longest N a0 a1 i130 (List.length a0 : Int)) fun r145 =>
 Option.bind (idx a0 i130) fun x167 =>
 Option.bind (app 32 l131 ([(T_Cut.mk i130 r145 x167.Track x167.Gentle)])) fun l173 =>
 some (.inl (r145, l173))) else (
 some (.inr l131))

noncomputable def cut_Form (N : Nat) (a0 : List T_Pushed) (a1 : T_CutRules) : Option (List T_Cut × Int) :=
 Option.bind (cut_Valid N a0 a1) fun r4 =>
 bif (!decide (r4 = 0)) then (
 some ([], r4)) else (
 Option.bind (iterN (fun s : Int × List T_Cut => cut_Form_l1 N a0 a1 s.1 s.2) N (0, [])) fun r139 =>
 some (r139, 0))

noncomputable def humpyardtop_TopCuts_l1 (N : Nat) (r8 : Int × List T_Item × Int) (i43 : Int) (l44 : List T_Item) : Option ((Int × List T_Item) ⊕ (List T_Item)) :=
 bif decide (i43 < (List.length r8.2.1 : Int)) then (
 Option.bind (idx l44 i43) fun x57 =>
 Option.bind (in64 (i43 + 1)) fun x62 =>
 some (.inl (x62, (List.set l44 (Int.toNat i43) (T_Item.mk x57.Train x57.Block 0 x57.Length))))) else (
 some (.inr l44))

noncomputable def humpyardtop_TopCuts_l5 (N : Nat) (r51 : List T_Item) (i347 : Int) (x363 : List Int) (i417 : Int) (l418 : List T_Pushed) : Option ((Int × List T_Pushed) ⊕ (Bool ⊕ (List T_Pushed))) :=
 bif decide (i417 < (List.length x363 : Int)) then (
 Option.bind (idx x363 i417) fun x433 =>
 bif (decide (x433 < 0) || decide ((List.length l418 : Int) ≤ x433)) then (
 some (.inr (Sum.inl false))) else (
 Option.bind (idx r51 x433) fun x443 =>
 Option.bind (idx l418 x433) fun x446 =>
 Option.bind (in64 (i417 + 1)) fun x451 =>
 some (.inl (x451, (List.set l418 (Int.toNat x433) (T_Pushed.mk x443.Length 4 300 false i347)))))) else (
 some (.inr (Sum.inr l418)))

noncomputable def humpyardtop_TopCuts_l4 (N : Nat) (r51 : List T_Item) (l116 : List (List Int)) (i347 : Int) (l348 : List T_Pushed) : Option ((Int × List T_Pushed) ⊕ (Bool ⊕ (List T_Pushed))) :=
 bif decide (i347 < (List.length l116 : Int)) then (
 Option.bind (idx l116 i347) fun x363 =>
 Option.bind (iterN (fun s : Int × List T_Pushed => humpyardtop_TopCuts_l5 N r51 i347 x363 s.1 s.2) N (0, l348)) fun r425 =>
 match r425 with
 | .inl p458 => (
 some (.inr (Sum.inl p458)))
 | .inr p461 => (
 Option.bind (in64 (i347 + 1)) fun x464 =>
 some (.inl (x464, p461)))) else (
 some (.inr (Sum.inr l348)))

noncomputable def humpyardtop_TopCuts_l9 (N : Nat) (x1142 : T_Cut) (i1343 : Int) (l1344 : List (List Int)) : Option ((Int × List (List Int)) ⊕ (List (List Int))) :=
 bif decide (i1343 < x1142.To) then (
 Option.bind (idx l1344 x1142.Track) fun x1413 =>
 Option.bind (app 8 x1413 ([i1343])) fun l1423 =>
 Option.bind (in64 (i1343 + 1)) fun x1438 =>
 some (.inl (x1438, (List.set l1344 (Int.toNat x1142.Track) l1423)))) else (
 some (.inr l1344))

noncomputable def humpyardtop_TopCuts_l8 (N : Nat) (p474 : List T_Pushed) (r483 : List T_Cut × Int) (i1124 : Int) (l1125 : List (List Int)) : Option ((Int × List (List Int)) ⊕ (Bool ⊕ (List (List Int)))) :=
 bif decide (i1124 < (List.length r483.1 : Int)) then (
 Option.bind (idx r483.1 i1124) fun x1142 =>
 bif (((decide (x1142.Track < 0) || decide ((List.length l1125 : Int) ≤ x1142.Track)) || decide (x1142.From < 0)) || decide ((List.length p474 : Int) < x1142.To)) then (
 some (.inr (Sum.inl false))) else (
 Option.bind (iterN (fun s : Int × List (List Int) => humpyardtop_TopCuts_l9 N x1142 s.1 s.2) N (x1142.From, l1125)) fun r1353 =>
 Option.bind (in64 (i1124 + 1)) fun x1446 =>
 some (.inl (x1446, r1353)))) else (
 some (.inr (Sum.inr l1125)))

noncomputable def humpyardtop_TopCuts (N : Nat) (a0 : List Int) : Option (Bool) :=
 Option.bind (humpgen_New N a0) fun r1 =>
 Option.bind (Maker_Job N a0 r1 14) fun r8 =>
 Option.bind (iterN (fun s : Int × List T_Item => humpyardtop_TopCuts_l1 N r8 s.1 s.2) N (0, r8.2.1)) fun r51 =>
 Option.bind (certificate_Make N r51 r8.2.2) fun r70 =>
 bif (!decide (r70.2.2.2 = 0)) then (
 Option.bind (gO (decide (r70.2.2.2 = 15)) (humpyardtop_awake N)) fun r86 =>
 some (decide (r70.2.2.2 = 15) && r86)) else (
 Option.bind (rollin_Contents N r51 r8.2.2 r70.1 r70.2.1 0) fun r93 =>
 bif (!decide (r93.2.2 = 0)) then (
 some false) else (
 Option.bind (app 24 [] r93.1) fun l108 =>
 Option.bind (app 24 l108 r93.2.1) fun l116 =>
 bif decide (32 < (List.length l116 : Int)) then (
 some false) else (
 Option.bind (mkL 40 (List.length r51 : Int) (T_Pushed.mk 0 0 0 false 0)) fun l126 =>
 Option.bind (iterN (fun s : Int × List T_Pushed => humpyardtop_TopCuts_l4 N r51 l116 s.1 s.2) N (0, l126)) fun r355 =>
 match r355 with
 | .inl p471 => (
 some p471)
 | .inr p474 => (
 Option.bind (Maker_From N a0 r8.1 1 5) fun r477 =>
 Option.bind (cut_Form N p474 (T_CutRules.mk r477.2 20 1000)) fun r483 =>
 bif (!decide (r483.2 = 0)) then (
 some false) else (
 Option.bind (mkL 24 (List.length l116 : Int) ([] : List Int)) fun l492 =>
 Option.bind (iterN (fun s : Int × List (List Int) => humpyardtop_TopCuts_l8 N p474 r483 s.1 s.2) N (0, l492)) fun r1134 =>
 match r1134 with
 | .inl p1453 => (
 some p1453)
 | .inr p1456 => (
 Option.bind (humpgen_Lists N p1456 l116) fun r1459 =>
 Option.bind (gO r1459 (humpyardtop_awake N)) fun r1466 =>
 some (r1459 && r1466)))))))

end Go.Gv
