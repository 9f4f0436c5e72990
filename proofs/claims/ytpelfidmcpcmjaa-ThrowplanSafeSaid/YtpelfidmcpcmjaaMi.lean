/- Plain functions that mirror the program, written by a program of mine (gowalk.py). -/
import Derived.Test.YtpelfidmcpcmjaaPu
namespace Go.Gv
set_option linter.unusedVariables false

structure T_Span where
  Element : Int
  Side : Int
  From : Int
  To : Int
deriving DecidableEq, Inhabited

structure T_Throw where
  Element : Int
  Side : Int
deriving DecidableEq, Inhabited

structure T_Command where
  Time : Int
  Element : Int
  Side : Int
  Cut : Int
deriving DecidableEq, Inhabited

structure T_Maker where
  l : List Int
  n : Int
deriving DecidableEq, Inhabited

structure T_planner where
  throw : Int
  side : List (Int × Int)
  until_ : List (Int × Int)
  slow : List (Int × Bool)
  out : List T_Command
deriving DecidableEq, Inhabited

def humpgen_New (N : Nat) (a0 : List Int) : Option (Int) :=
 some 0

def Maker_Next (N : Nat) (a0_l : List Int) (a0_n : Int) (a1 : Int) : Option (Int × Int) :=
 Option.bind (
 bif decide (0 < (List.length a0_l : Int)) then (
 Option.bind (rem64 a0_n (List.length a0_l : Int)) fun x78 =>
 Option.bind (idx a0_l x78) fun x81 =>
 Option.bind (quo64 a0_n (List.length a0_l : Int)) fun x84 =>
 some (wr64 (x81 + (wr64 (x84 * 7919))))) else (
 some 0)) fun j69 =>
 Option.bind (in64 (a0_n + 1)) fun x92 =>
 Option.bind (rem64 j69 a1) fun x97 =>
 bif decide (x97 < 0) then (
 Option.bind (in64 (x97 + a1)) fun x102 =>
 some (x92, x102)) else (
 some (x92, x97))

def Maker_Pick (N : Nat) (a0_l : List Int) (a0_n : Int) (a1 : List Int) : Option (Int × Int) :=
 Option.bind (Maker_Next N a0_l a0_n (List.length a1 : Int)) fun r10 =>
 Option.bind (idx a1 r10.2) fun x16 =>
 some (r10.1, x16)

def yardgen_Spans_l1 (N : Nat) (a0_l : List Int) (a1 : Int) (i479 : Int) (i480 : Int) (i481 : Int) (l482 : List T_Span) : Option ((Int × Int × Int × List T_Span) ⊕ (Int × List T_Span)) :=
 bif (decide (i480 ≤ 6) && decide ((List.length l482 : Int) < a1)) then (
 Option.bind (Maker_Next N a0_l i481 4) fun r501 =>
 bif decide (r501.2 = 0) then (
 Option.bind (in64 (i480 + 1)) fun x509 =>
 some (.inl (i479, x509, r501.1, l482))) else (
 Option.bind (Maker_Pick N a0_l r501.1 ([0, 1, 2])) fun r515 =>
 Option.bind (in64 (i479 + 1)) fun x521 =>
 Option.bind (Maker_Next N a0_l r515.1 9000) fun r524 =>
 Option.bind (in64 (x521 + r524.2)) fun x530 =>
 Option.bind (app 32 l482 ([(T_Span.mk i480 r515.2 i479 x530)])) fun l536 =>
 Option.bind (Maker_Next N a0_l r524.1 5000) fun r542 =>
 Option.bind (in64 (i479 + r542.2)) fun x548 =>
 Option.bind (in64 (i480 + 1)) fun x551 =>
 some (.inl (x548, x551, r542.1, l536)))) else (
 some (.inr (i481, l482)))

def yardgen_Spans (N : Nat) (a0_l : List Int) (a0_n : Int) (a1 : Int) : Option (Int × List T_Span) :=
 Option.bind (Maker_Next N a0_l a0_n 4000) fun r280 =>
 Option.bind (iterN (fun s : Int × Int × Int × List T_Span => yardgen_Spans_l1 N a0_l a1 s.1 s.2.1 s.2.2.1 s.2.2.2) N (r280.2, 1, r280.1, [])) fun r490 =>
 some (r490.1, r490.2)

def yardgen_SpanLists_l5 (N : Nat) (a0_l : List Int) (i1184 : Int) (i1185 : Int) (l1186 : List T_Span) : Option ((Int × Int × List T_Span) ⊕ (Int × List T_Span)) :=
 bif decide (i1184 < (List.length l1186 : Int)) then (
 Option.bind (idx l1186 i1184) fun x1199 =>
 Option.bind (idx (List.set l1186 (Int.toNat i1184) (T_Span.mk x1199.Element 0 x1199.From x1199.To)) i1184) fun x1204 =>
 bif decide ((Int.tmod x1204.Element 2) = 0) then (
 Option.bind (Maker_Pick N a0_l i1185 ([1, 2])) fun r1212 =>
 Option.bind (idx (List.set l1186 (Int.toNat i1184) (T_Span.mk x1199.Element 0 x1199.From x1199.To)) i1184) fun x1218 =>
 Option.bind (in64 (i1184 + 1)) fun x1223 =>
 some (.inl (x1223, r1212.1, (List.set (List.set l1186 (Int.toNat i1184) (T_Span.mk x1199.Element 0 x1199.From x1199.To)) (Int.toNat i1184) (T_Span.mk x1218.Element r1212.2 x1218.From x1218.To))))) else (
 Option.bind (in64 (i1184 + 1)) fun x1226 =>
 some (.inl (x1226, i1185, (List.set l1186 (Int.toNat i1184) (T_Span.mk x1199.Element 0 x1199.From x1199.To)))))) else (
 some (.inr (i1185, l1186)))

def yardgen_SpanLists_l4 (N : Nat) (a0_l : List Int) (i1091 : Int) (i1092 : Int) (l1093 : List (List T_Span)) : Option ((Int × Int × List (List T_Span)) ⊕ (Int × List (List T_Span))) :=
 bif decide (0 < i1091) then (
 Option.bind (yardgen_Spans N a0_l i1092 6) fun r1108 =>
 Option.bind (iterN (fun s : Int × Int × List T_Span => yardgen_SpanLists_l5 N a0_l s.1 s.2.1 s.2.2) N (0, r1108.1, r1108.2)) fun r1193 =>
 Option.bind (app 24 l1093 ([r1193.2])) fun l1239 =>
 Option.bind (in64 (i1091 - 1)) fun x1249 =>
 some (.inl (x1249, r1193.1, l1239))) else (
 some (.inr (i1092, l1093)))

def yardgen_SpanLists (N : Nat) (a0_l : List Int) (a0_n : Int) (a1 : Int) : Option (Int × List (List T_Span)) :=
 Option.bind (in64 (a1 + 1)) fun x629 =>
 Option.bind (Maker_Next N a0_l a0_n x629) fun r632 =>
 Option.bind (iterN (fun s : Int × Int × List (List T_Span) => yardgen_SpanLists_l4 N a0_l s.1 s.2.1 s.2.2) N (r632.2, r632.1, [])) fun r1102 =>
 some (r1102.1, r1102.2)

def r23_Valid_l4 (N : Nat) (a0 : List T_Span) (i210 : Int) (x225 : T_Span) (i286 : Int) : Option ((Int) ⊕ (Bool ⊕ Unit)) :=
 bif decide (i286 < i210) then (
 Option.bind (idx a0 i286) fun x305 =>
 bif decide (x305.Element = x225.Element) then (
 some (.inr (Sum.inl false))) else (
 Option.bind (in64 (i286 + 1)) fun x310 =>
 some (.inl x310))) else (
 some (.inr (Sum.inr ())))

def r23_Valid_l3 (N : Nat) (a0 : List T_Span) (i210 : Int) : Option ((Int) ⊕ (Bool ⊕ Unit)) :=
 bif decide (i210 < (List.length a0 : Int)) then (
 Option.bind (idx a0 i210) fun x225 =>
 bif (((((decide (x225.Element < 0) || decide (x225.Side < 0)) || decide (2 < x225.Side)) || decide (x225.From < 0)) || decide (x225.To ≤ x225.From)) || decide (1000000000 < x225.To)) then (
 some (.inr (Sum.inl false))) else (
 Option.bind (iterN (fun s : Int => r23_Valid_l4 N a0 i210 x225 s) N 0) fun r293 =>
 match r293 with
 | .inl p317 => (
 some (.inr (Sum.inl p317)))
 | .inr p320 => (
 Option.bind (in64 (i210 + 1)) fun x323 =>
 some (.inl x323)))) else (
 some (.inr (Sum.inr ())))

def r23_Valid (N : Nat) (a0 : List T_Span) : Option (Bool) :=
 bif decide (128 < (List.length a0 : Int)) then (
 some false) else (
 Option.bind (iterN (fun s : Int => r23_Valid_l3 N a0 s) N 0) fun r217 =>
 match r217 with
 | .inl p330 => (
 some p330)
 | .inr p333 => (
 some true))

def r23_Lists_l1 (N : Nat) (a0 : List (List T_Span)) (b53 : Bool) (i54 : Int) : Option ((Bool × Int) ⊕ (Bool)) :=
 bif decide (i54 < (List.length a0 : Int)) then (
 Option.bind (gO b53 (idx a0 i54)) fun x70 =>
 Option.bind (gO b53 (r23_Valid N x70)) fun r77 =>
 Option.bind (in64 (i54 + 1)) fun x84 =>
 some (.inl ((b53 && r77), x84))) else (
 some (.inr b53))

def r23_Lists (N : Nat) (a0 : List (List T_Span)) (a1 : Int) : Option (Int) :=
 bif decide (96 < (List.length a0 : Int)) then (
 some 3) else (
 Option.bind (iterN (fun s : Bool × Int => r23_Lists_l1 N a0 s.1 s.2) N ((decide (0 ≤ a1) && decide (a1 ≤ 1000000000)), 0)) fun r61 =>
 bif (!r61) then (
 some 1) else (
 some 0))

def r23_Find_l1 (N : Nat) (a0 : List T_Span) (a1 : Int) (i22 : Int) : Option ((Int) ⊕ (Int ⊕ Unit)) :=
 bif decide (i22 < (List.length a0 : Int)) then (
 Option.bind (idx a0 i22) fun x37 =>
 bif decide (x37.Element = a1) then (
 some (.inr (Sum.inl i22))) else (
 Option.bind (in64 (i22 + 1)) fun x42 =>
 some (.inl x42))) else (
 some (.inr (Sum.inr ())))

def r23_Find (N : Nat) (a0 : List T_Span) (a1 : Int) : Option (Int) :=
 Option.bind (iterN (fun s : Int => r23_Find_l1 N a0 a1 s) N 0) fun r29 =>
 match r29 with
 | .inl p49 => (
 some p49)
 | .inr p52 => (
 some (-1))

def r23_After (N : Nat) (a0 : T_Span) (a1 : T_Span) (a2 : Int) : Option (Int) :=
 bif (((!decide (a0.Side = 0)) && (!decide (a1.Side = 0))) && (!decide (a0.Side = a1.Side))) then (
 Option.bind (in64 (a0.To + a2)) fun x19 =>
 some x19) else (
 some a0.To)

def r23_gap_l1 (N : Nat) (a0 : List T_Span) (a1 : List T_Span) (a2 : Int) (i132 : Int) (i133 : Int) : Option ((Int × Int) ⊕ ((Int × Int) ⊕ Int)) :=
 bif decide (i133 < (List.length a1 : Int)) then (
 Option.bind (idx a1 i133) fun x148 =>
 Option.bind (r23_Find N a0 x148.Element) fun r151 =>
 bif decide (r151 < 0) then (
 Option.bind (in64 (i133 + 1)) fun x159 =>
 some (.inl (i132, x159))) else (
 Option.bind (idx a0 r151) fun x162 =>
 bif decide (x162.To = 1000000000) then (
 some (.inr (Sum.inl (0, 24)))) else (
 Option.bind (idx a0 r151) fun x189 =>
 Option.bind (idx a1 i133) fun x192 =>
 Option.bind (idx a1 i133) fun x195 =>
 Option.bind (r23_After N x189 x192 a2) fun r198 =>
 Option.bind (in64 (r198 - x195.From)) fun x204 =>
 Option.bind (in64 (i133 + 1)) fun x207 =>
 some (.inl ((max i132 x204), x207))))) else (
 some (.inr (Sum.inr i132)))

def r23_gap (N : Nat) (a0 : List T_Span) (a1 : List T_Span) (a2 : Int) : Option (Int × Int) :=
 Option.bind (iterN (fun s : Int × Int => r23_gap_l1 N a0 a1 a2 s.1 s.2) N (0, 0)) fun r140 =>
 match r140 with
 | .inl p214 => (
 some p214)
 | .inr p217 => (
 some (p217, 0))

def r23_Releases_l5 (N : Nat) (a0 : List (List T_Span)) (a1 : Int) (i447 : Int) (l448 : List Int) (i533 : Int) (i534 : Int) : Option ((Int × Int) ⊕ ((List Int × Int) ⊕ Int)) :=
 bif decide (i534 < i447) then (
 Option.bind (idx a0 i534) fun x553 =>
 Option.bind (idx a0 i447) fun x558 =>
 Option.bind (r23_gap N x553 x558 a1) fun r563 =>
 bif (!decide (r563.2 = 0)) then (
 some (.inr (Sum.inl ([], r563.2)))) else (
 Option.bind (idx l448 i534) fun x572 =>
 Option.bind (in64 (x572 + r563.1)) fun x575 =>
 Option.bind (in64 (i534 + 1)) fun x578 =>
 some (.inl ((max i533 x575), x578)))) else (
 some (.inr (Sum.inr i533)))

def r23_Releases_l4 (N : Nat) (a0 : List (List T_Span)) (a1 : Int) (i447 : Int) (l448 : List Int) : Option ((Int × List Int) ⊕ ((List Int × Int) ⊕ (List Int))) :=
 bif decide (i447 < (List.length a0 : Int)) then (
 Option.bind (iterN (fun s : Int × Int => r23_Releases_l5 N a0 a1 i447 l448 s.1 s.2) N (0, 0)) fun r541 =>
 match r541 with
 | .inl p585 => (
 some (.inr (Sum.inl p585)))
 | .inr p588 => (
 bif decide (1000000000 < p588) then (
 some (.inr (Sum.inl ([], 4)))) else (
 Option.bind (app 8 l448 ([p588])) fun l597 =>
 Option.bind (in64 (i447 + 1)) fun x603 =>
 some (.inl (x603, l597))))) else (
 some (.inr (Sum.inr l448)))

def r23_Releases (N : Nat) (a0 : List (List T_Span)) (a1 : Int) : Option (List Int × Int) :=
 Option.bind (r23_Lists N a0 a1) fun r1 =>
 bif (!decide (r1 = 0)) then (
 some ([], r1)) else (
 Option.bind (iterN (fun s : Int × List Int => r23_Releases_l4 N a0 a1 s.1 s.2) N (0, [])) fun r456 =>
 match r456 with
 | .inl p610 => (
 some p610)
 | .inr p613 => (
 some (p613, 0)))

def yardgen_Starts_l1 (N : Nat) (a0_l : List Int) (i280 : Int) (i281 : Int) (l282 : List T_Throw) : Option ((Int × Int × List T_Throw) ⊕ (Int × List T_Throw)) :=
 bif decide (i280 ≤ 4) then (
 Option.bind (Maker_Next N a0_l i281 2) fun r296 =>
 bif decide (r296.2 = 0) then (
 Option.bind (Maker_Pick N a0_l r296.1 ([1, 2])) fun r307 =>
 Option.bind (app 16 l282 ([(T_Throw.mk i280 r307.2)])) fun l316 =>
 Option.bind (in64 (i280 + 2)) fun x322 =>
 some (.inl (x322, r307.1, l316))) else (
 Option.bind (in64 (i280 + 2)) fun x325 =>
 some (.inl (x325, r296.1, l282)))) else (
 some (.inr (i281, l282)))

def yardgen_Starts (N : Nat) (a0_l : List Int) (a0_n : Int) : Option (Int × List T_Throw) :=
 Option.bind (iterN (fun s : Int × Int × List T_Throw => yardgen_Starts_l1 N a0_l s.1 s.2.1 s.2.2) N (2, a0_n, [])) fun r290 =>
 some (r290.1, r290.2)

def law24_planned_l1 (N : Nat) (a0_l : List Int) (r161 : Int × Int) (i242 : Int) (i243 : Int) (i244 : Int) (l245 : List Int) : Option ((Int × Int × Int × List Int) ⊕ (Int × List Int)) :=
 bif decide (i243 < (List.length l245 : Int)) then (
 Option.bind (Maker_Pick N a0_l i244 ([0, 0, 0, 700])) fun r261 =>
 Option.bind (in64 (i242 + r261.2)) fun x267 =>
 Option.bind (idx l245 i243) fun x270 =>
 Option.bind (in64 (r161.2 + x267)) fun x273 =>
 Option.bind (in64 (x270 + x273)) fun x276 =>
 Option.bind (idx l245 i243) fun x279 =>
 Option.bind (in64 (i243 + 1)) fun x284 =>
 some (.inl (x267, x284, r261.1, (List.set l245 (Int.toNat i243) x276)))) else (
 some (.inr (i244, l245)))

def law24_planned (N : Nat) (a0_l : List Int) (a0_n : Int) : Option (Int × List (List T_Span) × List Int × Int × List T_Throw) :=
 Option.bind (yardgen_SpanLists N a0_l a0_n 8) fun r150 =>
 Option.bind (Maker_Pick N a0_l r150.1 ([0, 800, 2500])) fun r161 =>
 Option.bind (r23_Releases N r150.2 r161.2) fun r167 =>
 Option.bind (iterN (fun s : Int × Int × Int × List Int => law24_planned_l1 N a0_l r161 s.1 s.2.1 s.2.2.1 s.2.2.2) N (0, 0, r161.1, r167.1)) fun r252 =>
 Option.bind (yardgen_Starts N a0_l r252.1) fun r292 =>
 some (r292.1, r150.2, r252.2, r161.2, r292.2)

def r24_starts_l4 (N : Nat) (a0 : List T_Throw) (i218 : Int) (i295 : Int) : Option ((Int) ⊕ (Bool ⊕ Unit)) :=
 bif decide (i295 < i218) then (
 Option.bind (idx a0 i295) fun x314 =>
 Option.bind (idx a0 i218) fun x317 =>
 bif decide (x314.Element = x317.Element) then (
 some (.inr (Sum.inl false))) else (
 Option.bind (in64 (i295 + 1)) fun x322 =>
 some (.inl x322))) else (
 some (.inr (Sum.inr ())))

def r24_starts_l3 (N : Nat) (a0 : List T_Throw) (i218 : Int) : Option ((Int) ⊕ (Bool ⊕ Unit)) :=
 bif decide (i218 < (List.length a0 : Int)) then (
 Option.bind (idx a0 i218) fun x233 =>
 Option.bind (gO (!decide (x233.Element < 0)) (idx a0 i218)) fun x239 =>
 Option.bind (gO ((!decide (x233.Element < 0)) && (!decide (x239.Side = 1))) (idx a0 i218)) fun x249 =>
 bif (decide (x233.Element < 0) || ((!decide (x239.Side = 1)) && (!decide (x249.Side = 2)))) then (
 some (.inr (Sum.inl false))) else (
 Option.bind (iterN (fun s : Int => r24_starts_l4 N a0 i218 s) N 0) fun r302 =>
 match r302 with
 | .inl p329 => (
 some (.inr (Sum.inl p329)))
 | .inr p332 => (
 Option.bind (in64 (i218 + 1)) fun x335 =>
 some (.inl x335)))) else (
 some (.inr (Sum.inr ())))

def r24_starts (N : Nat) (a0 : List T_Throw) : Option (Bool) :=
 bif decide (128 < (List.length a0 : Int)) then (
 some false) else (
 Option.bind (iterN (fun s : Int => r24_starts_l3 N a0 s) N 0) fun r225 =>
 match r225 with
 | .inl p342 => (
 some p342)
 | .inr p345 => (
 some true))

def r24_check_l1 (N : Nat) (a1 : List Int) (b125 : Bool) (i126 : Int) : Option ((Bool × Int) ⊕ (Bool)) :=
 bif decide (i126 < (List.length a1 : Int)) then (
 Option.bind (gO b125 (idx a1 i126)) fun x146 =>
 Option.bind (gO (b125 && decide (0 ≤ x146)) (idx a1 i126)) fun x155 =>
 Option.bind (gO (((b125 && decide (0 ≤ x146)) && decide (x155 ≤ 1000000000)) && (!decide (i126 = 0))) (idx a1 i126)) fun x167 =>
 Option.bind (gO (((b125 && decide (0 ≤ x146)) && decide (x155 ≤ 1000000000)) && (!decide (i126 = 0))) (in64 (i126 - 1))) fun x174 =>
 Option.bind (gO (((b125 && decide (0 ≤ x146)) && decide (x155 ≤ 1000000000)) && (!decide (i126 = 0))) (idx a1 x174)) fun x178 =>
 Option.bind (in64 (i126 + 1)) fun x186 =>
 some (.inl ((((b125 && decide (0 ≤ x146)) && decide (x155 ≤ 1000000000)) && (decide (i126 = 0) || decide (x178 ≤ x167))), x186))) else (
 some (.inr b125))

def r24_check (N : Nat) (a0 : List (List T_Span)) (a1 : List Int) (a2 : Int) (a3 : List T_Throw) : Option (Int) :=
 Option.bind (r23_Lists N a0 a2) fun r1 =>
 bif (!decide (r1 = 0)) then (
 some r1) else (
 Option.bind (gO (decide ((List.length a1 : Int) = (List.length a0 : Int))) (r24_starts N a3)) fun r11 =>
 Option.bind (iterN (fun s : Bool × Int => r24_check_l1 N a1 s.1 s.2) N ((decide ((List.length a1 : Int) = (List.length a0 : Int)) && r11), 0)) fun r133 =>
 bif (!r133) then (
 some 1) else (
 some 0))

def r24_First_l1 (N : Nat) (a0 : List T_Throw) (a1 : Int) (i28 : Int) : Option ((Int) ⊕ (Int ⊕ Unit)) :=
 bif decide (i28 < (List.length a0 : Int)) then (
 Option.bind (idx a0 i28) fun x43 =>
 bif decide (x43.Element = a1) then (
 Option.bind (idx a0 i28) fun x48 =>
 some (.inr (Sum.inl x48.Side))) else (
 Option.bind (in64 (i28 + 1)) fun x51 =>
 some (.inl x51))) else (
 some (.inr (Sum.inr ())))

def r24_First (N : Nat) (a0 : List T_Throw) (a1 : Int) : Option (Int) :=
 Option.bind (iterN (fun s : Int => r24_First_l1 N a0 a1 s) N 0) fun r35 =>
 match r35 with
 | .inl p58 => (
 some p58)
 | .inr p61 => (
 some 1)

def r24_Commands_l30 (N : Nat) (l4552 : List T_Command) (x4578 : T_Span) (i4640 : Int) (i4641 : Int) : Option ((Int × Int) ⊕ (Int)) :=
 bif decide (i4641 < (List.length l4552 : Int)) then (
 Option.bind (idx l4552 i4641) fun x4658 =>
 bif decide (x4658.Element = x4578.Element) then (
 Option.bind (idx l4552 i4641) fun x4663 =>
 Option.bind (in64 (i4641 + 1)) fun x4666 =>
 some (.inl (x4663.Side, x4666))) else (
 Option.bind (in64 (i4641 + 1)) fun x4669 =>
 some (.inl (i4640, x4669)))) else (
 some (.inr i4640))

def r24_Commands_l31 (N : Nat) (a0 : List (List T_Span)) (a1 : List Int) (i3797 : Int) (x4578 : T_Span) (b4818 : Bool) (i4819 : Int) (i4820 : Int) : Option ((Bool × Int × Int) ⊕ (Bool × Int)) :=
 bif decide (i4819 < i3797) then (
 Option.bind (idx a0 i4819) fun x4837 =>
 Option.bind (r23_Find N x4837 x4578.Element) fun r4842 =>
 bif decide (0 ≤ r4842) then (
 Option.bind (gO (!b4818) (idx a0 i4819)) fun x4853 =>
 Option.bind (gO (!b4818) (idx x4853 r4842)) fun x4861 =>
 Option.bind (idx a1 i4819) fun x4872 =>
 Option.bind (idx a0 i4819) fun x4875 =>
 Option.bind (idx x4875 r4842) fun x4880 =>
 Option.bind (in64 (x4872 + x4880.To)) fun x4883 =>
 Option.bind (in64 (i4819 + 1)) fun x4888 =>
 some (.inl ((b4818 || decide (x4861.To = 1000000000)), x4888, (max i4820 x4883)))) else (
 Option.bind (in64 (i4819 + 1)) fun x4891 =>
 some (.inl (b4818, x4891, i4820)))) else (
 some (.inr (b4818, i4820)))

def r24_Commands_l29 (N : Nat) (a0 : List (List T_Span)) (a1 : List Int) (a2 : Int) (a3 : List T_Throw) (i3797 : Int) (i4551 : Int) (l4552 : List T_Command) : Option ((Int × List T_Command) ⊕ ((List T_Command × Int) ⊕ (List T_Command))) :=
 Option.bind (idx a0 i3797) fun x4566 =>
 bif decide (i4551 < (List.length x4566 : Int)) then (
 Option.bind (idx a0 i3797) fun x4573 =>
 Option.bind (idx x4573 i4551) fun x4578 =>
 bif decide (x4578.Side = 0) then (
 Option.bind (in64 (i4551 + 1)) fun x4588 =>
 some (.inl (x4588, l4552))) else (
 Option.bind (r24_First N a3 x4578.Element) fun r4591 =>
 Option.bind (iterN (fun s : Int × Int => r24_Commands_l30 N l4552 x4578 s.1 s.2) N (r4591, 0)) fun r4648 =>
 bif decide (r4648 = x4578.Side) then (
 Option.bind (in64 (i4551 + 1)) fun x4679 =>
 some (.inl (x4679, l4552))) else (
 Option.bind (iterN (fun s : Bool × Int × Int => r24_Commands_l31 N a0 a1 i3797 x4578 s.1 s.2.1 s.2.2) N (false, 0, 0)) fun r4827 =>
 bif r4827.1 then (
 some (.inr (Sum.inl ([], 24)))) else (
 bif decide (1000000000 < r4827.2) then (
 some (.inr (Sum.inl ([], 4)))) else (
 Option.bind (in64 (r4827.2 + a2)) fun x4909 =>
 Option.bind (idx a1 i3797) fun x4912 =>
 Option.bind (in64 (x4912 + x4578.From)) fun x4915 =>
 bif decide (x4915 < x4909) then (
 some (.inr (Sum.inl ([], 21)))) else (
 bif decide ((List.length l4552 : Int) = 1024) then (
 some (.inr (Sum.inl ([], 3)))) else (
 Option.bind (app 32 l4552 ([(T_Command.mk r4827.2 x4578.Element x4578.Side i3797)])) fun l4927 =>
 Option.bind (in64 (i4551 + 1)) fun x4933 =>
 some (.inl (x4933, l4927))))))))) else (
 some (.inr (Sum.inr l4552)))

def r24_Commands_l24 (N : Nat) (a0 : List (List T_Span)) (a1 : List Int) (a2 : Int) (a3 : List T_Throw) (i3797 : Int) (l3798 : List T_Command) : Option ((Int × List T_Command) ⊕ ((List T_Command × Int) ⊕ (List T_Command))) :=
 bif decide (i3797 < (List.length a0 : Int)) then (
 Option.bind (iterN (fun s : Int × List T_Command => r24_Commands_l29 N a0 a1 a2 a3 i3797 s.1 s.2) N (0, l3798)) fun r4560 =>
 match r4560 with
 | .inl p4940 => (
 some (.inr (Sum.inl p4940)))
 | .inr p4943 => (
 Option.bind (in64 (i3797 + 1)) fun x4946 =>
 some (.inl (x4946, p4943)))) else (
 some (.inr (Sum.inr l3798)))

def r24_Commands_l36 (N : Nat) (p4956 : List T_Command) (i5398 : Int) (l5399 : List T_Command) (i5477 : Int) : Option ((Int) ⊕ (Int)) :=
 Option.bind (gO (decide (0 < i5477)) (in64 (i5477 - 1))) fun x5495 =>
 Option.bind (gO (decide (0 < i5477)) (idx l5399 x5495)) fun x5499 =>
 Option.bind (gO (decide (0 < i5477)) (idx p4956 i5398)) fun x5507 =>
 bif (decide (0 < i5477) && decide (x5507.Time < x5499.Time)) then (
 Option.bind (in64 (i5477 - 1)) fun x5516 =>
 some (.inl x5516)) else (
 some (.inr i5477))

def r24_Commands_l35 (N : Nat) (p4956 : List T_Command) (i5398 : Int) (l5399 : List T_Command) : Option ((Int × List T_Command) ⊕ (List T_Command)) :=
 bif decide (i5398 < (List.length p4956 : Int)) then (
 Option.bind (iterN (fun s : Int => r24_Commands_l36 N p4956 i5398 l5399 s) N (List.length l5399 : Int)) fun r5484 =>
 Option.bind (slc l5399 0 r5484) fun l5528 =>
 Option.bind (idx p4956 i5398) fun x5531 =>
 Option.bind (slc l5399 r5484 (List.length l5399 : Int)) fun l5534 =>
 Option.bind (app 32 [x5531] l5534) fun l5540 =>
 Option.bind (appC 32 l5528 l5540) fun l5546 =>
 Option.bind (in64 (i5398 + 1)) fun x5552 =>
 some (.inl (x5552, l5546))) else (
 some (.inr l5399))

def r24_Commands (N : Nat) (a0 : List (List T_Span)) (a1 : List Int) (a2 : Int) (a3 : List T_Throw) : Option (List T_Command × Int) :=
 Option.bind (r24_check N a0 a1 a2 a3) fun r1 =>
 bif (!decide (r1 = 0)) then (
 some ([], r1)) else (
 Option.bind (iterN (fun s : Int × List T_Command => r24_Commands_l24 N a0 a1 a2 a3 s.1 s.2) N (0, [])) fun r3806 =>
 match r3806 with
 | .inl p4953 => (
 some p4953)
 | .inr p4956 => (
 Option.bind (iterN (fun s : Int × List T_Command => r24_Commands_l35 N p4956 s.1 s.2) N (0, [])) fun r5407 =>
 some (r5407, 0)))

def yardgen_SpoilSpans (N : Nat) (a0_l : List Int) (a0_n : Int) (a1 : List T_Span) : Option (Int × List T_Span) :=
 Option.bind (app 32 [] a1) fun l104 =>
 bif decide ((List.length l104 : Int) = 0) then (
 Option.bind (Maker_Pick N a0_l a0_n ([5, 6])) fun r115 =>
 some (r115.1, [(T_Span.mk 1 0 5 r115.2)])) else (
 Option.bind (Maker_Next N a0_l a0_n (List.length l104 : Int)) fun r124 =>
 Option.bind (idx l104 r124.2) fun x130 =>
 Option.bind (Maker_Next N a0_l r124.1 6) fun r133 =>
 bif decide (r133.2 = 0) then (
 Option.bind (idx l104 0) fun x141 =>
 Option.bind (Maker_Pick N a0_l r133.1 ([(-1), x141.Element, 127, 128])) fun r147 =>
 some (r147.1, (List.set l104 (Int.toNat r124.2) (T_Span.mk r147.2 x130.Side x130.From x130.To)))) else (
 bif decide (r133.2 = 1) then (
 Option.bind (Maker_Pick N a0_l r133.1 ([(-1), 3, 0])) fun r160 =>
 some (r160.1, (List.set l104 (Int.toNat r124.2) (T_Span.mk x130.Element r160.2 x130.From x130.To)))) else (
 bif decide (r133.2 = 2) then (
 Option.bind (in64 (x130.To + 1)) fun x174 =>
 Option.bind (Maker_Pick N a0_l r133.1 ([(-1), x130.To, x174])) fun r180 =>
 some (r180.1, (List.set l104 (Int.toNat r124.2) (T_Span.mk x130.Element x130.Side r180.2 x130.To)))) else (
 bif decide (r133.2 = 3) then (
 Option.bind (Maker_Pick N a0_l r133.1 ([1000000000, 1000000001, x130.From])) fun r193 =>
 some (r193.1, (List.set l104 (Int.toNat r124.2) (T_Span.mk x130.Element x130.Side x130.From r193.2)))) else (
 some (r133.1, l104))))))

def separation_valid_l1 (N : Nat) (a0 : List T_Span) (i96 : Int) (m97 : List (Int × Bool)) : Option ((Int × (List (Int × Bool))) ⊕ (Bool ⊕ Unit)) :=
 bif decide (i96 < (List.length a0 : Int)) then (
 Option.bind (idx a0 i96) fun x112 =>
 bif ((((((decide (x112.Element < 0) || (Option.getD (mget m97 x112.Element) false)) || decide (x112.Side < 0)) || decide (2 < x112.Side)) || decide (x112.From < 0)) || decide (x112.To ≤ x112.From)) || decide (1000000000 < x112.To)) then (
 some (.inr (Sum.inl false))) else (
 Option.bind (in64 (i96 + 1)) fun x151 =>
 some (.inl (x151, (mset m97 x112.Element true))))) else (
 some (.inr (Sum.inr ())))

def separation_valid (N : Nat) (a0 : List T_Span) : Option (Bool) :=
 bif decide (128 < (List.length a0 : Int)) then (
 some false) else (
 Option.bind (iterN (fun s : Int × (List (Int × Bool)) => separation_valid_l1 N a0 s.1 s.2) N (0, [])) fun r104 =>
 match r104 with
 | .inl p158 => (
 some p158)
 | .inr p161 => (
 some true))

def separation_sound_l1 (N : Nat) (a0 : List (List T_Span)) (i38 : Int) : Option ((Int) ⊕ (Bool ⊕ Unit)) :=
 bif decide (i38 < (List.length a0 : Int)) then (
 Option.bind (idx a0 i38) fun x53 =>
 Option.bind (separation_valid N x53) fun r58 =>
 bif (!r58) then (
 some (.inr (Sum.inl false))) else (
 Option.bind (in64 (i38 + 1)) fun x66 =>
 some (.inl x66))) else (
 some (.inr (Sum.inr ())))

def separation_sound (N : Nat) (a0 : List (List T_Span)) (a1 : Int) : Option (Bool) :=
 Option.bind (iterN (fun s : Int => separation_sound_l1 N a0 s) N 0) fun r45 =>
 match r45 with
 | .inl p73 => (
 some p73)
 | .inr p76 => (
 some (decide (0 ≤ a1) && decide (a1 ≤ 1000000000)))

def separation_gap_l4 (N : Nat) (a1 : List T_Span) (a2 : Int) (x346 : T_Span) (i439 : Int) (i440 : Int) : Option ((Int × Int) ⊕ ((Int × Int) ⊕ Int)) :=
 bif decide (i440 < (List.length a1 : Int)) then (
 Option.bind (idx a1 i440) fun x455 =>
 bif (!decide (x346.Element = x455.Element)) then (
 Option.bind (in64 (i440 + 1)) fun x465 =>
 some (.inl (i439, x465))) else (
 bif decide (x346.To = 1000000000) then (
 some (.inr (Sum.inl (0, 24)))) else (
 Option.bind (in64 (x346.To - x455.From)) fun x470 =>
 bif (((!decide (x346.Side = 0)) && (!decide (x455.Side = 0))) && (!decide (x346.Side = x455.Side))) then (
 Option.bind (in64 (x470 + a2)) fun x485 =>
 Option.bind (in64 (i440 + 1)) fun x488 =>
 some (.inl ((max i439 x485), x488))) else (
 Option.bind (in64 (i440 + 1)) fun x491 =>
 some (.inl ((max i439 x470), x491)))))) else (
 some (.inr (Sum.inr i439)))

def separation_gap_l3 (N : Nat) (a0 : List T_Span) (a1 : List T_Span) (a2 : Int) (i330 : Int) (i331 : Int) : Option ((Int × Int) ⊕ ((Int × Int) ⊕ Int)) :=
 bif decide (i331 < (List.length a0 : Int)) then (
 Option.bind (idx a0 i331) fun x346 =>
 Option.bind (iterN (fun s : Int × Int => separation_gap_l4 N a1 a2 x346 s.1 s.2) N (i330, 0)) fun r447 =>
 match r447 with
 | .inl p498 => (
 some (.inr (Sum.inl p498)))
 | .inr p501 => (
 Option.bind (in64 (i331 + 1)) fun x504 =>
 some (.inl (p501, x504)))) else (
 some (.inr (Sum.inr i330)))

def separation_gap (N : Nat) (a0 : List T_Span) (a1 : List T_Span) (a2 : Int) : Option (Int × Int) :=
 Option.bind (iterN (fun s : Int × Int => separation_gap_l3 N a0 a1 a2 s.1 s.2) N (0, 0)) fun r338 =>
 match r338 with
 | .inl p511 => (
 some p511)
 | .inr p514 => (
 some (p514, 0))

def separation_Gap (N : Nat) (a0 : List T_Span) (a1 : List T_Span) (a2 : Int) : Option (Int × Int) :=
 Option.bind (separation_sound N ([a0, a1]) a2) fun r8 =>
 bif (!r8) then (
 some (0, 1)) else (
 Option.bind (separation_gap N a0 a1 a2) fun r16 =>
 some (r16.1, r16.2))

def throwplan_lies (N : Nat) (a0 : Int) : Option (Bool) :=
 some (decide (a0 = 1) || decide (a0 = 2))

def throwplan_check_l1 (N : Nat) (a0 : List (List T_Span)) (a2 : Int) (i40 : Int) : Option ((Int) ⊕ (Int ⊕ Unit)) :=
 bif decide (i40 < (List.length a0 : Int)) then (
 Option.bind (idx a0 i40) fun x55 =>
 Option.bind (separation_Gap N x55 [] a2) fun r60 =>
 bif (!decide (r60.2 = 0)) then (
 some (.inr (Sum.inl r60.2))) else (
 Option.bind (in64 (i40 + 1)) fun x68 =>
 some (.inl x68))) else (
 some (.inr (Sum.inr ())))

def throwplan_check_l2 (N : Nat) (a1 : List Int) (i161 : Int) : Option ((Int) ⊕ (Int ⊕ Unit)) :=
 bif decide (i161 < (List.length a1 : Int)) then (
 Option.bind (idx a1 i161) fun x176 =>
 Option.bind (gO ((!(decide (x176 < 0) || decide (1000000000 < x176))) && decide (0 < i161)) (in64 (i161 - 1))) fun x189 =>
 Option.bind (gO ((!(decide (x176 < 0) || decide (1000000000 < x176))) && decide (0 < i161)) (idx a1 x189)) fun x193 =>
 bif ((decide (x176 < 0) || decide (1000000000 < x176)) || (decide (0 < i161) && decide (x176 < x193))) then (
 some (.inr (Sum.inl 1))) else (
 Option.bind (in64 (i161 + 1)) fun x203 =>
 some (.inl x203))) else (
 some (.inr (Sum.inr ())))

def throwplan_check_l3 (N : Nat) (a3 : List T_Throw) (i287 : Int) (m288 : List (Int × Bool)) : Option ((Int × (List (Int × Bool))) ⊕ (Int ⊕ Unit)) :=
 bif decide (i287 < (List.length a3 : Int)) then (
 Option.bind (idx a3 i287) fun x303 =>
 Option.bind (gO (!(decide (x303.Element < 0) || (Option.getD (mget m288 x303.Element) false))) (throwplan_lies N x303.Side)) fun r319 =>
 bif ((decide (x303.Element < 0) || (Option.getD (mget m288 x303.Element) false)) || (!r319)) then (
 some (.inr (Sum.inl 1))) else (
 Option.bind (in64 (i287 + 1)) fun x331 =>
 some (.inl (x331, (mset m288 x303.Element true))))) else (
 some (.inr (Sum.inr ())))

def throwplan_check (N : Nat) (a0 : List (List T_Span)) (a1 : List Int) (a2 : Int) (a3 : List T_Throw) : Option (Int) :=
 bif decide (96 < (List.length a0 : Int)) then (
 some 3) else (
 Option.bind (iterN (fun s : Int => throwplan_check_l1 N a0 a2 s) N 0) fun r47 =>
 match r47 with
 | .inl p75 => (
 some p75)
 | .inr p78 => (
 bif (((decide (a2 < 0) || decide (1000000000 < a2)) || (!decide ((List.length a1 : Int) = (List.length a0 : Int)))) || decide (128 < (List.length a3 : Int))) then (
 some 1) else (
 Option.bind (iterN (fun s : Int => throwplan_check_l2 N a1 s) N 0) fun r168 =>
 match r168 with
 | .inl p210 => (
 some p210)
 | .inr p213 => (
 Option.bind (iterN (fun s : Int × (List (Int × Bool)) => throwplan_check_l3 N a3 s.1 s.2) N (0, [])) fun r295 =>
 match r295 with
 | .inl p338 => (
 some p338)
 | .inr p341 => (
 some 0)))))

def throwplan_sides_l1 (N : Nat) (a0 : List T_Throw) (i37 : Int) (m38 : List (Int × Int)) : Option ((Int × (List (Int × Int))) ⊕ ((List (Int × Int)))) :=
 bif decide (i37 < (List.length a0 : Int)) then (
 Option.bind (idx a0 i37) fun x51 =>
 Option.bind (in64 (i37 + 1)) fun x61 =>
 some (.inl (x61, (mset m38 x51.Element x51.Side)))) else (
 some (.inr m38))

def throwplan_sides (N : Nat) (a0 : List T_Throw) : Option ((List (Int × Int))) :=
 Option.bind (iterN (fun s : Int × (List (Int × Int)) => throwplan_sides_l1 N a0 s.1 s.2) N (0, [])) fun r45 =>
 some r45

def throwplan_side (N : Nat) (a0 : List (Int × Int)) (a1 : Int) : Option (Int) :=
 bif (Option.isSome (mget a0 a1)) then (
 some (Option.getD (mget a0 a1) 0)) else (
 some 1)

def planner_serve (N : Nat) (a0_throw : Int) (a0_side : List (Int × Int)) (a0_until_ : List (Int × Int)) (a0_slow : List (Int × Bool)) (a0_out : List T_Command) (a1 : Int) (a2 : T_Span) (a3 : Int) : Option ((List (Int × Int)) × (List (Int × Int)) × (List (Int × Bool)) × List T_Command × Int) :=
 Option.bind (gO (!decide (a2.Side = 0)) (throwplan_side N a0_side a2.Element)) fun r128 =>
 bif (decide (a2.Side = 0) || decide (r128 = a2.Side)) then (
 some (a0_side, a0_until_, a0_slow, a0_out, 0)) else (
 bif (Option.getD (mget a0_slow a2.Element) false) then (
 some (a0_side, a0_until_, a0_slow, a0_out, 24)) else (
 bif decide (1000000000 < (Option.getD (mget a0_until_ a2.Element) 0)) then (
 some (a0_side, a0_until_, a0_slow, a0_out, 4)) else (
 Option.bind (in64 ((Option.getD (mget a0_until_ a2.Element) 0) + a0_throw)) fun x150 =>
 bif decide (a3 < x150) then (
 some (a0_side, a0_until_, a0_slow, a0_out, 21)) else (
 bif decide ((List.length a0_out : Int) = 1024) then (
 some (a0_side, a0_until_, a0_slow, a0_out, 3)) else (
 Option.bind (app 32 a0_out ([(T_Command.mk (Option.getD (mget a0_until_ a2.Element) 0) a2.Element a2.Side a1)])) fun l181 =>
 some ((mset a0_side a2.Element a2.Side), a0_until_, a0_slow, l181, 0))))))

def throwplan_Commands_1 (N : Nat) (a0 : T_Command) (a1 : T_Command) : Option (Int) :=
 Option.bind (in64 (a0.Time - a1.Time)) fun x7 =>
 some x7

def g_slices_insertionSortCmpFunc_api_Command_l4 (N : Nat) (a1 : Int) (i578 : Int) (l579 : List T_Command) : Option ((Int × List T_Command) ⊕ (List T_Command)) :=
 Option.bind (gO (decide (a1 < i578)) (idx l579 i578)) fun x598 =>
 Option.bind (gO (decide (a1 < i578)) (in64 (i578 - 1))) fun x605 =>
 Option.bind (gO (decide (a1 < i578)) (idx l579 x605)) fun x609 =>
 Option.bind (gO (decide (a1 < i578)) (throwplan_Commands_1 N x598 x609)) fun r614 =>
 bif (decide (a1 < i578) && decide (r614 < 0)) then (
 Option.bind (in64 (i578 - 1)) fun x628 =>
 Option.bind (in64 (i578 - 1)) fun x631 =>
 Option.bind (idx l579 x631) fun x634 =>
 Option.bind (idx l579 i578) fun x637 =>
 Option.bind (idx l579 i578) fun x640 =>
 Option.bind (idx (List.set l579 (Int.toNat i578) x634) x628) fun x645 =>
 Option.bind (in64 (i578 - 1)) fun x650 =>
 some (.inl (x650, (List.set (List.set l579 (Int.toNat i578) x634) (Int.toNat x628) x637)))) else (
 some (.inr l579))

def g_slices_insertionSortCmpFunc_api_Command_l3 (N : Nat) (a1 : Int) (a2 : Int) (i435 : Int) (l436 : List T_Command) : Option ((Int × List T_Command) ⊕ (List T_Command)) :=
 bif decide (i435 < a2) then (
 Option.bind (iterN (fun s : Int × List T_Command => g_slices_insertionSortCmpFunc_api_Command_l4 N a1 s.1 s.2) N (i435, l436)) fun r586 =>
 Option.bind (in64 (i435 + 1)) fun x658 =>
 some (.inl (x658, r586))) else (
 some (.inr l436))

def g_slices_insertionSortCmpFunc_api_Command (N : Nat) (a0 : List T_Command) (a1 : Int) (a2 : Int) : Option (List T_Command) :=
 Option.bind (in64 (a1 + 1)) fun x1 =>
 Option.bind (iterN (fun s : Int × List T_Command => g_slices_insertionSortCmpFunc_api_Command_l3 N a1 a2 s.1 s.2) N (x1, a0)) fun r443 =>
 some r443

def g_slices_swapRangeCmpFunc_api_Command_l1 (N : Nat) (a1 : Int) (a2 : Int) (a3 : Int) (i78 : Int) (l79 : List T_Command) : Option ((Int × List T_Command) ⊕ (List T_Command)) :=
 bif decide (i78 < a3) then (
 Option.bind (in64 (a1 + i78)) fun x96 =>
 Option.bind (in64 (a2 + i78)) fun x99 =>
 Option.bind (in64 (a2 + i78)) fun x102 =>
 Option.bind (idx l79 x102) fun x105 =>
 Option.bind (in64 (a1 + i78)) fun x108 =>
 Option.bind (idx l79 x108) fun x111 =>
 Option.bind (idx l79 x96) fun x114 =>
 Option.bind (idx (List.set l79 (Int.toNat x96) x105) x99) fun x119 =>
 Option.bind (in64 (i78 + 1)) fun x124 =>
 some (.inl (x124, (List.set (List.set l79 (Int.toNat x96) x105) (Int.toNat x99) x111)))) else (
 some (.inr l79))

def g_slices_swapRangeCmpFunc_api_Command (N : Nat) (a0 : List T_Command) (a1 : Int) (a2 : Int) (a3 : Int) : Option (List T_Command) :=
 Option.bind (iterN (fun s : Int × List T_Command => g_slices_swapRangeCmpFunc_api_Command_l1 N a1 a2 a3 s.1 s.2) N (0, a0)) fun r86 =>
 some r86

def g_slices_rotateCmpFunc_api_Command_l1 (N : Nat) (a2 : Int) (i80 : Int) (i81 : Int) (l82 : List T_Command) : Option ((Int × Int × List T_Command) ⊕ (Int × List T_Command)) :=
 bif (!decide (i80 = i81)) then (
 bif decide (i81 < i80) then (
 Option.bind (in64 (a2 - i80)) fun x97 =>
 Option.bind (g_slices_swapRangeCmpFunc_api_Command N l82 x97 a2 i81) fun r100 =>
 Option.bind (in64 (i80 - i81)) fun x106 =>
 some (.inl (x106, i81, r100))) else (
 Option.bind (in64 (a2 - i80)) fun x109 =>
 Option.bind (in64 (a2 + i81)) fun x112 =>
 Option.bind (in64 (x112 - i80)) fun x115 =>
 Option.bind (g_slices_swapRangeCmpFunc_api_Command N l82 x109 x115 i80) fun r118 =>
 Option.bind (in64 (i81 - i80)) fun x124 =>
 some (.inl (i80, x124, r118)))) else (
 some (.inr (i80, l82)))

def g_slices_rotateCmpFunc_api_Command (N : Nat) (a0 : List T_Command) (a1 : Int) (a2 : Int) (a3 : Int) : Option (List T_Command) :=
 Option.bind (in64 (a2 - a1)) fun x1 =>
 Option.bind (in64 (a3 - a2)) fun x4 =>
 Option.bind (iterN (fun s : Int × Int × List T_Command => g_slices_rotateCmpFunc_api_Command_l1 N a2 s.1 s.2.1 s.2.2) N (x1, x4, a0)) fun r89 =>
 Option.bind (in64 (a2 - r89.1)) fun x132 =>
 Option.bind (g_slices_swapRangeCmpFunc_api_Command N r89.2 x132 a2 r89.1) fun r135 =>
 some r135

def g_slices_symMergeCmpFunc_api_Command_l1 (N : Nat) (a0 : List T_Command) (a1 : Int) (i73 : Int) (i74 : Int) : Option ((Int × Int) ⊕ (Int)) :=
 bif decide (i73 < i74) then (
 Option.bind (in64 (i73 + i74)) fun x87 =>
 Option.bind (shr_u64 (x87 % 18446744073709551616) 1) fun x90 =>
 Option.bind (in64 x90) fun x93 =>
 Option.bind (idx a0 x93) fun x100 =>
 Option.bind (idx a0 a1) fun x103 =>
 Option.bind (throwplan_Commands_1 N x100 x103) fun r106 =>
 bif decide (r106 < 0) then (
 Option.bind (in64 (x93 + 1)) fun x114 =>
 some (.inl (x114, i74))) else (
 some (.inl (i73, x93)))) else (
 some (.inr i73))

def g_slices_symMergeCmpFunc_api_Command_l2 (N : Nat) (r81 : Int) (i193 : Int) (l194 : List T_Command) : Option ((Int × List T_Command) ⊕ (List T_Command)) :=
 Option.bind (in64 (r81 - 1)) fun x205 =>
 bif decide (i193 < x205) then (
 Option.bind (in64 (i193 + 1)) fun x214 =>
 Option.bind (in64 (i193 + 1)) fun x217 =>
 Option.bind (idx l194 x217) fun x220 =>
 Option.bind (idx l194 i193) fun x223 =>
 Option.bind (idx l194 i193) fun x226 =>
 Option.bind (idx (List.set l194 (Int.toNat i193) x220) x214) fun x231 =>
 Option.bind (in64 (i193 + 1)) fun x236 =>
 some (.inl (x236, (List.set (List.set l194 (Int.toNat i193) x220) (Int.toNat x214) x223)))) else (
 some (.inr l194))

def g_slices_symMergeCmpFunc_api_Command_l3 (N : Nat) (a0 : List T_Command) (a2 : Int) (i316 : Int) (i317 : Int) : Option ((Int × Int) ⊕ (Int)) :=
 bif decide (i316 < i317) then (
 Option.bind (in64 (i316 + i317)) fun x330 =>
 Option.bind (shr_u64 (x330 % 18446744073709551616) 1) fun x333 =>
 Option.bind (in64 x333) fun x336 =>
 Option.bind (idx a0 a2) fun x343 =>
 Option.bind (idx a0 x336) fun x346 =>
 Option.bind (throwplan_Commands_1 N x343 x346) fun r349 =>
 bif (!decide (r349 < 0)) then (
 Option.bind (in64 (x336 + 1)) fun x357 =>
 some (.inl (x357, i317))) else (
 some (.inl (i316, x336)))) else (
 some (.inr i316))

def g_slices_symMergeCmpFunc_api_Command_l4 (N : Nat) (r324 : Int) (i430 : Int) (l431 : List T_Command) : Option ((Int × List T_Command) ⊕ (List T_Command)) :=
 bif decide (r324 < i430) then (
 Option.bind (in64 (i430 - 1)) fun x448 =>
 Option.bind (in64 (i430 - 1)) fun x451 =>
 Option.bind (idx l431 x451) fun x454 =>
 Option.bind (idx l431 i430) fun x457 =>
 Option.bind (idx l431 i430) fun x460 =>
 Option.bind (idx (List.set l431 (Int.toNat i430) x454) x448) fun x465 =>
 Option.bind (in64 (i430 - 1)) fun x470 =>
 some (.inl (x470, (List.set (List.set l431 (Int.toNat i430) x454) (Int.toNat x448) x457)))) else (
 some (.inr l431))

def g_slices_symMergeCmpFunc_api_Command_l5 (N : Nat) (a0 : List T_Command) (x510 : Int) (i586 : Int) (i587 : Int) : Option ((Int × Int) ⊕ (Int)) :=
 bif decide (i586 < i587) then (
 Option.bind (in64 (i586 + i587)) fun x600 =>
 Option.bind (shr_u64 (x600 % 18446744073709551616) 1) fun x603 =>
 Option.bind (in64 x603) fun x606 =>
 Option.bind (in64 (x510 - x606)) fun x613 =>
 Option.bind (idx a0 x613) fun x616 =>
 Option.bind (idx a0 x606) fun x619 =>
 Option.bind (throwplan_Commands_1 N x616 x619) fun r622 =>
 bif (!decide (r622 < 0)) then (
 Option.bind (in64 (x606 + 1)) fun x630 =>
 some (.inl (x630, i587))) else (
 some (.inl (i586, x606)))) else (
 some (.inr i586))

def g_slices_symMergeCmpFunc_api_Command_r (N : Nat) : Nat → (List T_Command) → Int → Int → Int → Option (List T_Command)
 | 0, _, _, _, _ => none
 | M + 1, a0, a1, a2, a3 =>
 Option.bind (in64 (a2 - a1)) fun x1 =>
 bif decide (x1 = 1) then (
 Option.bind (iterN (fun s : Int × Int => g_slices_symMergeCmpFunc_api_Command_l1 N a0 a1 s.1 s.2) N (a2, a3)) fun r81 =>
 Option.bind (iterN (fun s : Int × List T_Command => g_slices_symMergeCmpFunc_api_Command_l2 N r81 s.1 s.2) N (a1, a0)) fun r201 =>
 some r201) else (
 Option.bind (in64 (a3 - a2)) fun x244 =>
 bif decide (x244 = 1) then (
 Option.bind (iterN (fun s : Int × Int => g_slices_symMergeCmpFunc_api_Command_l3 N a0 a2 s.1 s.2) N (a1, a2)) fun r324 =>
 Option.bind (iterN (fun s : Int × List T_Command => g_slices_symMergeCmpFunc_api_Command_l4 N r324 s.1 s.2) N (a2, a0)) fun r438 =>
 some r438) else (
 Option.bind (in64 (a1 + a3)) fun x478 =>
 Option.bind (shr_u64 (x478 % 18446744073709551616) 1) fun x481 =>
 Option.bind (in64 x481) fun x484 =>
 Option.bind (in64 (x484 + a2)) fun x487 =>
 Option.bind (
 bif decide (x484 < a2) then (
 Option.bind (in64 (x487 - a3)) fun x502 =>
 some (x502, x484)) else (
 some (a1, a2))) fun j497 =>
 Option.bind (in64 (x487 - 1)) fun x510 =>
 Option.bind (iterN (fun s : Int × Int => g_slices_symMergeCmpFunc_api_Command_l5 N a0 x510 s.1 s.2) N (j497.1, j497.2)) fun r594 =>
 Option.bind (in64 (x487 - r594)) fun x638 =>
 Option.bind (
 bif (decide (r594 < a2) && decide (a2 < x638)) then (
 Option.bind (g_slices_rotateCmpFunc_api_Command N a0 r594 a2 x638) fun r659 =>
 some r659) else (
 some a0)) fun j654 =>
 Option.bind (
 bif (decide (a1 < r594) && decide (r594 < x484)) then (
 Option.bind (g_slices_symMergeCmpFunc_api_Command_r N M j654 a1 r594 x484) fun r688 =>
 some r688) else (
 some j654)) fun j683 =>
 bif (decide (x484 < x638) && decide (x638 < a3)) then (
 Option.bind (g_slices_symMergeCmpFunc_api_Command_r N M j683 x484 x638 a3) fun r705 =>
 some r705) else (
 some j683)))

def g_slices_symMergeCmpFunc_api_Command (N : Nat) (a0 : List T_Command) (a1 : Int) (a2 : Int) (a3 : Int) : Option (List T_Command) := g_slices_symMergeCmpFunc_api_Command_r N N a0 a1 a2 a3

def g_slices_stableCmpFunc_api_Command_l1 (N : Nat) (a1 : Int) (i28 : Int) (i29 : Int) (l30 : List T_Command) : Option ((Int × Int × List T_Command) ⊕ (Int × List T_Command)) :=
 bif decide (i29 ≤ a1) then (
 Option.bind (g_slices_insertionSortCmpFunc_api_Command N l30 i28 i29) fun r43 =>
 Option.bind (in64 (i29 + 20)) fun x49 =>
 some (.inl (i29, x49, r43))) else (
 some (.inr (i28, l30)))

def g_slices_stableCmpFunc_api_Command_l5 (N : Nat) (a1 : Int) (i258 : Int) (i314 : Int) (i315 : Int) (l316 : List T_Command) : Option ((Int × Int × List T_Command) ⊕ (Int × List T_Command)) :=
 bif decide (i315 ≤ a1) then (
 Option.bind (in64 (i314 + i258)) fun x329 =>
 Option.bind (g_slices_symMergeCmpFunc_api_Command N l316 i314 x329 i315) fun r332 =>
 Option.bind (in64 (2 * i258)) fun x338 =>
 Option.bind (in64 (i315 + x338)) fun x341 =>
 some (.inl (i315, x341, r332))) else (
 some (.inr (i314, l316)))

def g_slices_stableCmpFunc_api_Command_l4 (N : Nat) (a1 : Int) (i258 : Int) (l259 : List T_Command) : Option ((Int × List T_Command) ⊕ (List T_Command)) :=
 bif decide (i258 < a1) then (
 Option.bind (in64 (2 * i258)) fun x272 =>
 Option.bind (iterN (fun s : Int × Int × List T_Command => g_slices_stableCmpFunc_api_Command_l5 N a1 i258 s.1 s.2.1 s.2.2) N (0, x272, l259)) fun r323 =>
 Option.bind (in64 (r323.1 + i258)) fun x349 =>
 bif decide (x349 < a1) then (
 Option.bind (g_slices_symMergeCmpFunc_api_Command N r323.2 r323.1 x349 a1) fun r354 =>
 Option.bind (in64 (i258 * 2)) fun x360 =>
 some (.inl (x360, r354))) else (
 Option.bind (in64 (i258 * 2)) fun x363 =>
 some (.inl (x363, r323.2)))) else (
 some (.inr l259))

def g_slices_stableCmpFunc_api_Command (N : Nat) (a0 : List T_Command) (a1 : Int) : Option (List T_Command) :=
 Option.bind (iterN (fun s : Int × Int × List T_Command => g_slices_stableCmpFunc_api_Command_l1 N a1 s.1 s.2.1 s.2.2) N (0, 20, a0)) fun r37 =>
 Option.bind (g_slices_insertionSortCmpFunc_api_Command N r37.2 r37.1 a1) fun r57 =>
 Option.bind (iterN (fun s : Int × List T_Command => g_slices_stableCmpFunc_api_Command_l4 N a1 s.1 s.2) N (20, r57)) fun r266 =>
 some r266

def g_slices_SortStableFunc_api_Command_api_Command (N : Nat) (a0 : List T_Command) : Option (List T_Command) :=
 Option.bind (g_slices_stableCmpFunc_api_Command N a0 (List.length a0 : Int)) fun r1 =>
 some r1

def throwplan_Commands_l8 (N : Nat) (a1 : List Int) (a2 : Int) (i932 : Int) (x952 : List T_Span) (i1038 : Int) (m1039 : List (Int × Int)) (m1040 : List (Int × Int)) (m1041 : List (Int × Bool)) (l1042 : List T_Command) : Option ((Int × (List (Int × Int)) × (List (Int × Int)) × (List (Int × Bool)) × List T_Command) ⊕ ((List T_Command × Int) ⊕ ((List (Int × Int)) × (List (Int × Int)) × (List (Int × Bool)) × List T_Command))) :=
 bif decide (i1038 < (List.length x952 : Int)) then (
 Option.bind (idx x952 i1038) fun x1058 =>
 Option.bind (idx a1 i932) fun x1070 =>
 Option.bind (in64 (x1070 + x1058.From)) fun x1073 =>
 Option.bind (planner_serve N a2 m1039 m1040 m1041 l1042 i932 x1058 x1073) fun r1078 =>
 bif (!decide (r1078.2.2.2.2 = 0)) then (
 some (.inr (Sum.inl ([], r1078.2.2.2.2)))) else (
 Option.bind (in64 (i1038 + 1)) fun x1089 =>
 some (.inl (x1089, r1078.1, r1078.2.1, r1078.2.2.1, r1078.2.2.2.1)))) else (
 some (.inr (Sum.inr (m1039, m1040, m1041, l1042))))

def throwplan_Commands_l9 (N : Nat) (a1 : List Int) (i932 : Int) (x952 : List T_Span) (i1177 : Int) (m1178 : List (Int × Int)) (m1179 : List (Int × Bool)) : Option ((Int × (List (Int × Int)) × (List (Int × Bool))) ⊕ ((List (Int × Int)) × (List (Int × Bool)))) :=
 bif decide (i1177 < (List.length x952 : Int)) then (
 Option.bind (idx x952 i1177) fun x1192 =>
 Option.bind (idx a1 i932) fun x1204 =>
 Option.bind (in64 (x1204 + x1192.To)) fun x1207 =>
 Option.bind (in64 (i1177 + 1)) fun x1222 =>
 some (.inl (x1222, (mset m1178 x1192.Element (max (Option.getD (mget m1178 x1192.Element) 0) x1207)), (mset m1179 x1192.Element ((Option.getD (mget m1179 x1192.Element) false) || decide (x1192.To = 1000000000)))))) else (
 some (.inr (m1178, m1179)))

def throwplan_Commands_l7 (N : Nat) (a0 : List (List T_Span)) (a1 : List Int) (a2 : Int) (i932 : Int) (m933 : List (Int × Int)) (m934 : List (Int × Int)) (m935 : List (Int × Bool)) (l936 : List T_Command) : Option ((Int × (List (Int × Int)) × (List (Int × Int)) × (List (Int × Bool)) × List T_Command) ⊕ ((List T_Command × Int) ⊕ ((List (Int × Int)) × (List (Int × Int)) × (List (Int × Bool)) × List T_Command))) :=
 bif decide (i932 < (List.length a0 : Int)) then (
 Option.bind (idx a0 i932) fun x952 =>
 Option.bind (iterN (fun s : Int × (List (Int × Int)) × (List (Int × Int)) × (List (Int × Bool)) × List T_Command => throwplan_Commands_l8 N a1 a2 i932 x952 s.1 s.2.1 s.2.2.1 s.2.2.2.1 s.2.2.2.2) N (0, m933, m934, m935, l936)) fun r1050 =>
 match r1050 with
 | .inl p1096 => (
 some (.inr (Sum.inl p1096)))
 | .inr p1099 => (
 Option.bind (iterN (fun s : Int × (List (Int × Int)) × (List (Int × Bool)) => throwplan_Commands_l9 N a1 i932 x952 s.1 s.2.1 s.2.2) N (0, p1099.2.1, p1099.2.2.1)) fun r1186 =>
 Option.bind (in64 (i932 + 1)) fun x1230 =>
 some (.inl (x1230, p1099.1, r1186.1, r1186.2, p1099.2.2.2)))) else (
 some (.inr (Sum.inr (m933, m934, m935, l936))))

def throwplan_Commands (N : Nat) (a0 : List (List T_Span)) (a1 : List Int) (a2 : Int) (a3 : List T_Throw) : Option (List T_Command × Int) :=
 Option.bind (throwplan_check N a0 a1 a2 a3) fun r1 =>
 bif (!decide (r1 = 0)) then (
 some ([], r1)) else (
 Option.bind (throwplan_sides N a3) fun r10 =>
 Option.bind (iterN (fun s : Int × (List (Int × Int)) × (List (Int × Int)) × (List (Int × Bool)) × List T_Command => throwplan_Commands_l7 N a0 a1 a2 s.1 s.2.1 s.2.2.1 s.2.2.2.1 s.2.2.2.2) N (0, r10, [], [], [])) fun r944 =>
 match r944 with
 | .inl p1237 => (
 some p1237)
 | .inr p1240 => (
 Option.bind (g_slices_SortStableFunc_api_Command_api_Command N p1240.2.2.2) fun r1243 =>
 some (r1243, 0)))

def throwplan_serves_l1 (N : Nat) (a0 : List T_Command) (a1 : Int) (a4 : Int) (a5 : Int) (i89 : Int) (i90 : Int) (i91 : Int) : Option ((Int × Int × Int) ⊕ (Bool ⊕ Int)) :=
 bif decide (i91 < (List.length a0 : Int)) then (
 Option.bind (idx a0 i91) fun x106 =>
 Option.bind (gO (decide (x106.Time < a5)) (in64 (x106.Time + a1))) fun x118 =>
 bif (decide (x106.Time < a5) && decide (a4 < x118)) then (
 some (.inr (Sum.inl false))) else (
 Option.bind (in64 (x106.Time + a1)) fun x126 =>
 bif (decide (x126 ≤ a4) && decide (i89 ≤ x106.Time)) then (
 Option.bind (in64 (i91 + 1)) fun x140 =>
 some (.inl (x106.Time, x106.Side, x140))) else (
 Option.bind (in64 (i91 + 1)) fun x143 =>
 some (.inl (i89, i90, x143))))) else (
 some (.inr (Sum.inr i90)))

def throwplan_serves (N : Nat) (a0 : List T_Command) (a1 : Int) (a2 : Int) (a3 : Int) (a4 : Int) (a5 : Int) : Option (Bool) :=
 Option.bind (iterN (fun s : Int × Int × Int => throwplan_serves_l1 N a0 a1 a4 a5 s.1 s.2.1 s.2.2) N ((-1), a2, 0)) fun r98 =>
 match r98 with
 | .inl p150 => (
 some p150)
 | .inr p153 => (
 some (decide (p153 = a3)))

def throwplan_Safe_l1 (N : Nat) (a4 : List T_Command) (i164 : Int) (m165 : List (Int × List T_Command)) : Option ((Int × (List (Int × List T_Command))) ⊕ ((Bool × Int) ⊕ ((List (Int × List T_Command))))) :=
 bif decide (i164 < (List.length a4 : Int)) then (
 Option.bind (idx a4 i164) fun x181 =>
 Option.bind (gO (!((decide (x181.Time < 0) || decide (1000000000 < x181.Time)) || decide (x181.Element < 0))) (throwplan_lies N x181.Side)) fun r200 =>
 bif (((decide (x181.Time < 0) || decide (1000000000 < x181.Time)) || decide (x181.Element < 0)) || (!r200)) then (
 some (.inr (Sum.inl (false, 1)))) else (
 Option.bind (app 32 (Option.getD (mget m165 x181.Element) []) ([x181])) fun l236 =>
 Option.bind (in64 (i164 + 1)) fun x248 =>
 some (.inl (x248, (mset m165 x181.Element l236))))) else (
 some (.inr (Sum.inr m165)))

def throwplan_Safe_l5 (N : Nat) (a1 : List Int) (a2 : Int) (p258 : (List (Int × List T_Command))) (r261 : (List (Int × Int))) (i1075 : Int) (x1090 : List T_Span) (i1342 : Int) : Option ((Int) ⊕ ((Bool × Int) ⊕ Unit)) :=
 bif decide (i1342 < (List.length x1090 : Int)) then (
 Option.bind (idx x1090 i1342) fun x1357 =>
 Option.bind (gO (!decide (x1357.Side = 0)) (idx a1 i1075)) fun x1434 =>
 Option.bind (gO (!decide (x1357.Side = 0)) (in64 (x1434 + x1357.From))) fun x1441 =>
 Option.bind (gO (!decide (x1357.Side = 0)) (idx a1 i1075)) fun x1447 =>
 Option.bind (gO (!decide (x1357.Side = 0)) (in64 (x1447 + x1357.To))) fun x1454 =>
 Option.bind (gO (!decide (x1357.Side = 0)) (throwplan_side N r261 x1357.Element)) fun r1458 =>
 Option.bind (gO (!decide (x1357.Side = 0)) (throwplan_serves N (Option.getD (mget p258 x1357.Element) []) a2 r1458 x1357.Side x1441 x1454)) fun r1465 =>
 bif ((!decide (x1357.Side = 0)) && (!r1465)) then (
 some (.inr (Sum.inl (false, 0)))) else (
 Option.bind (in64 (i1342 + 1)) fun x1475 =>
 some (.inl x1475))) else (
 some (.inr (Sum.inr ())))

def throwplan_Safe_l4 (N : Nat) (a0 : List (List T_Span)) (a1 : List Int) (a2 : Int) (p258 : (List (Int × List T_Command))) (r261 : (List (Int × Int))) (i1075 : Int) : Option ((Int) ⊕ ((Bool × Int) ⊕ Unit)) :=
 bif decide (i1075 < (List.length a0 : Int)) then (
 Option.bind (idx a0 i1075) fun x1090 =>
 Option.bind (iterN (fun s : Int => throwplan_Safe_l5 N a1 a2 p258 r261 i1075 x1090 s) N 0) fun r1349 =>
 match r1349 with
 | .inl p1482 => (
 some (.inr (Sum.inl p1482)))
 | .inr p1485 => (
 Option.bind (in64 (i1075 + 1)) fun x1488 =>
 some (.inl x1488))) else (
 some (.inr (Sum.inr ())))

def throwplan_Safe (N : Nat) (a0 : List (List T_Span)) (a1 : List Int) (a2 : Int) (a3 : List T_Throw) (a4 : List T_Command) : Option (Bool × Int) :=
 Option.bind (throwplan_check N a0 a1 a2 a3) fun r1 =>
 bif (!decide (r1 = 0)) then (
 some (false, r1)) else (
 bif decide (1024 < (List.length a4 : Int)) then (
 some (false, 3)) else (
 Option.bind (iterN (fun s : Int × (List (Int × List T_Command)) => throwplan_Safe_l1 N a4 s.1 s.2) N (0, [])) fun r173 =>
 match r173 with
 | .inl p255 => (
 some p255)
 | .inr p258 => (
 Option.bind (throwplan_sides N a3) fun r261 =>
 Option.bind (iterN (fun s : Int => throwplan_Safe_l4 N a0 a1 a2 p258 r261 s) N 0) fun r1082 =>
 match r1082 with
 | .inl p1495 => (
 some p1495)
 | .inr p1498 => (
 some (true, 0)))))

def r24_Serves_l1 (N : Nat) (a0 : List T_Command) (a2 : T_Span) (a3 : Int) (a4 : Int) (a5 : Int) (i154 : Int) (i155 : Int) (i156 : Int) : Option ((Int × Int × Int) ⊕ (Bool ⊕ Int)) :=
 bif decide (i156 < (List.length a0 : Int)) then (
 Option.bind (idx a0 i156) fun x175 =>
 bif (!decide (x175.Element = a2.Element)) then (
 Option.bind (in64 (i156 + 1)) fun x180 =>
 some (.inl (i154, i155, x180))) else (
 Option.bind (idx a0 i156) fun x183 =>
 Option.bind (gO (decide (x183.Time < a4)) (idx a0 i156)) fun x189 =>
 Option.bind (gO (decide (x183.Time < a4)) (in64 (x189.Time + a5))) fun x196 =>
 bif (decide (x183.Time < a4) && decide (a3 < x196)) then (
 some (.inr (Sum.inl false))) else (
 Option.bind (idx a0 i156) fun x204 =>
 Option.bind (in64 (x204.Time + a5)) fun x207 =>
 Option.bind (gO (decide (x207 ≤ a3)) (idx a0 i156)) fun x213 =>
 bif (decide (x207 ≤ a3) && decide (i155 ≤ x213.Time)) then (
 Option.bind (idx a0 i156) fun x227 =>
 Option.bind (idx a0 i156) fun x230 =>
 Option.bind (in64 (i156 + 1)) fun x233 =>
 some (.inl (x227.Side, x230.Time, x233))) else (
 Option.bind (in64 (i156 + 1)) fun x236 =>
 some (.inl (i154, i155, x236)))))) else (
 some (.inr (Sum.inr i154)))

def r24_Serves (N : Nat) (a0 : List T_Command) (a1 : List T_Throw) (a2 : T_Span) (a3 : Int) (a4 : Int) (a5 : Int) : Option (Bool) :=
 Option.bind (r24_First N a1 a2.Element) fun r4 =>
 Option.bind (iterN (fun s : Int × Int × Int => r24_Serves_l1 N a0 a2 a3 a4 a5 s.1 s.2.1 s.2.2) N (r4, (-1), 0)) fun r163 =>
 match r163 with
 | .inl p243 => (
 some p243)
 | .inr p246 => (
 some (decide (p246 = a2.Side)))

def r24_Safe_l1 (N : Nat) (a4 : List T_Command) (i116 : Int) : Option ((Int) ⊕ ((Bool × Int) ⊕ Unit)) :=
 bif decide (i116 < (List.length a4 : Int)) then (
 Option.bind (idx a4 i116) fun x131 =>
 Option.bind (gO (!decide (x131.Time < 0)) (idx a4 i116)) fun x137 =>
 Option.bind (gO (!(decide (x131.Time < 0) || decide (1000000000 < x137.Time))) (idx a4 i116)) fun x147 =>
 Option.bind (gO (!((decide (x131.Time < 0) || decide (1000000000 < x137.Time)) || decide (x147.Element < 0))) (idx a4 i116)) fun x157 =>
 Option.bind (gO ((!((decide (x131.Time < 0) || decide (1000000000 < x137.Time)) || decide (x147.Element < 0))) && (!decide (x157.Side = 1))) (idx a4 i116)) fun x167 =>
 bif (((decide (x131.Time < 0) || decide (1000000000 < x137.Time)) || decide (x147.Element < 0)) || ((!decide (x157.Side = 1)) && (!decide (x167.Side = 2)))) then (
 some (.inr (Sum.inl (false, 1)))) else (
 Option.bind (in64 (i116 + 1)) fun x178 =>
 some (.inl x178))) else (
 some (.inr (Sum.inr ())))

def r24_Safe_l5 (N : Nat) (a0 : List (List T_Span)) (a1 : List Int) (a2 : Int) (a3 : List T_Throw) (a4 : List T_Command) (i658 : Int) (i810 : Int) : Option ((Int) ⊕ ((Bool × Int) ⊕ Unit)) :=
 Option.bind (idx a0 i658) fun x823 =>
 bif decide (i810 < (List.length x823 : Int)) then (
 Option.bind (idx a0 i658) fun x830 =>
 Option.bind (idx x830 i810) fun x835 =>
 Option.bind (gO (!decide (x835.Side = 0)) (idx a1 i658)) fun x853 =>
 Option.bind (gO (!decide (x835.Side = 0)) (in64 (x853 + x835.From))) fun x860 =>
 Option.bind (gO (!decide (x835.Side = 0)) (idx a1 i658)) fun x866 =>
 Option.bind (gO (!decide (x835.Side = 0)) (in64 (x866 + x835.To))) fun x873 =>
 Option.bind (gO (!decide (x835.Side = 0)) (r24_Serves N a4 a3 x835 x860 x873 a2)) fun r878 =>
 bif ((!decide (x835.Side = 0)) && (!r878)) then (
 some (.inr (Sum.inl (false, 0)))) else (
 Option.bind (in64 (i810 + 1)) fun x888 =>
 some (.inl x888))) else (
 some (.inr (Sum.inr ())))

def r24_Safe_l4 (N : Nat) (a0 : List (List T_Span)) (a1 : List Int) (a2 : Int) (a3 : List T_Throw) (a4 : List T_Command) (i658 : Int) : Option ((Int) ⊕ ((Bool × Int) ⊕ Unit)) :=
 bif decide (i658 < (List.length a0 : Int)) then (
 Option.bind (iterN (fun s : Int => r24_Safe_l5 N a0 a1 a2 a3 a4 i658 s) N 0) fun r817 =>
 match r817 with
 | .inl p895 => (
 some (.inr (Sum.inl p895)))
 | .inr p898 => (
 Option.bind (in64 (i658 + 1)) fun x901 =>
 some (.inl x901))) else (
 some (.inr (Sum.inr ())))

def r24_Safe (N : Nat) (a0 : List (List T_Span)) (a1 : List Int) (a2 : Int) (a3 : List T_Throw) (a4 : List T_Command) : Option (Bool × Int) :=
 Option.bind (r24_check N a0 a1 a2 a3) fun r1 =>
 bif (!decide (r1 = 0)) then (
 some (false, r1)) else (
 bif decide (1024 < (List.length a4 : Int)) then (
 some (false, 3)) else (
 Option.bind (iterN (fun s : Int => r24_Safe_l1 N a4 s) N 0) fun r123 =>
 match r123 with
 | .inl p185 => (
 some p185)
 | .inr p188 => (
 Option.bind (iterN (fun s : Int => r24_Safe_l4 N a0 a1 a2 a3 a4 s) N 0) fun r665 =>
 match r665 with
 | .inl p908 => (
 some p908)
 | .inr p911 => (
 some (true, 0)))))

def yardgen_SameCommands_l1 (N : Nat) (a0 : List T_Command) (a1 : List T_Command) (i38 : Int) : Option ((Int) ⊕ (Bool ⊕ Unit)) :=
 bif decide (i38 < (List.length a0 : Int)) then (
 Option.bind (idx a0 i38) fun x57 =>
 Option.bind (idx a1 i38) fun x60 =>
 bif (!decide (x57 = x60)) then (
 some (.inr (Sum.inl false))) else (
 Option.bind (in64 (i38 + 1)) fun x65 =>
 some (.inl x65))) else (
 some (.inr (Sum.inr ())))

def yardgen_SameCommands (N : Nat) (a0 : List T_Command) (a1 : List T_Command) : Option (Bool) :=
 bif (!decide ((List.length a0 : Int) = (List.length a1 : Int))) then (
 some false) else (
 Option.bind (iterN (fun s : Int => yardgen_SameCommands_l1 N a0 a1 s) N 0) fun r45 =>
 match r45 with
 | .inl p72 => (
 some p72)
 | .inr p75 => (
 some true))

def law24_exact (N : Nat) (a0 : List (List T_Span)) (a1 : List Int) (a2 : Int) (a3 : List T_Throw) (a4 : List T_Command) : Option (Bool) :=
 Option.bind (throwplan_Commands N a0 a1 a2 a3) fun r1 =>
 Option.bind (r24_Commands N a0 a1 a2 a3) fun r8 =>
 Option.bind (throwplan_Safe N a0 a1 a2 a3 a4) fun r15 =>
 Option.bind (r24_Safe N a0 a1 a2 a3 a4) fun r21 =>
 Option.bind (yardgen_SameCommands N r1.1 r8.1) fun r27 =>
 some (((r27 && decide (r1.2 = r8.2)) && (r15.1 == r21.1)) && decide (r15.2 = r21.2))

def law24_sane (N : Nat) : Option (Bool) :=
 Option.bind (throwplan_Commands N ([[(T_Span.mk 2 2 3000 9000)], [(T_Span.mk 2 1 3000 9000)]]) ([0, 10000]) 2000 []) fun r17 =>
 Option.bind (throwplan_Safe N ([[(T_Span.mk 2 2 3000 9000)], [(T_Span.mk 2 1 3000 9000)]]) ([0, 10000]) 2000 [] r17.1) fun r27 =>
 Option.bind (throwplan_Commands N ([[(T_Span.mk 2 2 3000 9000)], [(T_Span.mk 2 1 3000 9000)]]) ([0, 7000]) 2000 []) fun r36 =>
 bif decide (r17.2 = 0) then (
 Option.bind (yardgen_SameCommands N r17.1 ([(T_Command.mk 0 2 2 0), (T_Command.mk 9000 2 1 1)])) fun r54 =>
 some ((((decide (r17.2 = 0) && r54) && decide (r27.2 = 0)) && r27.1) && decide (r36.2 = 21))) else (
 some ((((decide (r17.2 = 0) && false) && false) && false) && false))

def law24_ThrowplanExact_l7 (N : Nat) (a0 : List Int) (i3246 : Int) (i3247 : Int) (l3248 : List Int) : Option ((Int × Int × List Int) ⊕ (Int × List Int)) :=
 bif decide (i3246 < (List.length l3248 : Int)) then (
 Option.bind (idx l3248 i3246) fun x3282 =>
 Option.bind (Maker_Next N a0 i3247 9000) fun r3285 =>
 Option.bind (in64 (x3282 - r3285.2)) fun x3291 =>
 Option.bind (idx l3248 i3246) fun x3294 =>
 bif decide (0 < i3246) then (
 Option.bind (idx (List.set l3248 (Int.toNat i3246) (max 0 x3291)) i3246) fun x3328 =>
 Option.bind (in64 (i3246 - 1)) fun x3331 =>
 Option.bind (idx (List.set l3248 (Int.toNat i3246) (max 0 x3291)) x3331) fun x3334 =>
 Option.bind (Maker_Next N a0 r3285.1 2) fun r3337 =>
 Option.bind (in64 (x3334 - r3337.2)) fun x3343 =>
 Option.bind (idx (List.set l3248 (Int.toNat i3246) (max 0 x3291)) i3246) fun x3346 =>
 Option.bind (in64 (i3246 + 1)) fun x3351 =>
 some (.inl (x3351, r3337.1, (List.set (List.set l3248 (Int.toNat i3246) (max 0 x3291)) (Int.toNat i3246) (max x3328 x3343))))) else (
 Option.bind (in64 (i3246 + 1)) fun x3354 =>
 some (.inl (x3354, r3285.1, (List.set l3248 (Int.toNat i3246) (max 0 x3291)))))) else (
 some (.inr (i3247, l3248)))

def law24_ThrowplanExact_l5 (N : Nat) (a0 : List Int) (a4 : List T_Command) (i2439 : Int) (i2440 : Int) : Option ((Int × Int) ⊕ (Bool ⊕ Int)) :=
 bif decide (i2439 < 4) then (
 Option.bind (law24_planned N a0 i2440) fun r2455 =>
 Option.bind (r24_Commands N r2455.2.1 r2455.2.2.1 r2455.2.2.2.1 r2455.2.2.2.2) fun r2465 =>
 Option.bind (
 bif decide (i2439 = 1) then (
 Option.bind (iterN (fun s : Int × Int × List Int => law24_ThrowplanExact_l7 N a0 s.1 s.2.1 s.2.2) N (0, r2455.1, r2455.2.2.1)) fun r3255 =>
 some (r3255.1, r2455.2.1, r3255.2, r2455.2.2.2.2, r2465.1)) else (
 bif decide (i2439 = 2) then (
 Option.bind (
 bif decide (0 < (List.length r2455.2.1 : Int)) then (
 Option.bind (idx r2455.2.1 0) fun x3473 =>
 Option.bind (Maker_Next N a0 r2455.1 (List.length r2455.2.1 : Int)) fun r3478 =>
 Option.bind (yardgen_SpoilSpans N a0 r3478.1 x3473) fun r3484 =>
 Option.bind (idx r2455.2.1 r3478.2) fun x3491 =>
 some (r3484.1, (List.set r2455.2.1 (Int.toNat r3478.2) r3484.2))) else (
 some (r2455.1, r2455.2.1))) fun j3434 =>
 Option.bind (Maker_Pick N a0 j3434.1 ([2, (-1), 6])) fun r3511 =>
 Option.bind (Maker_Pick N a0 r3511.1 ([0, 1, 2, 3])) fun r3520 =>
 Option.bind (app 16 r2455.2.2.2.2 ([(T_Throw.mk r3511.2 r3520.2)])) fun l3529 =>
 some (r3520.1, j3434.2, r2455.2.2.1, l3529, r2465.1)) else (
 bif decide (i2439 = 3) then (
 bif decide (0 < (List.length r2465.1 : Int)) then (
 Option.bind (Maker_Next N a0 r2455.1 (List.length r2465.1 : Int)) fun r3539 =>
 Option.bind (idx r2465.1 r3539.2) fun x3545 =>
 Option.bind (in64 (-x3545.Time)) fun x3572 =>
 Option.bind (in64 (x3572 - 1)) fun x3575 =>
 Option.bind (Maker_Pick N a0 r3539.1 ([x3575, (-1), 1, 5000])) fun r3581 =>
 Option.bind (in64 (x3545.Time + r3581.2)) fun x3587 =>
 Option.bind (Maker_Pick N a0 r3581.1 ([(T_Command.mk x3587 x3545.Element x3545.Side x3545.Cut).Side, 0, 1, 2])) fun r3595 =>
 some (r3595.1, r2455.2.1, r2455.2.2.1, r2455.2.2.2.2, (List.set (List.set r2465.1 (Int.toNat r3539.2) (T_Command.mk x3587 x3545.Element x3545.Side x3545.Cut)) (Int.toNat r3539.2) (T_Command.mk ((T_Command.mk x3587 x3545.Element x3545.Side x3545.Cut).Time) ((T_Command.mk x3587 x3545.Element x3545.Side x3545.Cut).Element) r3595.2 ((T_Command.mk x3587 x3545.Element x3545.Side x3545.Cut).Cut))))) else (
 some (r2455.1, r2455.2.1, r2455.2.2.1, r2455.2.2.2.2, r2465.1))) else (
 some (r2455.1, r2455.2.1, r2455.2.2.1, r2455.2.2.2.2, r2465.1))))) fun j3040 =>
 Option.bind (law24_exact N j3040.2.1 j3040.2.2.1 r2455.2.2.2.1 j3040.2.2.2.1 j3040.2.2.2.2) fun r3608 =>
 bif ((!(!r3608)) && decide ((List.length a4 : Int) < 300)) then (
 Option.bind (Maker_Pick N a0 j3040.1 ([(-1), 1000000000, 4000])) fun r3629 =>
 Option.bind (law24_exact N j3040.2.1 j3040.2.2.1 r3629.2 j3040.2.2.2.1 a4) fun r3638 =>
 bif ((!r3608) || (decide ((List.length a4 : Int) < 300) && (!r3638))) then (
 some (.inr (Sum.inl false))) else (
 Option.bind (in64 (i2439 + 1)) fun x3650 =>
 some (.inl (x3650, r3629.1)))) else (
 bif ((!r3608) || (decide ((List.length a4 : Int) < 300) && false)) then (
 some (.inr (Sum.inl false))) else (
 Option.bind (in64 (i2439 + 1)) fun x3664 =>
 some (.inl (x3664, j3040.1))))) else (
 some (.inr (Sum.inr i2440)))

def law24_ThrowplanExact_l8 (N : Nat) (a1 : List (List T_Span)) (i3730 : Int) : Option ((Int) ⊕ (Bool ⊕ Unit)) :=
 bif decide (i3730 < (List.length a1 : Int)) then (
 Option.bind (idx a1 i3730) fun x3745 =>
 bif decide (20 < (List.length x3745 : Int)) then (
 Option.bind (law24_sane N) fun r3752 =>
 some (.inr (Sum.inl r3752))) else (
 Option.bind (in64 (i3730 + 1)) fun x3758 =>
 some (.inl x3758))) else (
 some (.inr (Sum.inr ())))

def law24_ThrowplanExact (N : Nat) (a0 : List Int) (a1 : List (List T_Span)) (a2 : List Int) (a3 : List T_Throw) (a4 : List T_Command) : Option (Bool) :=
 Option.bind (humpgen_New N a0) fun r1 =>
 Option.bind (iterN (fun s : Int × Int => law24_ThrowplanExact_l5 N a0 a4 s.1 s.2) N (0, r1)) fun r2447 =>
 match r2447 with
 | .inl p3671 => (
 some p3671)
 | .inr p3674 => (
 bif ((decide (60 < (List.length a1 : Int)) || decide (300 < (List.length a4 : Int))) || decide (200 < (List.length a3 : Int))) then (
 Option.bind (law24_sane N) fun r3687 =>
 some r3687) else (
 Option.bind (iterN (fun s : Int => law24_ThrowplanExact_l8 N a1 s) N 0) fun r3737 =>
 match r3737 with
 | .inl p3765 => (
 some p3765)
 | .inr p3768 => (
 Option.bind (Maker_Pick N a0 p3674 ([0, 1000])) fun r3774 =>
 Option.bind (law24_exact N a1 a2 r3774.2 a3 a4) fun r3780 =>
 Option.bind (gO r3780 (law24_sane N)) fun r3787 =>
 some (r3780 && r3787))))

def law24_ThrowplanSafe (N : Nat) (a0 : List Int) : Option (Bool) :=
 Option.bind (humpgen_New N a0) fun r1 =>
 Option.bind (law24_planned N a0 r1) fun r8 =>
 Option.bind (throwplan_Commands N r8.2.1 r8.2.2.1 r8.2.2.2.1 r8.2.2.2.2) fun r18 =>
 Option.bind (throwplan_Safe N r8.2.1 r8.2.2.1 r8.2.2.2.1 r8.2.2.2.2 r18.1) fun r25 =>
 Option.bind (gO ((decide (r18.2 = 0) && decide (r25.2 = 0)) && r25.1) (law24_sane N)) fun r37 =>
 some (((decide (r18.2 = 0) && decide (r25.2 = 0)) && r25.1) && r37)

def yardgen_Within_l1 (N : Nat) (a0_l : List Int) (a1 : List T_Span) (i686 : Int) (i687 : Int) (l688 : List T_Span) : Option ((Int × Int × List T_Span) ⊕ (Int × List T_Span)) :=
 bif decide (i686 < (List.length a1 : Int)) then (
 Option.bind (idx a1 i686) fun x702 =>
 Option.bind (in64 (x702.To - x702.From)) fun x728 =>
 Option.bind (Maker_Next N a0_l i687 x728) fun r731 =>
 Option.bind (in64 (x702.From + r731.2)) fun x737 =>
 Option.bind (in64 (x737 + 1)) fun x763 =>
 Option.bind (in64 (x702.To - x737)) fun x766 =>
 Option.bind (Maker_Next N a0_l r731.1 x766) fun r769 =>
 Option.bind (in64 (x763 + r769.2)) fun x775 =>
 Option.bind (app 32 l688 ([(T_Span.mk x702.Element x702.Side x737 x775)])) fun l783 =>
 Option.bind (in64 (i686 + 1)) fun x789 =>
 some (.inl (x789, r769.1, l783))) else (
 some (.inr (i687, l688)))

def yardgen_Within (N : Nat) (a0_l : List Int) (a0_n : Int) (a1 : List T_Span) : Option (Int × List T_Span) :=
 Option.bind (iterN (fun s : Int × Int × List T_Span => yardgen_Within_l1 N a0_l a1 s.1 s.2.1 s.2.2) N (0, a0_n, [])) fun r696 =>
 some (r696.1, r696.2)

def law24_ThrowplanInside_l1 (N : Nat) (a0 : List Int) (r8 : Int × List (List T_Span) × List Int × Int × List T_Throw) (i135 : Int) (i136 : Int) (l137 : List (List T_Span)) : Option ((Int × Int × List (List T_Span)) ⊕ (List (List T_Span))) :=
 bif decide (i135 < (List.length r8.2.1 : Int)) then (
 Option.bind (idx r8.2.1 i135) fun x152 =>
 Option.bind (yardgen_Within N a0 i136 x152) fun r157 =>
 Option.bind (app 24 l137 ([r157.2])) fun l169 =>
 Option.bind (in64 (i135 + 1)) fun x179 =>
 some (.inl (x179, r157.1, l169))) else (
 some (.inr l137))

def law24_ThrowplanInside (N : Nat) (a0 : List Int) : Option (Bool) :=
 Option.bind (humpgen_New N a0) fun r1 =>
 Option.bind (law24_planned N a0 r1) fun r8 =>
 Option.bind (throwplan_Commands N r8.2.1 r8.2.2.1 r8.2.2.2.1 r8.2.2.2.2) fun r18 =>
 Option.bind (iterN (fun s : Int × Int × List (List T_Span) => law24_ThrowplanInside_l1 N a0 r8 s.1 s.2.1 s.2.2) N (0, r8.1, [])) fun r146 =>
 Option.bind (throwplan_Safe N r146 r8.2.2.1 r8.2.2.2.1 r8.2.2.2.2 r18.1) fun r187 =>
 Option.bind (gO ((decide (r18.2 = 0) && decide (r187.2 = 0)) && r187.1) (law24_sane N)) fun r199 =>
 some (((decide (r18.2 = 0) && decide (r187.2 = 0)) && r187.1) && r199)

def yardgen_Place (N : Nat) (a0 : Int) (a1 : Int) : Option (Int) :=
 bif decide (a1 < 1) then (
 some 0) else (
 Option.bind (rem64 a0 a1) fun x3 =>
 bif decide (x3 < 0) then (
 Option.bind (in64 (x3 + a1)) fun x8 =>
 some x8) else (
 some x3))

def law24_ThrowplanNeeded (N : Nat) (a0 : List Int) (a1 : Int) : Option (Bool) :=
 Option.bind (humpgen_New N a0) fun r1 =>
 Option.bind (law24_planned N a0 r1) fun r8 =>
 Option.bind (throwplan_Commands N r8.2.1 r8.2.2.1 r8.2.2.2.1 r8.2.2.2.2) fun r18 =>
 bif (!decide (r18.2 = 0)) then (
 some false) else (
 bif decide ((List.length r18.1 : Int) = 0) then (
 Option.bind (law24_sane N) fun r29 =>
 some r29) else (
 Option.bind (yardgen_Place N a1 (List.length r18.1 : Int)) fun r35 =>
 Option.bind (slc r18.1 0 r35) fun l45 =>
 Option.bind (in64 (r35 + 1)) fun x48 =>
 Option.bind (slc r18.1 x48 (List.length r18.1 : Int)) fun l51 =>
 Option.bind (app 32 [] l45) fun l57 =>
 Option.bind (app 32 l57 l51) fun l63 =>
 Option.bind (throwplan_Safe N r8.2.1 r8.2.2.1 r8.2.2.2.1 r8.2.2.2.2 l63) fun r69 =>
 Option.bind (gO (decide (r69.2 = 0) && (!r69.1)) (law24_sane N)) fun r79 =>
 some ((decide (r69.2 = 0) && (!r69.1)) && r79)))

def law24_ThrowplanForms_l4 (N : Nat) (r18 : List T_Command × Int) (i580 : Int) (i761 : Int) (i762 : Int) : Option ((Int × Int) ⊕ (Int)) :=
 bif decide (i762 < i580) then (
 Option.bind (idx r18.1 i762) fun x779 =>
 Option.bind (idx r18.1 i580) fun x782 =>
 bif decide (x779.Element = x782.Element) then (
 Option.bind (idx r18.1 i762) fun x787 =>
 Option.bind (in64 (i762 + 1)) fun x790 =>
 some (.inl (x787.Side, x790))) else (
 Option.bind (in64 (i762 + 1)) fun x793 =>
 some (.inl (i761, x793)))) else (
 some (.inr i761))

def law24_ThrowplanForms_l3 (N : Nat) (r8 : Int × List (List T_Span) × List Int × Int × List T_Throw) (r18 : List T_Command × Int) (i580 : Int) : Option ((Int) ⊕ (Bool ⊕ Unit)) :=
 bif decide (i580 < (List.length r18.1 : Int)) then (
 Option.bind (idx r18.1 i580) fun x599 =>
 Option.bind (gO (!decide (x599.Cut < 0)) (idx r18.1 i580)) fun x605 =>
 Option.bind (gO ((!(decide (x599.Cut < 0) || decide ((List.length r8.2.1 : Int) ≤ x605.Cut))) && decide (0 < i580)) (idx r18.1 i580)) fun x620 =>
 Option.bind (gO ((!(decide (x599.Cut < 0) || decide ((List.length r8.2.1 : Int) ≤ x605.Cut))) && decide (0 < i580)) (in64 (i580 - 1))) fun x628 =>
 Option.bind (gO ((!(decide (x599.Cut < 0) || decide ((List.length r8.2.1 : Int) ≤ x605.Cut))) && decide (0 < i580)) (idx r18.1 x628)) fun x632 =>
 bif ((decide (x599.Cut < 0) || decide ((List.length r8.2.1 : Int) ≤ x605.Cut)) || (decide (0 < i580) && decide (x620.Time < x632.Time))) then (
 some (.inr (Sum.inl false))) else (
 Option.bind (idx r18.1 i580) fun x647 =>
 Option.bind (idx r8.2.1 x647.Cut) fun x650 =>
 Option.bind (idx r18.1 i580) fun x655 =>
 Option.bind (r23_Find N x650 x655.Element) fun r658 =>
 Option.bind (gO (!decide (r658 < 0)) (idx r18.1 i580)) fun x672 =>
 Option.bind (gO (!decide (r658 < 0)) (idx r8.2.1 x672.Cut)) fun x678 =>
 Option.bind (gO (!decide (r658 < 0)) (idx x678 r658)) fun x686 =>
 Option.bind (gO (!decide (r658 < 0)) (idx r18.1 i580)) fun x694 =>
 bif (decide (r658 < 0) || (!decide (x686.Side = x694.Side))) then (
 some (.inr (Sum.inl false))) else (
 Option.bind (idx r18.1 i580) fun x703 =>
 Option.bind (r24_First N r8.2.2.2.2 x703.Element) fun r706 =>
 Option.bind (iterN (fun s : Int × Int => law24_ThrowplanForms_l4 N r18 i580 s.1 s.2) N (r706, 0)) fun r769 =>
 Option.bind (idx r18.1 i580) fun x805 =>
 Option.bind (gO (!decide (r769 = x805.Side)) (idx r18.1 i580)) fun x811 =>
 Option.bind (gO (!decide (r769 = x805.Side)) (in64 (x811.Time + r8.2.2.2.1))) fun x818 =>
 Option.bind (gO (!decide (r769 = x805.Side)) (idx r18.1 i580)) fun x825 =>
 Option.bind (gO (!decide (r769 = x805.Side)) (idx r8.2.2.1 x825.Cut)) fun x831 =>
 Option.bind (gO (!decide (r769 = x805.Side)) (idx r18.1 i580)) fun x839 =>
 Option.bind (gO (!decide (r769 = x805.Side)) (idx r8.2.1 x839.Cut)) fun x845 =>
 Option.bind (gO (!decide (r769 = x805.Side)) (idx x845 r658)) fun x853 =>
 Option.bind (gO (!decide (r769 = x805.Side)) (in64 (x831 + x853.From))) fun x859 =>
 bif (decide (r769 = x805.Side) || decide (x859 < x818)) then (
 some (.inr (Sum.inl false))) else (
 Option.bind (in64 (i580 + 1)) fun x866 =>
 some (.inl x866))))) else (
 some (.inr (Sum.inr ())))

def law24_ThrowplanForms (N : Nat) (a0 : List Int) : Option (Bool) :=
 Option.bind (humpgen_New N a0) fun r1 =>
 Option.bind (law24_planned N a0 r1) fun r8 =>
 Option.bind (throwplan_Commands N r8.2.1 r8.2.2.1 r8.2.2.2.1 r8.2.2.2.2) fun r18 =>
 bif (!decide (r18.2 = 0)) then (
 some false) else (
 Option.bind (iterN (fun s : Int => law24_ThrowplanForms_l3 N r8 r18 s) N 0) fun r587 =>
 match r587 with
 | .inl p873 => (
 some p873)
 | .inr p876 => (
 Option.bind (law24_sane N) fun r879 =>
 some r879))

end Go.Gv
