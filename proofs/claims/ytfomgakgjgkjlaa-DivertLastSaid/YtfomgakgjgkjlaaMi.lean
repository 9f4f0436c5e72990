/- Plain functions that mirror the program, written by a program of mine (gowalk.py). -/
import Derived.Test.YtfomgakgjgkjlaaPu
namespace Go.Gv
set_option linter.unusedVariables false

structure T_Span where
  Element : Int
  Side : Int
  From : Int
  To : Int
deriving DecidableEq, Inhabited

structure T_Maker where
  l : List Int
  n : Int
deriving DecidableEq, Inhabited

def humpgen_New (N : Nat) (a0 : List Int) : Option (Int) :=
 some 0

def Maker_Next (N : Nat) (a0_l : List Int) (a0_n : Int) (a1 : Int) : Option (Int × Int) :=
 Option.bind (
 bif decide (0 < (List.length a0_l : Int)) then (
 Option.bind (rem64 a0_n (List.length a0_l : Int)) fun x78 =>
 Option.bind (idx a0_l x78) fun x81 =>
 Option.bind (quo64 a0_n (List.length a0_l : Int)) fun x84 =>
 some (wr64 (x81 + (wr64 (x84 * 7919))))) else (
 some 0)) fun j69 =>
 Option.bind (in64 (a0_n + 1)) fun x92 =>
 Option.bind (rem64 j69 a1) fun x97 =>
 bif decide (x97 < 0) then (
 Option.bind (in64 (x97 + a1)) fun x102 =>
 some (x92, x102)) else (
 some (x92, x97))

def Maker_Pick (N : Nat) (a0_l : List Int) (a0_n : Int) (a1 : List Int) : Option (Int × Int) :=
 Option.bind (Maker_Next N a0_l a0_n (List.length a1 : Int)) fun r10 =>
 Option.bind (idx a1 r10.2) fun x16 =>
 some (r10.1, x16)

def law31_pair_l1 (N : Nat) (a0_l : List Int) (r1380 : Int × Int) (i2388 : Int) (i2389 : Int) (i2390 : Int) (i2391 : Int) (l2392 : List T_Span) (l2394 : List T_Span) : Option ((Int × Int × Int × Int × List T_Span × List T_Span) ⊕ (Int × List T_Span × List T_Span)) :=
 bif decide (i2390 ≤ 7) then (
 Option.bind (in64 (i2388 + 1)) fun x2408 =>
 Option.bind (Maker_Next N a0_l i2391 9000) fun r2411 =>
 Option.bind (in64 (x2408 + r2411.2)) fun x2417 =>
 Option.bind (in64 (i2389 + 1)) fun x2425 =>
 Option.bind (Maker_Next N a0_l r2411.1 9000) fun r2428 =>
 Option.bind (in64 (x2425 + r2428.2)) fun x2434 =>
 Option.bind (
 bif decide ((Int.tmod i2390 2) = 0) then (
 Option.bind (Maker_Pick N a0_l r2428.1 ([1, 2])) fun r2475 =>
 bif decide (i2390 = r1380.2) then (
 Option.bind (in64 (3 - r2475.2)) fun x2487 =>
 some (r2475.1, r2475.2, x2487)) else (
 some (r2475.1, r2475.2, r2475.2))) else (
 some (r2428.1, 0, 0))) fun j2467 =>
 Option.bind (
 bif ((decide (r1380.2 < i2390) && decide ((Int.tmod r1380.2 2) = 0)) && decide (0 < r1380.2)) then (
 Option.bind (in64 (i2390 + 20)) fun x2517 =>
 some x2517) else (
 some i2390)) fun j2512 =>
 Option.bind (
 Option.bind (app 32 l2392 ([(T_Span.mk i2390 j2467.2.1 i2388 x2417)])) fun l2632 =>
 Option.bind (app 32 l2394 ([(T_Span.mk j2512 j2467.2.2 i2389 x2434)])) fun l2641 =>
 some (l2632, l2641)) fun j2604 =>
 Option.bind (Maker_Next N a0_l j2467.1 4000) fun r2685 =>
 Option.bind (in64 (i2388 + r2685.2)) fun x2691 =>
 Option.bind (Maker_Next N a0_l r2685.1 3500) fun r2694 =>
 Option.bind (in64 (i2389 + r2694.2)) fun x2700 =>
 Option.bind (in64 (i2390 + 1)) fun x2703 =>
 some (.inl (x2691, x2700, x2703, r2694.1, j2604.1, j2604.2))) else (
 some (.inr (i2391, l2392, l2394)))

def law31_pair (N : Nat) (a0_l : List Int) (a0_n : Int) : Option (Int × List T_Span × List T_Span) :=
 Option.bind (Maker_Pick N a0_l a0_n ([0, 1000, 6000, 12000])) fun r1359 =>
 Option.bind (Maker_Next N a0_l r1359.1 3000) fun r1365 =>
 Option.bind (Maker_Next N a0_l r1365.1 3000) fun r1371 =>
 Option.bind (in64 (r1359.2 + r1371.2)) fun x1377 =>
 Option.bind (Maker_Next N a0_l r1371.1 8) fun r1380 =>
 Option.bind (iterN (fun s : Int × Int × Int × Int × List T_Span × List T_Span => law31_pair_l1 N a0_l r1380 s.1 s.2.1 s.2.2.1 s.2.2.2.1 s.2.2.2.2.1 s.2.2.2.2.2) N (r1365.2, x1377, 1, r1380.1, [], [])) fun r2402 =>
 some (r2402.1, r2402.2.1, r2402.2.2)

def yardgen_SpoilSpans (N : Nat) (a0_l : List Int) (a0_n : Int) (a1 : List T_Span) : Option (Int × List T_Span) :=
 Option.bind (app 32 [] a1) fun l104 =>
 bif decide ((List.length l104 : Int) = 0) then (
 Option.bind (Maker_Pick N a0_l a0_n ([5, 6])) fun r115 =>
 some (r115.1, [(T_Span.mk 1 0 5 r115.2)])) else (
 Option.bind (Maker_Next N a0_l a0_n (List.length l104 : Int)) fun r124 =>
 Option.bind (idx l104 r124.2) fun x130 =>
 Option.bind (Maker_Next N a0_l r124.1 6) fun r133 =>
 bif decide (r133.2 = 0) then (
 Option.bind (idx l104 0) fun x141 =>
 Option.bind (Maker_Pick N a0_l r133.1 ([(-1), x141.Element, 127, 128])) fun r147 =>
 some (r147.1, (List.set l104 (Int.toNat r124.2) (T_Span.mk r147.2 x130.Side x130.From x130.To)))) else (
 bif decide (r133.2 = 1) then (
 Option.bind (Maker_Pick N a0_l r133.1 ([(-1), 3, 0])) fun r160 =>
 some (r160.1, (List.set l104 (Int.toNat r124.2) (T_Span.mk x130.Element r160.2 x130.From x130.To)))) else (
 bif decide (r133.2 = 2) then (
 Option.bind (in64 (x130.To + 1)) fun x174 =>
 Option.bind (Maker_Pick N a0_l r133.1 ([(-1), x130.To, x174])) fun r180 =>
 some (r180.1, (List.set l104 (Int.toNat r124.2) (T_Span.mk x130.Element x130.Side r180.2 x130.To)))) else (
 bif decide (r133.2 = 3) then (
 Option.bind (Maker_Pick N a0_l r133.1 ([1000000000, 1000000001, x130.From])) fun r193 =>
 some (r193.1, (List.set l104 (Int.toNat r124.2) (T_Span.mk x130.Element x130.Side x130.From r193.2)))) else (
 some (r133.1, l104))))))

def separation_valid_l1 (N : Nat) (a0 : List T_Span) (i96 : Int) (m97 : List (Int × Bool)) : Option ((Int × (List (Int × Bool))) ⊕ (Bool ⊕ Unit)) :=
 bif decide (i96 < (List.length a0 : Int)) then (
 Option.bind (idx a0 i96) fun x112 =>
 bif ((((((decide (x112.Element < 0) || (Option.getD (mget m97 x112.Element) false)) || decide (x112.Side < 0)) || decide (2 < x112.Side)) || decide (x112.From < 0)) || decide (x112.To ≤ x112.From)) || decide (1000000000 < x112.To)) then (
 some (.inr (Sum.inl false))) else (
 Option.bind (in64 (i96 + 1)) fun x151 =>
 some (.inl (x151, (mset m97 x112.Element true))))) else (
 some (.inr (Sum.inr ())))

def separation_valid (N : Nat) (a0 : List T_Span) : Option (Bool) :=
 bif decide (128 < (List.length a0 : Int)) then (
 some false) else (
 Option.bind (iterN (fun s : Int × (List (Int × Bool)) => separation_valid_l1 N a0 s.1 s.2) N (0, [])) fun r104 =>
 match r104 with
 | .inl p158 => (
 some p158)
 | .inr p161 => (
 some true))

def separation_sound_l1 (N : Nat) (a0 : List (List T_Span)) (i38 : Int) : Option ((Int) ⊕ (Bool ⊕ Unit)) :=
 bif decide (i38 < (List.length a0 : Int)) then (
 Option.bind (idx a0 i38) fun x53 =>
 Option.bind (separation_valid N x53) fun r58 =>
 bif (!r58) then (
 some (.inr (Sum.inl false))) else (
 Option.bind (in64 (i38 + 1)) fun x66 =>
 some (.inl x66))) else (
 some (.inr (Sum.inr ())))

def separation_sound (N : Nat) (a0 : List (List T_Span)) (a1 : Int) : Option (Bool) :=
 Option.bind (iterN (fun s : Int => separation_sound_l1 N a0 s) N 0) fun r45 =>
 match r45 with
 | .inl p73 => (
 some p73)
 | .inr p76 => (
 some (decide (0 ≤ a1) && decide (a1 ≤ 1000000000)))

def separation_gap_l4 (N : Nat) (a1 : List T_Span) (a2 : Int) (x346 : T_Span) (i439 : Int) (i440 : Int) : Option ((Int × Int) ⊕ ((Int × Int) ⊕ Int)) :=
 bif decide (i440 < (List.length a1 : Int)) then (
 Option.bind (idx a1 i440) fun x455 =>
 bif (!decide (x346.Element = x455.Element)) then (
 Option.bind (in64 (i440 + 1)) fun x465 =>
 some (.inl (i439, x465))) else (
 bif decide (x346.To = 1000000000) then (
 some (.inr (Sum.inl (0, 24)))) else (
 Option.bind (in64 (x346.To - x455.From)) fun x470 =>
 bif (((!decide (x346.Side = 0)) && (!decide (x455.Side = 0))) && (!decide (x346.Side = x455.Side))) then (
 Option.bind (in64 (x470 + a2)) fun x485 =>
 Option.bind (in64 (i440 + 1)) fun x488 =>
 some (.inl ((max i439 x485), x488))) else (
 Option.bind (in64 (i440 + 1)) fun x491 =>
 some (.inl ((max i439 x470), x491)))))) else (
 some (.inr (Sum.inr i439)))

def separation_gap_l3 (N : Nat) (a0 : List T_Span) (a1 : List T_Span) (a2 : Int) (i330 : Int) (i331 : Int) : Option ((Int × Int) ⊕ ((Int × Int) ⊕ Int)) :=
 bif decide (i331 < (List.length a0 : Int)) then (
 Option.bind (idx a0 i331) fun x346 =>
 Option.bind (iterN (fun s : Int × Int => separation_gap_l4 N a1 a2 x346 s.1 s.2) N (i330, 0)) fun r447 =>
 match r447 with
 | .inl p498 => (
 some (.inr (Sum.inl p498)))
 | .inr p501 => (
 Option.bind (in64 (i331 + 1)) fun x504 =>
 some (.inl (p501, x504)))) else (
 some (.inr (Sum.inr i330)))

def separation_gap (N : Nat) (a0 : List T_Span) (a1 : List T_Span) (a2 : Int) : Option (Int × Int) :=
 Option.bind (iterN (fun s : Int × Int => separation_gap_l3 N a0 a1 a2 s.1 s.2) N (0, 0)) fun r338 =>
 match r338 with
 | .inl p511 => (
 some p511)
 | .inr p514 => (
 some (p514, 0))

def separation_Gap (N : Nat) (a0 : List T_Span) (a1 : List T_Span) (a2 : Int) : Option (Int × Int) :=
 Option.bind (separation_sound N ([a0, a1]) a2) fun r8 =>
 bif (!r8) then (
 some (0, 1)) else (
 Option.bind (separation_gap N a0 a1 a2) fun r16 =>
 some (r16.1, r16.2))

def divert_valid (N : Nat) (a0 : List T_Span) : Option (Bool) :=
 Option.bind (separation_Gap N a0 [] 0) fun r1 =>
 some (decide (r1.2 = 0))

def divert_in (N : Nat) (a0 : Int) : Option (Bool) :=
 some (decide (0 ≤ a0) && decide (a0 ≤ 1000000000))

def divert_ready (N : Nat) (a0 : T_Span) (a1 : T_Span) (a2 : Int) : Option (Int) :=
 bif (((!decide (a0.Side = 0)) && (!decide (a1.Side = 0))) && (!decide (a0.Side = a1.Side))) then (
 Option.bind (in64 (a0.To + a2)) fun x19 =>
 some x19) else (
 some a0.To)

def divert_conflict_l4 (N : Nat) (a0 : List T_Span) (a2 : Int) (i358 : Int) (x373 : T_Span) (i476 : Int) : Option ((Int) ⊕ (Int ⊕ Unit)) :=
 bif decide (i476 < (List.length a0 : Int)) then (
 Option.bind (idx a0 i476) fun x491 =>
 Option.bind (gO (decide (x491.Element = x373.Element)) (divert_ready N x491 x373 a2)) fun r523 =>
 bif (decide (x491.Element = x373.Element) && decide (x373.From < r523)) then (
 some (.inr (Sum.inl i358))) else (
 Option.bind (in64 (i476 + 1)) fun x533 =>
 some (.inl x533))) else (
 some (.inr (Sum.inr ())))

def divert_conflict_l3 (N : Nat) (a0 : List T_Span) (a1 : List T_Span) (a2 : Int) (i358 : Int) : Option ((Int) ⊕ (Int ⊕ Unit)) :=
 bif decide (i358 < (List.length a1 : Int)) then (
 Option.bind (idx a1 i358) fun x373 =>
 Option.bind (iterN (fun s : Int => divert_conflict_l4 N a0 a2 i358 x373 s) N 0) fun r483 =>
 match r483 with
 | .inl p540 => (
 some (.inr (Sum.inl p540)))
 | .inr p543 => (
 Option.bind (in64 (i358 + 1)) fun x546 =>
 some (.inl x546))) else (
 some (.inr (Sum.inr ())))

def divert_conflict (N : Nat) (a0 : List T_Span) (a1 : List T_Span) (a2 : Int) : Option (Int) :=
 Option.bind (iterN (fun s : Int => divert_conflict_l3 N a0 a1 a2 s) N 0) fun r365 =>
 match r365 with
 | .inl p553 => (
 some p553)
 | .inr p556 => (
 some (-1))

def divert_Conflict (N : Nat) (a0 : List T_Span) (a1 : List T_Span) (a2 : Int) : Option (Int × Int) :=
 Option.bind (divert_valid N a0) fun r1 =>
 Option.bind (gO (!(!r1)) (divert_valid N a1)) fun r9 =>
 Option.bind (gO (!((!r1) || (!r9))) (divert_in N a2)) fun r19 =>
 bif (((!r1) || (!r9)) || (!r19)) then (
 some (0, 1)) else (
 Option.bind (divert_conflict N a0 a1 a2) fun r29 =>
 some (r29, 0))

def r23_Valid_l4 (N : Nat) (a0 : List T_Span) (i210 : Int) (x225 : T_Span) (i286 : Int) : Option ((Int) ⊕ (Bool ⊕ Unit)) :=
 bif decide (i286 < i210) then (
 Option.bind (idx a0 i286) fun x305 =>
 bif decide (x305.Element = x225.Element) then (
 some (.inr (Sum.inl false))) else (
 Option.bind (in64 (i286 + 1)) fun x310 =>
 some (.inl x310))) else (
 some (.inr (Sum.inr ())))

def r23_Valid_l3 (N : Nat) (a0 : List T_Span) (i210 : Int) : Option ((Int) ⊕ (Bool ⊕ Unit)) :=
 bif decide (i210 < (List.length a0 : Int)) then (
 Option.bind (idx a0 i210) fun x225 =>
 bif (((((decide (x225.Element < 0) || decide (x225.Side < 0)) || decide (2 < x225.Side)) || decide (x225.From < 0)) || decide (x225.To ≤ x225.From)) || decide (1000000000 < x225.To)) then (
 some (.inr (Sum.inl false))) else (
 Option.bind (iterN (fun s : Int => r23_Valid_l4 N a0 i210 x225 s) N 0) fun r293 =>
 match r293 with
 | .inl p317 => (
 some (.inr (Sum.inl p317)))
 | .inr p320 => (
 Option.bind (in64 (i210 + 1)) fun x323 =>
 some (.inl x323)))) else (
 some (.inr (Sum.inr ())))

def r23_Valid (N : Nat) (a0 : List T_Span) : Option (Bool) :=
 bif decide (128 < (List.length a0 : Int)) then (
 some false) else (
 Option.bind (iterN (fun s : Int => r23_Valid_l3 N a0 s) N 0) fun r217 =>
 match r217 with
 | .inl p330 => (
 some p330)
 | .inr p333 => (
 some true))

def r31_check (N : Nat) (a0 : List T_Span) (a1 : List T_Span) (a2 : Int) (a3 : Int) : Option (Bool) :=
 Option.bind (r23_Valid N a0) fun r1 =>
 Option.bind (gO r1 (r23_Valid N a1)) fun r9 =>
 some (((((r1 && r9) && decide (0 ≤ a2)) && decide (a2 ≤ 1000000000)) && decide (0 ≤ a3)) && decide (a3 ≤ 1000000000))

def r23_Find_l1 (N : Nat) (a0 : List T_Span) (a1 : Int) (i22 : Int) : Option ((Int) ⊕ (Int ⊕ Unit)) :=
 bif decide (i22 < (List.length a0 : Int)) then (
 Option.bind (idx a0 i22) fun x37 =>
 bif decide (x37.Element = a1) then (
 some (.inr (Sum.inl i22))) else (
 Option.bind (in64 (i22 + 1)) fun x42 =>
 some (.inl x42))) else (
 some (.inr (Sum.inr ())))

def r23_Find (N : Nat) (a0 : List T_Span) (a1 : Int) : Option (Int) :=
 Option.bind (iterN (fun s : Int => r23_Find_l1 N a0 a1 s) N 0) fun r29 =>
 match r29 with
 | .inl p49 => (
 some p49)
 | .inr p52 => (
 some (-1))

def r23_After (N : Nat) (a0 : T_Span) (a1 : T_Span) (a2 : Int) : Option (Int) :=
 bif (((!decide (a0.Side = 0)) && (!decide (a1.Side = 0))) && (!decide (a0.Side = a1.Side))) then (
 Option.bind (in64 (a0.To + a2)) fun x19 =>
 some x19) else (
 some a0.To)

def r31_conflict_l1 (N : Nat) (a0 : List T_Span) (a1 : List T_Span) (a2 : Int) (i170 : Int) : Option ((Int) ⊕ (Int ⊕ Unit)) :=
 bif decide (i170 < (List.length a1 : Int)) then (
 Option.bind (idx a1 i170) fun x185 =>
 Option.bind (r23_Find N a0 x185.Element) fun r188 =>
 Option.bind (gO (decide (0 ≤ r188)) (idx a0 r188)) fun x233 =>
 Option.bind (gO (decide (0 ≤ r188)) (idx a1 i170)) fun x240 =>
 Option.bind (gO (decide (0 ≤ r188)) (idx a1 i170)) fun x248 =>
 Option.bind (gO (decide (0 ≤ r188)) (r23_After N x233 x240 a2)) fun r254 =>
 bif (decide (0 ≤ r188) && decide (x248.From < r254)) then (
 some (.inr (Sum.inl i170))) else (
 Option.bind (in64 (i170 + 1)) fun x264 =>
 some (.inl x264))) else (
 some (.inr (Sum.inr ())))

def r31_conflict (N : Nat) (a0 : List T_Span) (a1 : List T_Span) (a2 : Int) : Option (Int) :=
 Option.bind (iterN (fun s : Int => r31_conflict_l1 N a0 a1 a2 s) N 0) fun r177 =>
 match r177 with
 | .inl p271 => (
 some p271)
 | .inr p274 => (
 some (-1))

def r31_Conflict (N : Nat) (a0 : List T_Span) (a1 : List T_Span) (a2 : Int) : Option (Int × Int) :=
 Option.bind (r31_check N a0 a1 a2 0) fun r1 =>
 bif (!r1) then (
 some (0, 1)) else (
 Option.bind (r31_conflict N a0 a1 a2) fun r9 =>
 some (r9, 0))

def divert_thrown_l1 (N : Nat) (a0 : List T_Span) (a1 : T_Span) (a2 : Int) (i69 : Int) : Option ((Int) ⊕ (Bool ⊕ Unit)) :=
 bif decide (i69 < (List.length a0 : Int)) then (
 Option.bind (idx a0 i69) fun x84 =>
 Option.bind (gO (decide (x84.Element = a1.Element)) (in64 (x84.To + a2))) fun x98 =>
 bif (decide (x84.Element = a1.Element) && decide (a1.From < x98)) then (
 some (.inr (Sum.inl false))) else (
 Option.bind (in64 (i69 + 1)) fun x105 =>
 some (.inl x105))) else (
 some (.inr (Sum.inr ())))

def divert_thrown (N : Nat) (a0 : List T_Span) (a1 : T_Span) (a2 : Int) (a3 : Int) : Option (Bool) :=
 Option.bind (gO (!decide (a1.Side = 0)) (in64 (a3 + a2))) fun x9 =>
 bif (decide (a1.Side = 0) || decide (a1.From < x9)) then (
 some false) else (
 Option.bind (iterN (fun s : Int => divert_thrown_l1 N a0 a1 a2 s) N 0) fun r76 =>
 match r76 with
 | .inl p112 => (
 some p112)
 | .inr p115 => (
 some true))

def divert_Choose_l1 (N : Nat) (a0 : List T_Span) (a1 : List T_Span) (a2 : Int) (a3 : Int) (i83 : Int) : Option ((Int) ⊕ ((Int × Int) ⊕ Unit)) :=
 bif decide (0 ≤ i83) then (
 Option.bind (idx a1 i83) fun x98 =>
 Option.bind (divert_thrown N a0 x98 a2 a3) fun r101 =>
 bif r101 then (
 some (.inr (Sum.inl (i83, 0)))) else (
 Option.bind (in64 (i83 - 1)) fun x109 =>
 some (.inl x109))) else (
 some (.inr (Sum.inr ())))

def divert_Choose (N : Nat) (a0 : List T_Span) (a1 : List T_Span) (a2 : Int) (a3 : Int) : Option (Int × Int) :=
 Option.bind (divert_valid N a0) fun r1 =>
 Option.bind (gO (!(!r1)) (divert_valid N a1)) fun r9 =>
 Option.bind (gO (!((!r1) || (!r9))) (divert_in N a2)) fun r19 =>
 Option.bind (gO (!(((!r1) || (!r9)) || (!r19))) (divert_in N a3)) fun r29 =>
 bif ((((!r1) || (!r9)) || (!r19)) || (!r29)) then (
 some (0, 1)) else (
 Option.bind (divert_conflict N a0 a1 a2) fun r39 =>
 bif decide (r39 < 0) then (
 some (0, 16)) else (
 Option.bind (in64 (r39 - 1)) fun x47 =>
 Option.bind (iterN (fun s : Int => divert_Choose_l1 N a0 a1 a2 a3 s) N x47) fun r90 =>
 match r90 with
 | .inl p116 => (
 some p116)
 | .inr p119 => (
 some (0, 15))))

def r31_Choose_l1 (N : Nat) (a0 : List T_Span) (a1 : List T_Span) (a2 : Int) (a3 : Int) (i155 : Int) : Option ((Int) ⊕ ((Int × Int) ⊕ Unit)) :=
 bif decide (0 ≤ i155) then (
 Option.bind (idx a1 i155) fun x170 =>
 Option.bind (r23_Find N a0 x170.Element) fun r173 =>
 Option.bind (idx a1 i155) fun x183 =>
 Option.bind (gO (!decide (x183.Side = 0)) (in64 (a3 + a2))) fun x189 =>
 Option.bind (gO (!decide (x183.Side = 0)) (idx a1 i155)) fun x195 =>
 Option.bind (gO (((!decide (x183.Side = 0)) && decide (x189 ≤ x195.From)) && (!decide (r173 < 0))) (idx a0 r173)) fun x208 =>
 Option.bind (gO (((!decide (x183.Side = 0)) && decide (x189 ≤ x195.From)) && (!decide (r173 < 0))) (in64 (x208.To + a2))) fun x215 =>
 Option.bind (gO (((!decide (x183.Side = 0)) && decide (x189 ≤ x195.From)) && (!decide (r173 < 0))) (idx a1 i155)) fun x221 =>
 bif (((!decide (x183.Side = 0)) && decide (x189 ≤ x195.From)) && (decide (r173 < 0) || decide (x215 ≤ x221.From))) then (
 some (.inr (Sum.inl (i155, 0)))) else (
 Option.bind (in64 (i155 - 1)) fun x232 =>
 some (.inl x232))) else (
 some (.inr (Sum.inr ())))

def r31_Choose (N : Nat) (a0 : List T_Span) (a1 : List T_Span) (a2 : Int) (a3 : Int) : Option (Int × Int) :=
 Option.bind (r31_check N a0 a1 a2 a3) fun r1 =>
 bif (!r1) then (
 some (0, 1)) else (
 Option.bind (r31_conflict N a0 a1 a2) fun r9 =>
 bif decide (r9 < 0) then (
 some (0, 16)) else (
 Option.bind (in64 (r9 - 1)) fun x17 =>
 Option.bind (iterN (fun s : Int => r31_Choose_l1 N a0 a1 a2 a3 s) N x17) fun r162 =>
 match r162 with
 | .inl p239 => (
 some p239)
 | .inr p242 => (
 some (0, 15))))

def divert_Diverted (N : Nat) (a0 : List T_Span) (a1 : Int) : Option (List T_Span × Int) :=
 Option.bind (divert_valid N a0) fun r1 =>
 bif (!r1) then (
 some ([], 1)) else (
 bif (decide (a1 < 0) || decide ((List.length a0 : Int) ≤ a1)) then (
 some ([], 2)) else (
 Option.bind (in64 (a1 + 1)) fun x18 =>
 Option.bind (slc a0 0 x18) fun l21 =>
 Option.bind (app 32 [] l21) fun l25 =>
 Option.bind (idx l25 a1) fun x31 =>
 bif decide (x31.Side = 1) then (
 Option.bind (idx l25 a1) fun x36 =>
 some ((List.set l25 (Int.toNat a1) (T_Span.mk x36.Element 2 x36.From x36.To)), 0)) else (
 bif decide (x31.Side = 2) then (
 Option.bind (idx l25 a1) fun x43 =>
 some ((List.set l25 (Int.toNat a1) (T_Span.mk x43.Element 1 x43.From x43.To)), 0)) else (
 some ([], 16)))))

def r31_Diverted (N : Nat) (a0 : List T_Span) (a1 : Int) : Option (List T_Span × Int) :=
 Option.bind (r23_Valid N a0) fun r1 =>
 bif (!r1) then (
 some ([], 1)) else (
 bif (decide (a1 < 0) || decide ((List.length a0 : Int) ≤ a1)) then (
 some ([], 2)) else (
 Option.bind (idx a0 a1) fun x18 =>
 bif decide (x18.Side = 0) then (
 some ([], 16)) else (
 Option.bind (in64 (a1 + 1)) fun x27 =>
 Option.bind (slc a0 0 x27) fun l30 =>
 Option.bind (app 32 [] l30) fun l33 =>
 Option.bind (idx a0 a1) fun x39 =>
 Option.bind (in64 (3 - x39.Side)) fun x42 =>
 Option.bind (idx l33 a1) fun x45 =>
 some ((List.set l33 (Int.toNat a1) (T_Span.mk x45.Element x42 x45.From x45.To)), 0))))

def yardgen_SameSpans_l1 (N : Nat) (a0 : List T_Span) (a1 : List T_Span) (i38 : Int) : Option ((Int) ⊕ (Bool ⊕ Unit)) :=
 bif decide (i38 < (List.length a0 : Int)) then (
 Option.bind (idx a0 i38) fun x57 =>
 Option.bind (idx a1 i38) fun x60 =>
 bif (!decide (x57 = x60)) then (
 some (.inr (Sum.inl false))) else (
 Option.bind (in64 (i38 + 1)) fun x65 =>
 some (.inl x65))) else (
 some (.inr (Sum.inr ())))

def yardgen_SameSpans (N : Nat) (a0 : List T_Span) (a1 : List T_Span) : Option (Bool) :=
 bif (!decide ((List.length a0 : Int) = (List.length a1 : Int))) then (
 some false) else (
 Option.bind (iterN (fun s : Int => yardgen_SameSpans_l1 N a0 a1 s) N 0) fun r45 =>
 match r45 with
 | .inl p72 => (
 some p72)
 | .inr p75 => (
 some true))

def law31_exact (N : Nat) (a0 : List T_Span) (a1 : List T_Span) (a2 : Int) (a3 : Int) (a4 : Int) : Option (Bool) :=
 Option.bind (divert_Conflict N a0 a1 a2) fun r1 =>
 Option.bind (r31_Conflict N a0 a1 a2) fun r7 =>
 Option.bind (divert_Choose N a0 a1 a2 a3) fun r13 =>
 Option.bind (r31_Choose N a0 a1 a2 a3) fun r19 =>
 Option.bind (divert_Diverted N a1 a4) fun r25 =>
 Option.bind (r31_Diverted N a1 a4) fun r32 =>
 Option.bind (gO (((decide (r1.1 = r7.1) && decide (r1.2 = r7.2)) && decide (r13.1 = r19.1)) && decide (r13.2 = r19.2)) (yardgen_SameSpans N r25.1 r32.1)) fun r54 =>
 some (((((decide (r1.1 = r7.1) && decide (r1.2 = r7.2)) && decide (r13.1 = r19.1)) && decide (r13.2 = r19.2)) && r54) && decide (r25.2 = r32.2))

def law31_sane (N : Nat) : Option (Bool) :=
 Option.bind (divert_Conflict N ([(T_Span.mk 0 1 0 5000), (T_Span.mk 1 0 4000 20000)]) ([(T_Span.mk 0 1 8000 12000), (T_Span.mk 1 0 11000 30000)]) 1000) fun r7 =>
 Option.bind (divert_Choose N ([(T_Span.mk 0 1 0 5000), (T_Span.mk 1 0 4000 20000)]) ([(T_Span.mk 0 1 8000 12000), (T_Span.mk 1 0 11000 30000)]) 1000 2000) fun r13 =>
 Option.bind (divert_Diverted N ([(T_Span.mk 0 1 8000 12000), (T_Span.mk 1 0 11000 30000)]) 0) fun r19 =>
 Option.bind (divert_Choose N ([(T_Span.mk 0 1 0 5000), (T_Span.mk 1 0 4000 20000)]) ([(T_Span.mk 0 1 8000 12000), (T_Span.mk 1 0 11000 30000)]) 1000 7500) fun r26 =>
 bif ((((decide (r7.2 = 0) && decide (r7.1 = 1)) && decide (r13.2 = 0)) && decide (r13.1 = 0)) && decide (r19.2 = 0)) then (
 Option.bind (yardgen_SameSpans N r19.1 ([(T_Span.mk 0 2 8000 12000)])) fun r54 =>
 some ((((((decide (r7.2 = 0) && decide (r7.1 = 1)) && decide (r13.2 = 0)) && decide (r13.1 = 0)) && decide (r19.2 = 0)) && r54) && decide (r26.2 = 15))) else (
 some ((((((decide (r7.2 = 0) && decide (r7.1 = 1)) && decide (r13.2 = 0)) && decide (r13.1 = 0)) && decide (r19.2 = 0)) && false) && false))

def law31_DivertExact_l1 (N : Nat) (a0 : List Int) (a3 : Int) (a4 : Int) (i579 : Int) (i580 : Int) : Option ((Int × Int) ⊕ (Bool ⊕ Int)) :=
 bif decide (i579 < 4) then (
 Option.bind (law31_pair N a0 i580) fun r595 =>
 bif decide (i579 = 2) then (
 Option.bind (yardgen_SpoilSpans N a0 r595.1 r595.2.1) fun r614 =>
 bif decide (i579 = 3) then (
 Option.bind (yardgen_SpoilSpans N a0 r614.1 r595.2.2) fun r632 =>
 Option.bind (Maker_Pick N a0 r632.1 ([0, 800, 2500])) fun r642 =>
 Option.bind (Maker_Next N a0 r642.1 20000) fun r648 =>
 Option.bind (Maker_Next N a0 r648.1 9) fun r654 =>
 Option.bind (in64 (r654.2 - 1)) fun x660 =>
 Option.bind (law31_exact N r614.2 r632.2 r642.2 r648.2 x660) fun r663 =>
 Option.bind (gD (!(!r663)) (r654.1, default) (Maker_Next N a0 r654.1 7)) fun r675 =>
 Option.bind (gO (!(!r663)) (law31_exact N r614.2 r632.2 a3 a4 r675.2)) fun r681 =>
 bif ((!r663) || (!r681)) then (
 some (.inr (Sum.inl false))) else (
 Option.bind (in64 (i579 + 1)) fun x691 =>
 some (.inl (x691, r675.1)))) else (
 Option.bind (Maker_Pick N a0 r614.1 ([0, 800, 2500])) fun r697 =>
 Option.bind (Maker_Next N a0 r697.1 20000) fun r703 =>
 Option.bind (Maker_Next N a0 r703.1 9) fun r709 =>
 Option.bind (in64 (r709.2 - 1)) fun x715 =>
 Option.bind (law31_exact N r614.2 r595.2.2 r697.2 r703.2 x715) fun r718 =>
 Option.bind (gD (!(!r718)) (r709.1, default) (Maker_Next N a0 r709.1 7)) fun r730 =>
 Option.bind (gO (!(!r718)) (law31_exact N r614.2 r595.2.2 a3 a4 r730.2)) fun r736 =>
 bif ((!r718) || (!r736)) then (
 some (.inr (Sum.inl false))) else (
 Option.bind (in64 (i579 + 1)) fun x746 =>
 some (.inl (x746, r730.1))))) else (
 bif decide (i579 = 3) then (
 Option.bind (yardgen_SpoilSpans N a0 r595.1 r595.2.2) fun r760 =>
 Option.bind (Maker_Pick N a0 r760.1 ([0, 800, 2500])) fun r770 =>
 Option.bind (Maker_Next N a0 r770.1 20000) fun r776 =>
 Option.bind (Maker_Next N a0 r776.1 9) fun r782 =>
 Option.bind (in64 (r782.2 - 1)) fun x788 =>
 Option.bind (law31_exact N r595.2.1 r760.2 r770.2 r776.2 x788) fun r791 =>
 Option.bind (gD (!(!r791)) (r782.1, default) (Maker_Next N a0 r782.1 7)) fun r803 =>
 Option.bind (gO (!(!r791)) (law31_exact N r595.2.1 r760.2 a3 a4 r803.2)) fun r809 =>
 bif ((!r791) || (!r809)) then (
 some (.inr (Sum.inl false))) else (
 Option.bind (in64 (i579 + 1)) fun x819 =>
 some (.inl (x819, r803.1)))) else (
 Option.bind (Maker_Pick N a0 r595.1 ([0, 800, 2500])) fun r825 =>
 Option.bind (Maker_Next N a0 r825.1 20000) fun r831 =>
 Option.bind (Maker_Next N a0 r831.1 9) fun r837 =>
 Option.bind (in64 (r837.2 - 1)) fun x843 =>
 Option.bind (law31_exact N r595.2.1 r595.2.2 r825.2 r831.2 x843) fun r846 =>
 Option.bind (gD (!(!r846)) (r837.1, default) (Maker_Next N a0 r837.1 7)) fun r858 =>
 Option.bind (gO (!(!r846)) (law31_exact N r595.2.1 r595.2.2 a3 a4 r858.2)) fun r864 =>
 bif ((!r846) || (!r864)) then (
 some (.inr (Sum.inl false))) else (
 Option.bind (in64 (i579 + 1)) fun x874 =>
 some (.inl (x874, r858.1)))))) else (
 some (.inr (Sum.inr i580)))

def law31_DivertExact (N : Nat) (a0 : List Int) (a1 : List T_Span) (a2 : List T_Span) (a3 : Int) (a4 : Int) : Option (Bool) :=
 Option.bind (humpgen_New N a0) fun r1 =>
 Option.bind (iterN (fun s : Int × Int => law31_DivertExact_l1 N a0 a3 a4 s.1 s.2) N (0, r1)) fun r587 =>
 match r587 with
 | .inl p881 => (
 some p881)
 | .inr p884 => (
 Option.bind (gD (!(decide (140 < (List.length a1 : Int)) || decide (140 < (List.length a2 : Int)))) (p884, default) (Maker_Next N a0 p884 9)) fun r897 =>
 Option.bind (gO (!(decide (140 < (List.length a1 : Int)) || decide (140 < (List.length a2 : Int)))) (in64 (r897.2 - 1))) fun x903 =>
 Option.bind (gO (!(decide (140 < (List.length a1 : Int)) || decide (140 < (List.length a2 : Int)))) (law31_exact N a1 a2 a3 a4 x903)) fun r907 =>
 Option.bind (gO ((!(decide (140 < (List.length a1 : Int)) || decide (140 < (List.length a2 : Int)))) && r907) (law31_sane N)) fun r915 =>
 some ((decide (140 < (List.length a1 : Int)) || decide (140 < (List.length a2 : Int))) || (r907 && r915)))

def yardgen_Place (N : Nat) (a0 : Int) (a1 : Int) : Option (Int) :=
 bif decide (a1 < 1) then (
 some 0) else (
 Option.bind (rem64 a0 a1) fun x3 =>
 bif decide (x3 < 0) then (
 Option.bind (in64 (x3 + a1)) fun x8 =>
 some x8) else (
 some x3))

def law31_DivertClears_l1 (N : Nat) (r8 : Int × List T_Span × List T_Span) (r31 : Int × Int) (r50 : List T_Span × Int) (i131 : Int) : Option ((Int) ⊕ (Bool ⊕ Unit)) :=
 bif decide (i131 < r31.1) then (
 Option.bind (idx r50.1 i131) fun x150 =>
 Option.bind (idx r8.2.2 i131) fun x153 =>
 bif (!decide (x150 = x153)) then (
 some (.inr (Sum.inl false))) else (
 Option.bind (in64 (i131 + 1)) fun x158 =>
 some (.inl x158))) else (
 some (.inr (Sum.inr ())))

def law31_DivertClears (N : Nat) (a0 : List Int) (a1 : Int) : Option (Bool) :=
 Option.bind (humpgen_New N a0) fun r1 =>
 Option.bind (law31_pair N a0 r1) fun r8 =>
 Option.bind (Maker_Pick N a0 r8.1 ([0, 800, 2500])) fun r19 =>
 Option.bind (yardgen_Place N a1 15000) fun r25 =>
 Option.bind (divert_Choose N r8.2.1 r8.2.2 r19.2 r25) fun r31 =>
 bif (!decide (r31.2 = 0)) then (
 Option.bind (gO (decide (r31.2 = 16) || decide (r31.2 = 15)) (law31_sane N)) fun r43 =>
 some ((decide (r31.2 = 16) || decide (r31.2 = 15)) && r43)) else (
 Option.bind (divert_Diverted N r8.2.2 r31.1) fun r50 =>
 Option.bind (divert_Conflict N r8.2.1 r50.1 r19.2) fun r57 =>
 Option.bind (gO (!(((!decide (r50.2 = 0)) || (!decide (r57.2 = 0))) || (!decide (r57.1 = (-1))))) (in64 (r31.1 + 1))) fun x73 =>
 Option.bind (gO (!((((!decide (r50.2 = 0)) || (!decide (r57.2 = 0))) || (!decide (r57.1 = (-1)))) || (!decide ((List.length r50.1 : Int) = x73)))) (idx r50.1 r31.1)) fun x81 =>
 Option.bind (gO (!((((!decide (r50.2 = 0)) || (!decide (r57.2 = 0))) || (!decide (r57.1 = (-1)))) || (!decide ((List.length r50.1 : Int) = x73)))) (in64 (r25 + r19.2))) fun x89 =>
 bif (((((!decide (r50.2 = 0)) || (!decide (r57.2 = 0))) || (!decide (r57.1 = (-1)))) || (!decide ((List.length r50.1 : Int) = x73))) || decide (x81.From < x89)) then (
 some false) else (
 Option.bind (iterN (fun s : Int => law31_DivertClears_l1 N r8 r31 r50 s) N 0) fun r138 =>
 match r138 with
 | .inl p165 => (
 some p165)
 | .inr p168 => (
 Option.bind (idx r50.1 r31.1) fun x175 =>
 Option.bind (idx r8.2.2 r31.1) fun x178 =>
 Option.bind (gO (decide (x175.Element = x178.Element)) (idx r50.1 r31.1)) fun x184 =>
 Option.bind (gO (decide (x175.Element = x178.Element)) (idx r8.2.2 r31.1)) fun x192 =>
 Option.bind (gO (decide (x175.Element = x178.Element)) (in64 (x184.Side + x192.Side))) fun x198 =>
 Option.bind (gO (decide (x175.Element = x178.Element) && decide (x198 = 3)) (law31_sane N)) fun r204 =>
 some ((decide (x175.Element = x178.Element) && decide (x198 = 3)) && r204))))

def law31_DivertLast_l1 (N : Nat) (r8 : Int × List T_Span × List T_Span) (r19 : Int × Int) (r25 : Int) (r31 : Int × Int) (i199 : Int) : Option ((Int) ⊕ (Bool ⊕ Unit)) :=
 bif decide (i199 < r31.1) then (
 Option.bind (idx r8.2.2 i199) fun x214 =>
 Option.bind (r23_Find N r8.2.1 x214.Element) fun r217 =>
 Option.bind (idx r8.2.2 i199) fun x227 =>
 Option.bind (gO (!decide (x227.Side = 0)) (in64 (r25 + r19.2))) fun x233 =>
 Option.bind (gO (!decide (x227.Side = 0)) (idx r8.2.2 i199)) fun x239 =>
 Option.bind (gO (((!decide (x227.Side = 0)) && decide (x233 ≤ x239.From)) && (!decide (r217 < 0))) (idx r8.2.1 r217)) fun x252 =>
 Option.bind (gO (((!decide (x227.Side = 0)) && decide (x233 ≤ x239.From)) && (!decide (r217 < 0))) (in64 (x252.To + r19.2))) fun x259 =>
 Option.bind (gO (((!decide (x227.Side = 0)) && decide (x233 ≤ x239.From)) && (!decide (r217 < 0))) (idx r8.2.2 i199)) fun x265 =>
 bif (((!decide (x227.Side = 0)) && decide (x233 ≤ x239.From)) && (decide (r217 < 0) || decide (x259 ≤ x265.From))) then (
 some (.inr (Sum.inl false))) else (
 Option.bind (in64 (i199 + 1)) fun x276 =>
 some (.inl x276))) else (
 some (.inr (Sum.inr ())))

def law31_DivertLast_l2 (N : Nat) (r8 : Int × List T_Span × List T_Span) (r19 : Int × Int) (r25 : Int) (r31 : Int × Int) (i442 : Int) : Option ((Int) ⊕ (Bool ⊕ Unit)) :=
 bif decide (i442 < r31.1) then (
 Option.bind (idx r8.2.2 i442) fun x457 =>
 Option.bind (r23_Find N r8.2.1 x457.Element) fun r460 =>
 Option.bind (idx r8.2.2 i442) fun x470 =>
 Option.bind (gO (!decide (x470.Side = 0)) (in64 (r25 + r19.2))) fun x476 =>
 Option.bind (gO (!decide (x470.Side = 0)) (idx r8.2.2 i442)) fun x482 =>
 Option.bind (gO (((!decide (x470.Side = 0)) && decide (x476 ≤ x482.From)) && (!decide (r460 < 0))) (idx r8.2.1 r460)) fun x495 =>
 Option.bind (gO (((!decide (x470.Side = 0)) && decide (x476 ≤ x482.From)) && (!decide (r460 < 0))) (in64 (x495.To + r19.2))) fun x502 =>
 Option.bind (gO (((!decide (x470.Side = 0)) && decide (x476 ≤ x482.From)) && (!decide (r460 < 0))) (idx r8.2.2 i442)) fun x508 =>
 bif (((!decide (x470.Side = 0)) && decide (x476 ≤ x482.From)) && (decide (r460 < 0) || decide (x502 ≤ x508.From))) then (
 some (.inr (Sum.inl false))) else (
 Option.bind (in64 (i442 + 1)) fun x519 =>
 some (.inl x519))) else (
 some (.inr (Sum.inr ())))

def law31_DivertLast (N : Nat) (a0 : List Int) (a1 : Int) : Option (Bool) :=
 Option.bind (humpgen_New N a0) fun r1 =>
 Option.bind (law31_pair N a0 r1) fun r8 =>
 Option.bind (Maker_Pick N a0 r8.1 ([0, 800, 2500])) fun r19 =>
 Option.bind (yardgen_Place N a1 15000) fun r25 =>
 Option.bind (divert_Conflict N r8.2.1 r8.2.2 r19.2) fun r31 =>
 Option.bind (divert_Choose N r8.2.1 r8.2.2 r19.2 r25) fun r37 =>
 bif ((!decide (r31.2 = 0)) || decide (r31.1 < 0)) then (
 Option.bind (gO (decide (r31.2 = 0) && decide (r37.2 = 16)) (law31_sane N)) fun r52 =>
 some ((decide (r31.2 = 0) && decide (r37.2 = 16)) && r52)) else (
 bif decide (r37.2 = 15) then (
 Option.bind (in64 ((-1) + 1)) fun x61 =>
 Option.bind (iterN (fun s : Int => law31_DivertLast_l1 N r8 r19 r25 r31 s) N x61) fun r206 =>
 match r206 with
 | .inl p283 => (
 some p283)
 | .inr p286 => (
 Option.bind (law31_sane N) fun r289 =>
 some r289)) else (
 bif (((!decide (r37.2 = 0)) || decide (r37.1 < 0)) || decide (r31.1 ≤ r37.1)) then (
 some false) else (
 Option.bind (in64 (r37.1 + 1)) fun x304 =>
 Option.bind (iterN (fun s : Int => law31_DivertLast_l2 N r8 r19 r25 r31 s) N x304) fun r449 =>
 match r449 with
 | .inl p526 => (
 some p526)
 | .inr p529 => (
 Option.bind (law31_sane N) fun r532 =>
 some r532))))

def r23_gap_l1 (N : Nat) (a0 : List T_Span) (a1 : List T_Span) (a2 : Int) (i132 : Int) (i133 : Int) : Option ((Int × Int) ⊕ ((Int × Int) ⊕ Int)) :=
 bif decide (i133 < (List.length a1 : Int)) then (
 Option.bind (idx a1 i133) fun x148 =>
 Option.bind (r23_Find N a0 x148.Element) fun r151 =>
 bif decide (r151 < 0) then (
 Option.bind (in64 (i133 + 1)) fun x159 =>
 some (.inl (i132, x159))) else (
 Option.bind (idx a0 r151) fun x162 =>
 bif decide (x162.To = 1000000000) then (
 some (.inr (Sum.inl (0, 24)))) else (
 Option.bind (idx a0 r151) fun x189 =>
 Option.bind (idx a1 i133) fun x192 =>
 Option.bind (idx a1 i133) fun x195 =>
 Option.bind (r23_After N x189 x192 a2) fun r198 =>
 Option.bind (in64 (r198 - x195.From)) fun x204 =>
 Option.bind (in64 (i133 + 1)) fun x207 =>
 some (.inl ((max i132 x204), x207))))) else (
 some (.inr (Sum.inr i132)))

def r23_gap (N : Nat) (a0 : List T_Span) (a1 : List T_Span) (a2 : Int) : Option (Int × Int) :=
 Option.bind (iterN (fun s : Int × Int => r23_gap_l1 N a0 a1 a2 s.1 s.2) N (0, 0)) fun r140 =>
 match r140 with
 | .inl p214 => (
 some p214)
 | .inr p217 => (
 some (p217, 0))

def r23_Gap (N : Nat) (a0 : List T_Span) (a1 : List T_Span) (a2 : Int) : Option (Int × Int) :=
 Option.bind (r23_Valid N a0) fun r1 =>
 Option.bind (gO (!(!r1)) (r23_Valid N a1)) fun r9 =>
 bif ((((!r1) || (!r9)) || decide (a2 < 0)) || decide (1000000000 < a2)) then (
 some (0, 1)) else (
 Option.bind (r23_gap N a0 a1 a2) fun r25 =>
 some (r25.1, r25.2))

def law31_DivertAgrees_l1 (N : Nat) (r31 : Int) (i113 : Int) (l114 : List T_Span) : Option ((Int × List T_Span) ⊕ (List T_Span)) :=
 bif decide (i113 < (List.length l114 : Int)) then (
 Option.bind (idx l114 i113) fun x132 =>
 Option.bind (in64 (x132.From + r31)) fun x135 =>
 Option.bind (idx l114 i113) fun x138 =>
 Option.bind (in64 (x138.To + r31)) fun x141 =>
 Option.bind (idx l114 i113) fun x144 =>
 Option.bind (idx (List.set l114 (Int.toNat i113) (T_Span.mk x144.Element x144.Side x135 x144.To)) i113) fun x149 =>
 Option.bind (in64 (i113 + 1)) fun x154 =>
 some (.inl (x154, (List.set (List.set l114 (Int.toNat i113) (T_Span.mk x144.Element x144.Side x135 x144.To)) (Int.toNat i113) (T_Span.mk x149.Element x149.Side x149.From x141))))) else (
 some (.inr l114))

def law31_DivertAgrees (N : Nat) (a0 : List Int) (a1 : Int) : Option (Bool) :=
 Option.bind (humpgen_New N a0) fun r1 =>
 Option.bind (law31_pair N a0 r1) fun r8 =>
 Option.bind (Maker_Pick N a0 r8.1 ([0, 800, 2500])) fun r19 =>
 Option.bind (r23_Gap N r8.2.1 r8.2.2 r19.2) fun r25 =>
 Option.bind (yardgen_Place N a1 20000) fun r31 =>
 Option.bind (app 32 [] r8.2.2) fun l40 =>
 Option.bind (iterN (fun s : Int × List T_Span => law31_DivertAgrees_l1 N r31 s.1 s.2) N (0, l40)) fun r122 =>
 Option.bind (divert_Conflict N r8.2.1 r122 r19.2) fun r162 =>
 Option.bind (gO ((decide (r25.2 = 0) && decide (r162.2 = 0)) && (decide (r162.1 < 0) == decide (r25.1 ≤ r31))) (law31_sane N)) fun r179 =>
 some (((decide (r25.2 = 0) && decide (r162.2 = 0)) && (decide (r162.1 < 0) == decide (r25.1 ≤ r31))) && r179)

end Go.Gv
