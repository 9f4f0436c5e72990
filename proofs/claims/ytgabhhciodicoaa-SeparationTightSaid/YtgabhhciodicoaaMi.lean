/- Plain functions that mirror the program, written by a program of mine (gowalk.py). -/
import Derived.Test.YtgabhhciodicoaaPu
namespace Go.Gv
set_option linter.unusedVariables false

structure T_Maker where
  l : List Int
  n : Int
deriving DecidableEq, Inhabited

structure T_Span where
  Element : Int
  Side : Int
  From : Int
  To : Int
deriving DecidableEq, Inhabited

def humpgen_New (N : Nat) (a0 : List Int) : Option (Int) :=
 some 0

def yardgen_Place (N : Nat) (a0 : Int) (a1 : Int) : Option (Int) :=
 bif decide (a1 < 1) then (
 some 0) else (
 Option.bind (rem64 a0 a1) fun x3 =>
 bif decide (x3 < 0) then (
 Option.bind (in64 (x3 + a1)) fun x8 =>
 some x8) else (
 some x3))

def Maker_Next (N : Nat) (a0_l : List Int) (a0_n : Int) (a1 : Int) : Option (Int × Int) :=
 Option.bind (
 bif decide (0 < (List.length a0_l : Int)) then (
 Option.bind (rem64 a0_n (List.length a0_l : Int)) fun x78 =>
 Option.bind (idx a0_l x78) fun x81 =>
 Option.bind (quo64 a0_n (List.length a0_l : Int)) fun x84 =>
 some (wr64 (x81 + (wr64 (x84 * 7919))))) else (
 some 0)) fun j69 =>
 Option.bind (in64 (a0_n + 1)) fun x92 =>
 Option.bind (rem64 j69 a1) fun x97 =>
 bif decide (x97 < 0) then (
 Option.bind (in64 (x97 + a1)) fun x102 =>
 some (x92, x102)) else (
 some (x92, x97))

def Maker_Pick (N : Nat) (a0_l : List Int) (a0_n : Int) (a1 : List Int) : Option (Int × Int) :=
 Option.bind (Maker_Next N a0_l a0_n (List.length a1 : Int)) fun r10 =>
 Option.bind (idx a1 r10.2) fun x16 =>
 some (r10.1, x16)

def yardgen_Spans_l1 (N : Nat) (a0_l : List Int) (a1 : Int) (i479 : Int) (i480 : Int) (i481 : Int) (l482 : List T_Span) : Option ((Int × Int × Int × List T_Span) ⊕ (Int × List T_Span)) :=
 bif (decide (i480 ≤ 6) && decide ((List.length l482 : Int) < a1)) then (
 Option.bind (Maker_Next N a0_l i481 4) fun r501 =>
 bif decide (r501.2 = 0) then (
 Option.bind (in64 (i480 + 1)) fun x509 =>
 some (.inl (i479, x509, r501.1, l482))) else (
 Option.bind (Maker_Pick N a0_l r501.1 ([0, 1, 2])) fun r515 =>
 Option.bind (in64 (i479 + 1)) fun x521 =>
 Option.bind (Maker_Next N a0_l r515.1 9000) fun r524 =>
 Option.bind (in64 (x521 + r524.2)) fun x530 =>
 Option.bind (app 32 l482 ([(T_Span.mk i480 r515.2 i479 x530)])) fun l536 =>
 Option.bind (Maker_Next N a0_l r524.1 5000) fun r542 =>
 Option.bind (in64 (i479 + r542.2)) fun x548 =>
 Option.bind (in64 (i480 + 1)) fun x551 =>
 some (.inl (x548, x551, r542.1, l536)))) else (
 some (.inr (i481, l482)))

def yardgen_Spans (N : Nat) (a0_l : List Int) (a0_n : Int) (a1 : Int) : Option (Int × List T_Span) :=
 Option.bind (Maker_Next N a0_l a0_n 4000) fun r280 =>
 Option.bind (iterN (fun s : Int × Int × Int × List T_Span => yardgen_Spans_l1 N a0_l a1 s.1 s.2.1 s.2.2.1 s.2.2.2) N (r280.2, 1, r280.1, [])) fun r490 =>
 some (r490.1, r490.2)

def separation_valid_l1 (N : Nat) (a0 : List T_Span) (i96 : Int) (m97 : List (Int × Bool)) : Option ((Int × (List (Int × Bool))) ⊕ (Bool ⊕ Unit)) :=
 bif decide (i96 < (List.length a0 : Int)) then (
 Option.bind (idx a0 i96) fun x112 =>
 bif ((((((decide (x112.Element < 0) || (Option.getD (mget m97 x112.Element) false)) || decide (x112.Side < 0)) || decide (2 < x112.Side)) || decide (x112.From < 0)) || decide (x112.To ≤ x112.From)) || decide (1000000000 < x112.To)) then (
 some (.inr (Sum.inl false))) else (
 Option.bind (in64 (i96 + 1)) fun x151 =>
 some (.inl (x151, (mset m97 x112.Element true))))) else (
 some (.inr (Sum.inr ())))

def separation_valid (N : Nat) (a0 : List T_Span) : Option (Bool) :=
 bif decide (128 < (List.length a0 : Int)) then (
 some false) else (
 Option.bind (iterN (fun s : Int × (List (Int × Bool)) => separation_valid_l1 N a0 s.1 s.2) N (0, [])) fun r104 =>
 match r104 with
 | .inl p158 => (
 some p158)
 | .inr p161 => (
 some true))

def separation_sound_l1 (N : Nat) (a0 : List (List T_Span)) (i38 : Int) : Option ((Int) ⊕ (Bool ⊕ Unit)) :=
 bif decide (i38 < (List.length a0 : Int)) then (
 Option.bind (idx a0 i38) fun x53 =>
 Option.bind (separation_valid N x53) fun r58 =>
 bif (!r58) then (
 some (.inr (Sum.inl false))) else (
 Option.bind (in64 (i38 + 1)) fun x66 =>
 some (.inl x66))) else (
 some (.inr (Sum.inr ())))

def separation_sound (N : Nat) (a0 : List (List T_Span)) (a1 : Int) : Option (Bool) :=
 Option.bind (iterN (fun s : Int => separation_sound_l1 N a0 s) N 0) fun r45 =>
 match r45 with
 | .inl p73 => (
 some p73)
 | .inr p76 => (
 some (decide (0 ≤ a1) && decide (a1 ≤ 1000000000)))

def separation_gap_l4 (N : Nat) (a1 : List T_Span) (a2 : Int) (x346 : T_Span) (i439 : Int) (i440 : Int) : Option ((Int × Int) ⊕ ((Int × Int) ⊕ Int)) :=
 bif decide (i440 < (List.length a1 : Int)) then (
 Option.bind (idx a1 i440) fun x455 =>
 bif (!decide (x346.Element = x455.Element)) then (
 Option.bind (in64 (i440 + 1)) fun x465 =>
 some (.inl (i439, x465))) else (
 bif decide (x346.To = 1000000000) then (
 some (.inr (Sum.inl (0, 24)))) else (
 Option.bind (in64 (x346.To - x455.From)) fun x470 =>
 bif (((!decide (x346.Side = 0)) && (!decide (x455.Side = 0))) && (!decide (x346.Side = x455.Side))) then (
 Option.bind (in64 (x470 + a2)) fun x485 =>
 Option.bind (in64 (i440 + 1)) fun x488 =>
 some (.inl ((max i439 x485), x488))) else (
 Option.bind (in64 (i440 + 1)) fun x491 =>
 some (.inl ((max i439 x470), x491)))))) else (
 some (.inr (Sum.inr i439)))

def separation_gap_l3 (N : Nat) (a0 : List T_Span) (a1 : List T_Span) (a2 : Int) (i330 : Int) (i331 : Int) : Option ((Int × Int) ⊕ ((Int × Int) ⊕ Int)) :=
 bif decide (i331 < (List.length a0 : Int)) then (
 Option.bind (idx a0 i331) fun x346 =>
 Option.bind (iterN (fun s : Int × Int => separation_gap_l4 N a1 a2 x346 s.1 s.2) N (i330, 0)) fun r447 =>
 match r447 with
 | .inl p498 => (
 some (.inr (Sum.inl p498)))
 | .inr p501 => (
 Option.bind (in64 (i331 + 1)) fun x504 =>
 some (.inl (p501, x504)))) else (
 some (.inr (Sum.inr i330)))

def separation_gap (N : Nat) (a0 : List T_Span) (a1 : List T_Span) (a2 : Int) : Option (Int × Int) :=
 Option.bind (iterN (fun s : Int × Int => separation_gap_l3 N a0 a1 a2 s.1 s.2) N (0, 0)) fun r338 =>
 match r338 with
 | .inl p511 => (
 some p511)
 | .inr p514 => (
 some (p514, 0))

def separation_Gap (N : Nat) (a0 : List T_Span) (a1 : List T_Span) (a2 : Int) : Option (Int × Int) :=
 Option.bind (separation_sound N ([a0, a1]) a2) fun r8 =>
 bif (!r8) then (
 some (0, 1)) else (
 Option.bind (separation_gap N a0 a1 a2) fun r16 =>
 some (r16.1, r16.2))

def separation_gaps_l4 (N : Nat) (a0 : List (List T_Span)) (a1 : Int) (i459 : Int) (i600 : Int) (l601 : List (List Int)) : Option ((Int × List (List Int)) ⊕ ((List (List Int) × Int) ⊕ (List (List Int)))) :=
 bif decide (i600 < i459) then (
 Option.bind (idx a0 i600) fun x622 =>
 Option.bind (idx a0 i459) fun x627 =>
 Option.bind (separation_gap N x622 x627 a1) fun r632 =>
 bif (!decide (r632.2 = 0)) then (
 Option.bind (slc l601 0 i459) fun l640 =>
 some (.inr (Sum.inl (l640, r632.2)))) else (
 Option.bind (idx l601 i459) fun x646 =>
 Option.bind (app 8 x646 ([r632.1])) fun l656 =>
 Option.bind (idx l601 i459) fun x662 =>
 Option.bind (in64 (i600 + 1)) fun x674 =>
 some (.inl (x674, (List.set l601 (Int.toNat i459) l656))))) else (
 some (.inr (Sum.inr l601)))

def separation_gaps_l3 (N : Nat) (a0 : List (List T_Span)) (a1 : Int) (i459 : Int) (l460 : List (List Int)) : Option ((Int × List (List Int)) ⊕ ((List (List Int) × Int) ⊕ (List (List Int)))) :=
 bif decide (i459 < (List.length a0 : Int)) then (
 Option.bind (iterN (fun s : Int × List (List Int) => separation_gaps_l4 N a0 a1 i459 s.1 s.2) N (0, l460)) fun r610 =>
 match r610 with
 | .inl p681 => (
 some (.inr (Sum.inl p681)))
 | .inr p684 => (
 Option.bind (in64 (i459 + 1)) fun x687 =>
 some (.inl (x687, p684)))) else (
 some (.inr (Sum.inr l460)))

def separation_gaps (N : Nat) (a0 : List (List T_Span)) (a1 : Int) : Option (List (List Int) × Int) :=
 bif decide (96 < (List.length a0 : Int)) then (
 some ([], 3)) else (
 Option.bind (separation_sound N a0 a1) fun r5 =>
 bif (!r5) then (
 some ([], 1)) else (
 Option.bind (mkL 24 (List.length a0 : Int) ([] : List Int)) fun l15 =>
 Option.bind (iterN (fun s : Int × List (List Int) => separation_gaps_l3 N a0 a1 s.1 s.2) N (0, l15)) fun r469 =>
 match r469 with
 | .inl p694 => (
 some p694)
 | .inr p697 => (
 some (p697, 0))))

def separation_times_l5 (N : Nat) (l259 : List Int) (x275 : List Int) (i311 : Int) (i312 : Int) : Option ((Int × Int) ⊕ (Int)) :=
 bif decide (i312 < (List.length x275 : Int)) then (
 Option.bind (idx x275 i312) fun x325 =>
 Option.bind (idx l259 i312) fun x328 =>
 Option.bind (in64 (x328 + x325)) fun x331 =>
 Option.bind (in64 (i312 + 1)) fun x334 =>
 some (.inl ((max i311 x331), x334))) else (
 some (.inr i311))

def separation_times_l4 (N : Nat) (a0 : List (List Int)) (i258 : Int) (l259 : List Int) : Option ((Int × List Int) ⊕ ((List Int × Int) ⊕ (List Int))) :=
 bif decide (i258 < (List.length a0 : Int)) then (
 Option.bind (idx a0 i258) fun x275 =>
 Option.bind (iterN (fun s : Int × Int => separation_times_l5 N l259 x275 s.1 s.2) N (0, 0)) fun r319 =>
 bif decide (1000000000 < r319) then (
 some (.inr (Sum.inl ([], 4)))) else (
 Option.bind (app 8 l259 ([r319])) fun l348 =>
 Option.bind (in64 (i258 + 1)) fun x354 =>
 some (.inl (x354, l348)))) else (
 some (.inr (Sum.inr l259)))

def separation_times (N : Nat) (a0 : List (List Int)) : Option (List Int × Int) :=
 Option.bind (iterN (fun s : Int × List Int => separation_times_l4 N a0 s.1 s.2) N (0, [])) fun r267 =>
 match r267 with
 | .inl p361 => (
 some p361)
 | .inr p364 => (
 some (p364, 0))

def separation_released (N : Nat) (a0 : List (List T_Span)) (a1 : Int) : Option (List (List Int) × List Int × Int) :=
 Option.bind (separation_gaps N a0 a1) fun r1 =>
 Option.bind (separation_times N r1.1) fun r9 =>
 Option.bind (
 bif (!decide (r9.2 = 0)) then (
 some r9.2) else (
 some r1.2)) fun j19 =>
 bif (!decide (j19 = 0)) then (
 some ([], [], j19)) else (
 some (r1.1, r9.1, 0))

def separation_Releases (N : Nat) (a0 : List (List T_Span)) (a1 : Int) : Option (List Int × Int) :=
 Option.bind (separation_released N a0 a1) fun r1 =>
 some (r1.2.1, r1.2.2)

def g_slices_Reverse_int_int_l1 (N : Nat) (i64 : Int) (i65 : Int) (l66 : List Int) : Option ((Int × Int × List Int) ⊕ (List Int)) :=
 bif decide (i64 < i65) then (
 Option.bind (idx l66 i65) fun x83 =>
 Option.bind (idx l66 i64) fun x86 =>
 Option.bind (idx l66 i64) fun x89 =>
 Option.bind (idx (List.set l66 (Int.toNat i64) x83) i65) fun x94 =>
 Option.bind (in64 (i64 + 1)) fun x99 =>
 Option.bind (in64 (i65 - 1)) fun x102 =>
 some (.inl (x99, x102, (List.set (List.set l66 (Int.toNat i64) x83) (Int.toNat i65) x86)))) else (
 some (.inr l66))

def g_slices_Reverse_int_int (N : Nat) (a0 : List Int) : Option (List Int) :=
 Option.bind (in64 ((List.length a0 : Int) - 1)) fun x1 =>
 Option.bind (iterN (fun s : Int × Int × List Int => g_slices_Reverse_int_int_l1 N s.1 s.2.1 s.2.2) N (0, x1, a0)) fun r73 =>
 some r73

def separation_Critical_l4 (N : Nat) (r1 : List (List Int) × List Int × Int) (i241 : Int) (x259 : List Int) (i312 : Int) : Option ((Int) ⊕ (Int)) :=
 bif decide (i312 < (List.length x259 : Int)) then (
 Option.bind (idx x259 i312) fun x325 =>
 Option.bind (idx r1.2.1 i312) fun x332 =>
 Option.bind (in64 (x332 + x325)) fun x335 =>
 Option.bind (idx r1.2.1 i241) fun x338 =>
 bif decide (x335 = x338) then (
 some (.inr i312)) else (
 Option.bind (in64 (i312 + 1)) fun x343 =>
 some (.inl x343))) else (
 some (.inr i241))

def separation_Critical_l3 (N : Nat) (r1 : List (List Int) × List Int × Int) (i241 : Int) (l242 : List Int) : Option ((Int × List Int) ⊕ (List Int)) :=
 Option.bind (idx r1.2.1 i241) fun x254 =>
 bif (!decide (x254 = 0)) then (
 Option.bind (idx r1.1 i241) fun x259 =>
 Option.bind (iterN (fun s : Int => separation_Critical_l4 N r1 i241 x259 s) N 0) fun r319 =>
 Option.bind (app 8 l242 ([r319])) fun l354 =>
 some (.inl (r319, l354))) else (
 some (.inr l242))

def separation_Critical (N : Nat) (a0 : List (List T_Span)) (a1 : Int) (a2 : Int) : Option (List Int × Int) :=
 Option.bind (separation_released N a0 a1) fun r1 =>
 bif (!decide (r1.2.2 = 0)) then (
 some ([], r1.2.2)) else (
 bif (decide (a2 < 0) || decide ((List.length a0 : Int) ≤ a2)) then (
 some ([], 2)) else (
 Option.bind (iterN (fun s : Int × List Int => separation_Critical_l3 N r1 s.1 s.2) N (a2, [a2])) fun r250 =>
 Option.bind (g_slices_Reverse_int_int N r250) fun r365 =>
 some (r365, 0)))

def humpgen_Ints_l1 (N : Nat) (a0 : List Int) (a1 : List Int) (i38 : Int) : Option ((Int) ⊕ (Bool ⊕ Unit)) :=
 bif decide (i38 < (List.length a0 : Int)) then (
 Option.bind (idx a0 i38) fun x57 =>
 Option.bind (idx a1 i38) fun x60 =>
 bif (!decide (x57 = x60)) then (
 some (.inr (Sum.inl false))) else (
 Option.bind (in64 (i38 + 1)) fun x65 =>
 some (.inl x65))) else (
 some (.inr (Sum.inr ())))

def humpgen_Ints (N : Nat) (a0 : List Int) (a1 : List Int) : Option (Bool) :=
 bif (!decide ((List.length a0 : Int) = (List.length a1 : Int))) then (
 some false) else (
 Option.bind (iterN (fun s : Int => humpgen_Ints_l1 N a0 a1 s) N 0) fun r45 =>
 match r45 with
 | .inl p72 => (
 some p72)
 | .inr p75 => (
 some true))

def law23_sane (N : Nat) : Option (Bool) :=
 Option.bind (separation_Gap N ([(T_Span.mk 0 0 0 5000)]) ([(T_Span.mk 0 0 1000 6000)]) 800) fun r7 =>
 Option.bind (idx ([(T_Span.mk 0 0 0 5000)]) 0) fun x13 =>
 Option.bind (idx ([(T_Span.mk 0 0 1000 6000)]) 0) fun x18 =>
 Option.bind (separation_Gap N (List.set [(T_Span.mk 0 0 0 5000)] (Int.toNat 0) (T_Span.mk x13.Element 1 x13.From x13.To)) (List.set [(T_Span.mk 0 0 1000 6000)] (Int.toNat 0) (T_Span.mk x18.Element 2 x18.From x18.To)) 800) fun r23 =>
 Option.bind (separation_Releases N ([(List.set [(T_Span.mk 0 0 0 5000)] (Int.toNat 0) (T_Span.mk x13.Element 1 x13.From x13.To)), (List.set [(T_Span.mk 0 0 1000 6000)] (Int.toNat 0) (T_Span.mk x18.Element 2 x18.From x18.To)), (List.set [(T_Span.mk 0 0 0 5000)] (Int.toNat 0) (T_Span.mk x13.Element 1 x13.From x13.To))]) 800) fun r38 =>
 Option.bind (separation_Critical N ([(List.set [(T_Span.mk 0 0 0 5000)] (Int.toNat 0) (T_Span.mk x13.Element 1 x13.From x13.To)), (List.set [(T_Span.mk 0 0 1000 6000)] (Int.toNat 0) (T_Span.mk x18.Element 2 x18.From x18.To)), (List.set [(T_Span.mk 0 0 0 5000)] (Int.toNat 0) (T_Span.mk x13.Element 1 x13.From x13.To))]) 800 2) fun r54 =>
 bif ((((decide (r7.2 = 0) && decide (r7.1 = 4000)) && decide (r23.2 = 0)) && decide (r23.1 = 4800)) && decide (r38.2 = 0)) then (
 Option.bind (humpgen_Ints N r38.1 ([0, 4800, 11600])) fun r82 =>
 bif ((((((decide (r7.2 = 0) && decide (r7.1 = 4000)) && decide (r23.2 = 0)) && decide (r23.1 = 4800)) && decide (r38.2 = 0)) && r82) && decide (r54.2 = 0)) then (
 Option.bind (humpgen_Ints N r54.1 ([0, 1, 2])) fun r101 =>
 some (((((((decide (r7.2 = 0) && decide (r7.1 = 4000)) && decide (r23.2 = 0)) && decide (r23.1 = 4800)) && decide (r38.2 = 0)) && r82) && decide (r54.2 = 0)) && r101)) else (
 some (((((((decide (r7.2 = 0) && decide (r7.1 = 4000)) && decide (r23.2 = 0)) && decide (r23.1 = 4800)) && decide (r38.2 = 0)) && r82) && decide (r54.2 = 0)) && false))) else (
 some (((((((decide (r7.2 = 0) && decide (r7.1 = 4000)) && decide (r23.2 = 0)) && decide (r23.1 = 4800)) && decide (r38.2 = 0)) && false) && false) && false))

def law23_SeparationGaps_l4 (N : Nat) (r8 : Int) (r14 : Int × List T_Span) (r21 : Int × List T_Span) (r28 : Int × Int) (i701 : Int) (b917 : Bool) (i918 : Int) : Option ((Bool × Int) ⊕ (Bool ⊕ Bool)) :=
 bif decide (i918 < (List.length r21.2 : Int)) then (
 Option.bind (idx r14.2 i701) fun x937 =>
 Option.bind (idx r21.2 i918) fun x940 =>
 bif (!decide (x937.Element = x940.Element)) then (
 Option.bind (in64 (i918 + 1)) fun x945 =>
 some (.inl (b917, x945))) else (
 Option.bind (idx r14.2 i701) fun x948 =>
 Option.bind (idx r14.2 i701) fun x955 =>
 Option.bind (idx r21.2 i918) fun x958 =>
 Option.bind (in64 (x955.Side + x958.Side)) fun x961 =>
 Option.bind (gO (decide (x961 = 3)) (idx r14.2 i701)) fun x967 =>
 Option.bind (gO (decide (x961 = 3) && (!decide (x967.Side = 0))) (idx r21.2 i918)) fun x977 =>
 Option.bind (
 bif ((decide (x961 = 3) && (!decide (x967.Side = 0))) && (!decide (x977.Side = 0))) then (
 Option.bind (in64 (x948.To + r8)) fun x995 =>
 some x995) else (
 some x948.To)) fun j990 =>
 Option.bind (idx r21.2 i918) fun x1003 =>
 Option.bind (in64 (r28.1 + x1003.From)) fun x1006 =>
 bif decide (x1006 < j990) then (
 some (.inr (Sum.inl false))) else (
 Option.bind (gO (!b917) (idx r21.2 i918)) fun x1016 =>
 Option.bind (gO (!b917) (in64 (r28.1 + x1016.From))) fun x1022 =>
 Option.bind (in64 (i918 + 1)) fun x1027 =>
 some (.inl ((b917 || decide (j990 = x1022)), x1027))))) else (
 some (.inr (Sum.inr b917)))

def law23_SeparationGaps_l3 (N : Nat) (r8 : Int) (r14 : Int × List T_Span) (r21 : Int × List T_Span) (r28 : Int × Int) (b700 : Bool) (i701 : Int) : Option ((Bool × Int) ⊕ (Bool ⊕ Bool)) :=
 bif decide (i701 < (List.length r14.2 : Int)) then (
 Option.bind (iterN (fun s : Bool × Int => law23_SeparationGaps_l4 N r8 r14 r21 r28 i701 s.1 s.2) N (b700, 0)) fun r925 =>
 match r925 with
 | .inl p1034 => (
 some (.inr (Sum.inl p1034)))
 | .inr p1037 => (
 Option.bind (in64 (i701 + 1)) fun x1040 =>
 some (.inl (p1037, x1040)))) else (
 some (.inr (Sum.inr b700)))

def law23_SeparationGaps (N : Nat) (a0 : List Int) (a1 : Int) : Option (Bool) :=
 Option.bind (humpgen_New N a0) fun r1 =>
 Option.bind (yardgen_Place N a1 3000) fun r8 =>
 Option.bind (yardgen_Spans N a0 r1 6) fun r14 =>
 Option.bind (yardgen_Spans N a0 r14.1 6) fun r21 =>
 Option.bind (separation_Gap N r14.2 r21.2 r8) fun r28 =>
 bif ((!decide (r28.2 = 0)) || decide (r28.1 < 0)) then (
 some false) else (
 Option.bind (iterN (fun s : Bool × Int => law23_SeparationGaps_l3 N r8 r14 r21 r28 s.1 s.2) N (decide (r28.1 = 0), 0)) fun r708 =>
 match r708 with
 | .inl p1047 => (
 some p1047)
 | .inr p1050 => (
 Option.bind (gO p1050 (law23_sane N)) fun r1054 =>
 some (p1050 && r1054)))

def yardgen_SpanLists_l5 (N : Nat) (a0_l : List Int) (i1184 : Int) (i1185 : Int) (l1186 : List T_Span) : Option ((Int × Int × List T_Span) ⊕ (Int × List T_Span)) :=
 bif decide (i1184 < (List.length l1186 : Int)) then (
 Option.bind (idx l1186 i1184) fun x1199 =>
 Option.bind (idx (List.set l1186 (Int.toNat i1184) (T_Span.mk x1199.Element 0 x1199.From x1199.To)) i1184) fun x1204 =>
 bif decide ((Int.tmod x1204.Element 2) = 0) then (
 Option.bind (Maker_Pick N a0_l i1185 ([1, 2])) fun r1212 =>
 Option.bind (idx (List.set l1186 (Int.toNat i1184) (T_Span.mk x1199.Element 0 x1199.From x1199.To)) i1184) fun x1218 =>
 Option.bind (in64 (i1184 + 1)) fun x1223 =>
 some (.inl (x1223, r1212.1, (List.set (List.set l1186 (Int.toNat i1184) (T_Span.mk x1199.Element 0 x1199.From x1199.To)) (Int.toNat i1184) (T_Span.mk x1218.Element r1212.2 x1218.From x1218.To))))) else (
 Option.bind (in64 (i1184 + 1)) fun x1226 =>
 some (.inl (x1226, i1185, (List.set l1186 (Int.toNat i1184) (T_Span.mk x1199.Element 0 x1199.From x1199.To)))))) else (
 some (.inr (i1185, l1186)))

def yardgen_SpanLists_l4 (N : Nat) (a0_l : List Int) (i1091 : Int) (i1092 : Int) (l1093 : List (List T_Span)) : Option ((Int × Int × List (List T_Span)) ⊕ (Int × List (List T_Span))) :=
 bif decide (0 < i1091) then (
 Option.bind (yardgen_Spans N a0_l i1092 6) fun r1108 =>
 Option.bind (iterN (fun s : Int × Int × List T_Span => yardgen_SpanLists_l5 N a0_l s.1 s.2.1 s.2.2) N (0, r1108.1, r1108.2)) fun r1193 =>
 Option.bind (app 24 l1093 ([r1193.2])) fun l1239 =>
 Option.bind (in64 (i1091 - 1)) fun x1249 =>
 some (.inl (x1249, r1193.1, l1239))) else (
 some (.inr (i1092, l1093)))

def yardgen_SpanLists (N : Nat) (a0_l : List Int) (a0_n : Int) (a1 : Int) : Option (Int × List (List T_Span)) :=
 Option.bind (in64 (a1 + 1)) fun x629 =>
 Option.bind (Maker_Next N a0_l a0_n x629) fun r632 =>
 Option.bind (iterN (fun s : Int × Int × List (List T_Span) => yardgen_SpanLists_l4 N a0_l s.1 s.2.1 s.2.2) N (r632.2, r632.1, [])) fun r1102 =>
 some (r1102.1, r1102.2)

def r23_Valid_l4 (N : Nat) (a0 : List T_Span) (i210 : Int) (x225 : T_Span) (i286 : Int) : Option ((Int) ⊕ (Bool ⊕ Unit)) :=
 bif decide (i286 < i210) then (
 Option.bind (idx a0 i286) fun x305 =>
 bif decide (x305.Element = x225.Element) then (
 some (.inr (Sum.inl false))) else (
 Option.bind (in64 (i286 + 1)) fun x310 =>
 some (.inl x310))) else (
 some (.inr (Sum.inr ())))

def r23_Valid_l3 (N : Nat) (a0 : List T_Span) (i210 : Int) : Option ((Int) ⊕ (Bool ⊕ Unit)) :=
 bif decide (i210 < (List.length a0 : Int)) then (
 Option.bind (idx a0 i210) fun x225 =>
 bif (((((decide (x225.Element < 0) || decide (x225.Side < 0)) || decide (2 < x225.Side)) || decide (x225.From < 0)) || decide (x225.To ≤ x225.From)) || decide (1000000000 < x225.To)) then (
 some (.inr (Sum.inl false))) else (
 Option.bind (iterN (fun s : Int => r23_Valid_l4 N a0 i210 x225 s) N 0) fun r293 =>
 match r293 with
 | .inl p317 => (
 some (.inr (Sum.inl p317)))
 | .inr p320 => (
 Option.bind (in64 (i210 + 1)) fun x323 =>
 some (.inl x323)))) else (
 some (.inr (Sum.inr ())))

def r23_Valid (N : Nat) (a0 : List T_Span) : Option (Bool) :=
 bif decide (128 < (List.length a0 : Int)) then (
 some false) else (
 Option.bind (iterN (fun s : Int => r23_Valid_l3 N a0 s) N 0) fun r217 =>
 match r217 with
 | .inl p330 => (
 some p330)
 | .inr p333 => (
 some true))

def r23_Find_l1 (N : Nat) (a0 : List T_Span) (a1 : Int) (i22 : Int) : Option ((Int) ⊕ (Int ⊕ Unit)) :=
 bif decide (i22 < (List.length a0 : Int)) then (
 Option.bind (idx a0 i22) fun x37 =>
 bif decide (x37.Element = a1) then (
 some (.inr (Sum.inl i22))) else (
 Option.bind (in64 (i22 + 1)) fun x42 =>
 some (.inl x42))) else (
 some (.inr (Sum.inr ())))

def r23_Find (N : Nat) (a0 : List T_Span) (a1 : Int) : Option (Int) :=
 Option.bind (iterN (fun s : Int => r23_Find_l1 N a0 a1 s) N 0) fun r29 =>
 match r29 with
 | .inl p49 => (
 some p49)
 | .inr p52 => (
 some (-1))

def r23_After (N : Nat) (a0 : T_Span) (a1 : T_Span) (a2 : Int) : Option (Int) :=
 bif (((!decide (a0.Side = 0)) && (!decide (a1.Side = 0))) && (!decide (a0.Side = a1.Side))) then (
 Option.bind (in64 (a0.To + a2)) fun x19 =>
 some x19) else (
 some a0.To)

def r23_gap_l1 (N : Nat) (a0 : List T_Span) (a1 : List T_Span) (a2 : Int) (i132 : Int) (i133 : Int) : Option ((Int × Int) ⊕ ((Int × Int) ⊕ Int)) :=
 bif decide (i133 < (List.length a1 : Int)) then (
 Option.bind (idx a1 i133) fun x148 =>
 Option.bind (r23_Find N a0 x148.Element) fun r151 =>
 bif decide (r151 < 0) then (
 Option.bind (in64 (i133 + 1)) fun x159 =>
 some (.inl (i132, x159))) else (
 Option.bind (idx a0 r151) fun x162 =>
 bif decide (x162.To = 1000000000) then (
 some (.inr (Sum.inl (0, 24)))) else (
 Option.bind (idx a0 r151) fun x189 =>
 Option.bind (idx a1 i133) fun x192 =>
 Option.bind (idx a1 i133) fun x195 =>
 Option.bind (r23_After N x189 x192 a2) fun r198 =>
 Option.bind (in64 (r198 - x195.From)) fun x204 =>
 Option.bind (in64 (i133 + 1)) fun x207 =>
 some (.inl ((max i132 x204), x207))))) else (
 some (.inr (Sum.inr i132)))

def r23_gap (N : Nat) (a0 : List T_Span) (a1 : List T_Span) (a2 : Int) : Option (Int × Int) :=
 Option.bind (iterN (fun s : Int × Int => r23_gap_l1 N a0 a1 a2 s.1 s.2) N (0, 0)) fun r140 =>
 match r140 with
 | .inl p214 => (
 some p214)
 | .inr p217 => (
 some (p217, 0))

def r23_Gap (N : Nat) (a0 : List T_Span) (a1 : List T_Span) (a2 : Int) : Option (Int × Int) :=
 Option.bind (r23_Valid N a0) fun r1 =>
 Option.bind (gO (!(!r1)) (r23_Valid N a1)) fun r9 =>
 bif ((((!r1) || (!r9)) || decide (a2 < 0)) || decide (1000000000 < a2)) then (
 some (0, 1)) else (
 Option.bind (r23_gap N a0 a1 a2) fun r25 =>
 some (r25.1, r25.2))

def law23_SeparationProves_l1 (N : Nat) (r8 : Int × List (List T_Span)) (r19 : Int × Int) (r42 : Int) (r55 : List Int × Int) (i250 : Int) (i251 : Int) : Option ((Int × Int) ⊕ (Bool ⊕ Int)) :=
 bif decide (i251 < (List.length r55.1 : Int)) then (
 Option.bind (in64 (i251 - 1)) fun x270 =>
 Option.bind (idx r55.1 x270) fun x273 =>
 Option.bind (gO (!decide (x273 < 0)) (in64 (i251 - 1))) fun x279 =>
 Option.bind (gO (!decide (x273 < 0)) (idx r55.1 x279)) fun x283 =>
 Option.bind (gO (!decide (x273 < 0)) (idx r55.1 i251)) fun x290 =>
 Option.bind (gO (!(decide (x273 < 0) || decide (x290 ≤ x283))) (idx r55.1 i251)) fun x299 =>
 bif ((decide (x273 < 0) || decide (x290 ≤ x283)) || decide (r42 < x299)) then (
 some (.inr (Sum.inl false))) else (
 Option.bind (in64 (i251 - 1)) fun x312 =>
 Option.bind (idx r55.1 x312) fun x315 =>
 Option.bind (idx r8.2 x315) fun x318 =>
 Option.bind (idx r55.1 i251) fun x323 =>
 Option.bind (idx r8.2 x323) fun x326 =>
 Option.bind (r23_Gap N x318 x326 r19.2) fun r331 =>
 Option.bind (in64 (i250 + r331.1)) fun x337 =>
 Option.bind (in64 (i251 + 1)) fun x340 =>
 some (.inl (x337, x340)))) else (
 some (.inr (Sum.inr i250)))

def law23_SeparationProves (N : Nat) (a0 : List Int) (a1 : Int) : Option (Bool) :=
 Option.bind (humpgen_New N a0) fun r1 =>
 Option.bind (yardgen_SpanLists N a0 r1 9) fun r8 =>
 Option.bind (Maker_Pick N a0 r8.1 ([0, 800, 2500])) fun r19 =>
 bif decide ((List.length r8.2 : Int) = 0) then (
 Option.bind (separation_Critical N r8.2 r19.2 0) fun r27 =>
 Option.bind (gO (decide (r27.2 = 2)) (law23_sane N)) fun r35 =>
 some (decide (r27.2 = 2) && r35)) else (
 Option.bind (yardgen_Place N a1 (List.length r8.2 : Int)) fun r42 =>
 Option.bind (separation_Releases N r8.2 r19.2) fun r48 =>
 Option.bind (separation_Critical N r8.2 r19.2 r42) fun r55 =>
 Option.bind (gO (!(((!decide (r55.2 = 0)) || decide ((List.length r55.1 : Int) = 0)) || (!decide ((List.length r48.1 : Int) = (List.length r8.2 : Int))))) (in64 ((List.length r55.1 : Int) - 1))) fun x76 =>
 Option.bind (gO (!(((!decide (r55.2 = 0)) || decide ((List.length r55.1 : Int) = 0)) || (!decide ((List.length r48.1 : Int) = (List.length r8.2 : Int))))) (idx r55.1 x76)) fun x80 =>
 bif ((((!decide (r55.2 = 0)) || decide ((List.length r55.1 : Int) = 0)) || (!decide ((List.length r48.1 : Int) = (List.length r8.2 : Int)))) || (!decide (x80 = r42))) then (
 some false) else (
 Option.bind (iterN (fun s : Int × Int => law23_SeparationProves_l1 N r8 r19 r42 r55 s.1 s.2) N (0, 1)) fun r258 =>
 match r258 with
 | .inl p347 => (
 some p347)
 | .inr p350 => (
 Option.bind (idx r48.1 r42) fun x353 =>
 Option.bind (gO (decide (p350 = x353)) (law23_sane N)) fun r357 =>
 some (decide (p350 = x353) && r357))))

def yardgen_Within_l1 (N : Nat) (a0_l : List Int) (a1 : List T_Span) (i686 : Int) (i687 : Int) (l688 : List T_Span) : Option ((Int × Int × List T_Span) ⊕ (Int × List T_Span)) :=
 bif decide (i686 < (List.length a1 : Int)) then (
 Option.bind (idx a1 i686) fun x702 =>
 Option.bind (in64 (x702.To - x702.From)) fun x728 =>
 Option.bind (Maker_Next N a0_l i687 x728) fun r731 =>
 Option.bind (in64 (x702.From + r731.2)) fun x737 =>
 Option.bind (in64 (x737 + 1)) fun x763 =>
 Option.bind (in64 (x702.To - x737)) fun x766 =>
 Option.bind (Maker_Next N a0_l r731.1 x766) fun r769 =>
 Option.bind (in64 (x763 + r769.2)) fun x775 =>
 Option.bind (app 32 l688 ([(T_Span.mk x702.Element x702.Side x737 x775)])) fun l783 =>
 Option.bind (in64 (i686 + 1)) fun x789 =>
 some (.inl (x789, r769.1, l783))) else (
 some (.inr (i687, l688)))

def yardgen_Within (N : Nat) (a0_l : List Int) (a0_n : Int) (a1 : List T_Span) : Option (Int × List T_Span) :=
 Option.bind (iterN (fun s : Int × Int × List T_Span => yardgen_Within_l1 N a0_l a1 s.1 s.2.1 s.2.2) N (0, a0_n, [])) fun r696 =>
 some (r696.1, r696.2)

def law23_SeparationKeeps_l1 (N : Nat) (a0 : List Int) (r8 : Int × List (List T_Span)) (i150 : Int) (i151 : Int) (l152 : List (List T_Span)) : Option ((Int × Int × List (List T_Span)) ⊕ (List (List T_Span))) :=
 bif decide (i150 < (List.length r8.2 : Int)) then (
 Option.bind (idx r8.2 i150) fun x167 =>
 Option.bind (yardgen_Within N a0 i151 x167) fun r172 =>
 Option.bind (app 24 l152 ([r172.2])) fun l184 =>
 Option.bind (in64 (i150 + 1)) fun x194 =>
 some (.inl (x194, r172.1, l184))) else (
 some (.inr l152))

def law23_SeparationKeeps_l14 (N : Nat) (r19 : Int × Int) (r25 : List Int × Int) (r161 : List (List T_Span)) (i3027 : Int) (i3965 : Int) (i4269 : Int) : Option ((Int) ⊕ (Bool ⊕ Unit)) :=
 Option.bind (idx r161 i3027) fun x4282 =>
 bif decide (i4269 < (List.length x4282 : Int)) then (
 Option.bind (idx r161 i3027) fun x4289 =>
 Option.bind (idx x4289 i4269) fun x4294 =>
 Option.bind (idx r161 i3965) fun x4306 =>
 Option.bind (r23_Find N x4306 x4294.Element) fun r4311 =>
 Option.bind (gO (decide (0 ≤ r4311)) (idx r25.1 i3965)) fun x4374 =>
 Option.bind (gO (decide (0 ≤ r4311)) (idx r161 i3965)) fun x4381 =>
 Option.bind (gO (decide (0 ≤ r4311)) (idx x4381 r4311)) fun x4389 =>
 Option.bind (gO (decide (0 ≤ r4311)) (idx r25.1 i3027)) fun x4398 =>
 Option.bind (gO (decide (0 ≤ r4311)) (in64 (x4398 + x4294.From))) fun x4405 =>
 Option.bind (gO (decide (0 ≤ r4311)) (r23_After N x4389 x4294 r19.2)) fun r4409 =>
 Option.bind (gO (decide (0 ≤ r4311)) (in64 (x4374 + r4409))) fun x4416 =>
 bif (decide (0 ≤ r4311) && decide (x4405 < x4416)) then (
 some (.inr (Sum.inl false))) else (
 Option.bind (in64 (i4269 + 1)) fun x4423 =>
 some (.inl x4423))) else (
 some (.inr (Sum.inr ())))

def law23_SeparationKeeps_l13 (N : Nat) (r19 : Int × Int) (r25 : List Int × Int) (r161 : List (List T_Span)) (i3027 : Int) (i3965 : Int) : Option ((Int) ⊕ (Bool ⊕ Unit)) :=
 bif decide (i3965 < i3027) then (
 Option.bind (iterN (fun s : Int => law23_SeparationKeeps_l14 N r19 r25 r161 i3027 i3965 s) N 0) fun r4276 =>
 match r4276 with
 | .inl p4430 => (
 some (.inr (Sum.inl p4430)))
 | .inr p4433 => (
 Option.bind (in64 (i3965 + 1)) fun x4436 =>
 some (.inl x4436))) else (
 some (.inr (Sum.inr ())))

def law23_SeparationKeeps_l10 (N : Nat) (r8 : Int × List (List T_Span)) (r19 : Int × Int) (r25 : List Int × Int) (r161 : List (List T_Span)) (i3027 : Int) : Option ((Int) ⊕ (Bool ⊕ Unit)) :=
 bif decide (i3027 < (List.length r8.2 : Int)) then (
 Option.bind (iterN (fun s : Int => law23_SeparationKeeps_l13 N r19 r25 r161 i3027 s) N 0) fun r3972 =>
 match r3972 with
 | .inl p4443 => (
 some (.inr (Sum.inl p4443)))
 | .inr p4446 => (
 Option.bind (in64 (i3027 + 1)) fun x4449 =>
 some (.inl x4449))) else (
 some (.inr (Sum.inr ())))

def law23_SeparationKeeps (N : Nat) (a0 : List Int) : Option (Bool) :=
 Option.bind (humpgen_New N a0) fun r1 =>
 Option.bind (yardgen_SpanLists N a0 r1 7) fun r8 =>
 Option.bind (Maker_Pick N a0 r8.1 ([0, 800, 2500])) fun r19 =>
 Option.bind (separation_Releases N r8.2 r19.2) fun r25 =>
 bif ((!decide (r25.2 = 0)) || (!decide ((List.length r25.1 : Int) = (List.length r8.2 : Int)))) then (
 some false) else (
 Option.bind (iterN (fun s : Int × Int × List (List T_Span) => law23_SeparationKeeps_l1 N a0 r8 s.1 s.2.1 s.2.2) N (0, r19.1, [])) fun r161 =>
 Option.bind (iterN (fun s : Int => law23_SeparationKeeps_l10 N r8 r19 r25 r161 s) N 0) fun r3034 =>
 match r3034 with
 | .inl p4456 => (
 some p4456)
 | .inr p4459 => (
 Option.bind (law23_sane N) fun r4462 =>
 some r4462))

def yardgen_SpoilSpans (N : Nat) (a0_l : List Int) (a0_n : Int) (a1 : List T_Span) : Option (Int × List T_Span) :=
 Option.bind (app 32 [] a1) fun l104 =>
 bif decide ((List.length l104 : Int) = 0) then (
 Option.bind (Maker_Pick N a0_l a0_n ([5, 6])) fun r115 =>
 some (r115.1, [(T_Span.mk 1 0 5 r115.2)])) else (
 Option.bind (Maker_Next N a0_l a0_n (List.length l104 : Int)) fun r124 =>
 Option.bind (idx l104 r124.2) fun x130 =>
 Option.bind (Maker_Next N a0_l r124.1 6) fun r133 =>
 bif decide (r133.2 = 0) then (
 Option.bind (idx l104 0) fun x141 =>
 Option.bind (Maker_Pick N a0_l r133.1 ([(-1), x141.Element, 127, 128])) fun r147 =>
 some (r147.1, (List.set l104 (Int.toNat r124.2) (T_Span.mk r147.2 x130.Side x130.From x130.To)))) else (
 bif decide (r133.2 = 1) then (
 Option.bind (Maker_Pick N a0_l r133.1 ([(-1), 3, 0])) fun r160 =>
 some (r160.1, (List.set l104 (Int.toNat r124.2) (T_Span.mk x130.Element r160.2 x130.From x130.To)))) else (
 bif decide (r133.2 = 2) then (
 Option.bind (in64 (x130.To + 1)) fun x174 =>
 Option.bind (Maker_Pick N a0_l r133.1 ([(-1), x130.To, x174])) fun r180 =>
 some (r180.1, (List.set l104 (Int.toNat r124.2) (T_Span.mk x130.Element x130.Side r180.2 x130.To)))) else (
 bif decide (r133.2 = 3) then (
 Option.bind (Maker_Pick N a0_l r133.1 ([1000000000, 1000000001, x130.From])) fun r193 =>
 some (r193.1, (List.set l104 (Int.toNat r124.2) (T_Span.mk x130.Element x130.Side x130.From r193.2)))) else (
 some (r133.1, l104))))))

def r23_Lists_l1 (N : Nat) (a0 : List (List T_Span)) (b53 : Bool) (i54 : Int) : Option ((Bool × Int) ⊕ (Bool)) :=
 bif decide (i54 < (List.length a0 : Int)) then (
 Option.bind (gO b53 (idx a0 i54)) fun x70 =>
 Option.bind (gO b53 (r23_Valid N x70)) fun r77 =>
 Option.bind (in64 (i54 + 1)) fun x84 =>
 some (.inl ((b53 && r77), x84))) else (
 some (.inr b53))

def r23_Lists (N : Nat) (a0 : List (List T_Span)) (a1 : Int) : Option (Int) :=
 bif decide (96 < (List.length a0 : Int)) then (
 some 3) else (
 Option.bind (iterN (fun s : Bool × Int => r23_Lists_l1 N a0 s.1 s.2) N ((decide (0 ≤ a1) && decide (a1 ≤ 1000000000)), 0)) fun r61 =>
 bif (!r61) then (
 some 1) else (
 some 0))

def r23_Releases_l5 (N : Nat) (a0 : List (List T_Span)) (a1 : Int) (i447 : Int) (l448 : List Int) (i533 : Int) (i534 : Int) : Option ((Int × Int) ⊕ ((List Int × Int) ⊕ Int)) :=
 bif decide (i534 < i447) then (
 Option.bind (idx a0 i534) fun x553 =>
 Option.bind (idx a0 i447) fun x558 =>
 Option.bind (r23_gap N x553 x558 a1) fun r563 =>
 bif (!decide (r563.2 = 0)) then (
 some (.inr (Sum.inl ([], r563.2)))) else (
 Option.bind (idx l448 i534) fun x572 =>
 Option.bind (in64 (x572 + r563.1)) fun x575 =>
 Option.bind (in64 (i534 + 1)) fun x578 =>
 some (.inl ((max i533 x575), x578)))) else (
 some (.inr (Sum.inr i533)))

def r23_Releases_l4 (N : Nat) (a0 : List (List T_Span)) (a1 : Int) (i447 : Int) (l448 : List Int) : Option ((Int × List Int) ⊕ ((List Int × Int) ⊕ (List Int))) :=
 bif decide (i447 < (List.length a0 : Int)) then (
 Option.bind (iterN (fun s : Int × Int => r23_Releases_l5 N a0 a1 i447 l448 s.1 s.2) N (0, 0)) fun r541 =>
 match r541 with
 | .inl p585 => (
 some (.inr (Sum.inl p585)))
 | .inr p588 => (
 bif decide (1000000000 < p588) then (
 some (.inr (Sum.inl ([], 4)))) else (
 Option.bind (app 8 l448 ([p588])) fun l597 =>
 Option.bind (in64 (i447 + 1)) fun x603 =>
 some (.inl (x603, l597))))) else (
 some (.inr (Sum.inr l448)))

def r23_Releases (N : Nat) (a0 : List (List T_Span)) (a1 : Int) : Option (List Int × Int) :=
 Option.bind (r23_Lists N a0 a1) fun r1 =>
 bif (!decide (r1 = 0)) then (
 some ([], r1)) else (
 Option.bind (iterN (fun s : Int × List Int => r23_Releases_l4 N a0 a1 s.1 s.2) N (0, [])) fun r456 =>
 match r456 with
 | .inl p610 => (
 some p610)
 | .inr p613 => (
 some (p613, 0)))

def separation_Check_l4 (N : Nat) (a2 : List Int) (x209 : Int) (x217 : List Int) (i255 : Int) : Option ((Int) ⊕ ((Bool × Int) ⊕ Unit)) :=
 bif decide (i255 < (List.length x217 : Int)) then (
 Option.bind (idx x217 i255) fun x270 =>
 Option.bind (idx a2 i255) fun x273 =>
 Option.bind (in64 (x273 + x270)) fun x276 =>
 bif decide (x209 < x276) then (
 some (.inr (Sum.inl (false, 0)))) else (
 Option.bind (in64 (i255 + 1)) fun x281 =>
 some (.inl x281))) else (
 some (.inr (Sum.inr ())))

def separation_Check_l3 (N : Nat) (a2 : List Int) (r1 : List (List Int) × Int) (i194 : Int) : Option ((Int) ⊕ ((Bool × Int) ⊕ Unit)) :=
 bif decide (i194 < (List.length a2 : Int)) then (
 Option.bind (idx a2 i194) fun x209 =>
 bif (decide (x209 < 0) || decide (1000000000 < x209)) then (
 some (.inr (Sum.inl (false, 0)))) else (
 Option.bind (idx r1.1 i194) fun x217 =>
 Option.bind (iterN (fun s : Int => separation_Check_l4 N a2 x209 x217 s) N 0) fun r262 =>
 match r262 with
 | .inl p288 => (
 some (.inr (Sum.inl p288)))
 | .inr p291 => (
 Option.bind (in64 (i194 + 1)) fun x294 =>
 some (.inl x294)))) else (
 some (.inr (Sum.inr ())))

def separation_Check (N : Nat) (a0 : List (List T_Span)) (a1 : Int) (a2 : List Int) : Option (Bool × Int) :=
 Option.bind (separation_gaps N a0 a1) fun r1 =>
 bif (!decide (r1.2 = 0)) then (
 some (false, r1.2)) else (
 bif (!decide ((List.length a2 : Int) = (List.length a0 : Int))) then (
 some (false, 0)) else (
 Option.bind (iterN (fun s : Int => separation_Check_l3 N a2 r1 s) N 0) fun r201 =>
 match r201 with
 | .inl p301 => (
 some p301)
 | .inr p304 => (
 some (true, 0))))

def law23_SeparationLeast_l4 (N : Nat) (a1 : List Int) (i526 : Int) (i675 : Int) (l676 : List Int) : Option ((Int × List Int) ⊕ (List Int)) :=
 bif (decide (i675 < (List.length a1 : Int)) && decide (i675 < 8)) then (
 Option.bind (in64 (i526 + i675)) fun x692 =>
 bif decide ((Int.tmod x692 3) = 0) then (
 Option.bind (idx l676 i526) fun x724 =>
 Option.bind (idx a1 i675) fun x727 =>
 Option.bind (yardgen_Place N x727 4000) fun r730 =>
 Option.bind (in64 (r730 - 1500)) fun x736 =>
 Option.bind (in64 (x724 + x736)) fun x739 =>
 Option.bind (idx l676 i526) fun x742 =>
 Option.bind (in64 (i675 + 1)) fun x747 =>
 some (.inl (x747, (List.set l676 (Int.toNat i526) x739)))) else (
 Option.bind (in64 (i675 + 1)) fun x750 =>
 some (.inl (x750, l676)))) else (
 some (.inr l676))

def law23_SeparationLeast_l3 (N : Nat) (a1 : List Int) (i526 : Int) (l527 : List Int) : Option ((Int × List Int) ⊕ (List Int)) :=
 bif decide (i526 < (List.length l527 : Int)) then (
 Option.bind (iterN (fun s : Int × List Int => law23_SeparationLeast_l4 N a1 i526 s.1 s.2) N (0, l527)) fun r683 =>
 Option.bind (idx r683 i526) fun x758 =>
 Option.bind (idx r683 i526) fun x761 =>
 Option.bind (in64 (i526 + 1)) fun x766 =>
 some (.inl (x766, (List.set r683 (Int.toNat i526) (max 0 x758))))) else (
 some (.inr l527))

def law23_SeparationLeast_l5 (N : Nat) (r25 : List Int × Int) (r534 : List Int) (r774 : Bool × Int) (i843 : Int) : Option ((Int) ⊕ (Bool ⊕ Unit)) :=
 bif decide (i843 < (List.length r534 : Int)) then (
 Option.bind (gO ((!(!decide (r774.2 = 0))) && r774.1) (idx r534 i843)) fun x867 =>
 Option.bind (gO ((!(!decide (r774.2 = 0))) && r774.1) (idx r25.1 i843)) fun x874 =>
 bif ((!decide (r774.2 = 0)) || (r774.1 && decide (x867 < x874))) then (
 some (.inr (Sum.inl false))) else (
 Option.bind (in64 (i843 + 1)) fun x884 =>
 some (.inl x884))) else (
 some (.inr (Sum.inr ())))

def law23_SeparationLeast (N : Nat) (a0 : List Int) (a1 : List Int) : Option (Bool) :=
 Option.bind (humpgen_New N a0) fun r1 =>
 Option.bind (yardgen_SpanLists N a0 r1 8) fun r8 =>
 Option.bind (Maker_Pick N a0 r8.1 ([0, 800, 2500])) fun r19 =>
 Option.bind (separation_Releases N r8.2 r19.2) fun r25 =>
 Option.bind (separation_Check N r8.2 r19.2 r25.1) fun r32 =>
 bif ((((!decide (r25.2 = 0)) || (!decide (r32.2 = 0))) || (!r32.1)) || (!decide ((List.length r25.1 : Int) = (List.length r8.2 : Int)))) then (
 some false) else (
 Option.bind (app 8 [] r25.1) fun l55 =>
 Option.bind (iterN (fun s : Int × List Int => law23_SeparationLeast_l3 N a1 s.1 s.2) N (0, l55)) fun r534 =>
 Option.bind (separation_Check N r8.2 r19.2 r534) fun r774 =>
 Option.bind (iterN (fun s : Int => law23_SeparationLeast_l5 N r25 r534 r774 s) N 0) fun r850 =>
 match r850 with
 | .inl p891 => (
 some p891)
 | .inr p894 => (
 Option.bind (law23_sane N) fun r897 =>
 some r897))

def law23_SeparationTight (N : Nat) (a0 : List Int) (a1 : Int) : Option (Bool) :=
 Option.bind (humpgen_New N a0) fun r1 =>
 Option.bind (yardgen_SpanLists N a0 r1 8) fun r8 =>
 Option.bind (Maker_Pick N a0 r8.1 ([0, 800, 2500])) fun r19 =>
 Option.bind (separation_Releases N r8.2 r19.2) fun r25 =>
 bif ((!decide (r25.2 = 0)) || (!decide ((List.length r25.1 : Int) = (List.length r8.2 : Int)))) then (
 some false) else (
 bif decide ((List.length r25.1 : Int) = 0) then (
 Option.bind (law23_sane N) fun r42 =>
 some r42) else (
 Option.bind (yardgen_Place N a1 (List.length r25.1 : Int)) fun r48 =>
 Option.bind (idx r25.1 r48) fun x54 =>
 bif decide (x54 = 0) then (
 Option.bind (law23_sane N) fun r59 =>
 some r59) else (
 Option.bind (in64 (r48 + 1)) fun x68 =>
 Option.bind (slc r25.1 0 x68) fun l71 =>
 Option.bind (app 8 [] l71) fun l74 =>
 Option.bind (idx l74 r48) fun x80 =>
 Option.bind (in64 (x80 - 1)) fun x83 =>
 Option.bind (idx l74 r48) fun x86 =>
 Option.bind (in64 (r48 + 1)) fun x91 =>
 Option.bind (slc r8.2 0 x91) fun l94 =>
 Option.bind (separation_Check N l94 r19.2 (List.set l74 (Int.toNat r48) x83)) fun r97 =>
 Option.bind (gO (decide (r97.2 = 0) && (!r97.1)) (law23_sane N)) fun r107 =>
 some ((decide (r97.2 = 0) && (!r97.1)) && r107))))

end Go.Gv
