/- Plain functions that mirror the program, written by a program of mine (gowalk.py). -/
import Derived.Test.YthoabchofjcigaaPu
namespace Go.Gv
set_option linter.unusedVariables false

structure T_Maker where
  l : List Int
  n : Int
deriving DecidableEq, Inhabited

structure T_Task where
  From : Int
  To : Int
deriving DecidableEq, Inhabited

structure T_Crew where
  From : Int
  To : Int
  Most : Int
deriving DecidableEq, Inhabited

structure T_Pair where
  Duty : Int
  Crew : Int
deriving DecidableEq, Inhabited

structure T_search where
  duties : List T_Task
  crews : List T_Crew
  of : List Int
  seen : List Bool
deriving DecidableEq, Inhabited

def humpgen_New (N : Nat) (a0 : List Int) : Option (Int) :=
 some 0

def Maker_Next (N : Nat) (a0_l : List Int) (a0_n : Int) (a1 : Int) : Option (Int × Int) :=
 Option.bind (
 bif decide (0 < (List.length a0_l : Int)) then (
 Option.bind (rem64 a0_n (List.length a0_l : Int)) fun x78 =>
 Option.bind (idx a0_l x78) fun x81 =>
 Option.bind (quo64 a0_n (List.length a0_l : Int)) fun x84 =>
 some (wr64 (x81 + (wr64 (x84 * 7919))))) else (
 some 0)) fun j69 =>
 Option.bind (in64 (a0_n + 1)) fun x92 =>
 Option.bind (rem64 j69 a1) fun x97 =>
 bif decide (x97 < 0) then (
 Option.bind (in64 (x97 + a1)) fun x102 =>
 some (x92, x102)) else (
 some (x92, x97))

def Maker_Pick (N : Nat) (a0_l : List Int) (a0_n : Int) (a1 : List Int) : Option (Int × Int) :=
 Option.bind (Maker_Next N a0_l a0_n (List.length a1 : Int)) fun r10 =>
 Option.bind (idx a1 r10.2) fun x16 =>
 some (r10.1, x16)

def law40_made_l1 (N : Nat) (a0_l : List Int) (i487 : Int) (i488 : Int) (l489 : List T_Task) : Option ((Int × Int × List T_Task) ⊕ (Int × List T_Task)) :=
 bif decide (0 < i487) then (
 Option.bind (Maker_Next N a0_l i488 100) fun r503 =>
 Option.bind (in64 (r503.2 + 1)) fun x509 =>
 Option.bind (Maker_Next N a0_l r503.1 40) fun r512 =>
 Option.bind (in64 (x509 + r512.2)) fun x518 =>
 Option.bind (app 16 l489 ([(T_Task.mk r503.2 x518)])) fun l524 =>
 Option.bind (in64 (i487 - 1)) fun x530 =>
 some (.inl (x530, r512.1, l524))) else (
 some (.inr (i488, l489)))

def law40_made_l2 (N : Nat) (a0_l : List Int) (i681 : Int) (i682 : Int) (l683 : List T_Crew) : Option ((Int × Int × List T_Crew) ⊕ (Int × List T_Crew)) :=
 bif decide (0 < i681) then (
 Option.bind (Maker_Next N a0_l i682 80) fun r697 =>
 Option.bind (in64 (r697.2 + 20)) fun x703 =>
 Option.bind (Maker_Next N a0_l r697.1 60) fun r706 =>
 Option.bind (in64 (x703 + r706.2)) fun x712 =>
 Option.bind (Maker_Pick N a0_l r706.1 ([5, 20, 60])) fun r718 =>
 Option.bind (app 24 l683 ([(T_Crew.mk r697.2 x712 r718.2)])) fun l727 =>
 Option.bind (in64 (i681 - 1)) fun x733 =>
 some (.inl (x733, r718.1, l727))) else (
 some (.inr (i682, l683)))

def law40_made (N : Nat) (a0_l : List Int) (a0_n : Int) (a1 : Int) (a2 : Int) : Option (Int × List T_Task × List T_Crew) :=
 Option.bind (in64 (a1 + 1)) fun x371 =>
 Option.bind (Maker_Next N a0_l a0_n x371) fun r374 =>
 Option.bind (iterN (fun s : Int × Int × List T_Task => law40_made_l1 N a0_l s.1 s.2.1 s.2.2) N (r374.2, r374.1, [])) fun r497 =>
 Option.bind (in64 (a2 + 1)) fun x538 =>
 Option.bind (Maker_Next N a0_l r497.1 x538) fun r541 =>
 Option.bind (iterN (fun s : Int × Int × List T_Crew => law40_made_l2 N a0_l s.1 s.2.1 s.2.2) N (r541.2, r541.1, [])) fun r691 =>
 some (r691.1, r497.2, r691.2)

def crew_time (N : Nat) (a0 : Int) (a1 : Int) : Option (Bool) :=
 some ((decide (0 ≤ a0) && decide (a0 < a1)) && decide (a1 ≤ 10080))

def crew_check_l1 (N : Nat) (a0 : List T_Task) (i50 : Int) : Option ((Int) ⊕ (Int ⊕ Unit)) :=
 bif decide (i50 < (List.length a0 : Int)) then (
 Option.bind (idx a0 i50) fun x65 =>
 Option.bind (crew_time N x65.From x65.To) fun r73 =>
 bif (!r73) then (
 some (.inr (Sum.inl 1))) else (
 Option.bind (in64 (i50 + 1)) fun x81 =>
 some (.inl x81))) else (
 some (.inr (Sum.inr ())))

def crew_check_l2 (N : Nat) (a1 : List T_Crew) (i153 : Int) : Option ((Int) ⊕ (Int ⊕ Unit)) :=
 bif decide (i153 < (List.length a1 : Int)) then (
 Option.bind (idx a1 i153) fun x168 =>
 Option.bind (crew_time N x168.From x168.To) fun r176 =>
 bif (((!r176) || decide (x168.Most < 1)) || decide (10080 < x168.Most)) then (
 some (.inr (Sum.inl 1))) else (
 Option.bind (in64 (i153 + 1)) fun x192 =>
 some (.inl x192))) else (
 some (.inr (Sum.inr ())))

def crew_check (N : Nat) (a0 : List T_Task) (a1 : List T_Crew) : Option (Int) :=
 bif (decide (64 < (List.length a0 : Int)) || decide (32 < (List.length a1 : Int))) then (
 some 3) else (
 Option.bind (iterN (fun s : Int => crew_check_l1 N a0 s) N 0) fun r57 =>
 match r57 with
 | .inl p88 => (
 some p88)
 | .inr p91 => (
 Option.bind (iterN (fun s : Int => crew_check_l2 N a1 s) N 0) fun r160 =>
 match r160 with
 | .inl p199 => (
 some p199)
 | .inr p202 => (
 some 0)))

def crew_Fits (N : Nat) (a0 : T_Task) (a1 : T_Crew) : Option (Bool) :=
 Option.bind (gO (decide (a1.From ≤ a0.From) && decide (a0.To ≤ a1.To)) (in64 (a0.To - a0.From))) fun x18 =>
 some ((decide (a1.From ≤ a0.From) && decide (a0.To ≤ a1.To)) && decide (x18 ≤ a1.Most))

def crew_match_1_l1 (N : Nat) (self : Int → (List T_Crew) → (List Bool) → (List T_Task) → (List Int) → (List Int) → Option (List Bool × List Int × List Int × Bool)) (a0 : Int) (a1 : List T_Crew) (a3 : List T_Task) (i274 : Int) (l275 : List Bool) (l276 : List Int) (l277 : List Int) : Option ((Int × List Bool × List Int × List Int) ⊕ ((List Bool × List Int × List Int × Bool) ⊕ (List Bool × List Int × List Int))) :=
 bif decide (i274 < (List.length a1 : Int)) then (
 Option.bind (idx a1 i274) fun x292 =>
 Option.bind (idx l275 i274) fun x304 =>
 Option.bind (gO (!x304) (idx a3 a0)) fun x310 =>
 Option.bind (gO (!x304) (crew_Fits N x310 x292)) fun r316 =>
 bif (x304 || (!r316)) then (
 Option.bind (in64 (i274 + 1)) fun x326 =>
 some (.inl (x326, l275, l276, l277))) else (
 Option.bind (idx l275 i274) fun x329 =>
 Option.bind (idx l276 i274) fun x338 =>
 Option.bind (gO (!decide (x338 < 0)) (idx l276 i274)) fun x345 =>
 bif (!decide (x338 < 0)) then (
 Option.bind (self x345 a1 (List.set l275 (Int.toNat i274) true) a3 l276 l277) fun r355 =>
 bif (decide (x338 < 0) || r355.2.2.2) then (
 Option.bind (idx r355.2.2.1 a0) fun x379 =>
 Option.bind (idx r355.2.1 i274) fun x384 =>
 some (.inr (Sum.inl (r355.1, (List.set r355.2.1 (Int.toNat i274) a0), (List.set r355.2.2.1 (Int.toNat a0) i274), true)))) else (
 Option.bind (in64 (i274 + 1)) fun x389 =>
 some (.inl (x389, r355.1, r355.2.1, r355.2.2.1)))) else (
 bif (decide (x338 < 0) || true) then (
 Option.bind (idx l277 a0) fun x410 =>
 Option.bind (idx l276 i274) fun x415 =>
 some (.inr (Sum.inl ((List.set l275 (Int.toNat i274) true), (List.set l276 (Int.toNat i274) a0), (List.set l277 (Int.toNat a0) i274), true)))) else (
 Option.bind (in64 (i274 + 1)) fun x420 =>
 some (.inl (x420, (List.set l275 (Int.toNat i274) true), l276, l277)))))) else (
 some (.inr (Sum.inr (l275, l276, l277))))

def crew_match_1_r (N : Nat) : Nat → Int → (List T_Crew) → (List Bool) → (List T_Task) → (List Int) → (List Int) → Option (List Bool × List Int × List Int × Bool)
 | 0, _, _, _, _, _, _ => none
 | M + 1, a0, a1, a2, a3, a4, a6 =>
 Option.bind (iterN (fun s : Int × List Bool × List Int × List Int => crew_match_1_l1 N (crew_match_1_r N M) a0 a1 a3 s.1 s.2.1 s.2.2.1 s.2.2.2) N (0, a2, a4, a6)) fun r284 =>
 match r284 with
 | .inl p427 => (
 some p427)
 | .inr p430 => (
 some (p430.1, p430.2.1, p430.2.2, false))

def crew_match_1 (N : Nat) (a0 : Int) (a1 : List T_Crew) (a2 : List Bool) (a3 : List T_Task) (a4 : List Int) (a6 : List Int) : Option (List Bool × List Int × List Int × Bool) := crew_match_1_r N N a0 a1 a2 a3 a4 a6

def crew_match_l1 (N : Nat) (j139 : List Int × List Int) (i229 : Int) (l230 : List Int) : Option ((Int × List Int) ⊕ (List Int)) :=
 bif decide (i229 < (List.length j139.2 : Int)) then (
 Option.bind (idx l230 i229) fun x243 =>
 Option.bind (in64 (i229 + 1)) fun x248 =>
 some (.inl (x248, (List.set l230 (Int.toNat i229) (-1))))) else (
 some (.inr l230))

def crew_match_l2 (N : Nat) (j139 : List Int × List Int) (i279 : Int) (l280 : List Int) : Option ((Int × List Int) ⊕ (List Int)) :=
 bif decide (i279 < (List.length j139.1 : Int)) then (
 Option.bind (idx l280 i279) fun x293 =>
 Option.bind (in64 (i279 + 1)) fun x298 =>
 some (.inl (x298, (List.set l280 (Int.toNat i279) (-1))))) else (
 some (.inr l280))

def crew_match_l3 (N : Nat) (a0 : List T_Task) (a1 : List T_Crew) (i371 : Int) (l372 : List Int) (l373 : List Int) : Option ((Int × List Int × List Int) ⊕ (List Int × List Int)) :=
 bif decide (i371 < (List.length a0 : Int)) then (
 Option.bind (mkL 1 (List.length a1 : Int) false) fun l386 =>
 Option.bind (crew_match_1 N i371 a1 l386 a0 l372 l373) fun r404 =>
 Option.bind (in64 (i371 + 1)) fun x411 =>
 some (.inl (x411, r404.2.1, r404.2.2.1))) else (
 some (.inr (l372, l373)))

def crew_match (N : Nat) (a0 : List T_Task) (a1 : List T_Crew) : Option (List Int × List Int) :=
 Option.bind (
 Option.bind (mkL 8 (List.length a0 : Int) 0) fun l162 =>
 Option.bind (mkL 8 (List.length a1 : Int) 0) fun l168 =>
 some (l168, l162)) fun j139 =>
 Option.bind (iterN (fun s : Int × List Int => crew_match_l1 N j139 s.1 s.2) N (0, j139.2)) fun r237 =>
 Option.bind (iterN (fun s : Int × List Int => crew_match_l2 N j139 s.1 s.2) N (0, j139.1)) fun r287 =>
 Option.bind (iterN (fun s : Int × List Int × List Int => crew_match_l3 N a0 a1 s.1 s.2.1 s.2.2) N (0, r287, r237)) fun r380 =>
 some (r380.2, r380.1)

def crew_Assign_l1 (N : Nat) (r10 : List Int × List Int) (i92 : Int) (l93 : List T_Pair) : Option ((Int × List T_Pair) ⊕ (List T_Pair)) :=
 bif decide (i92 < (List.length r10.1 : Int)) then (
 Option.bind (idx r10.1 i92) fun x107 =>
 bif decide (0 ≤ x107) then (
 Option.bind (app 16 l93 ([(T_Pair.mk i92 x107)])) fun l115 =>
 Option.bind (in64 (i92 + 1)) fun x121 =>
 some (.inl (x121, l115))) else (
 Option.bind (in64 (i92 + 1)) fun x124 =>
 some (.inl (x124, l93)))) else (
 some (.inr l93))

def crew_Assign (N : Nat) (a0 : List T_Task) (a1 : List T_Crew) : Option (List T_Pair × Int) :=
 Option.bind (crew_check N a0 a1) fun r1 =>
 bif (!decide (r1 = 0)) then (
 some ([], r1)) else (
 Option.bind (crew_match N a0 a1) fun r10 =>
 Option.bind (iterN (fun s : Int × List T_Pair => crew_Assign_l1 N r10 s.1 s.2) N (0, [])) fun r101 =>
 some (r101, 0))

def r40_Fits (N : Nat) (a0 : T_Task) (a1 : T_Crew) : Option (Bool) :=
 Option.bind (gO (decide (a1.From ≤ a0.From) && decide (a0.To ≤ a1.To)) (in64 (a0.To - a0.From))) fun x18 =>
 some ((decide (a1.From ≤ a0.From) && decide (a0.To ≤ a1.To)) && decide (x18 ≤ a1.Most))

def r40_Matching_l4 (N : Nat) (a2 : List T_Pair) (i420 : Int) (x435 : T_Pair) (i602 : Int) : Option ((Int) ⊕ (Bool ⊕ Unit)) :=
 bif decide (i602 < i420) then (
 Option.bind (idx a2 i602) fun x621 =>
 bif decide (x621.Crew = x435.Crew) then (
 some (.inr (Sum.inl false))) else (
 Option.bind (in64 (i602 + 1)) fun x626 =>
 some (.inl x626))) else (
 some (.inr (Sum.inr ())))

def r40_Matching_l3 (N : Nat) (a0 : List T_Task) (a1 : List T_Crew) (a2 : List T_Pair) (i420 : Int) : Option ((Int) ⊕ (Bool ⊕ Unit)) :=
 bif decide (i420 < (List.length a2 : Int)) then (
 Option.bind (idx a2 i420) fun x435 =>
 Option.bind (gO (!(((decide (x435.Duty < 0) || decide ((List.length a0 : Int) ≤ x435.Duty)) || decide (x435.Crew < 0)) || decide ((List.length a1 : Int) ≤ x435.Crew))) (idx a0 x435.Duty)) fun x529 =>
 Option.bind (gO (!(((decide (x435.Duty < 0) || decide ((List.length a0 : Int) ≤ x435.Duty)) || decide (x435.Crew < 0)) || decide ((List.length a1 : Int) ≤ x435.Crew))) (idx a1 x435.Crew)) fun x537 =>
 Option.bind (gO (!(((decide (x435.Duty < 0) || decide ((List.length a0 : Int) ≤ x435.Duty)) || decide (x435.Crew < 0)) || decide ((List.length a1 : Int) ≤ x435.Crew))) (r40_Fits N x529 x537)) fun r542 =>
 Option.bind (gO ((!((((decide (x435.Duty < 0) || decide ((List.length a0 : Int) ≤ x435.Duty)) || decide (x435.Crew < 0)) || decide ((List.length a1 : Int) ≤ x435.Crew)) || (!r542))) && decide (0 < i420)) (in64 (i420 - 1))) fun x558 =>
 Option.bind (gO ((!((((decide (x435.Duty < 0) || decide ((List.length a0 : Int) ≤ x435.Duty)) || decide (x435.Crew < 0)) || decide ((List.length a1 : Int) ≤ x435.Crew)) || (!r542))) && decide (0 < i420)) (idx a2 x558)) fun x562 =>
 bif (((((decide (x435.Duty < 0) || decide ((List.length a0 : Int) ≤ x435.Duty)) || decide (x435.Crew < 0)) || decide ((List.length a1 : Int) ≤ x435.Crew)) || (!r542)) || (decide (0 < i420) && decide (x435.Duty ≤ x562.Duty))) then (
 some (.inr (Sum.inl false))) else (
 Option.bind (iterN (fun s : Int => r40_Matching_l4 N a2 i420 x435 s) N 0) fun r609 =>
 match r609 with
 | .inl p633 => (
 some (.inr (Sum.inl p633)))
 | .inr p636 => (
 Option.bind (in64 (i420 + 1)) fun x639 =>
 some (.inl x639)))) else (
 some (.inr (Sum.inr ())))

def r40_Matching (N : Nat) (a0 : List T_Task) (a1 : List T_Crew) (a2 : List T_Pair) : Option (Bool) :=
 Option.bind (iterN (fun s : Int => r40_Matching_l3 N a0 a1 a2 s) N 0) fun r427 =>
 match r427 with
 | .inl p646 => (
 some p646)
 | .inr p649 => (
 some true)

def crew_Cover_1_l1 (N : Nat) (self : Int → (List Bool) → (List T_Crew) → (List Bool) → (List T_Task) → (List Int) → Option (List Bool × List Bool)) (a0 : Int) (a2 : List T_Crew) (a4 : List T_Task) (a5 : List Int) (i157 : Int) (l158 : List Bool) (l159 : List Bool) : Option ((Int × List Bool × List Bool) ⊕ (List Bool × List Bool)) :=
 bif decide (i157 < (List.length a2 : Int)) then (
 Option.bind (idx a2 i157) fun x172 =>
 Option.bind (idx l159 i157) fun x184 =>
 Option.bind (gO (!x184) (idx a4 a0)) fun x190 =>
 Option.bind (gO (!x184) (crew_Fits N x190 x172)) fun r196 =>
 bif (x184 || (!r196)) then (
 Option.bind (in64 (i157 + 1)) fun x206 =>
 some (.inl (x206, l158, l159))) else (
 Option.bind (idx l159 i157) fun x209 =>
 Option.bind (idx a5 i157) fun x214 =>
 Option.bind (gO (decide (0 ≤ x214)) (idx l158 x214)) fun x220 =>
 bif (decide (0 ≤ x214) && (!x220)) then (
 Option.bind (self x214 l158 a2 (List.set l159 (Int.toNat i157) true) a4 a5) fun r230 =>
 Option.bind (in64 (i157 + 1)) fun x237 =>
 some (.inl (x237, r230.1, r230.2))) else (
 Option.bind (in64 (i157 + 1)) fun x240 =>
 some (.inl (x240, l158, (List.set l159 (Int.toNat i157) true)))))) else (
 some (.inr (l158, l159)))

def crew_Cover_1_r (N : Nat) : Nat → Int → (List Bool) → (List T_Crew) → (List Bool) → (List T_Task) → (List Int) → Option (List Bool × List Bool)
 | 0, _, _, _, _, _, _ => none
 | M + 1, a0, a1, a2, a3, a4, a5 =>
 Option.bind (idx a1 a0) fun x1 =>
 Option.bind (iterN (fun s : Int × List Bool × List Bool => crew_Cover_1_l1 N (crew_Cover_1_r N M) a0 a2 a4 a5 s.1 s.2.1 s.2.2) N (0, (List.set a1 (Int.toNat a0) true), a3)) fun r166 =>
 some (r166.1, r166.2)

def crew_Cover_1 (N : Nat) (a0 : Int) (a1 : List Bool) (a2 : List T_Crew) (a3 : List Bool) (a4 : List T_Task) (a5 : List Int) : Option (List Bool × List Bool) := crew_Cover_1_r N N a0 a1 a2 a3 a4 a5

def crew_Cover_l1 (N : Nat) (a0 : List T_Task) (a1 : List T_Crew) (r19 : List Int × List Int) (i964 : Int) (l965 : List Bool) (l966 : List Bool) : Option ((Int × List Bool × List Bool) ⊕ (List Bool × List Bool)) :=
 bif decide (i964 < (List.length r19.1 : Int)) then (
 Option.bind (idx r19.1 i964) fun x979 =>
 Option.bind (gO (decide (x979 < 0)) (idx l965 i964)) fun x985 =>
 bif (decide (x979 < 0) && (!x985)) then (
 Option.bind (crew_Cover_1 N i964 l965 a1 l966 a0 r19.2) fun r995 =>
 Option.bind (in64 (i964 + 1)) fun x1002 =>
 some (.inl (x1002, r995.1, r995.2))) else (
 Option.bind (in64 (i964 + 1)) fun x1005 =>
 some (.inl (x1005, l965, l966)))) else (
 some (.inr (l965, l966)))

def crew_Cover_l2 (N : Nat) (a0 : List T_Task) (r973 : List Bool × List Bool) (i1087 : Int) (l1088 : List Int) : Option ((Int × List Int) ⊕ (List Int)) :=
 bif decide (i1087 < (List.length a0 : Int)) then (
 Option.bind (idx r973.1 i1087) fun x1102 =>
 bif (!x1102) then (
 Option.bind (app 8 l1088 ([i1087])) fun l1110 =>
 Option.bind (in64 (i1087 + 1)) fun x1116 =>
 some (.inl (x1116, l1110))) else (
 Option.bind (in64 (i1087 + 1)) fun x1119 =>
 some (.inl (x1119, l1088)))) else (
 some (.inr l1088))

def crew_Cover_l3 (N : Nat) (a1 : List T_Crew) (r973 : List Bool × List Bool) (i1201 : Int) (l1202 : List Int) : Option ((Int × List Int) ⊕ (List Int)) :=
 bif decide (i1201 < (List.length a1 : Int)) then (
 Option.bind (idx r973.2 i1201) fun x1216 =>
 bif x1216 then (
 Option.bind (app 8 l1202 ([i1201])) fun l1224 =>
 Option.bind (in64 (i1201 + 1)) fun x1230 =>
 some (.inl (x1230, l1224))) else (
 Option.bind (in64 (i1201 + 1)) fun x1233 =>
 some (.inl (x1233, l1202)))) else (
 some (.inr l1202))

def crew_Cover (N : Nat) (a0 : List T_Task) (a1 : List T_Crew) : Option (List Int × List Int × Int) :=
 Option.bind (crew_check N a0 a1) fun r9 =>
 bif (!decide (r9 = 0)) then (
 some ([], [], r9)) else (
 Option.bind (crew_match N a0 a1) fun r19 =>
 Option.bind (
 Option.bind (mkL 1 (List.length a0 : Int) false) fun l491 =>
 Option.bind (mkL 1 (List.length a1 : Int) false) fun l497 =>
 some (l491, l497)) fun j462 =>
 Option.bind (iterN (fun s : Int × List Bool × List Bool => crew_Cover_l1 N a0 a1 r19 s.1 s.2.1 s.2.2) N (0, j462.1, j462.2)) fun r973 =>
 Option.bind (iterN (fun s : Int × List Int => crew_Cover_l2 N a0 r973 s.1 s.2) N (0, [])) fun r1096 =>
 Option.bind (iterN (fun s : Int × List Int => crew_Cover_l3 N a1 r973 s.1 s.2) N (0, [])) fun r1210 =>
 some (r1096, r1210, 0))

def humpgen_Ints_l1 (N : Nat) (a0 : List Int) (a1 : List Int) (i38 : Int) : Option ((Int) ⊕ (Bool ⊕ Unit)) :=
 bif decide (i38 < (List.length a0 : Int)) then (
 Option.bind (idx a0 i38) fun x57 =>
 Option.bind (idx a1 i38) fun x60 =>
 bif (!decide (x57 = x60)) then (
 some (.inr (Sum.inl false))) else (
 Option.bind (in64 (i38 + 1)) fun x65 =>
 some (.inl x65))) else (
 some (.inr (Sum.inr ())))

def humpgen_Ints (N : Nat) (a0 : List Int) (a1 : List Int) : Option (Bool) :=
 bif (!decide ((List.length a0 : Int) = (List.length a1 : Int))) then (
 some false) else (
 Option.bind (iterN (fun s : Int => humpgen_Ints_l1 N a0 a1 s) N 0) fun r45 =>
 match r45 with
 | .inl p72 => (
 some p72)
 | .inr p75 => (
 some true))

def law40_sane (N : Nat) : Option (Bool) :=
 Option.bind (crew_Assign N ([(T_Task.mk 0 10), (T_Task.mk 2 8)]) ([(T_Crew.mk 0 10 10), (T_Crew.mk 1 9 6)])) fun r7 =>
 Option.bind (idx ([(T_Crew.mk 0 10 10), (T_Crew.mk 1 9 6)]) 1) fun x14 =>
 Option.bind (crew_Assign N ([(T_Task.mk 0 10), (T_Task.mk 2 8)]) (List.set [(T_Crew.mk 0 10 10), (T_Crew.mk 1 9 6)] (Int.toNat 1) (T_Crew.mk x14.From x14.To 5))) fun r19 =>
 Option.bind (crew_Cover N ([(T_Task.mk 0 10), (T_Task.mk 2 8)]) (List.set [(T_Crew.mk 0 10 10), (T_Crew.mk 1 9 6)] (Int.toNat 1) (T_Crew.mk x14.From x14.To 5))) fun r26 =>
 Option.bind (gO (decide (r7.2 = 0) && decide ((List.length r7.1 : Int) = 2)) (idx r7.1 0)) fun x40 =>
 Option.bind (gO ((decide (r7.2 = 0) && decide ((List.length r7.1 : Int) = 2)) && decide (x40 = (T_Pair.mk 0 0))) (idx r7.1 1)) fun x49 =>
 bif (((((((decide (r7.2 = 0) && decide ((List.length r7.1 : Int) = 2)) && decide (x40 = (T_Pair.mk 0 0))) && decide (x49 = (T_Pair.mk 1 1))) && decide (r19.2 = 0)) && decide ((List.length r19.1 : Int) = 1)) && decide (r26.2.2 = 0)) && decide ((List.length r26.1 : Int) = 0)) then (
 Option.bind (humpgen_Ints N r26.2.1 ([0])) fun r79 =>
 some ((((((((decide (r7.2 = 0) && decide ((List.length r7.1 : Int) = 2)) && decide (x40 = (T_Pair.mk 0 0))) && decide (x49 = (T_Pair.mk 1 1))) && decide (r19.2 = 0)) && decide ((List.length r19.1 : Int) = 1)) && decide (r26.2.2 = 0)) && decide ((List.length r26.1 : Int) = 0)) && r79)) else (
 some ((((((((decide (r7.2 = 0) && decide ((List.length r7.1 : Int) = 2)) && decide (x40 = (T_Pair.mk 0 0))) && decide (x49 = (T_Pair.mk 1 1))) && decide (r19.2 = 0)) && decide ((List.length r19.1 : Int) = 1)) && decide (r26.2.2 = 0)) && decide ((List.length r26.1 : Int) = 0)) && false))

def law40_CrewMost_l16 (N : Nat) (a0 : List Int) (r8 : Int × List T_Task × List T_Crew) (i2469 : Int) (l2471 : List Bool) (l2472 : List T_Pair) (i2612 : Int) (i2613 : Int) : Option ((Int × Int) ⊕ (Int × List Bool × List T_Pair)) :=
 bif (decide (i2612 < 3) && decide (0 < (List.length r8.2.2 : Int))) then (
 Option.bind (Maker_Next N a0 i2613 (List.length r8.2.2 : Int)) fun r2630 =>
 Option.bind (idx l2471 r2630.2) fun x2640 =>
 Option.bind (gO (!x2640) (idx r8.2.1 i2469)) fun x2646 =>
 Option.bind (gO (!x2640) (idx r8.2.2 r2630.2)) fun x2653 =>
 Option.bind (gO (!x2640) (r40_Fits N x2646 x2653)) fun r2658 =>
 bif ((!x2640) && r2658) then (
 Option.bind (app 16 l2472 ([(T_Pair.mk i2469 r2630.2)])) fun l2670 =>
 Option.bind (idx l2471 r2630.2) fun x2676 =>
 some (.inr (r2630.1, (List.set l2471 (Int.toNat r2630.2) true), l2670))) else (
 Option.bind (in64 (i2612 + 1)) fun x2681 =>
 some (.inl (x2681, r2630.1)))) else (
 some (.inr (i2613, l2471, l2472)))

def law40_CrewMost_l15 (N : Nat) (a0 : List Int) (r8 : Int × List T_Task × List T_Crew) (i2469 : Int) (i2470 : Int) (l2471 : List Bool) (l2472 : List T_Pair) : Option ((Int × Int × List Bool × List T_Pair) ⊕ (Int × List T_Pair)) :=
 bif decide (i2469 < (List.length r8.2.1 : Int)) then (
 Option.bind (iterN (fun s : Int × Int => law40_CrewMost_l16 N a0 r8 i2469 l2471 l2472 s.1 s.2) N (0, i2470)) fun r2620 =>
 Option.bind (in64 (i2469 + 1)) fun x2689 =>
 some (.inl (x2689, r2620.1, r2620.2.1, r2620.2.2))) else (
 some (.inr (i2470, l2472)))

def law40_CrewMost_l11 (N : Nat) (a0 : List Int) (r8 : Int × List T_Task × List T_Crew) (r16 : List T_Pair × Int) (i1809 : Int) (i1810 : Int) : Option ((Int × Int) ⊕ (Bool ⊕ Unit)) :=
 bif decide (i1809 < 4) then (
 Option.bind (mkL 1 (List.length r8.2.2 : Int) false) fun l1825 =>
 Option.bind (iterN (fun s : Int × Int × List Bool × List T_Pair => law40_CrewMost_l15 N a0 r8 s.1 s.2.1 s.2.2.1 s.2.2.2) N (0, i1810, l1825, [])) fun r2480 =>
 Option.bind (r40_Matching N r8.2.1 r8.2.2 r2480.2) fun r2697 =>
 bif ((!r2697) || decide ((List.length r16.1 : Int) < (List.length r2480.2 : Int))) then (
 some (.inr (Sum.inl false))) else (
 Option.bind (in64 (i1809 + 1)) fun x2711 =>
 some (.inl (x2711, r2480.1)))) else (
 some (.inr (Sum.inr ())))

def law40_CrewMost (N : Nat) (a0 : List Int) : Option (Bool) :=
 Option.bind (humpgen_New N a0) fun r1 =>
 Option.bind (law40_made N a0 r1 10 7) fun r8 =>
 Option.bind (crew_Assign N r8.2.1 r8.2.2) fun r16 =>
 bif (!decide (r16.2 = 0)) then (
 some false) else (
 Option.bind (iterN (fun s : Int × Int => law40_CrewMost_l11 N a0 r8 r16 s.1 s.2) N (0, r8.1)) fun r1817 =>
 match r1817 with
 | .inl p2718 => (
 some p2718)
 | .inr p2721 => (
 Option.bind (law40_sane N) fun r2724 =>
 some r2724))

def yardgen_Place (N : Nat) (a0 : Int) (a1 : Int) : Option (Int) :=
 bif decide (a1 < 1) then (
 some 0) else (
 Option.bind (rem64 a0 a1) fun x3 =>
 bif decide (x3 < 0) then (
 Option.bind (in64 (x3 + a1)) fun x8 =>
 some x8) else (
 some x3))

def law40_CrewGrows (N : Nat) (a0 : List Int) (a1 : Int) : Option (Bool) :=
 Option.bind (humpgen_New N a0) fun r1 =>
 Option.bind (law40_made N a0 r1 12 8) fun r8 =>
 Option.bind (crew_Assign N r8.2.1 r8.2.2) fun r16 =>
 Option.bind (app 24 [] r8.2.2) fun l26 =>
 Option.bind (Maker_Next N a0 r8.1 50) fun r32 =>
 Option.bind (Maker_Next N a0 r32.1 90) fun r38 =>
 Option.bind (in64 (60 + r38.2)) fun x44 =>
 Option.bind (Maker_Pick N a0 r38.1 ([5, 90])) fun r50 =>
 Option.bind (app 24 l26 ([(T_Crew.mk r32.2 x44 r50.2)])) fun l59 =>
 Option.bind (crew_Assign N r8.2.1 l59) fun r65 =>
 Option.bind (app 24 [] r8.2.2) fun l75 =>
 Option.bind (
 bif decide (0 < (List.length l75 : Int)) then (
 Option.bind (yardgen_Place N a1 (List.length l75 : Int)) fun r156 =>
 Option.bind (idx l75 r156) fun x162 =>
 Option.bind (quo64 x162.From 2) fun x196 =>
 Option.bind (Maker_Next N a0 r50.1 50) fun r199 =>
 Option.bind (in64 (x162.To + r199.2)) fun x205 =>
 Option.bind (Maker_Next N a0 r199.1 50) fun r208 =>
 Option.bind (in64 (x162.Most + r208.2)) fun x214 =>
 some (List.set (List.set (List.set l75 (Int.toNat r156) (T_Crew.mk x196 x162.To x162.Most)) (Int.toNat r156) (T_Crew.mk ((T_Crew.mk x196 x162.To x162.Most).From) x205 ((T_Crew.mk x196 x162.To x162.Most).Most))) (Int.toNat r156) (T_Crew.mk ((T_Crew.mk ((T_Crew.mk x196 x162.To x162.Most).From) x205 ((T_Crew.mk x196 x162.To x162.Most).Most)).From) ((T_Crew.mk ((T_Crew.mk x196 x162.To x162.Most).From) x205 ((T_Crew.mk x196 x162.To x162.Most).Most)).To) x214))) else (
 some l75)) fun j151 =>
 Option.bind (crew_Assign N r8.2.1 j151) fun r228 =>
 Option.bind (gO (((decide (r16.2 = 0) && decide (r65.2 = 0)) && decide (r228.2 = 0)) && decide ((List.length r16.1 : Int) ≤ (List.length r65.1 : Int))) (in64 ((List.length r16.1 : Int) + 1))) fun x252 =>
 Option.bind (gO (((((decide (r16.2 = 0) && decide (r65.2 = 0)) && decide (r228.2 = 0)) && decide ((List.length r16.1 : Int) ≤ (List.length r65.1 : Int))) && decide ((List.length r65.1 : Int) ≤ x252)) && decide ((List.length r16.1 : Int) ≤ (List.length r228.1 : Int))) (in64 ((List.length r16.1 : Int) + 1))) fun x268 =>
 Option.bind (gO ((((((decide (r16.2 = 0) && decide (r65.2 = 0)) && decide (r228.2 = 0)) && decide ((List.length r16.1 : Int) ≤ (List.length r65.1 : Int))) && decide ((List.length r65.1 : Int) ≤ x252)) && decide ((List.length r16.1 : Int) ≤ (List.length r228.1 : Int))) && decide ((List.length r228.1 : Int) ≤ x268)) (law40_sane N)) fun r274 =>
 some (((((((decide (r16.2 = 0) && decide (r65.2 = 0)) && decide (r228.2 = 0)) && decide ((List.length r16.1 : Int) ≤ (List.length r65.1 : Int))) && decide ((List.length r65.1 : Int) ≤ x252)) && decide ((List.length r16.1 : Int) ≤ (List.length r228.1 : Int))) && decide ((List.length r228.1 : Int) ≤ x268)) && r274)

def crew_set_l1 (N : Nat) (a0 : List Int) (a1 : Int) (i86 : Int) (l87 : List Bool) : Option ((Int × List Bool) ⊕ ((List Bool × Bool) ⊕ (List Bool))) :=
 bif decide (i86 < (List.length a0 : Int)) then (
 Option.bind (idx a0 i86) fun x102 =>
 Option.bind (gO ((!(decide (x102 < 0) || decide (a1 ≤ x102))) && decide (0 < i86)) (in64 (i86 - 1))) fun x116 =>
 Option.bind (gO ((!(decide (x102 < 0) || decide (a1 ≤ x102))) && decide (0 < i86)) (idx a0 x116)) fun x120 =>
 bif ((decide (x102 < 0) || decide (a1 ≤ x102)) || (decide (0 < i86) && decide (x102 ≤ x120))) then (
 some (.inr (Sum.inl ([], false)))) else (
 Option.bind (idx l87 x102) fun x131 =>
 Option.bind (in64 (i86 + 1)) fun x136 =>
 some (.inl (x136, (List.set l87 (Int.toNat x102) true))))) else (
 some (.inr (Sum.inr l87)))

def crew_set (N : Nat) (a0 : List Int) (a1 : Int) : Option (List Bool × Bool) :=
 Option.bind (mkL 1 a1 false) fun l1 =>
 Option.bind (iterN (fun s : Int × List Bool => crew_set_l1 N a0 a1 s.1 s.2) N (0, l1)) fun r94 =>
 match r94 with
 | .inl p143 => (
 some p143)
 | .inr p146 => (
 some (p146, true))

def crew_matching_l1 (N : Nat) (a0 : List T_Task) (a1 : List T_Crew) (a2 : List T_Pair) (i199 : Int) (l200 : List Bool) : Option ((Int × List Bool) ⊕ (Bool ⊕ Unit)) :=
 bif decide (i199 < (List.length a2 : Int)) then (
 Option.bind (idx a2 i199) fun x215 =>
 Option.bind (gO (!(((decide (x215.Duty < 0) || decide ((List.length a0 : Int) ≤ x215.Duty)) || decide (x215.Crew < 0)) || decide ((List.length a1 : Int) ≤ x215.Crew))) (idx l200 x215.Crew)) fun x247 =>
 Option.bind (gO ((!((((decide (x215.Duty < 0) || decide ((List.length a0 : Int) ≤ x215.Duty)) || decide (x215.Crew < 0)) || decide ((List.length a1 : Int) ≤ x215.Crew)) || x247)) && decide (0 < i199)) (in64 (i199 - 1))) fun x260 =>
 Option.bind (gO ((!((((decide (x215.Duty < 0) || decide ((List.length a0 : Int) ≤ x215.Duty)) || decide (x215.Crew < 0)) || decide ((List.length a1 : Int) ≤ x215.Crew)) || x247)) && decide (0 < i199)) (idx a2 x260)) fun x264 =>
 Option.bind (gO (!(((((decide (x215.Duty < 0) || decide ((List.length a0 : Int) ≤ x215.Duty)) || decide (x215.Crew < 0)) || decide ((List.length a1 : Int) ≤ x215.Crew)) || x247) || (decide (0 < i199) && decide (x215.Duty ≤ x264.Duty)))) (idx a0 x215.Duty)) fun x277 =>
 Option.bind (gO (!(((((decide (x215.Duty < 0) || decide ((List.length a0 : Int) ≤ x215.Duty)) || decide (x215.Crew < 0)) || decide ((List.length a1 : Int) ≤ x215.Crew)) || x247) || (decide (0 < i199) && decide (x215.Duty ≤ x264.Duty)))) (idx a1 x215.Crew)) fun x285 =>
 Option.bind (gO (!(((((decide (x215.Duty < 0) || decide ((List.length a0 : Int) ≤ x215.Duty)) || decide (x215.Crew < 0)) || decide ((List.length a1 : Int) ≤ x215.Crew)) || x247) || (decide (0 < i199) && decide (x215.Duty ≤ x264.Duty)))) (crew_Fits N x277 x285)) fun r290 =>
 bif ((((((decide (x215.Duty < 0) || decide ((List.length a0 : Int) ≤ x215.Duty)) || decide (x215.Crew < 0)) || decide ((List.length a1 : Int) ≤ x215.Crew)) || x247) || (decide (0 < i199) && decide (x215.Duty ≤ x264.Duty))) || (!r290)) then (
 some (.inr (Sum.inl false))) else (
 Option.bind (idx l200 x215.Crew) fun x300 =>
 Option.bind (in64 (i199 + 1)) fun x305 =>
 some (.inl (x305, (List.set l200 (Int.toNat x215.Crew) true))))) else (
 some (.inr (Sum.inr ())))

def crew_matching (N : Nat) (a0 : List T_Task) (a1 : List T_Crew) (a2 : List T_Pair) : Option (Bool) :=
 Option.bind (mkL 1 (List.length a1 : Int) false) fun l1 =>
 Option.bind (iterN (fun s : Int × List Bool => crew_matching_l1 N a0 a1 a2 s.1 s.2) N (0, l1)) fun r207 =>
 match r207 with
 | .inl p312 => (
 some p312)
 | .inr p315 => (
 some true)

def crew_Check_l4 (N : Nat) (a1 : List T_Crew) (r9 : List Bool × Bool) (r16 : List Bool × Bool) (i361 : Int) (x376 : T_Task) (i463 : Int) : Option ((Int) ⊕ ((Bool × Int) ⊕ Unit)) :=
 bif decide (i463 < (List.length a1 : Int)) then (
 Option.bind (idx a1 i463) fun x478 =>
 Option.bind (crew_Fits N x376 x478) fun r486 =>
 Option.bind (gO r486 (idx r9.1 i361)) fun x495 =>
 Option.bind (gO (r486 && (!x495)) (idx r16.1 i463)) fun x504 =>
 bif ((r486 && (!x495)) && (!x504)) then (
 some (.inr (Sum.inl (false, 0)))) else (
 Option.bind (in64 (i463 + 1)) fun x512 =>
 some (.inl x512))) else (
 some (.inr (Sum.inr ())))

def crew_Check_l3 (N : Nat) (a0 : List T_Task) (a1 : List T_Crew) (r9 : List Bool × Bool) (r16 : List Bool × Bool) (i361 : Int) : Option ((Int) ⊕ ((Bool × Int) ⊕ Unit)) :=
 bif decide (i361 < (List.length a0 : Int)) then (
 Option.bind (idx a0 i361) fun x376 =>
 Option.bind (iterN (fun s : Int => crew_Check_l4 N a1 r9 r16 i361 x376 s) N 0) fun r470 =>
 match r470 with
 | .inl p519 => (
 some (.inr (Sum.inl p519)))
 | .inr p522 => (
 Option.bind (in64 (i361 + 1)) fun x525 =>
 some (.inl x525))) else (
 some (.inr (Sum.inr ())))

def crew_Check (N : Nat) (a0 : List T_Task) (a1 : List T_Crew) (a2 : List T_Pair) (a3 : List Int) (a4 : List Int) : Option (Bool × Int) :=
 Option.bind (crew_check N a0 a1) fun r1 =>
 bif (!decide (r1 = 0)) then (
 some (false, r1)) else (
 Option.bind (crew_set N a3 (List.length a0 : Int)) fun r9 =>
 Option.bind (crew_set N a4 (List.length a1 : Int)) fun r16 =>
 Option.bind (gO (!((!r9.2) || (!r16.2))) (in64 ((List.length a3 : Int) + (List.length a4 : Int)))) fun x33 =>
 Option.bind (gO (!(((!r9.2) || (!r16.2)) || (!decide ((List.length a2 : Int) = x33)))) (crew_matching N a0 a1 a2)) fun r42 =>
 bif ((((!r9.2) || (!r16.2)) || (!decide ((List.length a2 : Int) = x33))) || (!r42)) then (
 some (false, 0)) else (
 Option.bind (iterN (fun s : Int => crew_Check_l3 N a0 a1 r9 r16 s) N 0) fun r368 =>
 match r368 with
 | .inl p532 => (
 some p532)
 | .inr p535 => (
 some (true, 0))))

def r40_Valid_l1 (N : Nat) (a0 : List T_Task) (i58 : Int) : Option ((Int) ⊕ (Int ⊕ Unit)) :=
 bif decide (i58 < (List.length a0 : Int)) then (
 Option.bind (idx a0 i58) fun x73 =>
 bif ((decide (x73.From < 0) || decide (x73.To ≤ x73.From)) || decide (10080 < x73.To)) then (
 some (.inr (Sum.inl 1))) else (
 Option.bind (in64 (i58 + 1)) fun x93 =>
 some (.inl x93))) else (
 some (.inr (Sum.inr ())))

def r40_Valid_l2 (N : Nat) (a1 : List T_Crew) (i173 : Int) : Option ((Int) ⊕ (Int ⊕ Unit)) :=
 bif decide (i173 < (List.length a1 : Int)) then (
 Option.bind (idx a1 i173) fun x188 =>
 bif ((((decide (x188.From < 0) || decide (x188.To ≤ x188.From)) || decide (10080 < x188.To)) || decide (x188.Most < 1)) || decide (10080 < x188.Most)) then (
 some (.inr (Sum.inl 1))) else (
 Option.bind (in64 (i173 + 1)) fun x216 =>
 some (.inl x216))) else (
 some (.inr (Sum.inr ())))

def r40_Valid (N : Nat) (a0 : List T_Task) (a1 : List T_Crew) : Option (Int) :=
 bif (decide (64 < (List.length a0 : Int)) || decide (32 < (List.length a1 : Int))) then (
 some 3) else (
 Option.bind (iterN (fun s : Int => r40_Valid_l1 N a0 s) N 0) fun r65 =>
 match r65 with
 | .inl p100 => (
 some p100)
 | .inr p103 => (
 Option.bind (iterN (fun s : Int => r40_Valid_l2 N a1 s) N 0) fun r180 =>
 match r180 with
 | .inl p223 => (
 some p223)
 | .inr p226 => (
 some 0)))

def r40_ascending_l1 (N : Nat) (a0 : List Int) (a1 : Int) (i100 : Int) : Option ((Int) ⊕ (Bool ⊕ Unit)) :=
 bif decide (i100 < (List.length a0 : Int)) then (
 Option.bind (idx a0 i100) fun x119 =>
 Option.bind (gO (!decide (x119 < 0)) (idx a0 i100)) fun x125 =>
 Option.bind (gO ((!(decide (x119 < 0) || decide (a1 ≤ x125))) && decide (0 < i100)) (idx a0 i100)) fun x138 =>
 Option.bind (gO ((!(decide (x119 < 0) || decide (a1 ≤ x125))) && decide (0 < i100)) (in64 (i100 - 1))) fun x145 =>
 Option.bind (gO ((!(decide (x119 < 0) || decide (a1 ≤ x125))) && decide (0 < i100)) (idx a0 x145)) fun x149 =>
 bif ((decide (x119 < 0) || decide (a1 ≤ x125)) || (decide (0 < i100) && decide (x138 ≤ x149))) then (
 some (.inr (Sum.inl false))) else (
 Option.bind (in64 (i100 + 1)) fun x159 =>
 some (.inl x159))) else (
 some (.inr (Sum.inr ())))

def r40_ascending (N : Nat) (a0 : List Int) (a1 : Int) : Option (Bool) :=
 Option.bind (iterN (fun s : Int => r40_ascending_l1 N a0 a1 s) N 0) fun r107 =>
 match r107 with
 | .inl p166 => (
 some p166)
 | .inr p169 => (
 some true)

def r40_has_l1 (N : Nat) (a0 : List Int) (a1 : Int) (i22 : Int) : Option ((Int) ⊕ (Bool ⊕ Unit)) :=
 bif decide (i22 < (List.length a0 : Int)) then (
 Option.bind (idx a0 i22) fun x37 =>
 bif decide (x37 = a1) then (
 some (.inr (Sum.inl true))) else (
 Option.bind (in64 (i22 + 1)) fun x42 =>
 some (.inl x42))) else (
 some (.inr (Sum.inr ())))

def r40_has (N : Nat) (a0 : List Int) (a1 : Int) : Option (Bool) :=
 Option.bind (iterN (fun s : Int => r40_has_l1 N a0 a1 s) N 0) fun r29 =>
 match r29 with
 | .inl p49 => (
 some p49)
 | .inr p52 => (
 some false)

def r40_Covers_l4 (N : Nat) (a0 : List T_Task) (a1 : List T_Crew) (a2 : List Int) (a3 : List Int) (i350 : Int) (i456 : Int) : Option ((Int) ⊕ (Bool ⊕ Unit)) :=
 bif decide (i456 < (List.length a1 : Int)) then (
 Option.bind (idx a0 i350) fun x475 =>
 Option.bind (idx a1 i456) fun x478 =>
 Option.bind (r40_Fits N x475 x478) fun r481 =>
 Option.bind (gO r481 (r40_has N a2 i350)) fun r490 =>
 Option.bind (gO (r481 && (!r490)) (r40_has N a3 i456)) fun r501 =>
 bif ((r481 && (!r490)) && (!r501)) then (
 some (.inr (Sum.inl false))) else (
 Option.bind (in64 (i456 + 1)) fun x511 =>
 some (.inl x511))) else (
 some (.inr (Sum.inr ())))

def r40_Covers_l3 (N : Nat) (a0 : List T_Task) (a1 : List T_Crew) (a2 : List Int) (a3 : List Int) (i350 : Int) : Option ((Int) ⊕ (Bool ⊕ Unit)) :=
 bif decide (i350 < (List.length a0 : Int)) then (
 Option.bind (iterN (fun s : Int => r40_Covers_l4 N a0 a1 a2 a3 i350 s) N 0) fun r463 =>
 match r463 with
 | .inl p518 => (
 some (.inr (Sum.inl p518)))
 | .inr p521 => (
 Option.bind (in64 (i350 + 1)) fun x524 =>
 some (.inl x524))) else (
 some (.inr (Sum.inr ())))

def r40_Covers (N : Nat) (a0 : List T_Task) (a1 : List T_Crew) (a2 : List Int) (a3 : List Int) : Option (Bool) :=
 Option.bind (r40_ascending N a2 (List.length a0 : Int)) fun r1 =>
 Option.bind (gO (!(!r1)) (r40_ascending N a3 (List.length a1 : Int))) fun r11 =>
 bif ((!r1) || (!r11)) then (
 some false) else (
 Option.bind (iterN (fun s : Int => r40_Covers_l3 N a0 a1 a2 a3 s) N 0) fun r357 =>
 match r357 with
 | .inl p531 => (
 some p531)
 | .inr p534 => (
 some true))

def r40_Check (N : Nat) (a0 : List T_Task) (a1 : List T_Crew) (a2 : List T_Pair) (a3 : List Int) (a4 : List Int) : Option (Bool × Int) :=
 Option.bind (r40_Valid N a0 a1) fun r1 =>
 bif (!decide (r1 = 0)) then (
 some (false, r1)) else (
 Option.bind (r40_Matching N a0 a1 a2) fun r9 =>
 Option.bind (gO r9 (r40_Covers N a0 a1 a3 a4)) fun r20 =>
 Option.bind (gO (r9 && r20) (in64 ((List.length a3 : Int) + (List.length a4 : Int)))) fun x34 =>
 some (((r9 && r20) && decide ((List.length a2 : Int) = x34)), 0))

def law40_CrewFits_l4 (N : Nat) (a0 : List Int) (j1266 : Int × List T_Task × List T_Crew × List T_Pair × List Int) (i1537 : Int) (i1538 : Int) : Option ((Int × Int) ⊕ (Bool ⊕ Int)) :=
 bif (decide (i1537 < (List.length j1266.2.1 : Int)) && decide (0 < (List.length j1266.2.2.1 : Int))) then (
 Option.bind (Maker_Next N a0 i1538 (List.length j1266.2.2.1 : Int)) fun r1557 =>
 Option.bind (idx j1266.2.2.1 r1557.2) fun x1563 =>
 Option.bind (idx j1266.2.1 i1537) fun x1593 =>
 Option.bind (idx j1266.2.1 i1537) fun x1596 =>
 Option.bind (crew_Fits N x1593 x1563) fun r1599 =>
 Option.bind (r40_Fits N x1596 x1563) fun r1605 =>
 bif (!(r1599 == r1605)) then (
 some (.inr (Sum.inl false))) else (
 Option.bind (in64 (i1537 + 1)) fun x1613 =>
 some (.inl (x1613, r1557.1)))) else (
 some (.inr (Sum.inr i1538)))

def law40_CrewFits_l3 (N : Nat) (a0 : List Int) (i1080 : Int) (i1081 : Int) : Option ((Int × Int) ⊕ (Bool ⊕ Unit)) :=
 bif decide (i1080 < 4) then (
 Option.bind (law40_made N a0 i1081 6 5) fun r1096 =>
 Option.bind (crew_Assign N r1096.2.1 r1096.2.2) fun r1104 =>
 Option.bind (crew_Cover N r1096.2.1 r1096.2.2) fun r1111 =>
 Option.bind (app 16 [] r1104.1) fun l1122 =>
 Option.bind (app 8 [] r1111.1) fun l1131 =>
 Option.bind (app 8 [] r1111.2.1) fun l1140 =>
 Option.bind (
 bif decide (i1080 = 1) then (
 bif decide (0 < (List.length l1122 : Int)) then (
 Option.bind (Maker_Next N a0 r1096.1 (List.length l1122 : Int)) fun r1273 =>
 Option.bind (Maker_Next N a0 r1273.1 7) fun r1279 =>
 Option.bind (in64 (r1279.2 - 1)) fun x1285 =>
 Option.bind (Maker_Next N a0 r1279.1 6) fun r1288 =>
 Option.bind (in64 (r1288.2 - 1)) fun x1294 =>
 Option.bind (idx l1122 r1273.2) fun x1297 =>
 some (r1288.1, r1096.2.1, r1096.2.2, (List.set l1122 (Int.toNat r1273.2) (T_Pair.mk x1285 x1294)), l1131)) else (
 some (r1096.1, r1096.2.1, r1096.2.2, l1122, l1131))) else (
 bif decide (i1080 = 2) then (
 Option.bind (in64 ((List.length r1096.2.1 : Int) - 1)) fun x1304 =>
 Option.bind (Maker_Pick N a0 r1096.1 ([(-1), x1304, (List.length r1096.2.1 : Int)])) fun r1310 =>
 Option.bind (app 8 l1131 ([r1310.2])) fun l1319 =>
 some (r1310.1, r1096.2.1, r1096.2.2, l1122, l1319)) else (
 bif decide (i1080 = 3) then (
 Option.bind (Maker_Pick N a0 r1096.1 ([(-1), 5, 9])) fun r1330 =>
 Option.bind (Maker_Pick N a0 r1330.1 ([9, 10080, 10081])) fun r1339 =>
 Option.bind (app 16 r1096.2.1 ([(T_Task.mk r1330.2 r1339.2)])) fun l1348 =>
 Option.bind (Maker_Pick N a0 r1339.1 ([3, 4])) fun r1357 =>
 Option.bind (Maker_Pick N a0 r1357.1 ([0, 1, 10080, 10081])) fun r1366 =>
 Option.bind (app 24 r1096.2.2 ([(T_Crew.mk 3 r1357.2 r1366.2)])) fun l1375 =>
 some (r1366.1, l1348, l1375, l1122, l1131)) else (
 some (r1096.1, r1096.2.1, r1096.2.2, l1122, l1131))))) fun j1266 =>
 Option.bind (crew_Check N j1266.2.1 j1266.2.2.1 j1266.2.2.2.1 j1266.2.2.2.2 l1140) fun r1386 =>
 Option.bind (r40_Check N j1266.2.1 j1266.2.2.1 j1266.2.2.2.1 j1266.2.2.2.2 l1140) fun r1392 =>
 bif ((!(r1386.1 == r1392.1)) || (!decide (r1386.2 = r1392.2))) then (
 some (.inr (Sum.inl false))) else (
 Option.bind (iterN (fun s : Int × Int => law40_CrewFits_l4 N a0 j1266 s.1 s.2) N (0, j1266.1)) fun r1545 =>
 match r1545 with
 | .inl p1620 => (
 some (.inr (Sum.inl p1620)))
 | .inr p1623 => (
 Option.bind (in64 (i1080 + 1)) fun x1626 =>
 some (.inl (x1626, p1623))))) else (
 some (.inr (Sum.inr ())))

def law40_CrewFits (N : Nat) (a0 : List Int) (a1 : List T_Task) (a2 : List T_Crew) (a3 : List T_Pair) : Option (Bool) :=
 Option.bind (humpgen_New N a0) fun r1 =>
 Option.bind (iterN (fun s : Int × Int => law40_CrewFits_l3 N a0 s.1 s.2) N (0, r1)) fun r1088 =>
 match r1088 with
 | .inl p1633 => (
 some p1633)
 | .inr p1636 => (
 bif ((decide (80 < (List.length a1 : Int)) || decide (40 < (List.length a2 : Int))) || decide (80 < (List.length a3 : Int))) then (
 Option.bind (law40_sane N) fun r1649 =>
 some r1649) else (
 Option.bind (crew_Check N a1 a2 a3 [] []) fun r1655 =>
 Option.bind (r40_Check N a1 a2 a3 [] []) fun r1661 =>
 Option.bind (crew_Assign N a1 a2) fun r1667 =>
 Option.bind (crew_Cover N a1 a2) fun r1674 =>
 Option.bind (r40_Valid N a1 a2) fun r1682 =>
 Option.bind (gO ((((r1655.1 == r1661.1) && decide (r1655.2 = r1661.2)) && decide (r1667.2 = r1682)) && decide (r1674.2.2 = r1682)) (law40_sane N)) fun r1701 =>
 some (((((r1655.1 == r1661.1) && decide (r1655.2 = r1661.2)) && decide (r1667.2 = r1682)) && decide (r1674.2.2 = r1682)) && r1701)))

def search_place_l1 (N : Nat) (self : (List T_Task) → (List T_Crew) → (List Int) → (List Bool) → Int → Option (List Int × List Bool × Bool)) (a0_duties : List T_Task) (a0_crews : List T_Crew) (a1 : Int) (i200 : Int) (l201 : List Int) (l202 : List Bool) : Option ((Int × List Int × List Bool) ⊕ ((List Int × List Bool × Bool) ⊕ (List Int × List Bool))) :=
 bif decide (i200 < (List.length a0_crews : Int)) then (
 Option.bind (idx l202 i200) fun x221 =>
 Option.bind (gO (!x221) (idx a0_duties a1)) fun x230 =>
 Option.bind (gO (!x221) (idx a0_crews i200)) fun x240 =>
 Option.bind (gO (!x221) (r40_Fits N x230 x240)) fun r245 =>
 bif (x221 || (!r245)) then (
 Option.bind (in64 (i200 + 1)) fun x255 =>
 some (.inl (x255, l201, l202))) else (
 Option.bind (idx l202 i200) fun x258 =>
 Option.bind (idx l201 i200) fun x263 =>
 Option.bind (gO (!decide (x263 < 0)) (idx l201 i200)) fun x273 =>
 bif (!decide (x263 < 0)) then (
 Option.bind (self a0_duties a0_crews l201 (List.set l202 (Int.toNat i200) true) x273) fun r282 =>
 bif (decide (x263 < 0) || r282.2.2) then (
 Option.bind (idx r282.1 i200) fun x292 =>
 some (.inr (Sum.inl ((List.set r282.1 (Int.toNat i200) a1), r282.2.1, true)))) else (
 Option.bind (in64 (i200 + 1)) fun x297 =>
 some (.inl (x297, r282.1, r282.2.1)))) else (
 bif (decide (x263 < 0) || true) then (
 Option.bind (idx l201 i200) fun x304 =>
 some (.inr (Sum.inl ((List.set l201 (Int.toNat i200) a1), (List.set l202 (Int.toNat i200) true), true)))) else (
 Option.bind (in64 (i200 + 1)) fun x309 =>
 some (.inl (x309, l201, (List.set l202 (Int.toNat i200) true))))))) else (
 some (.inr (Sum.inr (l201, l202))))

def search_place_r (N : Nat) : Nat → (List T_Task) → (List T_Crew) → (List Int) → (List Bool) → Int → Option (List Int × List Bool × Bool)
 | 0, _, _, _, _, _ => none
 | M + 1, a0_duties, a0_crews, a0_of, a0_seen, a1 =>
 Option.bind (iterN (fun s : Int × List Int × List Bool => search_place_l1 N (search_place_r N M) a0_duties a0_crews a1 s.1 s.2.1 s.2.2) N (0, a0_of, a0_seen)) fun r209 =>
 match r209 with
 | .inl p316 => (
 some p316)
 | .inr p319 => (
 some (p319.1, p319.2, false))

def search_place (N : Nat) (a0_duties : List T_Task) (a0_crews : List T_Crew) (a0_of : List Int) (a0_seen : List Bool) (a1 : Int) : Option (List Int × List Bool × Bool) := search_place_r N N a0_duties a0_crews a0_of a0_seen a1

def r40_Most_l1 (N : Nat) (a1 : List T_Crew) (i60 : Int) (l61 : List Int) : Option ((Int × List Int) ⊕ (List Int)) :=
 bif decide (i60 < (List.length a1 : Int)) then (
 Option.bind (app 8 l61 ([(-1)])) fun l78 =>
 Option.bind (in64 (i60 + 1)) fun x86 =>
 some (.inl (x86, l78))) else (
 some (.inr l61))

def r40_Most_l2 (N : Nat) (a0 : List T_Task) (a1 : List T_Crew) (i194 : Int) (i195 : Int) (l196 : List Int) (l197 : List Bool) : Option ((Int × Int × List Int × List Bool) ⊕ (Int)) :=
 bif decide (i195 < (List.length a0 : Int)) then (
 Option.bind (mkL 1 (List.length a1 : Int) false) fun l211 =>
 Option.bind (search_place N a0 a1 l196 l211 i195) fun r221 =>
 bif r221.2.2 then (
 Option.bind (in64 (i194 + 1)) fun x230 =>
 Option.bind (in64 (i195 + 1)) fun x233 =>
 some (.inl (x230, x233, r221.1, r221.2.1))) else (
 Option.bind (in64 (i195 + 1)) fun x236 =>
 some (.inl (i194, x236, r221.1, r221.2.1)))) else (
 some (.inr i194))

def r40_Most (N : Nat) (a0 : List T_Task) (a1 : List T_Crew) : Option (Int) :=
 Option.bind (iterN (fun s : Int × List Int => r40_Most_l1 N a1 s.1 s.2) N (0, [])) fun r69 =>
 Option.bind (iterN (fun s : Int × Int × List Int × List Bool => r40_Most_l2 N a0 a1 s.1 s.2.1 s.2.2.1 s.2.2.2) N (0, 0, r69, [])) fun r205 =>
 some r205

def law40_CrewProves (N : Nat) (a0 : List Int) : Option (Bool) :=
 Option.bind (humpgen_New N a0) fun r1 =>
 Option.bind (law40_made N a0 r1 14 9) fun r8 =>
 Option.bind (crew_Assign N r8.2.1 r8.2.2) fun r16 =>
 Option.bind (crew_Cover N r8.2.1 r8.2.2) fun r23 =>
 Option.bind (crew_Check N r8.2.1 r8.2.2 r16.1 r23.1 r23.2.1) fun r31 =>
 Option.bind (gO (((decide (r16.2 = 0) && decide (r23.2.2 = 0)) && decide (r31.2 = 0)) && r31.1) (r40_Matching N r8.2.1 r8.2.2 r16.1)) fun r49 =>
 Option.bind (gO ((((decide (r16.2 = 0) && decide (r23.2.2 = 0)) && decide (r31.2 = 0)) && r31.1) && r49) (r40_Covers N r8.2.1 r8.2.2 r23.1 r23.2.1)) fun r61 =>
 Option.bind (gO (((((decide (r16.2 = 0) && decide (r23.2.2 = 0)) && decide (r31.2 = 0)) && r31.1) && r49) && r61) (in64 ((List.length r23.1 : Int) + (List.length r23.2.1 : Int)))) fun x75 =>
 Option.bind (gO ((((((decide (r16.2 = 0) && decide (r23.2.2 = 0)) && decide (r31.2 = 0)) && r31.1) && r49) && r61) && decide ((List.length r16.1 : Int) = x75)) (r40_Most N r8.2.1 r8.2.2)) fun r85 =>
 Option.bind (gO (((((((decide (r16.2 = 0) && decide (r23.2.2 = 0)) && decide (r31.2 = 0)) && r31.1) && r49) && r61) && decide ((List.length r16.1 : Int) = x75)) && decide ((List.length r16.1 : Int) = r85)) (law40_sane N)) fun r94 =>
 some ((((((((decide (r16.2 = 0) && decide (r23.2.2 = 0)) && decide (r31.2 = 0)) && r31.1) && r49) && r61) && decide ((List.length r16.1 : Int) = x75)) && decide ((List.length r16.1 : Int) = r85)) && r94)

end Go.Gv
