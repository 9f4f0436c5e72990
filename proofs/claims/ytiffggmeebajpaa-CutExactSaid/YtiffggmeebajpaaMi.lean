/- Plain functions that mirror the program, written by a program of mine (gowalk.py). -/
import Derived.Test.YtiffggmeebajpaaPu
namespace Go.Gv
set_option linter.unusedVariables false

structure T_Pushed where
  Length : Int
  Axles : Int
  Mass : Int
  Gentle : Bool
  Track : Int
deriving DecidableEq, Inhabited

structure T_CutRules where
  Wagons : Int
  Axles : Int
  Length : Int
deriving DecidableEq, Inhabited

structure T_Cut where
  From : Int
  To : Int
  Track : Int
  Engine : Bool
deriving DecidableEq, Inhabited

structure T_Maker where
  l : List Int
  n : Int
deriving DecidableEq, Inhabited

def cut_in (N : Nat) (a0 : Int) (a1 : Int) (a2 : Int) : Option (Bool) :=
 some (decide (a1 ≤ a0) && decide (a0 ≤ a2))

def cut_longest_l1 (N : Nat) (a0 : List T_Pushed) (a1 : T_CutRules) (a2 : Int) (a3 : Int) (i154 : Int) (i155 : Int) (i156 : Int) : Option ((Int × Int × Int) ⊕ (Int)) :=
 bif decide (i156 < a3) then (
 Option.bind (idx a0 i156) fun x169 =>
 Option.bind (in64 (i154 + x169.Axles)) fun x177 =>
 Option.bind (in64 (i155 + x169.Length)) fun x180 =>
 Option.bind (gO (decide (a2 < i156) && (!x169.Gentle)) (idx a0 a2)) fun x193 =>
 Option.bind (gO (decide (a2 < i156) && (!(x169.Gentle || x193.Gentle))) (idx a0 a2)) fun x206 =>
 Option.bind (gO (!(decide (a2 < i156) && ((x169.Gentle || x193.Gentle) || (!decide (x169.Track = x206.Track))))) (in64 (i156 - a2))) fun x218 =>
 bif ((((decide (a2 < i156) && ((x169.Gentle || x193.Gentle) || (!decide (x169.Track = x206.Track)))) || decide (a1.Wagons ≤ x218)) || decide (a1.Axles < x177)) || decide (a1.Length < x180)) then (
 some (.inr i156)) else (
 Option.bind (in64 (i156 + 1)) fun x237 =>
 some (.inl (x177, x180, x237)))) else (
 some (.inr i156))

def cut_longest (N : Nat) (a0 : List T_Pushed) (a1 : T_CutRules) (a2 : Int) (a3 : Int) : Option (Int) :=
 Option.bind (iterN (fun s : Int × Int × Int => cut_longest_l1 N a0 a1 a2 a3 s.1 s.2.1 s.2.2) N (0, 0, a2)) fun r163 =>
 some r163

def cut_Valid_l1 (N : Nat) (a0 : List T_Pushed) (a1 : T_CutRules) (i151 : Int) : Option ((Int) ⊕ (Int ⊕ Unit)) :=
 bif decide (i151 < (List.length a0 : Int)) then (
 Option.bind (idx a0 i151) fun x166 =>
 Option.bind (cut_in N x166.Length 1 (min 400 a1.Length)) fun r174 =>
 Option.bind (gO (!(!r174)) (cut_in N x166.Axles 1 (min 8 a1.Axles))) fun r186 =>
 Option.bind (gO (!((!r174) || (!r186))) (cut_in N x166.Mass 1 2000)) fun r197 =>
 Option.bind (gO (!(((!r174) || (!r186)) || (!r197))) (cut_in N x166.Track 0 31)) fun r208 =>
 bif ((((!r174) || (!r186)) || (!r197)) || (!r208)) then (
 some (.inr (Sum.inl 1))) else (
 Option.bind (in64 (i151 + 1)) fun x218 =>
 some (.inl x218))) else (
 some (.inr (Sum.inr ())))

def cut_Valid (N : Nat) (a0 : List T_Pushed) (a1 : T_CutRules) : Option (Int) :=
 Option.bind (cut_in N a1.Wagons 1 32) fun r4 =>
 Option.bind (gO (!(!r4)) (cut_in N a1.Axles 2 128)) fun r13 =>
 Option.bind (gO (!((!r4) || (!r13))) (cut_in N a1.Length 80 8000)) fun r24 =>
 bif (((!r4) || (!r13)) || (!r24)) then (
 some 2) else (
 bif decide (96 < (List.length a0 : Int)) then (
 some 3) else (
 Option.bind (iterN (fun s : Int => cut_Valid_l1 N a0 a1 s) N 0) fun r158 =>
 match r158 with
 | .inl p225 => (
 some p225)
 | .inr p228 => (
 some 0)))

def cut_Form_l1 (N : Nat) (a0 : List T_Pushed) (a1 : T_CutRules) (i102 : Int) (l103 : List T_Cut) : Option ((Int × List T_Cut) ⊕ (List T_Cut)) :=
 bif decide (i102 < (List.length a0 : Int)) then (
 Option.bind (cut_longest N a0 a1 i102 (List.length a0 : Int)) fun r117 =>
 Option.bind (idx a0 i102) fun x127 =>
 Option.bind (idx a0 i102) fun x130 =>
 Option.bind (app 32 l103 ([(T_Cut.mk i102 r117 x127.Track x130.Gentle)])) fun l136 =>
 some (.inl (r117, l136))) else (
 some (.inr l103))

def cut_Form (N : Nat) (a0 : List T_Pushed) (a1 : T_CutRules) : Option (List T_Cut × Int) :=
 Option.bind (cut_Valid N a0 a1) fun r4 =>
 bif (!decide (r4 = 0)) then (
 some ([], r4)) else (
 Option.bind (iterN (fun s : Int × List T_Cut => cut_Form_l1 N a0 a1 s.1 s.2) N (0, [])) fun r111 =>
 some (r111, 0))

def cut_Witness_l1 (N : Nat) (r4 : List T_Cut × Int) (i88 : Int) (l89 : List Int) : Option ((Int × List Int) ⊕ (List Int)) :=
 bif decide (i88 < (List.length r4.1 : Int)) then (
 Option.bind (idx r4.1 i88) fun x103 =>
 Option.bind (app 8 l89 ([x103.From])) fun l114 =>
 Option.bind (in64 (i88 + 1)) fun x120 =>
 some (.inl (x120, l114))) else (
 some (.inr l89))

def cut_Witness (N : Nat) (a0 : List T_Pushed) (a1 : T_CutRules) : Option (List Int × Int) :=
 Option.bind (cut_Form N a0 a1) fun r4 =>
 bif (!decide (r4.2 = 0)) then (
 some ([], r4.2)) else (
 Option.bind (iterN (fun s : Int × List Int => cut_Witness_l1 N r4 s.1 s.2) N (0, [])) fun r97 =>
 some (r97, 0))

def cut_Permitted (N : Nat) (a0 : List T_Pushed) (a1 : T_CutRules) (a2 : Int) (a3 : Int) : Option (Bool × Int) :=
 Option.bind (cut_Valid N a0 a1) fun r4 =>
 bif (!decide (r4 = 0)) then (
 some (false, r4)) else (
 bif ((decide (a2 < 0) || decide (a3 < a2)) || decide ((List.length a0 : Int) < a3)) then (
 some (false, 2)) else (
 Option.bind (gO (decide (a2 < a3)) (cut_longest N a0 a1 a2 a3)) fun r28 =>
 some ((decide (a2 < a3) && decide (r28 = a3)), 0)))

def cut_Check_l1 (N : Nat) (a0 : List T_Pushed) (a1 : T_CutRules) (a2 : List T_Cut) (i203 : Int) (i204 : Int) : Option ((Int × Int) ⊕ ((Bool × Int) ⊕ Int)) :=
 bif decide (i204 < (List.length a2 : Int)) then (
 Option.bind (idx a2 i204) fun x219 =>
 Option.bind (gO (!(((!decide (x219.From = i203)) || decide (x219.To ≤ i203)) || decide ((List.length a0 : Int) < x219.To))) (cut_longest N a0 a1 i203 x219.To)) fun r277 =>
 bif ((((!decide (x219.From = i203)) || decide (x219.To ≤ i203)) || decide ((List.length a0 : Int) < x219.To)) || (!decide (r277 = x219.To))) then (
 some (.inr (Sum.inl (false, 0)))) else (
 Option.bind (idx a0 i203) fun x291 =>
 Option.bind (gO (!(!decide (x219.Track = x291.Track))) (idx a0 i203)) fun x299 =>
 bif ((!decide (x219.Track = x291.Track)) || (!(x219.Engine == x299.Gentle))) then (
 some (.inr (Sum.inl (false, 0)))) else (
 Option.bind (in64 (i204 + 1)) fun x308 =>
 some (.inl (x219.To, x308))))) else (
 some (.inr (Sum.inr i203)))

def cut_Check (N : Nat) (a0 : List T_Pushed) (a1 : T_CutRules) (a2 : List T_Cut) : Option (Bool × Int) :=
 Option.bind (cut_Valid N a0 a1) fun r4 =>
 bif (!decide (r4 = 0)) then (
 some (false, r4)) else (
 Option.bind (iterN (fun s : Int × Int => cut_Check_l1 N a0 a1 a2 s.1 s.2) N (0, 0)) fun r211 =>
 match r211 with
 | .inl p315 => (
 some p315)
 | .inr p318 => (
 some (decide (p318 = (List.length a0 : Int)), 0)))

def law18_w (N : Nat) (a0 : Int) (a1 : Bool) : Option (T_Pushed) :=
 some (T_Pushed.mk 100 4 100 a1 a0)

def humpgen_Cuts_l1 (N : Nat) (a0 : List T_Cut) (a1 : List T_Cut) (i38 : Int) : Option ((Int) ⊕ (Bool ⊕ Unit)) :=
 bif decide (i38 < (List.length a0 : Int)) then (
 Option.bind (idx a0 i38) fun x57 =>
 Option.bind (idx a1 i38) fun x60 =>
 bif (!decide (x57 = x60)) then (
 some (.inr (Sum.inl false))) else (
 Option.bind (in64 (i38 + 1)) fun x65 =>
 some (.inl x65))) else (
 some (.inr (Sum.inr ())))

def humpgen_Cuts (N : Nat) (a0 : List T_Cut) (a1 : List T_Cut) : Option (Bool) :=
 bif (!decide ((List.length a0 : Int) = (List.length a1 : Int))) then (
 some false) else (
 Option.bind (iterN (fun s : Int => humpgen_Cuts_l1 N a0 a1 s) N 0) fun r45 =>
 match r45 with
 | .inl p72 => (
 some p72)
 | .inr p75 => (
 some true))

def humpgen_Ints_l1 (N : Nat) (a0 : List Int) (a1 : List Int) (i38 : Int) : Option ((Int) ⊕ (Bool ⊕ Unit)) :=
 bif decide (i38 < (List.length a0 : Int)) then (
 Option.bind (idx a0 i38) fun x57 =>
 Option.bind (idx a1 i38) fun x60 =>
 bif (!decide (x57 = x60)) then (
 some (.inr (Sum.inl false))) else (
 Option.bind (in64 (i38 + 1)) fun x65 =>
 some (.inl x65))) else (
 some (.inr (Sum.inr ())))

def humpgen_Ints (N : Nat) (a0 : List Int) (a1 : List Int) : Option (Bool) :=
 bif (!decide ((List.length a0 : Int) = (List.length a1 : Int))) then (
 some false) else (
 Option.bind (iterN (fun s : Int => humpgen_Ints_l1 N a0 a1 s) N 0) fun r45 =>
 match r45 with
 | .inl p72 => (
 some p72)
 | .inr p75 => (
 some true))

def Maker_Next (N : Nat) (a0_l : List Int) (a0_n : Int) (a1 : Int) : Option (Int × Int) :=
 Option.bind (
 bif decide (0 < (List.length a0_l : Int)) then (
 Option.bind (rem64 a0_n (List.length a0_l : Int)) fun x78 =>
 Option.bind (idx a0_l x78) fun x81 =>
 Option.bind (quo64 a0_n (List.length a0_l : Int)) fun x84 =>
 some (wr64 (x81 + (wr64 (x84 * 7919))))) else (
 some 0)) fun j69 =>
 Option.bind (in64 (a0_n + 1)) fun x92 =>
 Option.bind (rem64 j69 a1) fun x97 =>
 bif decide (x97 < 0) then (
 Option.bind (in64 (x97 + a1)) fun x102 =>
 some (x92, x102)) else (
 some (x92, x97))

def Maker_From (N : Nat) (a0_l : List Int) (a0_n : Int) (a1 : Int) (a2 : Int) : Option (Int × Int) :=
 Option.bind (in64 (a2 - a1)) fun x16 =>
 Option.bind (in64 (x16 + 1)) fun x19 =>
 Option.bind (Maker_Next N a0_l a0_n x19) fun r22 =>
 Option.bind (in64 (a1 + r22.2)) fun x28 =>
 some (r22.1, x28)

def Maker_Pick (N : Nat) (a0_l : List Int) (a0_n : Int) (a1 : List Int) : Option (Int × Int) :=
 Option.bind (Maker_Next N a0_l a0_n (List.length a1 : Int)) fun r10 =>
 Option.bind (idx a1 r10.2) fun x16 =>
 some (r10.1, x16)

def Maker_Pushed_l1 (N : Nat) (a0_l : List Int) (i676 : Int) (i677 : Int) (i678 : Int) (l679 : List T_Pushed) : Option ((Int × Int × Int × List T_Pushed) ⊕ (Int × List T_Pushed)) :=
 bif decide (0 < i677) then (
 Option.bind (Maker_Next N a0_l i678 2) fun r693 =>
 Option.bind (
 bif decide (r693.2 = 0) then (
 Option.bind (Maker_Next N a0_l r693.1 4) fun r714 =>
 some (r714.2, r714.1)) else (
 some (i676, r693.1))) fun j709 =>
 Option.bind (Maker_Pick N a0_l j709.2 ([80, 142, 199, 262, 400])) fun r728 =>
 Option.bind (Maker_Pick N a0_l r728.1 ([2, 4, 4, 6])) fun r737 =>
 Option.bind (Maker_Pick N a0_l r737.1 ([100, 400, 800])) fun r746 =>
 Option.bind (Maker_Next N a0_l r746.1 9) fun r752 =>
 Option.bind (app 40 l679 ([(T_Pushed.mk r728.2 r737.2 r746.2 (decide (r752.2 = 0)) j709.1)])) fun l761 =>
 Option.bind (in64 (i677 - 1)) fun x767 =>
 some (.inl (j709.1, x767, r752.1, l761))) else (
 some (.inr (i678, l679)))

def Maker_Pushed (N : Nat) (a0_l : List Int) (a0_n : Int) (a1 : Int) : Option (Int × List T_Pushed × T_CutRules) :=
 Option.bind (Maker_From N a0_l a0_n 1 6) fun r394 =>
 Option.bind (Maker_From N a0_l r394.1 8 24) fun r400 =>
 Option.bind (Maker_From N a0_l r400.1 400 1200) fun r406 =>
 Option.bind (in64 (a1 + 1)) fun x417 =>
 Option.bind (Maker_Next N a0_l r406.1 x417) fun r420 =>
 Option.bind (iterN (fun s : Int × Int × Int × List T_Pushed => Maker_Pushed_l1 N a0_l s.1 s.2.1 s.2.2.1 s.2.2.2) N (0, r420.2, r420.1, [])) fun r687 =>
 some (r687.1, r687.2, (T_CutRules.mk r394.2 r400.2 r406.2))

def humpgen_New (N : Nat) (a0 : List Int) : Option (Int) :=
 some 0

def r18_Valid_l1 (N : Nat) (a0 : List T_Pushed) (a1 : T_CutRules) (i139 : Int) : Option ((Int) ⊕ (Int ⊕ Unit)) :=
 bif decide (i139 < (List.length a0 : Int)) then (
 Option.bind (idx a0 i139) fun x154 =>
 bif (((((((((decide (x154.Length < 1) || decide (400 < x154.Length)) || decide (x154.Axles < 1)) || decide (8 < x154.Axles)) || decide (x154.Mass < 1)) || decide (2000 < x154.Mass)) || decide (x154.Track < 0)) || decide (32 ≤ x154.Track)) || decide (a1.Axles < x154.Axles)) || decide (a1.Length < x154.Length)) then (
 some (.inr (Sum.inl 1))) else (
 Option.bind (in64 (i139 + 1)) fun x204 =>
 some (.inl x204))) else (
 some (.inr (Sum.inr ())))

def r18_Valid (N : Nat) (a0 : List T_Pushed) (a1 : T_CutRules) : Option (Int) :=
 bif (((((decide (a1.Wagons < 1) || decide (32 < a1.Wagons)) || decide (a1.Axles < 2)) || decide (128 < a1.Axles)) || decide (a1.Length < 80)) || decide (8000 < a1.Length)) then (
 some 2) else (
 bif decide (96 < (List.length a0 : Int)) then (
 some 3) else (
 Option.bind (iterN (fun s : Int => r18_Valid_l1 N a0 a1 s) N 0) fun r146 =>
 match r146 with
 | .inl p211 => (
 some p211)
 | .inr p214 => (
 some 0)))

def r18_One_l1 (N : Nat) (a0 : List T_Pushed) (i105 : Int) (i106 : Int) (i107 : Int) : Option ((Int × Int × Int) ⊕ (Bool ⊕ (Int × Int))) :=
 bif decide (i107 < (List.length a0 : Int)) then (
 Option.bind (idx a0 i107) fun x126 =>
 Option.bind (idx a0 0) fun x129 =>
 Option.bind (gO (!(!decide (x126.Track = x129.Track))) (idx a0 i107)) fun x135 =>
 bif ((!decide (x126.Track = x129.Track)) || (x135.Gentle && decide (1 < (List.length a0 : Int)))) then (
 some (.inr (Sum.inl false))) else (
 Option.bind (idx a0 i107) fun x149 =>
 Option.bind (in64 (i105 + x149.Axles)) fun x152 =>
 Option.bind (idx a0 i107) fun x155 =>
 Option.bind (in64 (i106 + x155.Length)) fun x158 =>
 Option.bind (in64 (i107 + 1)) fun x161 =>
 some (.inl (x152, x158, x161)))) else (
 some (.inr (Sum.inr (i105, i106))))

def r18_One (N : Nat) (a0 : List T_Pushed) (a1 : T_CutRules) : Option (Bool) :=
 bif (decide ((List.length a0 : Int) = 0) || decide (a1.Wagons < (List.length a0 : Int))) then (
 some false) else (
 Option.bind (iterN (fun s : Int × Int × Int => r18_One_l1 N a0 s.1 s.2.1 s.2.2) N (0, 0, 0)) fun r114 =>
 match r114 with
 | .inl p168 => (
 some p168)
 | .inr p171 => (
 some (decide (p171.1 ≤ a1.Axles) && decide (p171.2 ≤ a1.Length))))

def r18_Form_l5 (N : Nat) (a0 : List T_Pushed) (a1 : T_CutRules) (i408 : Int) (i486 : Int) : Option ((Int) ⊕ (Int)) :=
 Option.bind (gO (decide (i486 < (List.length a0 : Int))) (in64 (i486 + 1))) fun x505 =>
 Option.bind (gO (decide (i486 < (List.length a0 : Int))) (slc a0 i408 x505)) fun l509 =>
 Option.bind (gO (decide (i486 < (List.length a0 : Int))) (r18_One N l509 a1)) fun r514 =>
 bif (decide (i486 < (List.length a0 : Int)) && r514) then (
 Option.bind (in64 (i486 + 1)) fun x523 =>
 some (.inl x523)) else (
 some (.inr i486))

def r18_Form_l4 (N : Nat) (a0 : List T_Pushed) (a1 : T_CutRules) (i408 : Int) (l409 : List T_Cut) : Option ((Int × List T_Cut) ⊕ (List T_Cut)) :=
 bif decide (i408 < (List.length a0 : Int)) then (
 Option.bind (in64 (i408 + 1)) fun x423 =>
 Option.bind (iterN (fun s : Int => r18_Form_l5 N a0 a1 i408 s) N x423) fun r493 =>
 Option.bind (idx a0 i408) fun x535 =>
 Option.bind (idx a0 i408) fun x538 =>
 Option.bind (app 32 l409 ([(T_Cut.mk i408 r493 x535.Track x538.Gentle)])) fun l544 =>
 some (.inl (r493, l544))) else (
 some (.inr l409))

def r18_Form (N : Nat) (a0 : List T_Pushed) (a1 : T_CutRules) : Option (List T_Cut × Int) :=
 Option.bind (r18_Valid N a0 a1) fun r4 =>
 bif (!decide (r4 = 0)) then (
 some ([], r4)) else (
 Option.bind (iterN (fun s : Int × List T_Cut => r18_Form_l4 N a0 a1 s.1 s.2) N (0, [])) fun r417 =>
 some (r417, 0))

def r18_Witness_l1 (N : Nat) (r4 : List T_Cut × Int) (i73 : Int) (l74 : List Int) : Option ((Int × List Int) ⊕ (List Int)) :=
 bif decide (i73 < (List.length r4.1 : Int)) then (
 Option.bind (idx r4.1 i73) fun x88 =>
 Option.bind (app 8 l74 ([x88.From])) fun l94 =>
 Option.bind (in64 (i73 + 1)) fun x100 =>
 some (.inl (x100, l94))) else (
 some (.inr l74))

def r18_Witness (N : Nat) (a0 : List T_Pushed) (a1 : T_CutRules) : Option (List Int × Int) :=
 Option.bind (r18_Form N a0 a1) fun r4 =>
 bif (!decide (r4.2 = 0)) then (
 some ([], r4.2)) else (
 Option.bind (iterN (fun s : Int × List Int => r18_Witness_l1 N r4 s.1 s.2) N (0, [])) fun r82 =>
 some (r82, 0))

def r18_Permitted (N : Nat) (a0 : List T_Pushed) (a1 : T_CutRules) (a2 : Int) (a3 : Int) : Option (Bool × Int) :=
 Option.bind (r18_Valid N a0 a1) fun r4 =>
 bif (!decide (r4 = 0)) then (
 some (false, r4)) else (
 bif ((decide (a2 < 0) || decide (a3 < a2)) || decide ((List.length a0 : Int) < a3)) then (
 some (false, 2)) else (
 Option.bind (slc a0 a2 a3) fun l27 =>
 Option.bind (r18_One N l27 a1) fun r30 =>
 some (r30, 0)))

def r18_Check_l1 (N : Nat) (a0 : List T_Pushed) (a1 : T_CutRules) (a2 : List T_Cut) (i269 : Int) (i270 : Int) : Option ((Int × Int) ⊕ ((Bool × Int) ⊕ Int)) :=
 bif decide (i270 < (List.length a2 : Int)) then (
 Option.bind (idx a2 i270) fun x285 =>
 Option.bind (gO (!(((!decide (x285.From = i269)) || decide (x285.To ≤ i269)) || decide ((List.length a0 : Int) < x285.To))) (slc a0 x285.From x285.To)) fun l368 =>
 Option.bind (gO (!(((!decide (x285.From = i269)) || decide (x285.To ≤ i269)) || decide ((List.length a0 : Int) < x285.To))) (r18_One N l368 a1)) fun r373 =>
 Option.bind (gO (!((((!decide (x285.From = i269)) || decide (x285.To ≤ i269)) || decide ((List.length a0 : Int) < x285.To)) || (!r373))) (idx a0 i269)) fun x386 =>
 Option.bind (gO (!(((((!decide (x285.From = i269)) || decide (x285.To ≤ i269)) || decide ((List.length a0 : Int) < x285.To)) || (!r373)) || (!decide (x285.Track = x386.Track)))) (idx a0 i269)) fun x398 =>
 bif ((((((!decide (x285.From = i269)) || decide (x285.To ≤ i269)) || decide ((List.length a0 : Int) < x285.To)) || (!r373)) || (!decide (x285.Track = x386.Track))) || (!(x285.Engine == x398.Gentle))) then (
 some (.inr (Sum.inl (false, 0)))) else (
 Option.bind (in64 (i270 + 1)) fun x407 =>
 some (.inl (x285.To, x407)))) else (
 some (.inr (Sum.inr i269)))

def r18_Check (N : Nat) (a0 : List T_Pushed) (a1 : T_CutRules) (a2 : List T_Cut) : Option (Bool × Int) :=
 Option.bind (r18_Valid N a0 a1) fun r4 =>
 bif (!decide (r4 = 0)) then (
 some (false, r4)) else (
 Option.bind (iterN (fun s : Int × Int => r18_Check_l1 N a0 a1 a2 s.1 s.2) N (0, 0)) fun r277 =>
 match r277 with
 | .inl p414 => (
 some p414)
 | .inr p417 => (
 some (decide (p417 = (List.length a0 : Int)), 0)))

def law18_sane (N : Nat) : Option (Bool) :=
 Option.bind (law18_w N 1 false) fun r50 =>
 Option.bind (law18_w N 1 false) fun r56 =>
 Option.bind (law18_w N 2 false) fun r62 =>
 Option.bind (law18_w N 2 false) fun r68 =>
 Option.bind (law18_w N 2 false) fun r74 =>
 Option.bind (cut_Form N ([r50, r56, r62, r68, r74]) (T_CutRules.mk 2 20 1000)) fun r83 =>
 Option.bind (law18_w N 1 false) fun r124 =>
 Option.bind (law18_w N 1 true) fun r130 =>
 Option.bind (law18_w N 1 false) fun r136 =>
 Option.bind (cut_Form N ([r124, r130, r136]) (T_CutRules.mk 3 20 1000)) fun r145 =>
 bif decide (r83.2 = 0) then (
 Option.bind (humpgen_Cuts N r83.1 ([(T_Cut.mk 0 2 1 false), (T_Cut.mk 2 4 2 false), (T_Cut.mk 4 5 2 false)])) fun r164 =>
 Option.bind (gO (((decide (r83.2 = 0) && r164) && decide (r145.2 = 0)) && decide ((List.length r145.1 : Int) = 3)) (idx r145.1 1)) fun x180 =>
 Option.bind (gO ((((decide (r83.2 = 0) && r164) && decide (r145.2 = 0)) && decide ((List.length r145.1 : Int) = 3)) && x180.Engine) (idx r145.1 0)) fun x188 =>
 some (((((decide (r83.2 = 0) && r164) && decide (r145.2 = 0)) && decide ((List.length r145.1 : Int) = 3)) && x180.Engine) && (!x188.Engine))) else (
 some (((((decide (r83.2 = 0) && false) && false) && false) && false) && false))

def law18_exact (N : Nat) (a0 : List T_Pushed) (a1 : T_CutRules) (a2 : List T_Cut) (a3 : Int) (a4 : Int) : Option (Bool) :=
 Option.bind (cut_Form N a0 a1) fun r4 =>
 Option.bind (r18_Form N a0 a1) fun r11 =>
 Option.bind (cut_Witness N a0 a1) fun r18 =>
 Option.bind (r18_Witness N a0 a1) fun r25 =>
 Option.bind (cut_Valid N a0 a1) fun r78 =>
 Option.bind (r18_Valid N a0 a1) fun r84 =>
 Option.bind (gO (!(!decide (r78 = r84))) (humpgen_Cuts N r4.1 r11.1)) fun r93 =>
 Option.bind (gO (!(((!decide (r78 = r84)) || (!r93)) || (!decide (r4.2 = r11.2)))) (humpgen_Ints N r18.1 r25.1)) fun r108 =>
 bif (((((!decide (r78 = r84)) || (!r93)) || (!decide (r4.2 = r11.2))) || (!r108)) || (!decide (r18.2 = r25.2))) then (
 some false) else (
 Option.bind (cut_Permitted N a0 a1 a3 a4) fun r122 =>
 Option.bind (r18_Permitted N a0 a1 a3 a4) fun r128 =>
 Option.bind (cut_Check N a0 a1 a2) fun r134 =>
 Option.bind (r18_Check N a0 a1 a2) fun r140 =>
 some ((((r122.1 == r128.1) && decide (r122.2 = r128.2)) && (r134.1 == r140.1)) && decide (r134.2 = r140.2)))

def law18_CutLimits_l1 (N : Nat) (x4 : Int) (i114 : Int) (l115 : List T_Pushed) : Option ((Int × List T_Pushed) ⊕ (List T_Pushed)) :=
 bif decide (i114 < x4) then (
 Option.bind (app 40 l115 ([(T_Pushed.mk 250 4 2000 false 31)])) fun l132 =>
 Option.bind (in64 (i114 + 1)) fun x138 =>
 some (.inl (x138, l132))) else (
 some (.inr l115))

def law18_CutLimits_l2 (N : Nat) (x4 : Int) (x10 : Int) (r146 : List T_Cut × Int) (i259 : Int) : Option ((Int) ⊕ (Bool ⊕ Unit)) :=
 bif decide (i259 < (List.length r146.1 : Int)) then (
 Option.bind (idx r146.1 i259) fun x274 =>
 Option.bind (in64 (i259 * x10)) fun x282 =>
 Option.bind (gO (!(!decide (x274.From = x282))) (in64 (i259 * x10))) fun x291 =>
 Option.bind (gO (!(!decide (x274.From = x282))) (in64 (x291 + x10))) fun x296 =>
 bif ((!decide (x274.From = x282)) || (!decide (x274.To = (min x4 x296)))) then (
 some (.inr (Sum.inl false))) else (
 Option.bind (in64 (i259 + 1)) fun x304 =>
 some (.inl x304))) else (
 some (.inr (Sum.inr ())))

def law18_CutLimits (N : Nat) (a0 : Int) (a1 : Int) (a2 : Int) : Option (Bool) :=
 Option.bind (in64 ((Int.tmod a0 3) + 3)) fun x1 =>
 Option.bind (in64 (95 + (Int.tmod x1 3))) fun x4 =>
 Option.bind (in64 ((Int.tmod a2 32) + 32)) fun x7 =>
 Option.bind (in64 (1 + (Int.tmod x7 32))) fun x10 =>
 Option.bind (in64 ((Int.tmod a1 3) + 3)) fun x18 =>
 Option.bind (
 bif decide ((Int.tmod x18 3) = 0) then (
 some (x10, 128, 8000)) else (
 bif decide ((Int.tmod x18 3) = 1) then (
 Option.bind (in64 (4 * x10)) fun x49 =>
 some (32, x49, 8000)) else (
 Option.bind (in64 (250 * x10)) fun x54 =>
 some (32, 128, x54)))) fun j40 =>
 Option.bind (iterN (fun s : Int × List T_Pushed => law18_CutLimits_l1 N x4 s.1 s.2) N (0, [])) fun r123 =>
 Option.bind (cut_Form N r123 (T_CutRules.mk j40.1 j40.2.1 j40.2.2)) fun r146 =>
 bif decide (96 < x4) then (
 Option.bind (gO (decide (r146.2 = 3) && decide ((List.length r146.1 : Int) = 0)) (law18_sane N)) fun r160 =>
 some ((decide (r146.2 = 3) && decide ((List.length r146.1 : Int) = 0)) && r160)) else (
 Option.bind (gO (!(!decide (r146.2 = 0))) (in64 (x4 + x10))) fun x172 =>
 Option.bind (gO (!(!decide (r146.2 = 0))) (in64 (x172 - 1))) fun x176 =>
 Option.bind (gO (!(!decide (r146.2 = 0))) (quo64 x176 x10)) fun x181 =>
 bif ((!decide (r146.2 = 0)) || (!decide ((List.length r146.1 : Int) = x181))) then (
 some false) else (
 Option.bind (iterN (fun s : Int => law18_CutLimits_l2 N x4 x10 r146 s) N 0) fun r266 =>
 match r266 with
 | .inl p311 => (
 some p311)
 | .inr p314 => (
 Option.bind (law18_sane N) fun r317 =>
 some r317)))

def law18_CutJoins_l1 (N : Nat) (x45 : T_Cut) (r76 : List T_Cut × Int) (i142 : Int) (l143 : List T_Cut) : Option ((Int × List T_Cut) ⊕ (List T_Cut)) :=
 bif decide (i142 < (List.length r76.1 : Int)) then (
 Option.bind (idx l143 i142) fun x157 =>
 Option.bind (in64 (x157.From + x45.From)) fun x160 =>
 Option.bind (idx l143 i142) fun x163 =>
 Option.bind (idx (List.set l143 (Int.toNat i142) (T_Cut.mk x160 x163.To x163.Track x163.Engine)) i142) fun x168 =>
 Option.bind (in64 (x168.To + x45.From)) fun x171 =>
 Option.bind (idx (List.set l143 (Int.toNat i142) (T_Cut.mk x160 x163.To x163.Track x163.Engine)) i142) fun x174 =>
 Option.bind (in64 (i142 + 1)) fun x179 =>
 some (.inl (x179, (List.set (List.set l143 (Int.toNat i142) (T_Cut.mk x160 x163.To x163.Track x163.Engine)) (Int.toNat i142) (T_Cut.mk x174.From x171 x174.Track x174.Engine))))) else (
 some (.inr l143))

def law18_CutJoins (N : Nat) (a0 : List Int) : Option (Bool) :=
 Option.bind (humpgen_New N a0) fun r1 =>
 Option.bind (Maker_Pushed N a0 r1 16) fun r8 =>
 Option.bind (cut_Form N r8.2.1 r8.2.2) fun r20 =>
 bif (!decide (r20.2 = 0)) then (
 some false) else (
 bif decide ((List.length r20.1 : Int) = 0) then (
 Option.bind (gO (decide ((List.length r8.2.1 : Int) = 0)) (law18_sane N)) fun r32 =>
 some (decide ((List.length r8.2.1 : Int) = 0) && r32)) else (
 Option.bind (Maker_Next N a0 r8.1 (List.length r20.1 : Int)) fun r39 =>
 Option.bind (idx r20.1 r39.2) fun x45 =>
 bif (decide (x45.From < 0) || decide ((List.length r8.2.1 : Int) < x45.From)) then (
 some false) else (
 Option.bind (slc r8.2.1 0 x45.From) fun l59 =>
 Option.bind (cut_Form N l59 r8.2.2) fun r62 =>
 Option.bind (slc r8.2.1 x45.From (List.length r8.2.1 : Int)) fun l73 =>
 Option.bind (cut_Form N l73 r8.2.2) fun r76 =>
 Option.bind (iterN (fun s : Int × List T_Cut => law18_CutJoins_l1 N x45 r76 s.1 s.2) N (0, r76.1)) fun r151 =>
 bif (decide (r62.2 = 0) && decide (r76.2 = 0)) then (
 Option.bind (app 32 [] r62.1) fun l199 =>
 Option.bind (app 32 l199 r151) fun l207 =>
 Option.bind (humpgen_Cuts N l207 r20.1) fun r215 =>
 Option.bind (gO ((decide (r62.2 = 0) && decide (r76.2 = 0)) && r215) (law18_sane N)) fun r223 =>
 some (((decide (r62.2 = 0) && decide (r76.2 = 0)) && r215) && r223)) else (
 some (((decide (r62.2 = 0) && decide (r76.2 = 0)) && false) && false)))))

def law18_CutParts_l1 (N : Nat) (a0 : List Int) (r8 : Int × List T_Pushed × T_CutRules) (i162 : Int) (i163 : Int) : Option ((Int × Int) ⊕ (Bool ⊕ Unit)) :=
 bif decide (i162 < 6) then (
 Option.bind (in64 ((List.length r8.2.1 : Int) + 1)) fun x178 =>
 Option.bind (Maker_Next N a0 i163 x178) fun r181 =>
 Option.bind (Maker_From N a0 r181.1 r181.2 (List.length r8.2.1 : Int)) fun r187 =>
 Option.bind (Maker_From N a0 r187.1 r181.2 r187.2) fun r193 =>
 Option.bind (Maker_From N a0 r193.1 r193.2 r187.2) fun r199 =>
 Option.bind (cut_Permitted N r8.2.1 r8.2.2 r181.2 r187.2) fun r205 =>
 Option.bind (cut_Permitted N r8.2.1 r8.2.2 r193.2 r199.2) fun r211 =>
 bif ((((!decide (r205.2 = 0)) || (!decide (r211.2 = 0))) || ((r205.1 && decide (r193.2 < r199.2)) && (!r211.1))) || (decide (r193.2 = r199.2) && r211.1)) then (
 some (.inr (Sum.inl false))) else (
 Option.bind (in64 (i162 + 1)) fun x243 =>
 some (.inl (x243, r199.1)))) else (
 some (.inr (Sum.inr ())))

def law18_CutParts (N : Nat) (a0 : List Int) : Option (Bool) :=
 Option.bind (humpgen_New N a0) fun r1 =>
 Option.bind (Maker_Pushed N a0 r1 14) fun r8 =>
 Option.bind (iterN (fun s : Int × Int => law18_CutParts_l1 N a0 r8 s.1 s.2) N (0, r8.1)) fun r170 =>
 match r170 with
 | .inl p250 => (
 some p250)
 | .inr p253 => (
 Option.bind (law18_sane N) fun r256 =>
 some r256)

def law18_CutFewest_l5 (N : Nat) (a0 : List Int) (r8 : Int × List T_Pushed × T_CutRules) (i436 : Int) (i515 : Int) (i516 : Int) : Option ((Int × Int) ⊕ (Bool ⊕ (Int × Int))) :=
 Option.bind (gD (decide (i515 < (List.length r8.2.1 : Int))) (i516, default) (Maker_Next N a0 i516 3)) fun r531 =>
 bif (decide (i515 < (List.length r8.2.1 : Int)) && decide (0 < r531.2)) then (
 Option.bind (in64 (i515 + 1)) fun x540 =>
 Option.bind (cut_Permitted N r8.2.1 r8.2.2 i436 x540) fun r543 =>
 bif (!decide (r543.2 = 0)) then (
 some (.inr (Sum.inl false))) else (
 bif (!r543.1) then (
 some (.inr (Sum.inr (i515, r531.1)))) else (
 Option.bind (in64 (i515 + 1)) fun x553 =>
 some (.inl (x553, r531.1))))) else (
 some (.inr (Sum.inr (i515, r531.1))))

def law18_CutFewest_l4 (N : Nat) (a0 : List Int) (r8 : Int × List T_Pushed × T_CutRules) (i436 : Int) (i437 : Int) (l438 : List T_Cut) : Option ((Int × Int × List T_Cut) ⊕ (Bool ⊕ (List T_Cut))) :=
 bif decide (i436 < (List.length r8.2.1 : Int)) then (
 Option.bind (in64 (i436 + 1)) fun x454 =>
 Option.bind (iterN (fun s : Int × Int => law18_CutFewest_l5 N a0 r8 i436 s.1 s.2) N (x454, i437)) fun r523 =>
 match r523 with
 | .inl p560 => (
 some (.inr (Sum.inl p560)))
 | .inr p563 => (
 Option.bind (idx r8.2.1 i436) fun x570 =>
 Option.bind (idx r8.2.1 i436) fun x573 =>
 Option.bind (app 32 l438 ([(T_Cut.mk i436 p563.1 x570.Track x573.Gentle)])) fun l579 =>
 some (.inl (p563.1, p563.2, l579)))) else (
 some (.inr (Sum.inr l438)))

def law18_CutFewest (N : Nat) (a0 : List Int) : Option (Bool) :=
 Option.bind (humpgen_New N a0) fun r1 =>
 Option.bind (Maker_Pushed N a0 r1 16) fun r8 =>
 Option.bind (cut_Form N r8.2.1 r8.2.2) fun r20 =>
 Option.bind (iterN (fun s : Int × Int × List T_Cut => law18_CutFewest_l4 N a0 r8 s.1 s.2.1 s.2.2) N (0, r8.1, [])) fun r446 =>
 match r446 with
 | .inl p589 => (
 some p589)
 | .inr p592 => (
 Option.bind (cut_Check N r8.2.1 r8.2.2 p592) fun r595 =>
 Option.bind (gO (((decide (r20.2 = 0) && decide (r595.2 = 0)) && r595.1) && decide ((List.length r20.1 : Int) ≤ (List.length p592 : Int))) (law18_sane N)) fun r613 =>
 some ((((decide (r20.2 = 0) && decide (r595.2 = 0)) && r595.1) && decide ((List.length r20.1 : Int) ≤ (List.length p592 : Int))) && r613))

def law18_CutWitness_l1 (N : Nat) (r8 : Int × List T_Pushed × T_CutRules) (r20 : List T_Cut × Int) (r27 : List Int × Int) (i160 : Int) : Option ((Int) ⊕ (Bool ⊕ Unit)) :=
 bif decide (i160 < (List.length r27.1 : Int)) then (
 Option.bind (idx r27.1 i160) fun x179 =>
 Option.bind (idx r20.1 i160) fun x182 =>
 bif (!decide (x179 = x182.From)) then (
 some (.inr (Sum.inl false))) else (
 Option.bind (in64 (i160 + 1)) fun x187 =>
 bif decide (x187 < (List.length r27.1 : Int)) then (
 Option.bind (idx r27.1 i160) fun x196 =>
 Option.bind (in64 (i160 + 1)) fun x199 =>
 Option.bind (idx r27.1 x199) fun x202 =>
 Option.bind (in64 (x202 + 1)) fun x205 =>
 Option.bind (cut_Permitted N r8.2.1 r8.2.2 x196 x205) fun r208 =>
 bif ((!decide (r208.2 = 0)) || r208.1) then (
 some (.inr (Sum.inl false))) else (
 Option.bind (in64 (i160 + 1)) fun x218 =>
 some (.inl x218))) else (
 Option.bind (in64 (i160 + 1)) fun x221 =>
 some (.inl x221)))) else (
 some (.inr (Sum.inr ())))

def law18_CutWitness (N : Nat) (a0 : List Int) : Option (Bool) :=
 Option.bind (humpgen_New N a0) fun r1 =>
 Option.bind (Maker_Pushed N a0 r1 16) fun r8 =>
 Option.bind (cut_Form N r8.2.1 r8.2.2) fun r20 =>
 Option.bind (cut_Witness N r8.2.1 r8.2.2) fun r27 =>
 Option.bind (cut_Check N r8.2.1 r8.2.2 r20.1) fun r34 =>
 bif (((((!decide (r20.2 = 0)) || (!decide (r27.2 = 0))) || (!decide (r34.2 = 0))) || (!r34.1)) || (!decide ((List.length r27.1 : Int) = (List.length r20.1 : Int)))) then (
 some false) else (
 Option.bind (iterN (fun s : Int => law18_CutWitness_l1 N r8 r20 r27 s) N 0) fun r167 =>
 match r167 with
 | .inl p228 => (
 some p228)
 | .inr p231 => (
 Option.bind (law18_sane N) fun r234 =>
 some r234))

def law18_CutExact_l1 (N : Nat) (a0 : List Int) (i2155 : Int) (i2156 : Int) : Option ((Int × Int) ⊕ (Bool ⊕ Unit)) :=
 bif decide (i2155 < 4) then (
 Option.bind (Maker_Pushed N a0 i2156 12) fun r2171 =>
 Option.bind (r18_Form N r2171.2.1 r2171.2.2) fun r2183 =>
 Option.bind (
 bif (decide (0 < i2155) && decide (0 < (List.length r2183.1 : Int))) then (
 Option.bind (Maker_Next N a0 r2171.1 (List.length r2183.1 : Int)) fun r2406 =>
 Option.bind (Maker_Next N a0 r2406.1 6) fun r2412 =>
 bif decide (r2412.2 = 0) then (
 Option.bind (idx r2183.1 r2406.2) fun x2444 =>
 Option.bind (Maker_Pick N a0 r2412.1 ([(-1), 1])) fun r2450 =>
 Option.bind (in64 (x2444.To + r2450.2)) fun x2456 =>
 Option.bind (idx r2183.1 r2406.2) fun x2459 =>
 some (r2450.1, (List.set r2183.1 (Int.toNat r2406.2) (T_Cut.mk x2459.From x2456 x2459.Track x2459.Engine)))) else (
 bif decide (r2412.2 = 1) then (
 Option.bind (idx r2183.1 r2406.2) fun x2490 =>
 Option.bind (Maker_Pick N a0 r2412.1 ([(-1), 1])) fun r2496 =>
 Option.bind (in64 (x2490.From + r2496.2)) fun x2502 =>
 Option.bind (idx r2183.1 r2406.2) fun x2505 =>
 some (r2496.1, (List.set r2183.1 (Int.toNat r2406.2) (T_Cut.mk x2502 x2505.To x2505.Track x2505.Engine)))) else (
 bif decide (r2412.2 = 2) then (
 Option.bind (idx r2183.1 r2406.2) fun x2512 =>
 Option.bind (in64 (x2512.Track + 1)) fun x2515 =>
 Option.bind (idx r2183.1 r2406.2) fun x2518 =>
 some (r2412.1, (List.set r2183.1 (Int.toNat r2406.2) (T_Cut.mk x2518.From x2518.To x2515 x2518.Engine)))) else (
 bif decide (r2412.2 = 3) then (
 Option.bind (idx r2183.1 r2406.2) fun x2525 =>
 Option.bind (idx r2183.1 r2406.2) fun x2528 =>
 some (r2412.1, (List.set r2183.1 (Int.toNat r2406.2) (T_Cut.mk x2528.From x2528.To x2528.Track (!x2525.Engine))))) else (
 bif decide (r2412.2 = 4) then (
 Option.bind (slc r2183.1 0 r2406.2) fun l2539 =>
 Option.bind (in64 (r2406.2 + 1)) fun x2542 =>
 Option.bind (slc r2183.1 x2542 (List.length r2183.1 : Int)) fun l2545 =>
 Option.bind (app 32 l2539 l2545) fun l2549 =>
 some (r2412.1, l2549)) else (
 Option.bind (idx r2183.1 r2406.2) fun x2555 =>
 Option.bind (in64 (x2555.From + 1)) fun x2563 =>
 Option.bind (idx r2183.1 r2406.2) fun x2566 =>
 Option.bind (in64 (x2555.From + 1)) fun x2571 =>
 Option.bind (in64 (r2406.2 + 1)) fun x2580 =>
 Option.bind (slc (List.set r2183.1 (Int.toNat r2406.2) (T_Cut.mk x2566.From x2563 x2566.Track x2566.Engine)) 0 x2580) fun l2583 =>
 Option.bind (in64 (r2406.2 + 1)) fun x2586 =>
 Option.bind (slc (List.set r2183.1 (Int.toNat r2406.2) (T_Cut.mk x2566.From x2563 x2566.Track x2566.Engine)) x2586 (List.length (List.set r2183.1 (Int.toNat r2406.2) (T_Cut.mk x2566.From x2563 x2566.Track x2566.Engine)) : Int)) fun l2589 =>
 Option.bind (app 32 [(T_Cut.mk x2571 x2555.To x2555.Track x2555.Engine)] l2589) fun l2595 =>
 Option.bind (app 32 l2583 l2595) fun l2602 =>
 some (r2412.1, l2602))))))) else (
 some (r2171.1, r2183.1))) fun j2401 =>
 Option.bind (
 bif (decide (i2155 = 3) && decide (0 < (List.length r2171.2.1 : Int))) then (
 Option.bind (Maker_Next N a0 j2401.1 (List.length r2171.2.1 : Int)) fun r2906 =>
 Option.bind (
 Option.bind (idx r2171.2.1 r2906.2) fun x3081 =>
 Option.bind (idx r2171.2.1 r2906.2) fun x3084 =>
 Option.bind (Maker_Pick N a0 r2906.1 ([x3081.Axles, 0, 9])) fun r3090 =>
 Option.bind (Maker_Pick N a0 r3090.1 ([x3084.Length, 0, 401])) fun r3099 =>
 Option.bind (idx r2171.2.1 r2906.2) fun x3105 =>
 Option.bind (idx (List.set r2171.2.1 (Int.toNat r2906.2) (T_Pushed.mk x3105.Length r3090.2 x3105.Mass x3105.Gentle x3105.Track)) r2906.2) fun x3110 =>
 some (r3099.1, (List.set (List.set r2171.2.1 (Int.toNat r2906.2) (T_Pushed.mk x3105.Length r3090.2 x3105.Mass x3105.Gentle x3105.Track)) (Int.toNat r2906.2) (T_Pushed.mk r3099.2 x3110.Axles x3110.Mass x3110.Gentle x3110.Track)))) fun j3040 =>
 Option.bind (Maker_Pick N a0 j3040.1 ([r2171.2.2.Axles, 1, 129, 2])) fun r3176 =>
 some (r3176.1, j3040.2, r3176.2)) else (
 some (j2401.1, r2171.2.1, r2171.2.2.Axles))) fun j2901 =>
 Option.bind (in64 ((List.length j2901.2.1 : Int) + 1)) fun x3214 =>
 Option.bind (Maker_From N a0 j2901.1 (-1) (List.length j2901.2.1 : Int)) fun r3217 =>
 Option.bind (Maker_From N a0 r3217.1 (-1) x3214) fun r3223 =>
 Option.bind (law18_exact N j2901.2.1 (T_CutRules.mk r2171.2.2.Wagons j2901.2.2 r2171.2.2.Length) j2401.2 r3217.2 r3223.2) fun r3229 =>
 bif (!r3229) then (
 some (.inr (Sum.inl false))) else (
 Option.bind (in64 (i2155 + 1)) fun x3237 =>
 some (.inl (x3237, r3223.1)))) else (
 some (.inr (Sum.inr ())))

def law18_CutExact (N : Nat) (a0 : List Int) (a1 : List T_Pushed) (a2 : T_CutRules) (a3 : List T_Cut) (a4 : Int) (a5 : Int) : Option (Bool) :=
 Option.bind (humpgen_New N a0) fun r4 =>
 Option.bind (iterN (fun s : Int × Int => law18_CutExact_l1 N a0 s.1 s.2) N (0, r4)) fun r2163 =>
 match r2163 with
 | .inl p3244 => (
 some p3244)
 | .inr p3247 => (
 Option.bind (gO (!(decide (60 < (List.length a1 : Int)) || decide (60 < (List.length a3 : Int)))) (law18_exact N a1 a2 a3 a4 a5)) fun r3260 =>
 Option.bind (gO ((!(decide (60 < (List.length a1 : Int)) || decide (60 < (List.length a3 : Int)))) && r3260) (law18_sane N)) fun r3268 =>
 some ((decide (60 < (List.length a1 : Int)) || decide (60 < (List.length a3 : Int))) || (r3260 && r3268)))

end Go.Gv
