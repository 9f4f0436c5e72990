/- Plain functions that mirror the program, written by a program of mine (gowalk.py). -/
import Derived.Test.YtlpkbkbjohhleaaGreatPv
namespace Go.Gv
set_option linter.unusedVariables false

structure T_Wagon where
  Number : List UInt8
  Length : Int
  Axles : Int
  Mass : Int
  Brake : Int
  Goods : Int
  Gentle : Bool
  Dest : List UInt8
deriving DecidableEq, Inhabited

structure T_Item where
  Train : Int
  Block : Int
  Round : Int
  Length : Int
deriving DecidableEq, Inhabited

structure T_Scheme where
  Weight : Int
  Steps : Int
  Moves : Int
  Pushes : Int
deriving DecidableEq, Inhabited

noncomputable def humpgen_New (N : Nat) (a0 : List Int) : Option (Int) :=
 some 0

noncomputable def Maker_Next (N : Nat) (a0_l : List Int) (a0_n : Int) (a1 : Int) : Option (Int × Int) :=
 Option.bind (
 bif decide (0 < (List.length a0_l : Int)) then (
 Option.bind (rem64 a0_n (List.length a0_l : Int)) fun x114 =>
 Option.bind (idx a0_l x114) fun x117 =>
 Option.bind (quo64 a0_n (List.length a0_l : Int)) fun x120 =>
 some (wr64 (x117 + (wr64 (x120 * 7919))))) else (
 some 0)) fun j96 =>
 Option.bind (in64 (a0_n + 1)) fun x128 =>
 Option.bind (rem64 j96 a1) fun x133 =>
 bif decide (x133 < 0) then (
 Option.bind (in64 (x133 + a1)) fun x138 =>
 some (x128, x138)) else (
 some (x128, x133))

noncomputable def Maker_Digits_l1 (N : Nat) (a0_l : List Int) (a1 : Int) (i136 : Int) (i137 : Int) (l138 : List UInt8) : Option ((Int × Int × List UInt8) ⊕ (Int × List UInt8)) :=
 bif decide (i136 < a1) then (
 Option.bind (Maker_Next N a0_l i137 10) fun r151 =>
 Option.bind (in64 (48 + r151.2)) fun x157 =>
 Option.bind (idx l138 i136) fun x160 =>
 Option.bind (in64 (i136 + 1)) fun x165 =>
 some (.inl (x165, r151.1, (List.set l138 (Int.toNat i136) (toU8 x157))))) else (
 some (.inr (i137, l138)))

noncomputable def Maker_Digits (N : Nat) (a0_l : List Int) (a0_n : Int) (a1 : Int) : Option (Int × List UInt8) :=
 Option.bind (mkL 1 a1 (0 : UInt8)) fun l87 =>
 Option.bind (iterN (fun s : Int × Int × List UInt8 => Maker_Digits_l1 N a0_l a1 s.1 s.2.1 s.2.2) N (0, a0_n, l87)) fun r145 =>
 some (r145.1, r145.2)

noncomputable def r02_digits_l1 (N : Nat) (a0 : List UInt8) (a1 : Int) (i40 : Int) : Option ((Int) ⊕ (Bool ⊕ Unit)) :=
 bif decide (i40 < a1) then (
 Option.bind (idx a0 i40) fun x55 =>
 Option.bind (gO (!decide ((x55.toNat : Int) < 48)) (idx a0 i40)) fun x61 =>
 bif (decide ((x55.toNat : Int) < 48) || decide (57 < (x61.toNat : Int))) then (
 some (.inr (Sum.inl false))) else (
 Option.bind (in64 (i40 + 1)) fun x68 =>
 some (.inl x68))) else (
 some (.inr (Sum.inr ())))

noncomputable def r02_digits (N : Nat) (a0 : List UInt8) (a1 : Int) : Option (Bool) :=
 bif (!decide ((List.length a0 : Int) = a1)) then (
 some false) else (
 Option.bind (iterN (fun s : Int => r02_digits_l1 N a0 a1 s) N 0) fun r47 =>
 match r47 with
 | .inl p75 => (
 some p75)
 | .inr p78 => (
 some true))

noncomputable def r02_sum_l1 (N : Nat) (a0 : List UInt8) (a1 : Int) (i76 : Int) (i77 : Int) : Option ((Int × Int) ⊕ (Int)) :=
 bif decide (i77 < a1) then (
 Option.bind (idx a0 i77) fun x90 =>
 Option.bind (in64 ((toU8 ((x90.toNat : Int) - 48)).toNat : Int)) fun x93 =>
 bif decide ((Int.tmod i77 2) = 0) then (
 Option.bind (in64 (x93 * 2)) fun x98 =>
 bif decide (9 < x98) then (
 Option.bind (in64 (x98 - 9)) fun x103 =>
 Option.bind (in64 (i76 + x103)) fun x106 =>
 Option.bind (in64 (i77 + 1)) fun x109 =>
 some (.inl (x106, x109))) else (
 Option.bind (in64 (i76 + x98)) fun x112 =>
 Option.bind (in64 (i77 + 1)) fun x115 =>
 some (.inl (x112, x115)))) else (
 Option.bind (in64 (i76 + x93)) fun x118 =>
 Option.bind (in64 (i77 + 1)) fun x121 =>
 some (.inl (x118, x121)))) else (
 some (.inr i76))

noncomputable def r02_sum (N : Nat) (a0 : List UInt8) (a1 : Int) : Option (Int) :=
 Option.bind (iterN (fun s : Int × Int => r02_sum_l1 N a0 a1 s.1 s.2) N (0, 0)) fun r84 =>
 some r84

noncomputable def r02_Digit (N : Nat) (a0 : List UInt8) : Option (Int × Int) :=
 Option.bind (r02_digits N a0 11) fun r1 =>
 bif (!r1) then (
 some (0, 11)) else (
 Option.bind (r02_sum N a0 11) fun r9 =>
 Option.bind (in64 (10 - (Int.tmod r9 10))) fun x15 =>
 some ((Int.tmod x15 10), 0))

noncomputable def Maker_Number (N : Nat) (a0_l : List Int) (a0_n : Int) (a1 : Int) : Option (Int × List UInt8) :=
 Option.bind (Maker_Digits N a0_l a0_n 11) fun r58 =>
 Option.bind (byS r58.2) fun l64 =>
 Option.bind (quo64 a1 100) fun x70 =>
 Option.bind (in64 (48 + (Int.tmod x70 10))) fun x73 =>
 Option.bind (quo64 a1 10) fun x76 =>
 Option.bind (in64 (48 + (Int.tmod x76 10))) fun x79 =>
 Option.bind (in64 (48 + (Int.tmod a1 10))) fun x82 =>
 Option.bind (idx l64 8) fun x85 =>
 Option.bind (idx (List.set l64 (Int.toNat 8) (toU8 x73)) 9) fun x90 =>
 Option.bind (idx (List.set (List.set l64 (Int.toNat 8) (toU8 x73)) (Int.toNat 9) (toU8 x79)) 10) fun x95 =>
 Option.bind (r02_Digit N (List.set (List.set (List.set l64 (Int.toNat 8) (toU8 x73)) (Int.toNat 9) (toU8 x79)) (Int.toNat 10) (toU8 x82))) fun r100 =>
 Option.bind (in64 (48 + r100.1)) fun x106 =>
 Option.bind (appS (List.set (List.set (List.set l64 (Int.toNat 8) (toU8 x73)) (Int.toNat 9) (toU8 x79)) (Int.toNat 10) (toU8 x82)) ([(toU8 x106)])) fun l112 =>
 some (r58.1, l112)

noncomputable def Maker_Pick (N : Nat) (a0_l : List Int) (a0_n : Int) (a1 : List Int) : Option (Int × Int) :=
 Option.bind (Maker_Next N a0_l a0_n (List.length a1 : Int)) fun r10 =>
 Option.bind (idx a1 r10.2) fun x16 =>
 some (r10.1, x16)

noncomputable def Maker_Name (N : Nat) (a0_l : List Int) (a0_n : Int) : Option (Int × List UInt8) :=
 Option.bind (Maker_Next N a0_l a0_n 10) fun r16 =>
 Option.bind (idx ([(Str.mk ([97] : List UInt8)), (Str.mk ([98] : List UInt8)), (Str.mk ([99] : List UInt8)), (Str.mk ([100] : List UInt8)), (Str.mk ([101] : List UInt8)), (Str.mk ([110, 111, 114, 116, 104] : List UInt8)), (Str.mk ([115, 111, 117, 116, 104] : List UInt8)), (Str.mk ([112, 111, 114, 116, 49] : List UInt8)), (Str.mk ([120, 57] : List UInt8)), (Str.mk ([97, 98, 99, 100, 101, 102, 103, 104, 105, 106, 107, 108] : List UInt8))]) r16.2) fun x22 =>
 some (r16.1, x22.s)

noncomputable def Maker_Wagon (N : Nat) (a0_l : List Int) (a0_n : Int) (a1 : Int) : Option (Int × T_Wagon) :=
 Option.bind (Maker_Number N a0_l a0_n a1) fun r164 =>
 Option.bind (Maker_Pick N a0_l r164.1 ([80, 120, 142, 199, 262, 400])) fun r173 =>
 Option.bind (Maker_Pick N a0_l r173.1 ([50, 120, 400, 800, 2000])) fun r182 =>
 Option.bind (Maker_Pick N a0_l r182.1 ([0, 0, 0, 1, 3, 9])) fun r191 =>
 Option.bind (Maker_Next N a0_l r191.1 5) fun r197 =>
 Option.bind (Maker_Name N a0_l r197.1) fun r203 =>
 Option.bind (idx r164.2 4) fun x214 =>
 Option.bind (
 Option.bind (
 bif decide ((x214.toNat : Int) = 50) then (
 some (decide ((x214.toNat : Int) = 50))) else (
 some (decide ((x214.toNat : Int) = 52)))) fun j248 =>
 bif j248 then (
 some (r173.2, 2)) else (
 bif decide ((x214.toNat : Int) = 57) then (
 some ((max r173.2 120), 6)) else (
 some (r173.2, 4)))) fun j242 =>
 Option.bind (Maker_Next N a0_l r203.1 5) fun r305 =>
 Option.bind (in64 (r182.2 * r305.2)) fun x311 =>
 Option.bind (quo64 x311 4) fun x314 =>
 some (r305.1, (T_Wagon.mk r164.2 j242.1 j242.2 r182.2 x314 r191.2 (decide (r197.2 = 0)) r203.2))

noncomputable def Maker_Wagons_l1 (N : Nat) (a0_l : List Int) (i200 : Int) (i201 : Int) (l202 : List T_Wagon) : Option ((Int × Int × List T_Wagon) ⊕ (Int × List T_Wagon)) :=
 bif decide (0 < i200) then (
 Option.bind (Maker_Wagon N a0_l i201 (List.length l202 : Int)) fun r216 =>
 Option.bind (app 80 l202 ([r216.2])) fun l225 =>
 Option.bind (in64 (i200 - 1)) fun x231 =>
 some (.inl (x231, r216.1, l225))) else (
 some (.inr (i201, l202)))

noncomputable def Maker_Wagons (N : Nat) (a0_l : List Int) (a0_n : Int) (a1 : Int) : Option (Int × List T_Wagon) :=
 Option.bind (in64 (a1 + 1)) fun x120 =>
 Option.bind (Maker_Next N a0_l a0_n x120) fun r123 =>
 Option.bind (iterN (fun s : Int × Int × List T_Wagon => Maker_Wagons_l1 N a0_l s.1 s.2.1 s.2.2) N (r123.2, r123.1, [])) fun r210 =>
 some (r210.1, r210.2)

noncomputable def wagonnumber_digits_l1 (N : Nat) (a0 : List UInt8) (i38 : Int) : Option ((Int) ⊕ (Bool ⊕ Unit)) :=
 bif decide (i38 < (List.length a0 : Int)) then (
 Option.bind (idx a0 i38) fun x53 =>
 Option.bind (gO (!decide ((x53.toNat : Int) < 48)) (idx a0 i38)) fun x59 =>
 bif (decide ((x53.toNat : Int) < 48) || decide (57 < (x59.toNat : Int))) then (
 some (.inr (Sum.inl false))) else (
 Option.bind (in64 (i38 + 1)) fun x66 =>
 some (.inl x66))) else (
 some (.inr (Sum.inr ())))

noncomputable def wagonnumber_digits (N : Nat) (a0 : List UInt8) (a1 : Int) : Option (Bool) :=
 Option.bind (iterN (fun s : Int => wagonnumber_digits_l1 N a0 s) N 0) fun r45 =>
 match r45 with
 | .inl p73 => (
 some p73)
 | .inr p76 => (
 some (decide ((List.length a0 : Int) = a1)))

noncomputable def wagonnumber_sum_l1 (N : Nat) (a0 : List UInt8) (i76 : Int) (i77 : Int) : Option ((Int × Int) ⊕ (Int)) :=
 bif decide (i77 < (List.length a0 : Int)) then (
 Option.bind (idx a0 i77) fun x90 =>
 Option.bind (in64 ((toU8 ((x90.toNat : Int) - 48)).toNat : Int)) fun x93 =>
 bif decide ((Int.tmod i77 2) = 0) then (
 Option.bind (in64 (x93 * 2)) fun x98 =>
 bif decide (9 < x98) then (
 Option.bind (in64 (x98 - 9)) fun x103 =>
 Option.bind (in64 (i76 + x103)) fun x106 =>
 Option.bind (in64 (i77 + 1)) fun x109 =>
 some (.inl (x106, x109))) else (
 Option.bind (in64 (i76 + x98)) fun x112 =>
 Option.bind (in64 (i77 + 1)) fun x115 =>
 some (.inl (x112, x115)))) else (
 Option.bind (in64 (i76 + x93)) fun x118 =>
 Option.bind (in64 (i77 + 1)) fun x121 =>
 some (.inl (x118, x121)))) else (
 some (.inr i76))

noncomputable def wagonnumber_sum (N : Nat) (a0 : List UInt8) : Option (Int) :=
 Option.bind (iterN (fun s : Int × Int => wagonnumber_sum_l1 N a0 s.1 s.2) N (0, 0)) fun r84 =>
 some r84

noncomputable def wagonnumber_check (N : Nat) (a0 : List UInt8) : Option (Int) :=
 Option.bind (wagonnumber_sum N a0) fun r1 =>
 Option.bind (in64 (10 - (Int.tmod r1 10))) fun x7 =>
 some (Int.tmod x7 10)

noncomputable def wagonnumber_Valid (N : Nat) (a0 : List UInt8) : Option (Int) :=
 Option.bind (wagonnumber_digits N a0 12) fun r1 =>
 bif (!r1) then (
 some 11) else (
 Option.bind (idx a0 11) fun x28 =>
 Option.bind (in64 ((toU8 ((x28.toNat : Int) - 48)).toNat : Int)) fun x31 =>
 Option.bind (slc a0 0 11) fun l34 =>
 Option.bind (wagonnumber_check N l34) fun r37 =>
 bif (!decide (x31 = r37)) then (
 some 9) else (
 some 0))

noncomputable def wagonnumber_Kind (N : Nat) (a0 : List UInt8) : Option (Int × Int) :=
 Option.bind (wagonnumber_Valid N a0) fun r1 =>
 bif (!decide (r1 = 0)) then (
 some (0, r1)) else (
 Option.bind (idx a0 4) fun x9 =>
 Option.bind (
 bif decide ((x9.toNat : Int) = 55) then (
 some (decide ((x9.toNat : Int) = 55))) else (
 some (decide ((x9.toNat : Int) = 56)))) fun j15 =>
 bif j15 then (
 some (1, 0)) else (
 Option.bind (
 bif decide ((x9.toNat : Int) = 50) then (
 some (decide ((x9.toNat : Int) = 50))) else (
 some (decide ((x9.toNat : Int) = 52)))) fun j30 =>
 bif j30 then (
 some (2, 0)) else (
 bif decide ((x9.toNat : Int) = 57) then (
 some (3, 0)) else (
 some (0, 0)))))

noncomputable def consist_axles (N : Nat) (a0 : Int) : Option (Int) :=
 bif decide (a0 = 2) then (
 some 2) else (
 bif decide (a0 = 3) then (
 some 6) else (
 some 4))

noncomputable def consist_name_l1 (N : Nat) (a0 : List UInt8) (i44 : Int) : Option ((Int) ⊕ (Bool ⊕ Unit)) :=
 bif decide (i44 < (List.length a0 : Int)) then (
 Option.bind (idx a0 i44) fun x59 =>
 bif ((decide ((x59.toNat : Int) < 97) || decide (122 < (x59.toNat : Int))) && (decide ((x59.toNat : Int) < 48) || decide (57 < (x59.toNat : Int)))) then (
 some (.inr (Sum.inl false))) else (
 Option.bind (in64 (i44 + 1)) fun x75 =>
 some (.inl x75))) else (
 some (.inr (Sum.inr ())))

noncomputable def consist_name (N : Nat) (a0 : List UInt8) : Option (Bool) :=
 Option.bind (iterN (fun s : Int => consist_name_l1 N a0 s) N 0) fun r51 =>
 match r51 with
 | .inl p82 => (
 some p82)
 | .inr p85 => (
 some (decide (0 < (List.length a0 : Int)) && decide ((List.length a0 : Int) ≤ 12)))

noncomputable def consist_Valid (N : Nat) (a0 : T_Wagon) : Option (Int) :=
 Option.bind (wagonnumber_Kind N a0.Number) fun r4 =>
 bif (!decide (r4.2 = 0)) then (
 some r4.2) else (
 Option.bind (
 bif decide (r4.1 = 3) then (
 some 120) else (
 some 80)) fun j15 =>
 Option.bind (consist_axles N r4.1) fun r41 =>
 bif (!decide (a0.Axles = r41)) then (
 some 1) else (
 bif (((decide (a0.Length < j15) || decide (400 < a0.Length)) || decide (a0.Mass < 50)) || decide (2000 < a0.Mass)) then (
 some 2) else (
 bif (((decide (a0.Brake < 0) || decide (a0.Mass < a0.Brake)) || decide (a0.Goods < 0)) || decide (9 < a0.Goods)) then (
 some 2) else (
 Option.bind (consist_name N a0.Dest) fun r79 =>
 bif (!r79) then (
 some 7) else (
 some 0)))))

noncomputable def consist_check_l1 (N : Nat) (a0 : List T_Wagon) (i58 : Int) (m59 : List ((List UInt8) × Bool)) : Option ((Int × (List ((List UInt8) × Bool))) ⊕ (Int ⊕ Unit)) :=
 bif decide (i58 < (List.length a0 : Int)) then (
 Option.bind (idx a0 i58) fun x74 =>
 Option.bind (consist_Valid N (T_Wagon.mk x74.Number x74.Length x74.Axles x74.Mass x74.Brake x74.Goods x74.Gentle x74.Dest)) fun r82 =>
 bif (!decide (r82 = 0)) then (
 some (.inr (Sum.inl r82))) else (
 bif (Option.getD (sget m59 x74.Number) false) then (
 some (.inr (Sum.inl 8))) else (
 Option.bind (in64 (i58 + 1)) fun x94 =>
 some (.inl (x94, (sset m59 x74.Number true)))))) else (
 some (.inr (Sum.inr ())))

noncomputable def consist_check (N : Nat) (a0 : List T_Wagon) : Option (Int) :=
 bif decide (96 < (List.length a0 : Int)) then (
 some 3) else (
 Option.bind (iterN (fun s : Int × (List ((List UInt8) × Bool)) => consist_check_l1 N a0 s.1 s.2) N (0, [])) fun r66 =>
 match r66 with
 | .inl p101 => (
 some p101)
 | .inr p104 => (
 some 0))

noncomputable def consist_two (N : Nat) (a0 : List UInt8) (a1 : Int) : Option (List UInt8) :=
 Option.bind (shr_i64 a1 8) fun x1 =>
 app 1 a0 ([(toU8 x1), (toU8 a1)])

noncomputable def consist_Check_l1 (N : Nat) (a0 : List UInt8) (i38 : Int) (i39 : Int) : Option ((Int × Int) ⊕ (Int)) :=
 bif decide (i39 < (List.length a0 : Int)) then (
 Option.bind (idx a0 i39) fun x52 =>
 Option.bind (in64 (i39 + 1)) fun x55 =>
 Option.bind (in64 (x52.toNat : Int)) fun x58 =>
 Option.bind (in64 ((Int.tmod x55 65521) * x58)) fun x61 =>
 Option.bind (in64 (i38 + x61)) fun x64 =>
 some (.inl ((Int.tmod x64 65521), x55))) else (
 some (.inr i38))

noncomputable def consist_Check (N : Nat) (a0 : List UInt8) : Option (Int) :=
 Option.bind (iterN (fun s : Int × Int => consist_Check_l1 N a0 s.1 s.2) N (0, 0)) fun r46 =>
 some r46

noncomputable def consist_Encode_l4 (N : Nat) (x827 : T_Wagon) (i942 : Int) (l943 : List UInt8) : Option ((Int × List UInt8) ⊕ (List UInt8)) :=
 bif decide (i942 < 12) then (
 Option.bind (idx x827.Number i942) fun x982 =>
 Option.bind (shl_u8 ((toU8 ((x982.toNat : Int) - 48)).toNat : Int) 4) fun x985 =>
 Option.bind (in64 (i942 + 1)) fun x988 =>
 Option.bind (idx x827.Number x988) fun x991 =>
 Option.bind (app 1 l943 ([(x985 ||| (toU8 ((x991.toNat : Int) - 48)))])) fun l997 =>
 Option.bind (in64 (i942 + 2)) fun x1003 =>
 some (.inl (x1003, l997))) else (
 some (.inr l943))

noncomputable def consist_Encode_l3 (N : Nat) (a0 : List T_Wagon) (i812 : Int) (l813 : List UInt8) : Option ((Int × List UInt8) ⊕ (List UInt8)) :=
 bif decide (i812 < (List.length a0 : Int)) then (
 Option.bind (idx a0 i812) fun x827 =>
 Option.bind (iterN (fun s : Int × List UInt8 => consist_Encode_l4 N x827 s.1 s.2) N (0, l813)) fun r951 =>
 Option.bind (
 Option.bind (consist_two N r951 x827.Length) fun l1112 =>
 Option.bind (app 1 l1112 ([(toU8 x827.Axles)])) fun l1121 =>
 some l1121) fun j1075 =>
 Option.bind (consist_two N j1075 x827.Mass) fun l1173 =>
 Option.bind (consist_two N l1173 x827.Brake) fun l1179 =>
 Option.bind (
 bif x827.Gentle then (
 Option.bind (in64 (x827.Goods + 16)) fun x1196 =>
 some x1196) else (
 some x827.Goods)) fun j1191 =>
 Option.bind (app 1 l1179 ([(toU8 j1191), (toU8 (List.length x827.Dest : Int))])) fun l1207 =>
 Option.bind (app 1 l1207 x827.Dest) fun l1213 =>
 Option.bind (in64 (i812 + 1)) fun x1219 =>
 some (.inl (x1219, l1213))) else (
 some (.inr l813))

noncomputable def consist_Encode (N : Nat) (a0 : List T_Wagon) : Option (List UInt8 × Int) :=
 Option.bind (consist_check N a0) fun r1 =>
 bif (!decide (r1 = 0)) then (
 some ([], r1)) else (
 Option.bind (iterN (fun s : Int × List UInt8 => consist_Encode_l3 N a0 s.1 s.2) N (0, [(toU8 (List.length a0 : Int))])) fun r821 =>
 Option.bind (consist_Check N r821) fun r1227 =>
 Option.bind (consist_two N r821 r1227) fun l1233 =>
 some (l1233, 0))

noncomputable def consist_end_l1 (N : Nat) (a0 : List UInt8) (i62 : Int) (i63 : Int) : Option ((Int × Int) ⊕ ((Int × Bool) ⊕ Int)) :=
 Option.bind (idx a0 0) fun x76 =>
 Option.bind (in64 (x76.toNat : Int)) fun x79 =>
 bif decide (i63 < x79) then (
 Option.bind (in64 (i62 + 15)) fun x84 =>
 bif decide ((List.length a0 : Int) < x84) then (
 some (.inr (Sum.inl (0, false)))) else (
 Option.bind (in64 (x84 - 1)) fun x89 =>
 Option.bind (idx a0 x89) fun x92 =>
 Option.bind (in64 (x92.toNat : Int)) fun x95 =>
 Option.bind (in64 (x84 + x95)) fun x98 =>
 Option.bind (in64 (i63 + 1)) fun x101 =>
 some (.inl (x98, x101)))) else (
 some (.inr (Sum.inr i62)))

noncomputable def consist_end (N : Nat) (a0 : List UInt8) : Option (Int × Bool) :=
 bif decide ((List.length a0 : Int) = 0) then (
 some (0, false)) else (
 Option.bind (iterN (fun s : Int × Int => consist_end_l1 N a0 s.1 s.2) N (1, 0)) fun r70 =>
 match r70 with
 | .inl p108 => (
 some p108)
 | .inr p111 => (
 Option.bind (in64 (p111 + 2)) fun x114 =>
 some (x114, decide (x114 ≤ (List.length a0 : Int)))))

noncomputable def reader_one (N : Nat) (a0_b : List UInt8) (a0_at_ : Int) : Option (Int × Int) :=
 Option.bind (in64 (a0_at_ + 1)) fun x28 =>
 Option.bind (in64 (x28 - 1)) fun x46 =>
 Option.bind (idx a0_b x46) fun x49 =>
 Option.bind (in64 (x49.toNat : Int)) fun x52 =>
 some (x28, x52)

noncomputable def reader_two (N : Nat) (a0_b : List UInt8) (a0_at_ : Int) : Option (Int × Int) :=
 Option.bind (reader_one N a0_b a0_at_) fun r19 =>
 Option.bind (shl_i64 r19.2 8) fun x25 =>
 Option.bind (reader_one N a0_b r19.1) fun r28 =>
 Option.bind (orN 63 x25 r28.2) fun x34 =>
 some (r28.1, x34)

noncomputable def reader_wagon_l1 (N : Nat) (a0_b : List UInt8) (b464 : Bool) (i465 : Int) (i466 : Int) (l467 : List UInt8) : Option ((Bool × Int × Int × List UInt8) ⊕ (Bool × Int × List UInt8)) :=
 bif decide (i465 < 12) then (
 Option.bind (reader_one N a0_b i466) fun r481 =>
 Option.bind (gO b464 (shr_i64 r481.2 4)) fun x489 =>
 Option.bind (gO (b464 && decide (x489 ≤ 9)) (andN 63 r481.2 15)) fun x496 =>
 Option.bind (shr_i64 r481.2 4) fun x501 =>
 Option.bind (in64 (48 + x501)) fun x504 =>
 Option.bind (andN 63 r481.2 15) fun x507 =>
 Option.bind (in64 (48 + x507)) fun x510 =>
 Option.bind (app 1 l467 ([(toU8 x504), (toU8 x510)])) fun l516 =>
 Option.bind (in64 (i465 + 2)) fun x522 =>
 some (.inl (((b464 && decide (x489 ≤ 9)) && decide (x496 ≤ 9)), x522, r481.1, l516))) else (
 some (.inr (b464, i466, l467)))

noncomputable def reader_wagon (N : Nat) (a0_b : List UInt8) (a0_at_ : Int) : Option (Int × T_Wagon × Bool) :=
 Option.bind (iterN (fun s : Bool × Int × Int × List UInt8 => reader_wagon_l1 N a0_b s.1 s.2.1 s.2.2.1 s.2.2.2) N (true, 0, a0_at_, [])) fun r475 =>
 Option.bind (reader_two N a0_b r475.2.1) fun r532 =>
 Option.bind (reader_one N a0_b r532.1) fun r540 =>
 Option.bind (reader_two N a0_b r540.1) fun r548 =>
 Option.bind (reader_two N a0_b r548.1) fun r556 =>
 Option.bind (reader_one N a0_b r556.1) fun r564 =>
 Option.bind (reader_one N a0_b r564.1) fun r581 =>
 Option.bind (in64 (r581.1 + r581.2)) fun x599 =>
 Option.bind (slc a0_b r581.1 x599) fun l602 =>
 some (x599, (T_Wagon.mk r475.2.2 r532.2 r540.2 r548.2 r556.2 (Int.tmod r564.2 16) (decide (16 ≤ r564.2)) l602), ((r475.1 && decide (r564.2 ≤ 25)) && decide ((Int.tmod r564.2 16) ≤ 9)))

noncomputable def consist_Decode_l1 (N : Nat) (a0 : List UInt8) (b170 : Bool) (i171 : Int) (i172 : Int) (l173 : List T_Wagon) : Option ((Bool × Int × Int × List T_Wagon) ⊕ (Bool × List T_Wagon)) :=
 Option.bind (idx a0 0) fun x185 =>
 Option.bind (in64 (x185.toNat : Int)) fun x188 =>
 bif decide (i171 < x188) then (
 Option.bind (reader_wagon N a0 i172) fun r193 =>
 Option.bind (app 80 l173 ([(T_Wagon.mk r193.2.1.Number r193.2.1.Length r193.2.1.Axles r193.2.1.Mass r193.2.1.Brake r193.2.1.Goods r193.2.1.Gentle r193.2.1.Dest)])) fun l209 =>
 Option.bind (in64 (i171 + 1)) fun x215 =>
 some (.inl ((b170 && r193.2.2), x215, r193.1, l209))) else (
 some (.inr (b170, l173)))

noncomputable def consist_Decode (N : Nat) (a0 : List UInt8) : Option (List T_Wagon × Int) :=
 Option.bind (consist_end N a0) fun r1 =>
 bif (!r1.2) then (
 some ([], 10)) else (
 bif decide (r1.1 < (List.length a0 : Int)) then (
 some ([], 11)) else (
 Option.bind (in64 (r1.1 - 2)) fun x13 =>
 Option.bind (slc a0 0 x13) fun l38 =>
 Option.bind (reader_two N a0 x13) fun r41 =>
 Option.bind (consist_Check N l38) fun r47 =>
 bif (!decide (r41.2 = r47)) then (
 some ([], 9)) else (
 Option.bind (iterN (fun s : Bool × Int × Int × List T_Wagon => consist_Decode_l1 N a0 s.1 s.2.1 s.2.2.1 s.2.2.2) N (true, 0, 1, [])) fun r181 =>
 bif (!r181.1) then (
 some ([], 11)) else (
 Option.bind (consist_check N r181.2) fun r226 =>
 bif (!decide (r226 = 0)) then (
 some ([], r226)) else (
 some (r181.2, 0))))))

noncomputable def g_slices_Index_string_string_l1 (N : Nat) (a0 : List Str) (a1 : List UInt8) (i22 : Int) : Option ((Int) ⊕ (Int ⊕ Unit)) :=
 bif decide (i22 < (List.length a0 : Int)) then (
 Option.bind (idx a0 i22) fun x37 =>
 bif decide (a1 = x37.s) then (
 some (.inr (Sum.inl i22))) else (
 Option.bind (in64 (i22 + 1)) fun x42 =>
 some (.inl x42))) else (
 some (.inr (Sum.inr ())))

noncomputable def g_slices_Index_string_string (N : Nat) (a0 : List Str) (a1 : List UInt8) : Option (Int) :=
 Option.bind (iterN (fun s : Int => g_slices_Index_string_string_l1 N a0 a1 s) N 0) fun r29 =>
 match r29 with
 | .inl p49 => (
 some p49)
 | .inr p52 => (
 some (-1))

noncomputable def planner_find_l1 (N : Nat) (a0 : List (List Str)) (a1 : List UInt8) (i48 : Int) : Option ((Int) ⊕ ((Int × Int × Bool) ⊕ Unit)) :=
 bif decide (i48 < (List.length a0 : Int)) then (
 Option.bind (idx a0 i48) fun x63 =>
 Option.bind (g_slices_Index_string_string N x63 a1) fun r73 =>
 bif decide (0 ≤ r73) then (
 some (.inr (Sum.inl (i48, r73, true)))) else (
 Option.bind (in64 (i48 + 1)) fun x81 =>
 some (.inl x81))) else (
 some (.inr (Sum.inr ())))

noncomputable def planner_find (N : Nat) (a0 : List (List Str)) (a1 : List UInt8) : Option (Int × Int × Bool) :=
 Option.bind (iterN (fun s : Int => planner_find_l1 N a0 a1 s) N 0) fun r55 =>
 match r55 with
 | .inl p88 => (
 some p88)
 | .inr p91 => (
 some (0, 0, false))

noncomputable def planner_Items_l1 (N : Nat) (a0 : List (List Str)) (i43 : Int) : Option ((Int) ⊕ ((List T_Item × Int) ⊕ Unit)) :=
 bif decide (i43 < (List.length a0 : Int)) then (
 Option.bind (idx a0 i43) fun x58 =>
 bif decide (32 < (List.length x58 : Int)) then (
 some (.inr (Sum.inl ([], 3)))) else (
 Option.bind (in64 (i43 + 1)) fun x71 =>
 some (.inl x71))) else (
 some (.inr (Sum.inr ())))

noncomputable def planner_Items_l2 (N : Nat) (a0 : List (List Str)) (a1 : List T_Wagon) (i206 : Int) (l207 : List T_Item) : Option ((Int × List T_Item) ⊕ ((List T_Item × Int) ⊕ (List T_Item))) :=
 bif decide (i206 < (List.length a1 : Int)) then (
 Option.bind (idx a1 i206) fun x223 =>
 Option.bind (consist_Valid N (T_Wagon.mk x223.Number x223.Length x223.Axles x223.Mass x223.Brake x223.Goods x223.Gentle x223.Dest)) fun r231 =>
 bif (!decide (r231 = 0)) then (
 some (.inr (Sum.inl ([], r231)))) else (
 Option.bind (planner_find N a0 x223.Dest) fun r240 =>
 bif (!r240.2.2) then (
 some (.inr (Sum.inl ([], 13)))) else (
 Option.bind (app 32 l207 ([(T_Item.mk r240.1 r240.2.1 0 x223.Length)])) fun l252 =>
 Option.bind (in64 (i206 + 1)) fun x258 =>
 some (.inl (x258, l252))))) else (
 some (.inr (Sum.inr l207)))

noncomputable def planner_Items (N : Nat) (a0 : List (List Str)) (a1 : List T_Wagon) : Option (List T_Item × Int) :=
 bif (decide (16 < (List.length a0 : Int)) || decide (96 < (List.length a1 : Int))) then (
 some ([], 3)) else (
 Option.bind (iterN (fun s : Int => planner_Items_l1 N a0 s) N 0) fun r50 =>
 match r50 with
 | .inl p78 => (
 some p78)
 | .inr p81 => (
 Option.bind (iterN (fun s : Int × List T_Item => planner_Items_l2 N a0 a1 s.1 s.2) N (0, [])) fun r215 =>
 match r215 with
 | .inl p265 => (
 some p265)
 | .inr p268 => (
 some (p268, 0))))

noncomputable def Maker_From (N : Nat) (a0_l : List Int) (a0_n : Int) (a1 : Int) (a2 : Int) : Option (Int × Int) :=
 Option.bind (in64 (a2 - a1)) fun x16 =>
 Option.bind (in64 (x16 + 1)) fun x19 =>
 Option.bind (Maker_Next N a0_l a0_n x19) fun r22 =>
 Option.bind (in64 (a1 + r22.2)) fun x28 =>
 some (r22.1, x28)

noncomputable def job_in (N : Nat) (a0 : Int) (a1 : Int) (a2 : Int) : Option (Bool) :=
 some (decide (a1 ≤ a0) && decide (a0 ≤ a2))

noncomputable def job_Valid_l1 (N : Nat) (a0_Items : List T_Item) (i203 : Int) : Option ((Int) ⊕ (Int ⊕ Unit)) :=
 bif decide (i203 < (List.length a0_Items : Int)) then (
 Option.bind (idx a0_Items i203) fun x218 =>
 Option.bind (job_in N x218.Train 0 15) fun r226 =>
 Option.bind (gO (!(!r226)) (job_in N x218.Block 0 31)) fun r235 =>
 Option.bind (gO (!((!r226) || (!r235))) (job_in N x218.Round 0 12)) fun r246 =>
 Option.bind (gO (!(((!r226) || (!r235)) || (!r246))) (job_in N x218.Length 1 400)) fun r257 =>
 bif ((((!r226) || (!r235)) || (!r246)) || (!r257)) then (
 some (.inr (Sum.inl 2))) else (
 Option.bind (gO (decide (0 < i203)) (in64 (i203 - 1))) fun x294 =>
 Option.bind (gO (decide (0 < i203)) (idx a0_Items x294)) fun x298 =>
 bif (decide (0 < i203) && decide (x218.Round < x298.Round)) then (
 some (.inr (Sum.inl 12))) else (
 Option.bind (in64 (i203 + 1)) fun x307 =>
 some (.inl x307)))) else (
 some (.inr (Sum.inr ())))

noncomputable def job_Valid (N : Nat) (a0_Items : List T_Item) (a0_Weight : Int) : Option (Int) :=
 bif decide (96 < (List.length a0_Items : Int)) then (
 some 3) else (
 Option.bind (job_in N a0_Weight 0 12) fun r6 =>
 bif (!r6) then (
 some 2) else (
 Option.bind (iterN (fun s : Int => job_Valid_l1 N a0_Items s) N 0) fun r210 =>
 match r210 with
 | .inl p314 => (
 some p314)
 | .inr p317 => (
 some 0)))

noncomputable def leastcode_relations_l4 (N : Nat) (a0_Items : List T_Item) (i1218 : Int) (x1252 : List Int) (i1628 : Int) (l1629 : List (List Int)) : Option ((Int × List (List Int)) ⊕ (List (List Int))) :=
 bif decide (i1628 < (List.length x1252 : Int)) then (
 Option.bind (
 Option.bind (idx a0_Items i1218) fun x1755 =>
 Option.bind (idx a0_Items i1628) fun x1758 =>
 some (x1755.Train, x1755.Block, x1755.Round, x1755.Length, x1758.Train, x1758.Block, x1758.Round, x1758.Length)) fun j1716 =>
 bif ((!decide (j1716.1 = j1716.2.2.2.2.1)) || decide (j1716.2.2.2.2.2.1 ≤ j1716.2.1)) then (
 Option.bind (in64 (i1628 + 1)) fun x1794 =>
 some (.inl (x1794, l1629))) else (
 bif decide (i1628 < i1218) then (
 Option.bind (idx l1629 i1218) fun x1799 =>
 Option.bind (idx x1799 i1628) fun x1804 =>
 Option.bind (in64 (i1628 + 1)) fun x1810 =>
 some (.inl (x1810, (List.set l1629 (Int.toNat i1218) (List.set x1799 (Int.toNat i1628) 2))))) else (
 Option.bind (idx l1629 i1218) fun x1813 =>
 Option.bind (idx x1813 i1628) fun x1818 =>
 Option.bind (in64 (i1628 + 1)) fun x1824 =>
 some (.inl (x1824, (List.set l1629 (Int.toNat i1218) (List.set x1813 (Int.toNat i1628) 1))))))) else (
 some (.inr l1629))

noncomputable def leastcode_relations_l3 (N : Nat) (a0_Items : List T_Item) (l4 : List (List Int)) (i1218 : Int) (l1219 : List (List Int)) : Option ((Int × List (List Int)) ⊕ (List (List Int))) :=
 bif decide (i1218 < (List.length l4 : Int)) then (
 Option.bind (mkL 8 (List.length a0_Items : Int) 0) fun l1234 =>
 Option.bind (idx l1219 i1218) fun x1240 =>
 Option.bind (idx (List.set l1219 (Int.toNat i1218) l1234) i1218) fun x1252 =>
 Option.bind (iterN (fun s : Int × List (List Int) => leastcode_relations_l4 N a0_Items i1218 x1252 s.1 s.2) N (0, (List.set l1219 (Int.toNat i1218) l1234))) fun r1638 =>
 Option.bind (in64 (i1218 + 1)) fun x1832 =>
 some (.inl (x1832, r1638))) else (
 some (.inr l1219))

noncomputable def leastcode_relations (N : Nat) (a0_Items : List T_Item) (a0_Weight : Int) : Option (List (List Int)) :=
 Option.bind (mkL 24 (List.length a0_Items : Int) ([] : List Int)) fun l4 =>
 Option.bind (iterN (fun s : Int × List (List Int) => leastcode_relations_l3 N a0_Items l4 s.1 s.2) N (0, l4)) fun r1228 =>
 some r1228

noncomputable def leastcode_solve_1 (N : Nat) (a0 : Int) (a1 : Int) (a2_Items : List T_Item) (a2_Weight : Int) : Option (Int) :=
 Option.bind (idx a2_Items a0) fun x14 =>
 Option.bind (idx a2_Items a1) fun x17 =>
 Option.bind (in64 (x14.Block - x17.Block)) fun x20 =>
 some x20

noncomputable def code_in (N : Nat) (a0 : Int) (a1 : Int) (a2 : Int) : Option (Bool) :=
 some (decide (a1 ≤ a0) && decide (a0 ≤ a2))

noncomputable def code_form (N : Nat) (a0 : Int) (a1 : Int) : Option (Bool) :=
 Option.bind (code_in N a0 0 12) fun r1 =>
 Option.bind (gO r1 (code_in N a1 0 12)) fun r9 =>
 some (r1 && r9)

noncomputable def code_missed (N : Nat) (a0 : Int) : Option (Int) :=
 Option.bind (shl_i64 1 a0) fun x1 =>
 Option.bind (in64 (x1 - 1)) fun x4 =>
 some x4

noncomputable def code_ones_l1 (N : Nat) (i26 : Int) (i27 : Int) : Option ((Int × Int) ⊕ (Int)) :=
 bif (!decide (i26 = 0)) then (
 Option.bind (in64 (i27 + 1)) fun x40 =>
 Option.bind (in64 (i26 - 1)) fun x43 =>
 Option.bind (andN 63 i26 x43) fun x46 =>
 some (.inl (x46, x40))) else (
 some (.inr i27))

noncomputable def code_ones (N : Nat) (a0 : Int) : Option (Int) :=
 Option.bind (iterN (fun s : Int × Int => code_ones_l1 N s.1 s.2) N (a0, 0)) fun r34 =>
 some r34

noncomputable def code_Next_l1 (N : Nat) (a2 : Int) (i97 : Int) : Option ((Int) ⊕ ((Int × Int) ⊕ Int)) :=
 Option.bind (code_ones N i97) fun r110 =>
 bif decide (a2 < r110) then (
 Option.bind (in64 (-i97)) fun x118 =>
 Option.bind (in64 (i97 + (andI i97 x118))) fun x121 =>
 bif decide (4096 ≤ x121) then (
 some (.inr (Sum.inl (0, 15)))) else (
 some (.inl x121))) else (
 some (.inr (Sum.inr i97)))

noncomputable def code_Next (N : Nat) (a0 : Int) (a1 : Int) (a2 : Int) : Option (Int × Int) :=
 Option.bind (code_form N a1 a2) fun r1 =>
 bif ((!r1) || decide (a0 < 0)) then (
 some (0, 2)) else (
 bif decide (4096 ≤ a0) then (
 some (0, 15)) else (
 Option.bind (code_missed N a1) fun r14 =>
 Option.bind (
 bif decide (r14 < a0) then (
 Option.bind (in64 (a0 - r14)) fun x43 =>
 Option.bind (shl_i64 1 a1) fun x46 =>
 Option.bind (in64 (x43 + x46)) fun x49 =>
 Option.bind (in64 (x49 - 1)) fun x52 =>
 Option.bind (shr_i64 x52 a1) fun x55 =>
 some x55) else (
 some 0)) fun j38 =>
 Option.bind (iterN (fun s : Int => code_Next_l1 N a2 s) N j38) fun r104 =>
 match r104 with
 | .inl p130 => (
 some p130)
 | .inr p133 => (
 Option.bind (shl_i64 p133 a1) fun x149 =>
 Option.bind (orN 63 x149 r14) fun x155 =>
 bif decide (x155 < 4096) then (
 some (x155, 0)) else (
 some (0, 15)))))

noncomputable def leastcode_solve_l1 (N : Nat) (l4 : List Int) (i33 : Int) (l34 : List Int) : Option ((Int × List Int) ⊕ (List Int)) :=
 bif decide (i33 < (List.length l4 : Int)) then (
 Option.bind (idx l34 i33) fun x47 =>
 Option.bind (in64 (i33 + 1)) fun x52 =>
 some (.inl (x52, (List.set l34 (Int.toNat i33) i33)))) else (
 some (.inr l34))

noncomputable def leastcode_solve_l5 (N : Nat) (a0_Items : List T_Item) (a1 : List (List Int)) (l511 : List Int) (x526 : Int) (i632 : Int) (l633 : List Int) : Option ((Int × List Int) ⊕ (List Int)) :=
 bif decide (i632 < (List.length a0_Items : Int)) then (
 Option.bind (idx a1 i632) fun x646 =>
 Option.bind (idx x646 x526) fun x651 =>
 bif decide (0 < x651) then (
 Option.bind (idx l633 x526) fun x674 =>
 Option.bind (idx l511 i632) fun x677 =>
 Option.bind (in64 (x677 + x651)) fun x680 =>
 Option.bind (in64 (x680 - 1)) fun x683 =>
 Option.bind (in64 (i632 + 1)) fun x688 =>
 some (.inl (x688, (List.set l633 (Int.toNat x526) (max x674 x683))))) else (
 Option.bind (in64 (i632 + 1)) fun x691 =>
 some (.inl (x691, l633)))) else (
 some (.inr l633))

noncomputable def leastcode_solve_l4 (N : Nat) (a0_Items : List T_Item) (a0_Weight : Int) (a1 : List (List Int)) (l60 : List Int) (i509 : Int) (l510 : List Int) (l511 : List Int) : Option ((Int × List Int × List Int) ⊕ ((List Int × List Int × Int) ⊕ (List Int × List Int))) :=
 bif decide (i509 < (List.length l60 : Int)) then (
 Option.bind (idx l60 i509) fun x526 =>
 Option.bind (iterN (fun s : Int × List Int => leastcode_solve_l5 N a0_Items a1 l511 x526 s.1 s.2) N (0, l510)) fun r640 =>
 Option.bind (idx r640 x526) fun x715 =>
 Option.bind (idx a0_Items x526) fun x718 =>
 Option.bind (code_Next N x715 x718.Round a0_Weight) fun r721 =>
 bif (!decide (r721.2 = 0)) then (
 some (.inr (Sum.inl ([], [], r721.2)))) else (
 Option.bind (idx l511 x526) fun x731 =>
 Option.bind (in64 (i509 + 1)) fun x736 =>
 some (.inl (x736, r640, (List.set l511 (Int.toNat x526) r721.1))))) else (
 some (.inr (Sum.inr (l510, l511))))

noncomputable def leastcode_solve (N : Nat) (a0_Items : List T_Item) (a0_Weight : Int) (a1 : List (List Int)) : Option (List Int × List Int × Int) :=
 Option.bind (mkL 8 (List.length a0_Items : Int) 0) fun l4 =>
 Option.bind (iterN (fun s : Int × List Int => leastcode_solve_l1 N l4 s.1 s.2) N (0, l4)) fun r41 =>
 Option.bind (sortFn (fun x y => leastcode_solve_1 N x y a0_Items a0_Weight) r41) fun l60 =>
 Option.bind (mkL 8 (List.length l60 : Int) 0) fun l66 =>
 Option.bind (mkL 8 (List.length l60 : Int) 0) fun l72 =>
 Option.bind (iterN (fun s : Int × List Int × List Int => leastcode_solve_l4 N a0_Items a0_Weight a1 l60 s.1 s.2.1 s.2.2) N (0, l66, l72)) fun r518 =>
 match r518 with
 | .inl p743 => (
 some p743)
 | .inr p746 => (
 some (p746.1, p746.2, 0))

noncomputable def code_Steps_l1 (N : Nat) (i28 : Int) (i29 : Int) : Option ((Int × Int) ⊕ (Int)) :=
 bif decide (0 < i28) then (
 Option.bind (in64 (i29 + 1)) fun x42 =>
 Option.bind (shr_i64 i28 1) fun x45 =>
 some (.inl (x45, x42))) else (
 some (.inr i29))

noncomputable def code_Steps (N : Nat) (a0 : Int) : Option (Int × Int) :=
 Option.bind (code_in N a0 0 4095) fun r1 =>
 bif (!r1) then (
 some (0, 2)) else (
 Option.bind (iterN (fun s : Int × Int => code_Steps_l1 N s.1 s.2) N (a0, 0)) fun r36 =>
 some (r36, 0))

noncomputable def leastcode_Least_l1 (N : Nat) (r62 : List Int × List Int × Int) (i115 : Int) (i116 : Int) : Option ((Int × Int) ⊕ (Int)) :=
 bif decide (i115 < (List.length r62.2.1 : Int)) then (
 Option.bind (idx r62.2.1 i115) fun x129 =>
 Option.bind (code_Steps N x129) fun r132 =>
 Option.bind (in64 (i115 + 1)) fun x140 =>
 some (.inl (x140, (max i116 r132.1)))) else (
 some (.inr i116))

noncomputable def leastcode_Least (N : Nat) (a0_Items : List T_Item) (a0_Weight : Int) : Option (Int × List Int × Int) :=
 Option.bind (job_Valid N a0_Items a0_Weight) fun r7 =>
 bif (!decide (r7 = 0)) then (
 some (0, [], r7)) else (
 Option.bind (leastcode_relations N a0_Items a0_Weight) fun r54 =>
 Option.bind (leastcode_solve N a0_Items a0_Weight r54) fun r62 =>
 bif (!decide (r62.2.2 = 0)) then (
 some (0, [], r62.2.2)) else (
 Option.bind (iterN (fun s : Int × Int => leastcode_Least_l1 N r62 s.1 s.2) N (0, 0)) fun r123 =>
 some (r123, r62.2.1, 0)))

noncomputable def code_Is (N : Nat) (a0 : Int) (a1 : Int) (a2 : Int) : Option (Bool) :=
 Option.bind (code_form N a1 a2) fun r1 =>
 Option.bind (gO r1 (code_in N a0 0 4095)) fun r9 =>
 Option.bind (gO (r1 && r9) (code_missed N a1)) fun r19 =>
 Option.bind (gO (r1 && r9) (andN 63 a0 r19)) fun x26 =>
 Option.bind (gO (r1 && r9) (code_missed N a1)) fun r31 =>
 Option.bind (gO ((r1 && r9) && decide (x26 = r31)) (shr_i64 a0 a1)) fun x42 =>
 Option.bind (gO ((r1 && r9) && decide (x26 = r31)) (code_ones N x42)) fun r46 =>
 some (((r1 && r9) && decide (x26 = r31)) && decide (r46 ≤ a2))

noncomputable def rollin_Valid_l1 (N : Nat) (a0_Items : List T_Item) (a0_Weight : Int) (a1_Steps : Int) (a1_Codes : List Int) (i166 : Int) : Option ((Int) ⊕ (Int ⊕ Unit)) :=
 bif decide (i166 < (List.length a1_Codes : Int)) then (
 Option.bind (idx a1_Codes i166) fun x181 =>
 Option.bind (idx a0_Items i166) fun x224 =>
 Option.bind (code_Is N x181 x224.Round a0_Weight) fun r227 =>
 Option.bind (gO (!(!r227)) (shr_i64 x181 a1_Steps)) fun x237 =>
 bif ((!r227) || (!decide (x237 = 0))) then (
 some (.inr (Sum.inl 1))) else (
 Option.bind (in64 (i166 + 1)) fun x244 =>
 some (.inl x244))) else (
 some (.inr (Sum.inr ())))

noncomputable def rollin_Valid (N : Nat) (a0_Items : List T_Item) (a0_Weight : Int) (a1_Steps : Int) (a1_Codes : List Int) : Option (Int) :=
 Option.bind (job_Valid N a0_Items a0_Weight) fun r7 =>
 bif (!decide (r7 = 0)) then (
 some r7) else (
 bif ((decide (a1_Steps < 0) || decide (12 < a1_Steps)) || (!decide ((List.length a1_Codes : Int) = (List.length a0_Items : Int)))) then (
 some 1) else (
 Option.bind (iterN (fun s : Int => rollin_Valid_l1 N a0_Items a0_Weight a1_Steps a1_Codes s) N 0) fun r173 =>
 match r173 with
 | .inl p251 => (
 some p251)
 | .inr p254 => (
 some 0)))

noncomputable def rollin_start_l5 (N : Nat) (x955 : T_Item) (l1017 : List (List Int)) : Option ((List (List Int)) ⊕ (List (List Int))) :=
 bif decide ((List.length l1017 : Int) ≤ x955.Train) then (
 Option.bind (app 24 l1017 ([[]])) fun l1042 =>
 some (.inl l1042)) else (
 some (.inr l1017))

noncomputable def rollin_start_l4 (N : Nat) (a0_Items : List T_Item) (i939 : Int) (l940 : List (List Int)) : Option ((Int × List (List Int)) ⊕ (List (List Int))) :=
 bif decide (i939 < (List.length a0_Items : Int)) then (
 Option.bind (idx a0_Items i939) fun x955 =>
 Option.bind (iterN (fun s : List (List Int) => rollin_start_l5 N x955 s) N l940) fun r1026 =>
 Option.bind (in64 (i939 + 1)) fun x1059 =>
 some (.inl (x1059, r1026))) else (
 some (.inr l940))

noncomputable def rollin_start (N : Nat) (a0_Items : List T_Item) (a0_Weight : Int) (a1_Steps : Int) (a1_Codes : List Int) : Option (Int × Int × List (List Int) × List (List Int) × Int × Int) :=
 Option.bind (mkL 24 a1_Steps ([] : List Int)) fun l564 =>
 Option.bind (iterN (fun s : Int × List (List Int) => rollin_start_l4 N a0_Items s.1 s.2) N (0, [])) fun r949 =>
 some (a0_Weight, a1_Steps, l564, r949, 0, 0)

noncomputable def machine_push_l1 (N : Nat) (a0_p_Steps : Int) (a0_p_Codes : List Int) (a0_steps : List (List Int)) (a0_trains : List (List Int)) (a1 : Int) (x397 : Int) (i593 : Int) : Option ((Int) ⊕ ((List (List Int) × List (List Int) × Int) ⊕ Unit)) :=
 bif decide (i593 < a0_p_Steps) then (
 Option.bind (idx a0_p_Codes a1) fun x608 =>
 Option.bind (shr_i64 x608 i593) fun x611 =>
 Option.bind (andN 63 x611 1) fun x614 =>
 bif decide (x614 = 1) then (
 Option.bind (idx a0_steps i593) fun x673 =>
 Option.bind (app 8 x673 ([a1])) fun l683 =>
 some (.inr (Sum.inl ((List.set a0_steps (Int.toNat i593) l683), a0_trains, x397)))) else (
 Option.bind (in64 (i593 + 1)) fun x698 =>
 some (.inl x698))) else (
 some (.inr (Sum.inr ())))

noncomputable def machine_push (N : Nat) (a0_j_Items : List T_Item) (a0_j_Weight : Int) (a0_p_Steps : Int) (a0_p_Codes : List Int) (a0_steps : List (List Int)) (a0_trains : List (List Int)) (a0_moves : Int) (a0_pushes : Int) (a1 : Int) (a2 : Int) : Option (List (List Int) × List (List Int) × Int) :=
 Option.bind (in64 (a0_moves + 1)) fun x397 =>
 Option.bind (iterN (fun s : Int => machine_push_l1 N a0_p_Steps a0_p_Codes a0_steps a0_trains a1 x397 s) N a2) fun r600 =>
 match r600 with
 | .inl p705 => (
 some p705)
 | .inr p708 => (
 Option.bind (idx a0_j_Items a1) fun x711 =>
 Option.bind (idx a0_trains x711.Train) fun x768 =>
 Option.bind (app 8 x768 ([a1])) fun l778 =>
 some (a0_steps, (List.set a0_trains (Int.toNat x711.Train) l778), x397))

noncomputable def machine_at_l2 (N : Nat) (a0_j_Items : List T_Item) (a0_j_Weight : Int) (a0_p_Steps : Int) (a0_p_Codes : List Int) (a0_pushes : Int) (a1 : Int) (x511 : List Int) (i580 : Int) (l581 : List (List Int)) (l584 : List (List Int)) (i587 : Int) : Option ((Int × List (List Int) × List (List Int) × Int) ⊕ (List (List Int) × List (List Int) × Int)) :=
 bif decide (i580 < (List.length x511 : Int)) then (
 Option.bind (idx x511 i580) fun x600 =>
 Option.bind (machine_push N a0_j_Items a0_j_Weight a0_p_Steps a0_p_Codes l581 l584 i587 a0_pushes x600 a1) fun r605 =>
 Option.bind (in64 (i580 + 1)) fun x614 =>
 some (.inl (x614, r605.1, r605.2.1, r605.2.2))) else (
 some (.inr (l581, l584, i587)))

noncomputable def machine_at_l3 (N : Nat) (a0_j_Items : List T_Item) (a0_j_Weight : Int) (a0_p_Steps : Int) (a0_p_Codes : List Int) (a0_pushes : Int) (a1 : Int) (i700 : Int) (l701 : List (List Int)) (l704 : List (List Int)) (i707 : Int) : Option ((Int × List (List Int) × List (List Int) × Int) ⊕ (List (List Int) × List (List Int) × Int)) :=
 bif decide (i700 < (List.length a0_j_Items : Int)) then (
 Option.bind (idx a0_j_Items i700) fun x720 =>
 bif decide (x720.Round = a1) then (
 Option.bind (machine_push N a0_j_Items a0_j_Weight a0_p_Steps a0_p_Codes l701 l704 i707 a0_pushes i700 a1) fun r732 =>
 Option.bind (in64 (i700 + 1)) fun x741 =>
 some (.inl (x741, r732.1, r732.2.1, r732.2.2))) else (
 Option.bind (in64 (i700 + 1)) fun x744 =>
 some (.inl (x744, l701, l704, i707)))) else (
 some (.inr (l701, l704, i707)))

noncomputable def machine_at (N : Nat) (a0_j_Items : List T_Item) (a0_j_Weight : Int) (a0_p_Steps : Int) (a0_p_Codes : List Int) (a0_steps : List (List Int)) (a0_trains : List (List Int)) (a0_moves : Int) (a0_pushes : Int) (a1 : Int) : Option (List (List Int) × List (List Int) × Int × Int) :=
 Option.bind (
 bif decide (0 < a1) then (
 Option.bind (in64 (a1 - 1)) fun x508 =>
 Option.bind (idx a0_steps x508) fun x511 =>
 Option.bind (iterN (fun s : Int × List (List Int) × List (List Int) × Int => machine_at_l2 N a0_j_Items a0_j_Weight a0_p_Steps a0_p_Codes a0_pushes a1 x511 s.1 s.2.1 s.2.2.1 s.2.2.2) N (0, (List.set a0_steps (Int.toNat x508) []), a0_trains, a0_moves)) fun r594 =>
 some (r594.1, r594.2.1, r594.2.2)) else (
 some (a0_steps, a0_trains, a0_moves))) fun j503 =>
 Option.bind (iterN (fun s : Int × List (List Int) × List (List Int) × Int => machine_at_l3 N a0_j_Items a0_j_Weight a0_p_Steps a0_p_Codes a0_pushes a1 s.1 s.2.1 s.2.2.1 s.2.2.2) N (0, j503.1, j503.2.1, j503.2.2)) fun r714 =>
 bif decide (a0_moves < r714.2.2) then (
 Option.bind (in64 (a0_pushes + 1)) fun x754 =>
 some (r714.1, r714.2.1, r714.2.2, x754)) else (
 some (r714.1, r714.2.1, r714.2.2, a0_pushes))

noncomputable def rollin_run_l1 (N : Nat) (a0_Items : List T_Item) (a1_Codes : List Int) (a2 : Int) (r116 : Int × Int × List (List Int) × List (List Int) × Int × Int) (i178 : Int) (i179 : Int) (i180 : Int) (l181 : List (List Int)) (l184 : List (List Int)) : Option ((Int × Int × Int × List (List Int) × List (List Int)) ⊕ (Int × Int × List (List Int) × List (List Int))) :=
 bif decide (i178 ≤ a2) then (
 Option.bind (machine_at N a0_Items r116.1 r116.2.1 a1_Codes l181 l184 i179 i180 i178) fun r200 =>
 Option.bind (in64 (i178 + 1)) fun x211 =>
 some (.inl (x211, r200.2.2.1, r200.2.2.2, r200.1, r200.2.1))) else (
 some (.inr (i179, i180, l181, l184)))

noncomputable def rollin_run (N : Nat) (a0_Items : List T_Item) (a0_Weight : Int) (a1_Steps : Int) (a1_Codes : List Int) (a2 : Int) : Option (Int × Int × List (List Int) × List (List Int) × Int × Int) :=
 Option.bind (rollin_start N a0_Items a0_Weight a1_Steps a1_Codes) fun r116 =>
 Option.bind (iterN (fun s : Int × Int × Int × List (List Int) × List (List Int) => rollin_run_l1 N a0_Items a1_Codes a2 r116 s.1 s.2.1 s.2.2.1 s.2.2.2.1 s.2.2.2.2) N (0, r116.2.2.2.2.1, r116.2.2.2.2.2, r116.2.2.1, r116.2.2.2.1)) fun r193 =>
 some (r116.1, r116.2.1, r193.2.2.1, r193.2.2.2, r193.1, r193.2.1)

noncomputable def rollin_Run (N : Nat) (a0_Items : List T_Item) (a0_Weight : Int) (a1_Steps : Int) (a1_Codes : List Int) : Option (List (List Int) × Int × Int) :=
 Option.bind (rollin_Valid N a0_Items a0_Weight a1_Steps a1_Codes) fun r10 =>
 bif (!decide (r10 = 0)) then (
 some ([], 0, r10)) else (
 Option.bind (rollin_run N a0_Items a0_Weight a1_Steps a1_Codes a1_Steps) fun r22 =>
 some (r22.2.2.2.1, r22.2.2.2.2.1, 0))

noncomputable def rollin_Pushes (N : Nat) (a0_Items : List T_Item) (a0_Weight : Int) (a1_Steps : Int) (a1_Codes : List Int) : Option (Int × Int) :=
 Option.bind (rollin_Valid N a0_Items a0_Weight a1_Steps a1_Codes) fun r7 =>
 bif (!decide (r7 = 0)) then (
 some (0, r7)) else (
 Option.bind (rollin_run N a0_Items a0_Weight a1_Steps a1_Codes a1_Steps) fun r15 =>
 some (r15.2.2.2.2.2, 0))

noncomputable def planner_scheme (N : Nat) (a0 : List T_Item) (a1 : Int) : Option (T_Scheme × Int × List Int × Bool) :=
 Option.bind (leastcode_Least N a0 a1) fun r12 =>
 bif (!decide (r12.2.2 = 0)) then (
 some ((T_Scheme.mk 0 0 0 0), 0, [], false)) else (
 Option.bind (rollin_Run N a0 a1 r12.1 r12.2.1) fun r31 =>
 bif (!decide (r31.2.2 = 0)) then (
 some ((T_Scheme.mk 0 0 0 0), 0, [], false)) else (
 Option.bind (rollin_Pushes N a0 a1 r12.1 r12.2.1) fun r51 =>
 some ((T_Scheme.mk a1 r12.1 r31.2.1 r51.1), r12.1, r12.2.1, true)))

noncomputable def g_cmp_Or_int_l1 (N : Nat) (a0 : List Int) (i22 : Int) : Option ((Int) ⊕ (Int ⊕ Unit)) :=
 bif decide (i22 < (List.length a0 : Int)) then (
 Option.bind (idx a0 i22) fun x37 =>
 bif (!decide (x37 = 0)) then (
 some (.inr (Sum.inl x37))) else (
 Option.bind (in64 (i22 + 1)) fun x42 =>
 some (.inl x42))) else (
 some (.inr (Sum.inr ())))

noncomputable def g_cmp_Or_int (N : Nat) (a0 : List Int) : Option (Int) :=
 Option.bind (iterN (fun s : Int => g_cmp_Or_int_l1 N a0 s) N 0) fun r29 =>
 match r29 with
 | .inl p49 => (
 some p49)
 | .inr p52 => (
 some 0)

noncomputable def planner_Schemes_1 (N : Nat) (a0 : T_Scheme) (a1 : T_Scheme) : Option (Int) :=
 Option.bind (in64 (a0.Steps - a1.Steps)) fun x7 =>
 Option.bind (in64 (a0.Moves - a1.Moves)) fun x10 =>
 Option.bind (in64 (a0.Weight - a1.Weight)) fun x13 =>
 Option.bind (g_cmp_Or_int N ([x7, x10, x13])) fun r19 =>
 some r19

noncomputable def g_slices_insertionSortCmpFunc_api_Scheme_l4 (N : Nat) (a1 : Int) (i978 : Int) (l979 : List T_Scheme) : Option ((Int × List T_Scheme) ⊕ (List T_Scheme)) :=
 Option.bind (gO (decide (a1 < i978)) (idx l979 i978)) fun x1026 =>
 Option.bind (gO (decide (a1 < i978)) (in64 (i978 - 1))) fun x1033 =>
 Option.bind (gO (decide (a1 < i978)) (idx l979 x1033)) fun x1037 =>
 Option.bind (gO (decide (a1 < i978)) (planner_Schemes_1 N x1026 x1037)) fun r1042 =>
 bif (decide (a1 < i978) && decide (r1042 < 0)) then (
 Option.bind (in64 (i978 - 1)) fun x1078 =>
 Option.bind (in64 (i978 - 1)) fun x1081 =>
 Option.bind (idx l979 x1081) fun x1084 =>
 Option.bind (idx l979 i978) fun x1087 =>
 Option.bind (idx l979 i978) fun x1090 =>
 Option.bind (idx (List.set l979 (Int.toNat i978) x1084) x1078) fun x1095 =>
 Option.bind (in64 (i978 - 1)) fun x1100 =>
 some (.inl (x1100, (List.set (List.set l979 (Int.toNat i978) x1084) (Int.toNat x1078) x1087)))) else (
 some (.inr l979))

noncomputable def g_slices_insertionSortCmpFunc_api_Scheme_l3 (N : Nat) (a1 : Int) (a2 : Int) (i735 : Int) (l736 : List T_Scheme) : Option ((Int × List T_Scheme) ⊕ (List T_Scheme)) :=
 bif decide (i735 < a2) then (
 Option.bind (iterN (fun s : Int × List T_Scheme => g_slices_insertionSortCmpFunc_api_Scheme_l4 N a1 s.1 s.2) N (i735, l736)) fun r986 =>
 Option.bind (in64 (i735 + 1)) fun x1108 =>
 some (.inl (x1108, r986))) else (
 some (.inr l736))

noncomputable def g_slices_insertionSortCmpFunc_api_Scheme (N : Nat) (a0 : List T_Scheme) (a1 : Int) (a2 : Int) : Option (List T_Scheme) :=
 Option.bind (in64 (a1 + 1)) fun x1 =>
 Option.bind (iterN (fun s : Int × List T_Scheme => g_slices_insertionSortCmpFunc_api_Scheme_l3 N a1 a2 s.1 s.2) N (x1, a0)) fun r743 =>
 some r743

noncomputable def g_slices_swapRangeCmpFunc_api_Scheme_l1 (N : Nat) (a1 : Int) (a2 : Int) (a3 : Int) (i134 : Int) (l135 : List T_Scheme) : Option ((Int × List T_Scheme) ⊕ (List T_Scheme)) :=
 bif decide (i134 < a3) then (
 Option.bind (in64 (a1 + i134)) fun x180 =>
 Option.bind (in64 (a2 + i134)) fun x183 =>
 Option.bind (in64 (a2 + i134)) fun x186 =>
 Option.bind (idx l135 x186) fun x189 =>
 Option.bind (in64 (a1 + i134)) fun x192 =>
 Option.bind (idx l135 x192) fun x195 =>
 Option.bind (idx l135 x180) fun x198 =>
 Option.bind (idx (List.set l135 (Int.toNat x180) x189) x183) fun x203 =>
 Option.bind (in64 (i134 + 1)) fun x208 =>
 some (.inl (x208, (List.set (List.set l135 (Int.toNat x180) x189) (Int.toNat x183) x195)))) else (
 some (.inr l135))

noncomputable def g_slices_swapRangeCmpFunc_api_Scheme (N : Nat) (a0 : List T_Scheme) (a1 : Int) (a2 : Int) (a3 : Int) : Option (List T_Scheme) :=
 Option.bind (iterN (fun s : Int × List T_Scheme => g_slices_swapRangeCmpFunc_api_Scheme_l1 N a1 a2 a3 s.1 s.2) N (0, a0)) fun r142 =>
 some r142

noncomputable def g_slices_rotateCmpFunc_api_Scheme_l1 (N : Nat) (a2 : Int) (i80 : Int) (i81 : Int) (l82 : List T_Scheme) : Option ((Int × Int × List T_Scheme) ⊕ (Int × List T_Scheme)) :=
 bif (!decide (i80 = i81)) then (
 bif decide (i81 < i80) then (
 Option.bind (in64 (a2 - i80)) fun x97 =>
 Option.bind (g_slices_swapRangeCmpFunc_api_Scheme N l82 x97 a2 i81) fun r100 =>
 Option.bind (in64 (i80 - i81)) fun x106 =>
 some (.inl (x106, i81, r100))) else (
 Option.bind (in64 (a2 - i80)) fun x109 =>
 Option.bind (in64 (a2 + i81)) fun x112 =>
 Option.bind (in64 (x112 - i80)) fun x115 =>
 Option.bind (g_slices_swapRangeCmpFunc_api_Scheme N l82 x109 x115 i80) fun r118 =>
 Option.bind (in64 (i81 - i80)) fun x124 =>
 some (.inl (i80, x124, r118)))) else (
 some (.inr (i80, l82)))

noncomputable def g_slices_rotateCmpFunc_api_Scheme (N : Nat) (a0 : List T_Scheme) (a1 : Int) (a2 : Int) (a3 : Int) : Option (List T_Scheme) :=
 Option.bind (in64 (a2 - a1)) fun x1 =>
 Option.bind (in64 (a3 - a2)) fun x4 =>
 Option.bind (iterN (fun s : Int × Int × List T_Scheme => g_slices_rotateCmpFunc_api_Scheme_l1 N a2 s.1 s.2.1 s.2.2) N (x1, x4, a0)) fun r89 =>
 Option.bind (in64 (a2 - r89.1)) fun x132 =>
 Option.bind (g_slices_swapRangeCmpFunc_api_Scheme N r89.2 x132 a2 r89.1) fun r135 =>
 some r135

noncomputable def g_slices_symMergeCmpFunc_api_Scheme_l1 (N : Nat) (a0 : List T_Scheme) (a1 : Int) (i97 : Int) (i98 : Int) : Option ((Int × Int) ⊕ (Int)) :=
 bif decide (i97 < i98) then (
 Option.bind (in64 (i97 + i98)) fun x111 =>
 Option.bind (shr_u64 (x111 % 18446744073709551616) 1) fun x114 =>
 Option.bind (in64 x114) fun x117 =>
 Option.bind (idx a0 x117) fun x136 =>
 Option.bind (idx a0 a1) fun x139 =>
 Option.bind (planner_Schemes_1 N x136 x139) fun r142 =>
 bif decide (r142 < 0) then (
 Option.bind (in64 (x117 + 1)) fun x150 =>
 some (.inl (x150, i98))) else (
 some (.inl (i97, x117)))) else (
 some (.inr i97))

noncomputable def g_slices_symMergeCmpFunc_api_Scheme_l2 (N : Nat) (r105 : Int) (i273 : Int) (l274 : List T_Scheme) : Option ((Int × List T_Scheme) ⊕ (List T_Scheme)) :=
 Option.bind (in64 (r105 - 1)) fun x285 =>
 bif decide (i273 < x285) then (
 Option.bind (in64 (i273 + 1)) fun x316 =>
 Option.bind (in64 (i273 + 1)) fun x319 =>
 Option.bind (idx l274 x319) fun x322 =>
 Option.bind (idx l274 i273) fun x325 =>
 Option.bind (idx l274 i273) fun x328 =>
 Option.bind (idx (List.set l274 (Int.toNat i273) x322) x316) fun x333 =>
 Option.bind (in64 (i273 + 1)) fun x338 =>
 some (.inl (x338, (List.set (List.set l274 (Int.toNat i273) x322) (Int.toNat x316) x325)))) else (
 some (.inr l274))

noncomputable def g_slices_symMergeCmpFunc_api_Scheme_l3 (N : Nat) (a0 : List T_Scheme) (a2 : Int) (i442 : Int) (i443 : Int) : Option ((Int × Int) ⊕ (Int)) :=
 bif decide (i442 < i443) then (
 Option.bind (in64 (i442 + i443)) fun x456 =>
 Option.bind (shr_u64 (x456 % 18446744073709551616) 1) fun x459 =>
 Option.bind (in64 x459) fun x462 =>
 Option.bind (idx a0 a2) fun x481 =>
 Option.bind (idx a0 x462) fun x484 =>
 Option.bind (planner_Schemes_1 N x481 x484) fun r487 =>
 bif (!decide (r487 < 0)) then (
 Option.bind (in64 (x462 + 1)) fun x495 =>
 some (.inl (x495, i443))) else (
 some (.inl (i442, x462)))) else (
 some (.inr i442))

noncomputable def g_slices_symMergeCmpFunc_api_Scheme_l4 (N : Nat) (r450 : Int) (i612 : Int) (l613 : List T_Scheme) : Option ((Int × List T_Scheme) ⊕ (List T_Scheme)) :=
 bif decide (r450 < i612) then (
 Option.bind (in64 (i612 - 1)) fun x652 =>
 Option.bind (in64 (i612 - 1)) fun x655 =>
 Option.bind (idx l613 x655) fun x658 =>
 Option.bind (idx l613 i612) fun x661 =>
 Option.bind (idx l613 i612) fun x664 =>
 Option.bind (idx (List.set l613 (Int.toNat i612) x658) x652) fun x669 =>
 Option.bind (in64 (i612 - 1)) fun x674 =>
 some (.inl (x674, (List.set (List.set l613 (Int.toNat i612) x658) (Int.toNat x652) x661)))) else (
 some (.inr l613))

noncomputable def g_slices_symMergeCmpFunc_api_Scheme_l5 (N : Nat) (a0 : List T_Scheme) (x714 : Int) (i820 : Int) (i821 : Int) : Option ((Int × Int) ⊕ (Int)) :=
 bif decide (i820 < i821) then (
 Option.bind (in64 (i820 + i821)) fun x834 =>
 Option.bind (shr_u64 (x834 % 18446744073709551616) 1) fun x837 =>
 Option.bind (in64 x837) fun x840 =>
 Option.bind (in64 (x714 - x840)) fun x862 =>
 Option.bind (idx a0 x862) fun x865 =>
 Option.bind (idx a0 x840) fun x868 =>
 Option.bind (planner_Schemes_1 N x865 x868) fun r871 =>
 bif (!decide (r871 < 0)) then (
 Option.bind (in64 (x840 + 1)) fun x879 =>
 some (.inl (x879, i821))) else (
 some (.inl (i820, x840)))) else (
 some (.inr i820))

noncomputable def g_slices_symMergeCmpFunc_api_Scheme_r (N : Nat) : Nat → (List T_Scheme) → Int → Int → Int → Option (List T_Scheme)
 | 0, _, _, _, _ => none
 | M + 1, a0, a1, a2, a3 =>
 Option.bind (in64 (a2 - a1)) fun x1 =>
 bif decide (x1 = 1) then (
 Option.bind (iterN (fun s : Int × Int => g_slices_symMergeCmpFunc_api_Scheme_l1 N a0 a1 s.1 s.2) N (a2, a3)) fun r105 =>
 Option.bind (iterN (fun s : Int × List T_Scheme => g_slices_symMergeCmpFunc_api_Scheme_l2 N r105 s.1 s.2) N (a1, a0)) fun r281 =>
 some r281) else (
 Option.bind (in64 (a3 - a2)) fun x346 =>
 bif decide (x346 = 1) then (
 Option.bind (iterN (fun s : Int × Int => g_slices_symMergeCmpFunc_api_Scheme_l3 N a0 a2 s.1 s.2) N (a1, a2)) fun r450 =>
 Option.bind (iterN (fun s : Int × List T_Scheme => g_slices_symMergeCmpFunc_api_Scheme_l4 N r450 s.1 s.2) N (a2, a0)) fun r620 =>
 some r620) else (
 Option.bind (in64 (a1 + a3)) fun x682 =>
 Option.bind (shr_u64 (x682 % 18446744073709551616) 1) fun x685 =>
 Option.bind (in64 x685) fun x688 =>
 Option.bind (in64 (x688 + a2)) fun x691 =>
 Option.bind (
 bif decide (x688 < a2) then (
 Option.bind (in64 (x691 - a3)) fun x706 =>
 some (x706, x688)) else (
 some (a1, a2))) fun j701 =>
 Option.bind (in64 (x691 - 1)) fun x714 =>
 Option.bind (iterN (fun s : Int × Int => g_slices_symMergeCmpFunc_api_Scheme_l5 N a0 x714 s.1 s.2) N (j701.1, j701.2)) fun r828 =>
 Option.bind (in64 (x691 - r828)) fun x887 =>
 Option.bind (
 bif (decide (r828 < a2) && decide (a2 < x887)) then (
 Option.bind (g_slices_rotateCmpFunc_api_Scheme N a0 r828 a2 x887) fun r908 =>
 some r908) else (
 some a0)) fun j903 =>
 Option.bind (
 bif (decide (a1 < r828) && decide (r828 < x688)) then (
 Option.bind (g_slices_symMergeCmpFunc_api_Scheme_r N M j903 a1 r828 x688) fun r937 =>
 some r937) else (
 some j903)) fun j932 =>
 bif (decide (x688 < x887) && decide (x887 < a3)) then (
 Option.bind (g_slices_symMergeCmpFunc_api_Scheme_r N M j932 x688 x887 a3) fun r954 =>
 some r954) else (
 some j932)))

noncomputable def g_slices_symMergeCmpFunc_api_Scheme (N : Nat) (a0 : List T_Scheme) (a1 : Int) (a2 : Int) (a3 : Int) : Option (List T_Scheme) := g_slices_symMergeCmpFunc_api_Scheme_r N N a0 a1 a2 a3

noncomputable def g_slices_stableCmpFunc_api_Scheme_l1 (N : Nat) (a1 : Int) (i28 : Int) (i29 : Int) (l30 : List T_Scheme) : Option ((Int × Int × List T_Scheme) ⊕ (Int × List T_Scheme)) :=
 bif decide (i29 ≤ a1) then (
 Option.bind (g_slices_insertionSortCmpFunc_api_Scheme N l30 i28 i29) fun r43 =>
 Option.bind (in64 (i29 + 20)) fun x49 =>
 some (.inl (i29, x49, r43))) else (
 some (.inr (i28, l30)))

noncomputable def g_slices_stableCmpFunc_api_Scheme_l5 (N : Nat) (a1 : Int) (i258 : Int) (i314 : Int) (i315 : Int) (l316 : List T_Scheme) : Option ((Int × Int × List T_Scheme) ⊕ (Int × List T_Scheme)) :=
 bif decide (i315 ≤ a1) then (
 Option.bind (in64 (i314 + i258)) fun x329 =>
 Option.bind (g_slices_symMergeCmpFunc_api_Scheme N l316 i314 x329 i315) fun r332 =>
 Option.bind (in64 (2 * i258)) fun x338 =>
 Option.bind (in64 (i315 + x338)) fun x341 =>
 some (.inl (i315, x341, r332))) else (
 some (.inr (i314, l316)))

noncomputable def g_slices_stableCmpFunc_api_Scheme_l4 (N : Nat) (a1 : Int) (i258 : Int) (l259 : List T_Scheme) : Option ((Int × List T_Scheme) ⊕ (List T_Scheme)) :=
 bif decide (i258 < a1) then (
 Option.bind (in64 (2 * i258)) fun x272 =>
 Option.bind (iterN (fun s : Int × Int × List T_Scheme => g_slices_stableCmpFunc_api_Scheme_l5 N a1 i258 s.1 s.2.1 s.2.2) N (0, x272, l259)) fun r323 =>
 Option.bind (in64 (r323.1 + i258)) fun x349 =>
 bif decide (x349 < a1) then (
 Option.bind (g_slices_symMergeCmpFunc_api_Scheme N r323.2 r323.1 x349 a1) fun r354 =>
 Option.bind (in64 (i258 * 2)) fun x360 =>
 some (.inl (x360, r354))) else (
 Option.bind (in64 (i258 * 2)) fun x363 =>
 some (.inl (x363, r323.2)))) else (
 some (.inr l259))

noncomputable def g_slices_stableCmpFunc_api_Scheme (N : Nat) (a0 : List T_Scheme) (a1 : Int) : Option (List T_Scheme) :=
 Option.bind (iterN (fun s : Int × Int × List T_Scheme => g_slices_stableCmpFunc_api_Scheme_l1 N a1 s.1 s.2.1 s.2.2) N (0, 20, a0)) fun r37 =>
 Option.bind (g_slices_insertionSortCmpFunc_api_Scheme N r37.2 r37.1 a1) fun r57 =>
 Option.bind (iterN (fun s : Int × List T_Scheme => g_slices_stableCmpFunc_api_Scheme_l4 N a1 s.1 s.2) N (20, r57)) fun r266 =>
 some r266

noncomputable def g_slices_SortStableFunc_api_Scheme_api_Scheme (N : Nat) (a0 : List T_Scheme) : Option (List T_Scheme) :=
 Option.bind (g_slices_stableCmpFunc_api_Scheme N a0 (List.length a0 : Int)) fun r1 =>
 some r1

noncomputable def planner_Schemes_l1 (N : Nat) (a0 : List T_Item) (i135 : Int) (l136 : List T_Scheme) : Option ((Int × List T_Scheme) ⊕ (List T_Scheme)) :=
 bif decide (i135 < 4) then (
 Option.bind (idx [0, 1, 2, 12] i135) fun x150 =>
 Option.bind (planner_scheme N a0 x150) fun r153 =>
 bif r153.2.2.2 then (
 Option.bind (app 32 l136 ([r153.1])) fun l175 =>
 Option.bind (in64 (i135 + 1)) fun x181 =>
 some (.inl (x181, l175))) else (
 Option.bind (in64 (i135 + 1)) fun x184 =>
 some (.inl (x184, l136)))) else (
 some (.inr l136))

noncomputable def planner_Schemes (N : Nat) (a0 : List T_Item) : Option (List T_Scheme × Int) :=
 Option.bind (job_Valid N a0 0) fun r1 =>
 bif (!decide (r1 = 0)) then (
 some ([], r1)) else (
 Option.bind (iterN (fun s : Int × List T_Scheme => planner_Schemes_l1 N a0 s.1 s.2) N (0, [])) fun r144 =>
 bif decide ((List.length r144 : Int) = 0) then (
 some ([], 15)) else (
 Option.bind (g_slices_SortStableFunc_api_Scheme_api_Scheme N r144) fun r195 =>
 some (r195, 0)))

noncomputable def g_slices_Clone_api_Item_api_Item (N : Nat) (a0 : List T_Item) : Option (List T_Item) :=
 app 32 [] a0

noncomputable def g_slices_Max_int_int_l1 (N : Nat) (a0 : List Int) (i35 : Int) (i36 : Int) : Option ((Int × Int) ⊕ (Int)) :=
 bif decide (i36 < (List.length a0 : Int)) then (
 Option.bind (idx a0 i36) fun x49 =>
 Option.bind (in64 (i36 + 1)) fun x52 =>
 some (.inl ((max i35 x49), x52))) else (
 some (.inr i35))

noncomputable def g_slices_Max_int_int (N : Nat) (a0 : List Int) : Option (Int) :=
 Option.bind (
 bif decide ((List.length a0 : Int) < 1) then (
 none) else (
 some ())) fun j3 =>
 Option.bind (idx a0 0) fun x13 =>
 Option.bind (iterN (fun s : Int × Int => g_slices_Max_int_int_l1 N a0 s.1 s.2) N (x13, 1)) fun r43 =>
 some r43

noncomputable def g_slices_Index_int_int_l1 (N : Nat) (a0 : List Int) (a1 : Int) (i22 : Int) : Option ((Int) ⊕ (Int ⊕ Unit)) :=
 bif decide (i22 < (List.length a0 : Int)) then (
 Option.bind (idx a0 i22) fun x37 =>
 bif decide (a1 = x37) then (
 some (.inr (Sum.inl i22))) else (
 Option.bind (in64 (i22 + 1)) fun x42 =>
 some (.inl x42))) else (
 some (.inr (Sum.inr ())))

noncomputable def g_slices_Index_int_int (N : Nat) (a0 : List Int) (a1 : Int) : Option (Int) :=
 Option.bind (iterN (fun s : Int => g_slices_Index_int_int_l1 N a0 a1 s) N 0) fun r29 =>
 match r29 with
 | .inl p49 => (
 some p49)
 | .inr p52 => (
 some (-1))

noncomputable def g_slices_Reverse_int_int_l1 (N : Nat) (i84 : Int) (i85 : Int) (l86 : List Int) : Option ((Int × Int × List Int) ⊕ (List Int)) :=
 bif decide (i84 < i85) then (
 Option.bind (idx l86 i85) fun x116 =>
 Option.bind (idx l86 i84) fun x119 =>
 Option.bind (idx (List.set l86 (Int.toNat i84) x116) i85) fun x124 =>
 Option.bind (in64 (i84 + 1)) fun x129 =>
 Option.bind (in64 (i85 - 1)) fun x132 =>
 some (.inl (x129, x132, (List.set (List.set l86 (Int.toNat i84) x116) (Int.toNat i85) x119)))) else (
 some (.inr l86))

noncomputable def g_slices_Reverse_int_int (N : Nat) (a0 : List Int) : Option (List Int) :=
 Option.bind (in64 ((List.length a0 : Int) - 1)) fun x1 =>
 Option.bind (iterN (fun s : Int × Int × List Int => g_slices_Reverse_int_int_l1 N s.1 s.2.1 s.2.2) N (0, x1, a0)) fun r93 =>
 some r93

noncomputable def leastcode_Witness_l4 (N : Nat) (r13 : List (List Int)) (r21 : List Int × List Int × Int) (i533 : Int) (i691 : Int) : Option ((Int) ⊕ (Int)) :=
 bif decide (i691 < (List.length r21.2.1 : Int)) then (
 Option.bind (idx r13 i691) fun x704 =>
 Option.bind (idx x704 i533) fun x709 =>
 Option.bind (gO (decide (0 < x709)) (idx r21.2.1 i691)) fun x744 =>
 Option.bind (gO (decide (0 < x709)) (in64 (x744 + x709))) fun x750 =>
 Option.bind (gO (decide (0 < x709)) (in64 (x750 - 1))) fun x754 =>
 Option.bind (gO (decide (0 < x709)) (idx r21.1 i533)) fun x760 =>
 bif (decide (0 < x709) && decide (x754 = x760)) then (
 some (.inr i691)) else (
 Option.bind (in64 (i691 + 1)) fun x768 =>
 some (.inl x768))) else (
 some (.inr i533))

noncomputable def leastcode_Witness_l3 (N : Nat) (r13 : List (List Int)) (r21 : List Int × List Int × Int) (i533 : Int) (l534 : List Int) : Option ((Int × List Int) ⊕ (List Int)) :=
 Option.bind (idx r21.1 i533) fun x546 =>
 bif decide (0 < x546) then (
 Option.bind (iterN (fun s : Int => leastcode_Witness_l4 N r13 r21 i533 s) N 0) fun r698 =>
 Option.bind (app 8 l534 ([r698])) fun l779 =>
 some (.inl (r698, l779))) else (
 some (.inr l534))

noncomputable def leastcode_Witness (N : Nat) (a0_Items : List T_Item) (a0_Weight : Int) : Option (List Int × Int) :=
 Option.bind (job_Valid N a0_Items a0_Weight) fun r4 =>
 bif (!decide (r4 = 0)) then (
 some ([], r4)) else (
 Option.bind (leastcode_relations N a0_Items a0_Weight) fun r13 =>
 Option.bind (leastcode_solve N a0_Items a0_Weight r13) fun r21 =>
 bif (!decide (r21.2.2 = 0)) then (
 some ([], r21.2.2)) else (
 bif decide ((List.length r21.2.1 : Int) = 0) then (
 some ([], 0)) else (
 Option.bind (g_slices_Max_int_int N r21.2.1) fun r35 =>
 Option.bind (g_slices_Index_int_int N r21.2.1 r35) fun r41 =>
 Option.bind (iterN (fun s : Int × List Int => leastcode_Witness_l3 N r13 r21 s.1 s.2) N (r41, [r41])) fun r542 =>
 Option.bind (g_slices_Reverse_int_int N r542) fun r790 =>
 some (r790, 0))))

noncomputable def certificate_Make (N : Nat) (a0_Items : List T_Item) (a0_Weight : Int) : Option (Int × List Int × List Int × Int) :=
 Option.bind (leastcode_Least N a0_Items a0_Weight) fun r7 =>
 bif (!decide (r7.2.2 = 0)) then (
 some (0, [], [], r7.2.2)) else (
 Option.bind (leastcode_Witness N a0_Items a0_Weight) fun r25 =>
 bif (!decide (r25.2 = 0)) then (
 some (0, [], [], r25.2)) else (
 some (r7.1, r7.2.1, r25.1, 0)))

noncomputable def rollin_Loads_l4 (N : Nat) (a1_Steps : Int) (a1_Codes : List Int) (i435 : Int) (x449 : T_Item) (i538 : Int) (l539 : List Int) : Option ((Int × List Int) ⊕ (List Int)) :=
 bif decide (i538 < a1_Steps) then (
 Option.bind (idx a1_Codes i435) fun x552 =>
 Option.bind (shr_i64 x552 i538) fun x555 =>
 Option.bind (andN 63 x555 1) fun x558 =>
 bif decide (x558 = 1) then (
 Option.bind (idx l539 i538) fun x575 =>
 Option.bind (in64 (x575 + x449.Length)) fun x578 =>
 Option.bind (in64 (i538 + 1)) fun x583 =>
 some (.inl (x583, (List.set l539 (Int.toNat i538) x578)))) else (
 Option.bind (in64 (i538 + 1)) fun x586 =>
 some (.inl (x586, l539)))) else (
 some (.inr l539))

noncomputable def rollin_Loads_l3 (N : Nat) (a0_Items : List T_Item) (a1_Steps : Int) (a1_Codes : List Int) (i435 : Int) (l436 : List Int) : Option ((Int × List Int) ⊕ (List Int)) :=
 bif decide (i435 < (List.length a0_Items : Int)) then (
 Option.bind (idx a0_Items i435) fun x449 =>
 Option.bind (iterN (fun s : Int × List Int => rollin_Loads_l4 N a1_Steps a1_Codes i435 x449 s.1 s.2) N (x449.Round, l436)) fun r546 =>
 Option.bind (in64 (a1_Steps + x449.Train)) fun x609 =>
 Option.bind (idx r546 x609) fun x612 =>
 Option.bind (in64 (x612 + x449.Length)) fun x615 =>
 Option.bind (in64 (i435 + 1)) fun x620 =>
 some (.inl (x620, (List.set r546 (Int.toNat x609) x615)))) else (
 some (.inr l436))

noncomputable def rollin_Loads (N : Nat) (a0_Items : List T_Item) (a0_Weight : Int) (a1_Steps : Int) (a1_Codes : List Int) : Option (List Int × Int) :=
 Option.bind (rollin_Valid N a0_Items a0_Weight a1_Steps a1_Codes) fun r7 =>
 bif (!decide (r7 = 0)) then (
 some ([], r7)) else (
 Option.bind (rollin_start N a0_Items a0_Weight a1_Steps a1_Codes) fun r60 =>
 Option.bind (in64 (a1_Steps + (List.length r60.2.2.2.1 : Int))) fun x71 =>
 Option.bind (mkL 8 x71 0) fun l74 =>
 Option.bind (iterN (fun s : Int × List Int => rollin_Loads_l3 N a0_Items a1_Steps a1_Codes s.1 s.2) N (0, l74)) fun r443 =>
 some (r443, 0))

noncomputable def assign_check_l1 (N : Nat) (a0 : List Int) (i34 : Int) : Option ((Int) ⊕ (Int ⊕ Unit)) :=
 bif decide (i34 < (List.length a0 : Int)) then (
 Option.bind (idx a0 i34) fun x49 =>
 bif (decide (x49 < 0) || decide (38400 < x49)) then (
 some (.inr (Sum.inl 2))) else (
 Option.bind (in64 (i34 + 1)) fun x57 =>
 some (.inl x57))) else (
 some (.inr (Sum.inr ())))

noncomputable def assign_check_l2 (N : Nat) (a1 : List Int) (i97 : Int) : Option ((Int) ⊕ (Int ⊕ Unit)) :=
 bif decide (i97 < (List.length a1 : Int)) then (
 Option.bind (idx a1 i97) fun x112 =>
 bif (decide (x112 < 1) || decide (38400 < x112)) then (
 some (.inr (Sum.inl 2))) else (
 Option.bind (in64 (i97 + 1)) fun x120 =>
 some (.inl x120))) else (
 some (.inr (Sum.inr ())))

noncomputable def assign_check (N : Nat) (a0 : List Int) (a1 : List Int) : Option (Int) :=
 bif (decide (32 < (List.length a0 : Int)) || decide (32 < (List.length a1 : Int))) then (
 some 3) else (
 Option.bind (iterN (fun s : Int => assign_check_l1 N a0 s) N 0) fun r41 =>
 match r41 with
 | .inl p64 => (
 some p64)
 | .inr p67 => (
 Option.bind (iterN (fun s : Int => assign_check_l2 N a1 s) N 0) fun r104 =>
 match r104 with
 | .inl p127 => (
 some p127)
 | .inr p130 => (
 some 0)))

noncomputable def assign_order_1 (N : Nat) (a0 : Int) (a1 : Int) (a2 : List (List Int)) : Option (Int) :=
 Option.bind (idx a2 0) fun x1 =>
 Option.bind (idx x1 a1) fun x23 =>
 Option.bind (idx x1 a0) fun x28 =>
 Option.bind (in64 (x23 - x28)) fun x31 =>
 some x31

noncomputable def g_slices_insertionSortCmpFunc_int_l4 (N : Nat) (a1 : Int) (a3 : List (List Int)) (i978 : Int) (l979 : List Int) : Option ((Int × List Int) ⊕ (List Int)) :=
 Option.bind (gO (decide (a1 < i978)) (idx l979 i978)) fun x1026 =>
 Option.bind (gO (decide (a1 < i978)) (in64 (i978 - 1))) fun x1033 =>
 Option.bind (gO (decide (a1 < i978)) (idx l979 x1033)) fun x1037 =>
 Option.bind (gO (decide (a1 < i978)) (assign_order_1 N x1026 x1037 a3)) fun r1042 =>
 bif (decide (a1 < i978) && decide (r1042 < 0)) then (
 Option.bind (in64 (i978 - 1)) fun x1078 =>
 Option.bind (in64 (i978 - 1)) fun x1081 =>
 Option.bind (idx l979 x1081) fun x1084 =>
 Option.bind (idx l979 i978) fun x1087 =>
 Option.bind (idx l979 i978) fun x1090 =>
 Option.bind (idx (List.set l979 (Int.toNat i978) x1084) x1078) fun x1095 =>
 Option.bind (in64 (i978 - 1)) fun x1100 =>
 some (.inl (x1100, (List.set (List.set l979 (Int.toNat i978) x1084) (Int.toNat x1078) x1087)))) else (
 some (.inr l979))

noncomputable def g_slices_insertionSortCmpFunc_int_l3 (N : Nat) (a1 : Int) (a2 : Int) (a3 : List (List Int)) (i735 : Int) (l736 : List Int) : Option ((Int × List Int) ⊕ (List Int)) :=
 bif decide (i735 < a2) then (
 Option.bind (iterN (fun s : Int × List Int => g_slices_insertionSortCmpFunc_int_l4 N a1 a3 s.1 s.2) N (i735, l736)) fun r986 =>
 Option.bind (in64 (i735 + 1)) fun x1108 =>
 some (.inl (x1108, r986))) else (
 some (.inr l736))

noncomputable def g_slices_insertionSortCmpFunc_int (N : Nat) (a0 : List Int) (a1 : Int) (a2 : Int) (a3 : List (List Int)) : Option (List Int) :=
 Option.bind (in64 (a1 + 1)) fun x1 =>
 Option.bind (iterN (fun s : Int × List Int => g_slices_insertionSortCmpFunc_int_l3 N a1 a2 a3 s.1 s.2) N (x1, a0)) fun r743 =>
 some r743

noncomputable def g_slices_swapRangeCmpFunc_int_l1 (N : Nat) (a1 : Int) (a2 : Int) (a3 : Int) (i134 : Int) (l135 : List Int) : Option ((Int × List Int) ⊕ (List Int)) :=
 bif decide (i134 < a3) then (
 Option.bind (in64 (a1 + i134)) fun x180 =>
 Option.bind (in64 (a2 + i134)) fun x183 =>
 Option.bind (in64 (a2 + i134)) fun x186 =>
 Option.bind (idx l135 x186) fun x189 =>
 Option.bind (in64 (a1 + i134)) fun x192 =>
 Option.bind (idx l135 x192) fun x195 =>
 Option.bind (idx l135 x180) fun x198 =>
 Option.bind (idx (List.set l135 (Int.toNat x180) x189) x183) fun x203 =>
 Option.bind (in64 (i134 + 1)) fun x208 =>
 some (.inl (x208, (List.set (List.set l135 (Int.toNat x180) x189) (Int.toNat x183) x195)))) else (
 some (.inr l135))

noncomputable def g_slices_swapRangeCmpFunc_int (N : Nat) (a0 : List Int) (a1 : Int) (a2 : Int) (a3 : Int) (a4 : List (List Int)) : Option (List Int) :=
 Option.bind (iterN (fun s : Int × List Int => g_slices_swapRangeCmpFunc_int_l1 N a1 a2 a3 s.1 s.2) N (0, a0)) fun r142 =>
 some r142

noncomputable def g_slices_rotateCmpFunc_int_l1 (N : Nat) (a2 : Int) (a4 : List (List Int)) (i80 : Int) (i81 : Int) (l82 : List Int) : Option ((Int × Int × List Int) ⊕ (Int × List Int)) :=
 bif (!decide (i80 = i81)) then (
 bif decide (i81 < i80) then (
 Option.bind (in64 (a2 - i80)) fun x97 =>
 Option.bind (g_slices_swapRangeCmpFunc_int N l82 x97 a2 i81 a4) fun r100 =>
 Option.bind (in64 (i80 - i81)) fun x106 =>
 some (.inl (x106, i81, r100))) else (
 Option.bind (in64 (a2 - i80)) fun x109 =>
 Option.bind (in64 (a2 + i81)) fun x112 =>
 Option.bind (in64 (x112 - i80)) fun x115 =>
 Option.bind (g_slices_swapRangeCmpFunc_int N l82 x109 x115 i80 a4) fun r118 =>
 Option.bind (in64 (i81 - i80)) fun x124 =>
 some (.inl (i80, x124, r118)))) else (
 some (.inr (i80, l82)))

noncomputable def g_slices_rotateCmpFunc_int (N : Nat) (a0 : List Int) (a1 : Int) (a2 : Int) (a3 : Int) (a4 : List (List Int)) : Option (List Int) :=
 Option.bind (in64 (a2 - a1)) fun x1 =>
 Option.bind (in64 (a3 - a2)) fun x4 =>
 Option.bind (iterN (fun s : Int × Int × List Int => g_slices_rotateCmpFunc_int_l1 N a2 a4 s.1 s.2.1 s.2.2) N (x1, x4, a0)) fun r89 =>
 Option.bind (in64 (a2 - r89.1)) fun x132 =>
 Option.bind (g_slices_swapRangeCmpFunc_int N r89.2 x132 a2 r89.1 a4) fun r135 =>
 some r135

noncomputable def g_slices_symMergeCmpFunc_int_l1 (N : Nat) (a0 : List Int) (a1 : Int) (a4 : List (List Int)) (i97 : Int) (i98 : Int) : Option ((Int × Int) ⊕ (Int)) :=
 bif decide (i97 < i98) then (
 Option.bind (in64 (i97 + i98)) fun x111 =>
 Option.bind (shr_u64 (x111 % 18446744073709551616) 1) fun x114 =>
 Option.bind (in64 x114) fun x117 =>
 Option.bind (idx a0 x117) fun x136 =>
 Option.bind (idx a0 a1) fun x139 =>
 Option.bind (assign_order_1 N x136 x139 a4) fun r142 =>
 bif decide (r142 < 0) then (
 Option.bind (in64 (x117 + 1)) fun x150 =>
 some (.inl (x150, i98))) else (
 some (.inl (i97, x117)))) else (
 some (.inr i97))

noncomputable def g_slices_symMergeCmpFunc_int_l2 (N : Nat) (r105 : Int) (i273 : Int) (l274 : List Int) : Option ((Int × List Int) ⊕ (List Int)) :=
 Option.bind (in64 (r105 - 1)) fun x285 =>
 bif decide (i273 < x285) then (
 Option.bind (in64 (i273 + 1)) fun x316 =>
 Option.bind (in64 (i273 + 1)) fun x319 =>
 Option.bind (idx l274 x319) fun x322 =>
 Option.bind (idx l274 i273) fun x325 =>
 Option.bind (idx l274 i273) fun x328 =>
 Option.bind (idx (List.set l274 (Int.toNat i273) x322) x316) fun x333 =>
 Option.bind (in64 (i273 + 1)) fun x338 =>
 some (.inl (x338, (List.set (List.set l274 (Int.toNat i273) x322) (Int.toNat x316) x325)))) else (
 some (.inr l274))

noncomputable def g_slices_symMergeCmpFunc_int_l3 (N : Nat) (a0 : List Int) (a2 : Int) (a4 : List (List Int)) (i442 : Int) (i443 : Int) : Option ((Int × Int) ⊕ (Int)) :=
 bif decide (i442 < i443) then (
 Option.bind (in64 (i442 + i443)) fun x456 =>
 Option.bind (shr_u64 (x456 % 18446744073709551616) 1) fun x459 =>
 Option.bind (in64 x459) fun x462 =>
 Option.bind (idx a0 a2) fun x481 =>
 Option.bind (idx a0 x462) fun x484 =>
 Option.bind (assign_order_1 N x481 x484 a4) fun r487 =>
 bif (!decide (r487 < 0)) then (
 Option.bind (in64 (x462 + 1)) fun x495 =>
 some (.inl (x495, i443))) else (
 some (.inl (i442, x462)))) else (
 some (.inr i442))

noncomputable def g_slices_symMergeCmpFunc_int_l4 (N : Nat) (r450 : Int) (i612 : Int) (l613 : List Int) : Option ((Int × List Int) ⊕ (List Int)) :=
 bif decide (r450 < i612) then (
 Option.bind (in64 (i612 - 1)) fun x652 =>
 Option.bind (in64 (i612 - 1)) fun x655 =>
 Option.bind (idx l613 x655) fun x658 =>
 Option.bind (idx l613 i612) fun x661 =>
 Option.bind (idx l613 i612) fun x664 =>
 Option.bind (idx (List.set l613 (Int.toNat i612) x658) x652) fun x669 =>
 Option.bind (in64 (i612 - 1)) fun x674 =>
 some (.inl (x674, (List.set (List.set l613 (Int.toNat i612) x658) (Int.toNat x652) x661)))) else (
 some (.inr l613))

noncomputable def g_slices_symMergeCmpFunc_int_l5 (N : Nat) (a0 : List Int) (a4 : List (List Int)) (x714 : Int) (i820 : Int) (i821 : Int) : Option ((Int × Int) ⊕ (Int)) :=
 bif decide (i820 < i821) then (
 Option.bind (in64 (i820 + i821)) fun x834 =>
 Option.bind (shr_u64 (x834 % 18446744073709551616) 1) fun x837 =>
 Option.bind (in64 x837) fun x840 =>
 Option.bind (in64 (x714 - x840)) fun x862 =>
 Option.bind (idx a0 x862) fun x865 =>
 Option.bind (idx a0 x840) fun x868 =>
 Option.bind (assign_order_1 N x865 x868 a4) fun r871 =>
 bif (!decide (r871 < 0)) then (
 Option.bind (in64 (x840 + 1)) fun x879 =>
 some (.inl (x879, i821))) else (
 some (.inl (i820, x840)))) else (
 some (.inr i820))

noncomputable def g_slices_symMergeCmpFunc_int_r (N : Nat) : Nat → (List Int) → Int → Int → Int → (List (List Int)) → Option (List Int)
 | 0, _, _, _, _, _ => none
 | M + 1, a0, a1, a2, a3, a4 =>
 Option.bind (in64 (a2 - a1)) fun x1 =>
 bif decide (x1 = 1) then (
 Option.bind (iterN (fun s : Int × Int => g_slices_symMergeCmpFunc_int_l1 N a0 a1 a4 s.1 s.2) N (a2, a3)) fun r105 =>
 Option.bind (iterN (fun s : Int × List Int => g_slices_symMergeCmpFunc_int_l2 N r105 s.1 s.2) N (a1, a0)) fun r281 =>
 some r281) else (
 Option.bind (in64 (a3 - a2)) fun x346 =>
 bif decide (x346 = 1) then (
 Option.bind (iterN (fun s : Int × Int => g_slices_symMergeCmpFunc_int_l3 N a0 a2 a4 s.1 s.2) N (a1, a2)) fun r450 =>
 Option.bind (iterN (fun s : Int × List Int => g_slices_symMergeCmpFunc_int_l4 N r450 s.1 s.2) N (a2, a0)) fun r620 =>
 some r620) else (
 Option.bind (in64 (a1 + a3)) fun x682 =>
 Option.bind (shr_u64 (x682 % 18446744073709551616) 1) fun x685 =>
 Option.bind (in64 x685) fun x688 =>
 Option.bind (in64 (x688 + a2)) fun x691 =>
 Option.bind (
 bif decide (x688 < a2) then (
 Option.bind (in64 (x691 - a3)) fun x706 =>
 some (x706, x688)) else (
 some (a1, a2))) fun j701 =>
 Option.bind (in64 (x691 - 1)) fun x714 =>
 Option.bind (iterN (fun s : Int × Int => g_slices_symMergeCmpFunc_int_l5 N a0 a4 x714 s.1 s.2) N (j701.1, j701.2)) fun r828 =>
 Option.bind (in64 (x691 - r828)) fun x887 =>
 Option.bind (
 bif (decide (r828 < a2) && decide (a2 < x887)) then (
 Option.bind (g_slices_rotateCmpFunc_int N a0 r828 a2 x887 a4) fun r908 =>
 some r908) else (
 some a0)) fun j903 =>
 Option.bind (
 bif (decide (a1 < r828) && decide (r828 < x688)) then (
 Option.bind (g_slices_symMergeCmpFunc_int_r N M j903 a1 r828 x688 a4) fun r937 =>
 some r937) else (
 some j903)) fun j932 =>
 bif (decide (x688 < x887) && decide (x887 < a3)) then (
 Option.bind (g_slices_symMergeCmpFunc_int_r N M j932 x688 x887 a3 a4) fun r954 =>
 some r954) else (
 some j932)))

noncomputable def g_slices_symMergeCmpFunc_int (N : Nat) (a0 : List Int) (a1 : Int) (a2 : Int) (a3 : Int) (a4 : List (List Int)) : Option (List Int) := g_slices_symMergeCmpFunc_int_r N N a0 a1 a2 a3 a4

noncomputable def g_slices_stableCmpFunc_int_l1 (N : Nat) (a1 : Int) (a2 : List (List Int)) (i28 : Int) (i29 : Int) (l30 : List Int) : Option ((Int × Int × List Int) ⊕ (Int × List Int)) :=
 bif decide (i29 ≤ a1) then (
 Option.bind (g_slices_insertionSortCmpFunc_int N l30 i28 i29 a2) fun r43 =>
 Option.bind (in64 (i29 + 20)) fun x49 =>
 some (.inl (i29, x49, r43))) else (
 some (.inr (i28, l30)))

noncomputable def g_slices_stableCmpFunc_int_l5 (N : Nat) (a1 : Int) (a2 : List (List Int)) (i258 : Int) (i314 : Int) (i315 : Int) (l316 : List Int) : Option ((Int × Int × List Int) ⊕ (Int × List Int)) :=
 bif decide (i315 ≤ a1) then (
 Option.bind (in64 (i314 + i258)) fun x329 =>
 Option.bind (g_slices_symMergeCmpFunc_int N l316 i314 x329 i315 a2) fun r332 =>
 Option.bind (in64 (2 * i258)) fun x338 =>
 Option.bind (in64 (i315 + x338)) fun x341 =>
 some (.inl (i315, x341, r332))) else (
 some (.inr (i314, l316)))

noncomputable def g_slices_stableCmpFunc_int_l4 (N : Nat) (a1 : Int) (a2 : List (List Int)) (i258 : Int) (l259 : List Int) : Option ((Int × List Int) ⊕ (List Int)) :=
 bif decide (i258 < a1) then (
 Option.bind (in64 (2 * i258)) fun x272 =>
 Option.bind (iterN (fun s : Int × Int × List Int => g_slices_stableCmpFunc_int_l5 N a1 a2 i258 s.1 s.2.1 s.2.2) N (0, x272, l259)) fun r323 =>
 Option.bind (in64 (r323.1 + i258)) fun x349 =>
 bif decide (x349 < a1) then (
 Option.bind (g_slices_symMergeCmpFunc_int N r323.2 r323.1 x349 a1 a2) fun r354 =>
 Option.bind (in64 (i258 * 2)) fun x360 =>
 some (.inl (x360, r354))) else (
 Option.bind (in64 (i258 * 2)) fun x363 =>
 some (.inl (x363, r323.2)))) else (
 some (.inr l259))

noncomputable def g_slices_stableCmpFunc_int (N : Nat) (a0 : List Int) (a1 : Int) (a2 : List (List Int)) : Option (List Int) :=
 Option.bind (iterN (fun s : Int × Int × List Int => g_slices_stableCmpFunc_int_l1 N a1 a2 s.1 s.2.1 s.2.2) N (0, 20, a0)) fun r37 =>
 Option.bind (g_slices_insertionSortCmpFunc_int N r37.2 r37.1 a1 a2) fun r57 =>
 Option.bind (iterN (fun s : Int × List Int => g_slices_stableCmpFunc_int_l4 N a1 a2 s.1 s.2) N (20, r57)) fun r266 =>
 some r266

noncomputable def g_slices_SortStableFunc_int_int (N : Nat) (a0 : List Int) (a1 : List (List Int)) : Option (List Int) :=
 Option.bind (g_slices_stableCmpFunc_int N a0 (List.length a0 : Int) a1) fun r1 =>
 some r1

noncomputable def assign_order_l1 (N : Nat) (a0 : List Int) (i79 : Int) (l80 : List Int) : Option ((Int × List Int) ⊕ (List Int)) :=
 bif decide (i79 < (List.length a0 : Int)) then (
 Option.bind (idx a0 i79) fun x94 =>
 bif decide (0 < x94) then (
 Option.bind (app 8 l80 ([i79])) fun l102 =>
 Option.bind (in64 (i79 + 1)) fun x108 =>
 some (.inl (x108, l102))) else (
 Option.bind (in64 (i79 + 1)) fun x111 =>
 some (.inl (x111, l80)))) else (
 some (.inr l80))

noncomputable def assign_order (N : Nat) (a0 : List Int) : Option (List Int) :=
 Option.bind (iterN (fun s : Int × List Int => assign_order_l1 N a0 s.1 s.2) N (0, [])) fun r88 =>
 Option.bind (g_slices_SortStableFunc_int_int N r88 [a0]) fun r119 =>
 some r119

noncomputable def g_slices_Clone_int_int (N : Nat) (a0 : List Int) : Option (List Int) :=
 app 8 [] a0

noncomputable def assign_Match_l1 (N : Nat) (l11 : List Int) (i40 : Int) (l41 : List Int) : Option ((Int × List Int) ⊕ (List Int)) :=
 bif decide (i40 < (List.length l11 : Int)) then (
 Option.bind (idx l41 i40) fun x54 =>
 Option.bind (in64 (i40 + 1)) fun x59 =>
 some (.inl (x59, (List.set l41 (Int.toNat i40) (-1))))) else (
 some (.inr l41))

noncomputable def assign_Match_l5 (N : Nat) (a0 : List Int) (a1 : List Int) (l450 : List Bool) (x465 : Int) (i553 : Int) (i554 : Int) : Option ((Int × Int) ⊕ (Int)) :=
 bif decide (i554 < (List.length a1 : Int)) then (
 Option.bind (idx a1 i554) fun x567 =>
 Option.bind (idx l450 i554) fun x570 =>
 Option.bind (gO (!x570) (idx a0 x465)) fun x577 =>
 Option.bind (gO (((!x570) && decide (x577 ≤ x567)) && (!decide (i553 < 0))) (idx a1 i553)) fun x590 =>
 bif (((!x570) && decide (x577 ≤ x567)) && (decide (i553 < 0) || decide (x567 < x590))) then (
 Option.bind (in64 (i554 + 1)) fun x600 =>
 some (.inl (i554, x600))) else (
 Option.bind (in64 (i554 + 1)) fun x603 =>
 some (.inl (i553, x603)))) else (
 some (.inr i553))

noncomputable def assign_Match_l4 (N : Nat) (a0 : List Int) (a1 : List Int) (r73 : List Int) (i448 : Int) (l449 : List Int) (l450 : List Bool) : Option ((Int × List Int × List Bool) ⊕ ((List Int × List Int × Int) ⊕ (List Int))) :=
 bif decide (i448 < (List.length r73 : Int)) then (
 Option.bind (idx r73 i448) fun x465 =>
 Option.bind (iterN (fun s : Int × Int => assign_Match_l5 N a0 a1 l450 x465 s.1 s.2) N ((-1), 0)) fun r561 =>
 bif decide (r561 < 0) then (
 Option.bind (in64 (i448 + 1)) fun x613 =>
 Option.bind (slc r73 0 x613) fun l616 =>
 Option.bind (g_slices_Clone_int_int N l616) fun r619 =>
 Option.bind (sortI r619) fun l626 =>
 some (.inr (Sum.inl ([], l626, 14)))) else (
 Option.bind (idx l450 r561) fun x633 =>
 Option.bind (idx l449 x465) fun x638 =>
 Option.bind (in64 (i448 + 1)) fun x643 =>
 some (.inl (x643, (List.set l449 (Int.toNat x465) r561), (List.set l450 (Int.toNat r561) true))))) else (
 some (.inr (Sum.inr l449)))

noncomputable def assign_Match (N : Nat) (a0 : List Int) (a1 : List Int) : Option (List Int × List Int × Int) :=
 Option.bind (assign_check N a0 a1) fun r1 =>
 bif (!decide (r1 = 0)) then (
 some ([], [], r1)) else (
 Option.bind (mkL 8 (List.length a0 : Int) 0) fun l11 =>
 Option.bind (iterN (fun s : Int × List Int => assign_Match_l1 N l11 s.1 s.2) N (0, l11)) fun r48 =>
 Option.bind (mkL 1 (List.length a1 : Int) false) fun l67 =>
 Option.bind (assign_order N a0) fun r73 =>
 Option.bind (iterN (fun s : Int × List Int × List Bool => assign_Match_l4 N a0 a1 r73 s.1 s.2.1 s.2.2) N (0, r48, l67)) fun r457 =>
 match r457 with
 | .inl p650 => (
 some p650)
 | .inr p653 => (
 some (p653, [], 0)))

noncomputable def planner_sheet (N : Nat) (a0 : List T_Item) (a1 : Int) (a2 : List Int) : Option (List T_Item × Int × Int × List Int × List Int × List Int × List Int × Int) :=
 Option.bind (g_slices_Clone_api_Item_api_Item N a0) fun r4 =>
 Option.bind (certificate_Make N r4 a1) fun r16 =>
 bif (!decide (r16.2.2.2 = 0)) then (
 some ([], 0, 0, [], [], [], [], r16.2.2.2)) else (
 Option.bind (rollin_Loads N r4 a1 r16.1 r16.2.1) fun r38 =>
 bif (!decide (r38.2 = 0)) then (
 some ([], 0, 0, [], [], [], [], r38.2)) else (
 Option.bind (assign_Match N r38.1 a2) fun r54 =>
 bif (!decide (r54.2.2 = 0)) then (
 some ([], 0, 0, [], [], [], r54.2.1, r54.2.2)) else (
 some (r4, a1, r16.1, r16.2.1, r16.2.2.1, r54.1, [], 0))))

noncomputable def planner_Plan_l1 (N : Nat) (a0 : List T_Item) (a1 : List Int) (r4 : List T_Scheme × Int) (i153 : Int) (l154 : List Int) : Option ((Int × List Int) ⊕ ((List T_Item × Int × Int × List Int × List Int × List Int × List Int × Int) ⊕ (List Int))) :=
 bif decide (i153 < (List.length r4.1 : Int)) then (
 Option.bind (idx r4.1 i153) fun x170 =>
 Option.bind (planner_sheet N a0 x170.Weight a1) fun r178 =>
 bif decide (r178.2.2.2.2.2.2.2 = 0) then (
 some (.inr (Sum.inl (r178.1, r178.2.1, r178.2.2.1, r178.2.2.2.1, r178.2.2.2.2.1, r178.2.2.2.2.2.1, [], 0)))) else (
 bif decide (r178.2.2.2.2.2.2.2 = 14) then (
 bif decide (i153 = 0) then (
 Option.bind (in64 (i153 + 1)) fun x203 =>
 some (.inl (x203, r178.2.2.2.2.2.2.1))) else (
 Option.bind (in64 (i153 + 1)) fun x206 =>
 some (.inl (x206, l154)))) else (
 some (.inr (Sum.inl ([], 0, 0, [], [], [], [], r178.2.2.2.2.2.2.2)))))) else (
 some (.inr (Sum.inr l154)))

noncomputable def planner_Plan (N : Nat) (a0 : List T_Item) (a1 : List Int) : Option (List T_Item × Int × Int × List Int × List Int × List Int × List Int × Int) :=
 Option.bind (planner_Schemes N a0) fun r4 =>
 bif (!decide (r4.2 = 0)) then (
 some ([], 0, 0, [], [], [], [], r4.2)) else (
 Option.bind (iterN (fun s : Int × List Int => planner_Plan_l1 N a0 a1 r4 s.1 s.2) N (0, [])) fun r162 =>
 match r162 with
 | .inl p220 => (
 some p220)
 | .inr p223 => (
 some ([], 0, 0, [], [], [], p223, 14)))

noncomputable def humpgen_Ints_l1 (N : Nat) (a0 : List Int) (a1 : List Int) (i50 : Int) : Option ((Int) ⊕ (Bool ⊕ Unit)) :=
 bif decide (i50 < (List.length a0 : Int)) then (
 Option.bind (idx a0 i50) fun x75 =>
 Option.bind (idx a1 i50) fun x78 =>
 bif (!decide (x75 = x78)) then (
 some (.inr (Sum.inl false))) else (
 Option.bind (in64 (i50 + 1)) fun x83 =>
 some (.inl x83))) else (
 some (.inr (Sum.inr ())))

noncomputable def humpgen_Ints (N : Nat) (a0 : List Int) (a1 : List Int) : Option (Bool) :=
 bif (!decide ((List.length a0 : Int) = (List.length a1 : Int))) then (
 some false) else (
 Option.bind (iterN (fun s : Int => humpgen_Ints_l1 N a0 a1 s) N 0) fun r57 =>
 match r57 with
 | .inl p90 => (
 some p90)
 | .inr p93 => (
 some true))

noncomputable def humpgen_Lists_l1 (N : Nat) (a0 : List (List Int)) (a1 : List (List Int)) (i90 : Int) : Option ((Int) ⊕ (Bool ⊕ Unit)) :=
 bif decide (i90 < (List.length a0 : Int)) then (
 Option.bind (idx a0 i90) fun x125 =>
 Option.bind (idx a1 i90) fun x130 =>
 Option.bind (humpgen_Ints N x125 x130) fun r135 =>
 bif (!r135) then (
 some (.inr (Sum.inl false))) else (
 Option.bind (in64 (i90 + 1)) fun x143 =>
 some (.inl x143))) else (
 some (.inr (Sum.inr ())))

noncomputable def humpgen_Lists (N : Nat) (a0 : List (List Int)) (a1 : List (List Int)) : Option (Bool) :=
 bif (!decide ((List.length a0 : Int) = (List.length a1 : Int))) then (
 some false) else (
 Option.bind (iterN (fun s : Int => humpgen_Lists_l1 N a0 a1 s) N 0) fun r97 =>
 match r97 with
 | .inl p150 => (
 some p150)
 | .inr p153 => (
 some true))

noncomputable def humpyardtop_awake (N : Nat) : Option (Bool) :=
 Option.bind (planner_Plan N ([(T_Item.mk 0 1 0 100), (T_Item.mk 0 0 0 100)]) ([300, 300])) fun r7 =>
 Option.bind (rollin_Run N r7.1 r7.2.1 r7.2.2.1 r7.2.2.2.1) fun r23 =>
 bif ((decide (r7.2.2.2.2.2.2.2 = 0) && decide (r23.2.2 = 0)) && decide (r7.2.2.1 = 1)) then (
 Option.bind (humpgen_Lists N r23.1 ([[1, 0]])) fun r61 =>
 some (((decide (r7.2.2.2.2.2.2.2 = 0) && decide (r23.2.2 = 0)) && decide (r7.2.2.1 = 1)) && r61)) else (
 some (((decide (r7.2.2.2.2.2.2.2 = 0) && decide (r23.2.2 = 0)) && decide (r7.2.2.1 = 1)) && false))

noncomputable def job_relation (N : Nat) (a0_Items : List T_Item) (a0_Weight : Int) (a1 : Int) (a2 : Int) : Option (Int) :=
 Option.bind (
 Option.bind (idx a0_Items a1) fun x115 =>
 Option.bind (idx a0_Items a2) fun x118 =>
 some (x115.Train, x115.Block, x115.Round, x115.Length, x118.Train, x118.Block, x118.Round, x118.Length)) fun j76 =>
 bif ((!decide (j76.1 = j76.2.2.2.2.1)) || decide (j76.2.2.2.2.2.1 ≤ j76.2.1)) then (
 some 0) else (
 bif decide (a2 < a1) then (
 some 2) else (
 some 1))

noncomputable def job_Relation (N : Nat) (a0_Items : List T_Item) (a0_Weight : Int) (a1 : Int) (a2 : Int) : Option (Int × Int) :=
 Option.bind (job_Valid N a0_Items a0_Weight) fun r4 =>
 bif (!decide (r4 = 0)) then (
 some (0, r4)) else (
 Option.bind (in64 ((List.length a0_Items : Int) - 1)) fun x12 =>
 Option.bind (job_in N a1 0 x12) fun r15 =>
 Option.bind (gO (!(!r15)) (in64 ((List.length a0_Items : Int) - 1))) fun x26 =>
 Option.bind (gO (!(!r15)) (job_in N a2 0 x26)) fun r30 =>
 bif ((!r15) || (!r30)) then (
 some (0, 2)) else (
 Option.bind (job_relation N a0_Items a0_Weight a1 a2) fun r40 =>
 some (r40, 0)))

noncomputable def leastcode_Bound_l1 (N : Nat) (a0_Items : List T_Item) (a1 : List Int) (r12 : List (List Int)) (i117 : Int) : Option ((Int) ⊕ ((Int × Int) ⊕ Unit)) :=
 bif decide (i117 < (List.length a1 : Int)) then (
 Option.bind (idx a1 i117) fun x132 =>
 Option.bind (gO ((!(decide (x132 < 0) || decide ((List.length a0_Items : Int) ≤ x132))) && decide (0 < i117)) (in64 (i117 - 1))) fun x148 =>
 Option.bind (gO ((!(decide (x132 < 0) || decide ((List.length a0_Items : Int) ≤ x132))) && decide (0 < i117)) (idx a1 x148)) fun x152 =>
 Option.bind (gO ((!(decide (x132 < 0) || decide ((List.length a0_Items : Int) ≤ x132))) && decide (0 < i117)) (idx r12 x152)) fun x157 =>
 Option.bind (gO ((!(decide (x132 < 0) || decide ((List.length a0_Items : Int) ≤ x132))) && decide (0 < i117)) (idx x157 x132)) fun x165 =>
 bif ((decide (x132 < 0) || decide ((List.length a0_Items : Int) ≤ x132)) || (decide (0 < i117) && decide (x165 = 0))) then (
 some (.inr (Sum.inl (0, 1)))) else (
 Option.bind (in64 (i117 + 1)) fun x175 =>
 some (.inl x175))) else (
 some (.inr (Sum.inr ())))

noncomputable def leastcode_Bound_l2 (N : Nat) (a0_Items : List T_Item) (a0_Weight : Int) (a1 : List Int) (r12 : List (List Int)) (i361 : Int) (i362 : Int) : Option ((Int × Int) ⊕ ((Int × Int) ⊕ Int)) :=
 bif decide (i362 < (List.length a1 : Int)) then (
 Option.bind (idx a1 i362) fun x377 =>
 Option.bind (
 bif decide (0 < i362) then (
 Option.bind (in64 (i362 - 1)) fun x408 =>
 Option.bind (idx a1 x408) fun x411 =>
 Option.bind (idx r12 x411) fun x414 =>
 Option.bind (idx x414 x377) fun x419 =>
 Option.bind (in64 (x419 - 1)) fun x422 =>
 Option.bind (in64 (i361 + x422)) fun x425 =>
 some x425) else (
 some i361)) fun j403 =>
 Option.bind (idx a0_Items x377) fun x446 =>
 Option.bind (code_Next N j403 x446.Round a0_Weight) fun r449 =>
 bif (!decide (r449.2 = 0)) then (
 some (.inr (Sum.inl (0, r449.2)))) else (
 Option.bind (in64 (i362 + 1)) fun x457 =>
 some (.inl (r449.1, x457)))) else (
 some (.inr (Sum.inr i361)))

noncomputable def leastcode_Bound (N : Nat) (a0_Items : List T_Item) (a0_Weight : Int) (a1 : List Int) : Option (Int × Int) :=
 Option.bind (job_Valid N a0_Items a0_Weight) fun r4 =>
 bif (!decide (r4 = 0)) then (
 some (0, r4)) else (
 Option.bind (leastcode_relations N a0_Items a0_Weight) fun r12 =>
 Option.bind (iterN (fun s : Int => leastcode_Bound_l1 N a0_Items a1 r12 s) N 0) fun r124 =>
 match r124 with
 | .inl p182 => (
 some p182)
 | .inr p185 => (
 Option.bind (iterN (fun s : Int × Int => leastcode_Bound_l2 N a0_Items a0_Weight a1 r12 s.1 s.2) N (0, 0)) fun r369 =>
 match r369 with
 | .inl p464 => (
 some p464)
 | .inr p467 => (
 some (p467, 0))))

noncomputable def certificate_Check_l4 (N : Nat) (a0_Items : List T_Item) (a0_Weight : Int) (a1_Plan_Codes : List Int) (i536 : Int) (i706 : Int) : Option ((Int) ⊕ (Int ⊕ Unit)) :=
 bif decide (i706 < (List.length a0_Items : Int)) then (
 Option.bind (job_Relation N a0_Items a0_Weight i536 i706) fun r721 =>
 bif (!decide (r721.2 = 0)) then (
 some (.inr (Sum.inl r721.2))) else (
 Option.bind (gO (decide (0 < r721.1)) (idx a1_Plan_Codes i536)) fun x767 =>
 Option.bind (gO (decide (0 < r721.1)) (in64 (x767 + r721.1))) fun x773 =>
 Option.bind (gO (decide (0 < r721.1)) (in64 (x773 - 1))) fun x777 =>
 Option.bind (gO (decide (0 < r721.1)) (idx a1_Plan_Codes i706)) fun x785 =>
 bif (decide (0 < r721.1) && decide (x785 < x777)) then (
 some (.inr (Sum.inl 12))) else (
 Option.bind (in64 (i706 + 1)) fun x793 =>
 some (.inl x793)))) else (
 some (.inr (Sum.inr ())))

noncomputable def certificate_Check_l3 (N : Nat) (a0_Items : List T_Item) (a0_Weight : Int) (a1_Plan_Codes : List Int) (i536 : Int) : Option ((Int) ⊕ (Int ⊕ Unit)) :=
 bif decide (i536 < (List.length a0_Items : Int)) then (
 Option.bind (iterN (fun s : Int => certificate_Check_l4 N a0_Items a0_Weight a1_Plan_Codes i536 s) N 0) fun r713 =>
 match r713 with
 | .inl p800 => (
 some (.inr (Sum.inl p800)))
 | .inr p803 => (
 Option.bind (in64 (i536 + 1)) fun x806 =>
 some (.inl x806))) else (
 some (.inr (Sum.inr ())))

noncomputable def certificate_Check (N : Nat) (a0_Items : List T_Item) (a0_Weight : Int) (a1_Plan_Steps : Int) (a1_Plan_Codes : List Int) (a1_Chain : List Int) : Option (Int) :=
 Option.bind (rollin_Valid N a0_Items a0_Weight a1_Plan_Steps a1_Plan_Codes) fun r7 =>
 bif (!decide (r7 = 0)) then (
 some r7) else (
 Option.bind (iterN (fun s : Int => certificate_Check_l3 N a0_Items a0_Weight a1_Plan_Codes s) N 0) fun r543 =>
 match r543 with
 | .inl p813 => (
 some p813)
 | .inr p816 => (
 Option.bind (leastcode_Bound N a0_Items a0_Weight a1_Chain) fun r819 =>
 bif (!decide (r819.2 = 0)) then (
 some r819.2) else (
 Option.bind (code_Steps N r819.1) fun r827 =>
 bif ((!decide (r827.2 = 0)) || (!decide (r827.1 = a1_Plan_Steps))) then (
 some 17) else (
 some 0))))

noncomputable def assign_Fits_l1 (N : Nat) (a0 : List Int) (a1 : List Int) (a2 : List Int) (i197 : Int) (l198 : List Bool) : Option ((Int × List Bool) ⊕ (Bool ⊕ Unit)) :=
 bif decide (i197 < (List.length a2 : Int)) then (
 Option.bind (idx a2 i197) fun x213 =>
 Option.bind (idx a0 i197) fun x216 =>
 bif decide (x216 = 0) then (
 bif (!decide (x213 = (-1))) then (
 some (.inr (Sum.inl false))) else (
 Option.bind (in64 (i197 + 1)) fun x223 =>
 some (.inl (x223, l198)))) else (
 Option.bind (gO (!(decide (x213 < 0) || decide ((List.length a1 : Int) ≤ x213))) (idx l198 x213)) fun x267 =>
 Option.bind (gO (!((decide (x213 < 0) || decide ((List.length a1 : Int) ≤ x213)) || x267)) (idx a1 x213)) fun x275 =>
 Option.bind (gO (!((decide (x213 < 0) || decide ((List.length a1 : Int) ≤ x213)) || x267)) (idx a0 i197)) fun x282 =>
 bif (((decide (x213 < 0) || decide ((List.length a1 : Int) ≤ x213)) || x267) || decide (x275 < x282)) then (
 some (.inr (Sum.inl false))) else (
 Option.bind (idx l198 x213) fun x290 =>
 Option.bind (in64 (i197 + 1)) fun x295 =>
 some (.inl (x295, (List.set l198 (Int.toNat x213) true)))))) else (
 some (.inr (Sum.inr ())))

noncomputable def assign_Fits (N : Nat) (a0 : List Int) (a1 : List Int) (a2 : List Int) : Option (Bool) :=
 Option.bind (assign_check N a0 a1) fun r1 =>
 bif ((!decide (r1 = 0)) || (!decide ((List.length a2 : Int) = (List.length a0 : Int)))) then (
 some false) else (
 Option.bind (mkL 1 (List.length a1 : Int) false) fun l15 =>
 Option.bind (iterN (fun s : Int × List Bool => assign_Fits_l1 N a0 a1 a2 s.1 s.2) N (0, l15)) fun r205 =>
 match r205 with
 | .inl p302 => (
 some p302)
 | .inr p305 => (
 some true))

noncomputable def planner_Check (N : Nat) (a0_Job_Items : List T_Item) (a0_Job_Weight : Int) (a0_Proof_Plan_Steps : Int) (a0_Proof_Plan_Codes : List Int) (a0_Proof_Chain : List Int) (a0_Tracks : List Int) (a1 : List Int) : Option (Int) :=
 Option.bind (certificate_Check N a0_Job_Items a0_Job_Weight a0_Proof_Plan_Steps a0_Proof_Plan_Codes a0_Proof_Chain) fun r4 =>
 bif (!decide (r4 = 0)) then (
 some r4) else (
 Option.bind (rollin_Loads N a0_Job_Items a0_Job_Weight a0_Proof_Plan_Steps a0_Proof_Plan_Codes) fun r12 =>
 bif (!decide (r12.2 = 0)) then (
 some r12.2) else (
 Option.bind (assign_Fits N r12.1 a1 a0_Tracks) fun r21 =>
 bif (!r21) then (
 some 14) else (
 some 0)))

noncomputable def humpyardtop_TopSheet_l1 (N : Nat) (a0 : List Int) (i152 : Int) (i153 : Int) (l154 : List Int) : Option ((Int × Int × List Int) ⊕ (List Int)) :=
 bif decide (0 < i152) then (
 Option.bind (Maker_Pick N a0 i153 ([900, 2000, 5000])) fun r171 =>
 Option.bind (app 8 l154 ([r171.2])) fun l180 =>
 Option.bind (in64 (i152 - 1)) fun x186 =>
 some (.inl (x186, r171.1, l180))) else (
 some (.inr l154))

noncomputable def humpyardtop_TopSheet_l14 (N : Nat) (r8 : Int × List T_Wagon) (i1893 : Int) (x2456 : Int) (i2615 : Int) : Option ((Int) ⊕ (Int)) :=
 Option.bind (idx ([[(Str.mk ([98] : List UInt8)), (Str.mk ([97] : List UInt8)), (Str.mk ([110, 111, 114, 116, 104] : List UInt8))], [(Str.mk ([120, 57] : List UInt8)), (Str.mk ([99] : List UInt8)), (Str.mk ([97, 98, 99, 100, 101, 102, 103, 104, 105, 106, 107, 108] : List UInt8)), (Str.mk ([100] : List UInt8))], [(Str.mk ([115, 111, 117, 116, 104] : List UInt8)), (Str.mk ([112, 111, 114, 116, 49] : List UInt8)), (Str.mk ([101] : List UInt8))]]) i1893) fun x2661 =>
 Option.bind (gO (decide (i2615 < (List.length x2661 : Int))) (idx ([[(Str.mk ([98] : List UInt8)), (Str.mk ([97] : List UInt8)), (Str.mk ([110, 111, 114, 116, 104] : List UInt8))], [(Str.mk ([120, 57] : List UInt8)), (Str.mk ([99] : List UInt8)), (Str.mk ([97, 98, 99, 100, 101, 102, 103, 104, 105, 106, 107, 108] : List UInt8)), (Str.mk ([100] : List UInt8))], [(Str.mk ([115, 111, 117, 116, 104] : List UInt8)), (Str.mk ([112, 111, 114, 116, 49] : List UInt8)), (Str.mk ([101] : List UInt8))]]) i1893)) fun x2669 =>
 Option.bind (gO (decide (i2615 < (List.length x2661 : Int))) (idx x2669 i2615)) fun x2678 =>
 Option.bind (gO (decide (i2615 < (List.length x2661 : Int))) (idx r8.2 x2456)) fun x2685 =>
 bif (decide (i2615 < (List.length x2661 : Int)) && (!decide (x2678.s = x2685.Dest))) then (
 Option.bind (in64 (i2615 + 1)) fun x2694 =>
 some (.inl x2694)) else (
 some (.inr i2615))

noncomputable def humpyardtop_TopSheet_l13 (N : Nat) (r8 : Int × List T_Wagon) (i1893 : Int) (x1908 : List Int) (i2439 : Int) (i2440 : Int) (i2441 : Int) : Option ((Int × Int × Int) ⊕ (Bool ⊕ Int)) :=
 bif decide (i2441 < (List.length x1908 : Int)) then (
 Option.bind (idx x1908 i2441) fun x2456 =>
 bif ((decide (x2456 < 0) || decide ((List.length r8.2 : Int) ≤ x2456)) || decide ((List.length ([[(Str.mk ([98] : List UInt8)), (Str.mk ([97] : List UInt8)), (Str.mk ([110, 111, 114, 116, 104] : List UInt8))], [(Str.mk ([120, 57] : List UInt8)), (Str.mk ([99] : List UInt8)), (Str.mk ([97, 98, 99, 100, 101, 102, 103, 104, 105, 106, 107, 108] : List UInt8)), (Str.mk ([100] : List UInt8))], [(Str.mk ([115, 111, 117, 116, 104] : List UInt8)), (Str.mk ([112, 111, 114, 116, 49] : List UInt8)), (Str.mk ([101] : List UInt8))]]) : Int) ≤ i1893)) then (
 some (.inr (Sum.inl false))) else (
 Option.bind (iterN (fun s : Int => humpyardtop_TopSheet_l14 N r8 i1893 x2456 s) N i2440) fun r2622 =>
 Option.bind (idx ([[(Str.mk ([98] : List UInt8)), (Str.mk ([97] : List UInt8)), (Str.mk ([110, 111, 114, 116, 104] : List UInt8))], [(Str.mk ([120, 57] : List UInt8)), (Str.mk ([99] : List UInt8)), (Str.mk ([97, 98, 99, 100, 101, 102, 103, 104, 105, 106, 107, 108] : List UInt8)), (Str.mk ([100] : List UInt8))], [(Str.mk ([115, 111, 117, 116, 104] : List UInt8)), (Str.mk ([112, 111, 114, 116, 49] : List UInt8)), (Str.mk ([101] : List UInt8))]]) i1893) fun x2702 =>
 bif decide (r2622 = (List.length x2702 : Int)) then (
 some (.inr (Sum.inl false))) else (
 Option.bind (in64 (i2439 + 1)) fun x2709 =>
 Option.bind (in64 (i2441 + 1)) fun x2712 =>
 some (.inl (x2709, r2622, x2712))))) else (
 some (.inr (Sum.inr i2439)))

noncomputable def humpyardtop_TopSheet_l10 (N : Nat) (r8 : Int × List T_Wagon) (r233 : List (List Int) × Int × Int) (i1892 : Int) (i1893 : Int) : Option ((Int × Int) ⊕ (Bool ⊕ Int)) :=
 bif decide (i1893 < (List.length r233.1 : Int)) then (
 Option.bind (idx r233.1 i1893) fun x1908 =>
 Option.bind (iterN (fun s : Int × Int × Int => humpyardtop_TopSheet_l13 N r8 i1893 x1908 s.1 s.2.1 s.2.2) N (i1892, 0, 0)) fun r2448 =>
 match r2448 with
 | .inl p2719 => (
 some (.inr (Sum.inl p2719)))
 | .inr p2722 => (
 Option.bind (in64 (i1893 + 1)) fun x2725 =>
 some (.inl (p2722, x2725)))) else (
 some (.inr (Sum.inr i1892)))

noncomputable def humpyardtop_TopSheet (N : Nat) (a0 : List Int) : Option (Bool) :=
 Option.bind (humpgen_New N a0) fun r1 =>
 Option.bind (Maker_Wagons N a0 r1 12) fun r8 =>
 Option.bind (consist_Encode N r8.2) fun r15 =>
 Option.bind (consist_Decode N r15.1) fun r22 =>
 bif ((!decide (r15.2 = 0)) || (!decide (r22.2 = 0))) then (
 some false) else (
 Option.bind (planner_Items N ([[(Str.mk ([98] : List UInt8)), (Str.mk ([97] : List UInt8)), (Str.mk ([110, 111, 114, 116, 104] : List UInt8))], [(Str.mk ([120, 57] : List UInt8)), (Str.mk ([99] : List UInt8)), (Str.mk ([97, 98, 99, 100, 101, 102, 103, 104, 105, 106, 107, 108] : List UInt8)), (Str.mk ([100] : List UInt8))], [(Str.mk ([115, 111, 117, 116, 104] : List UInt8)), (Str.mk ([112, 111, 114, 116, 49] : List UInt8)), (Str.mk ([101] : List UInt8))]]) r22.1) fun r52 =>
 bif ((!decide (r52.2 = 0)) || (!decide ((List.length r52.1 : Int) = (List.length r8.2 : Int)))) then (
 some false) else (
 Option.bind (Maker_From N a0 r8.1 3 9) fun r67 =>
 Option.bind (iterN (fun s : Int × Int × List Int => humpyardtop_TopSheet_l1 N a0 s.1 s.2.1 s.2.2) N (r67.2, r67.1, [])) fun r162 =>
 Option.bind (planner_Plan N r52.1 r162) fun r194 =>
 bif decide (r194.2.2.2.2.2.2.2 = 14) then (
 Option.bind (gO (decide (0 < (List.length r194.2.2.2.2.2.2.1 : Int))) (humpyardtop_awake N)) fun r213 =>
 some (decide (0 < (List.length r194.2.2.2.2.2.2.1 : Int)) && r213)) else (
 Option.bind (gO (!(!decide (r194.2.2.2.2.2.2.2 = 0))) (planner_Check N r194.1 r194.2.1 r194.2.2.1 r194.2.2.2.1 r194.2.2.2.2.1 r194.2.2.2.2.2.1 r162)) fun r223 =>
 bif ((!decide (r194.2.2.2.2.2.2.2 = 0)) || (!decide (r223 = 0))) then (
 some false) else (
 Option.bind (rollin_Run N r194.1 r194.2.1 r194.2.2.1 r194.2.2.2.1) fun r233 =>
 bif (!decide (r233.2.2 = 0)) then (
 some false) else (
 Option.bind (iterN (fun s : Int × Int => humpyardtop_TopSheet_l10 N r8 r233 s.1 s.2) N (0, 0)) fun r1900 =>
 match r1900 with
 | .inl p2732 => (
 some p2732)
 | .inr p2735 => (
 Option.bind (gO (decide (p2735 = (List.length r8.2 : Int))) (humpyardtop_awake N)) fun r2739 =>
 some (decide (p2735 = (List.length r8.2 : Int)) && r2739)))))))

end Go.Gv
