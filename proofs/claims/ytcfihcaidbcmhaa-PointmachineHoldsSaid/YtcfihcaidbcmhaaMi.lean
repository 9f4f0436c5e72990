/- Plain functions that mirror the program, written by a program of mine (gowalk.py). -/
import Derived.Test.YtcfihcaidbcmhaaPu
namespace Go.Gv
set_option linter.unusedVariables false

structure T_Machine where
  Side : Int
  Until : Int
  Cuts : Int
  Failed : Bool
deriving DecidableEq, Inhabited

def yardgen_Place (N : Nat) (a0 : Int) (a1 : Int) : Option (Int) :=
 bif decide (a1 < 1) then (
 some 0) else (
 Option.bind (rem64 a0 a1) fun x3 =>
 bif decide (x3 < 0) then (
 Option.bind (in64 (x3 + a1)) fun x8 =>
 some x8) else (
 some x3))

def pointmachine_lies (N : Nat) (a0 : Int) : Option (Bool) :=
 some (decide (a0 = 1) || decide (a0 = 2))

def pointmachine_time (N : Nat) (a0 : Int) : Option (Bool) :=
 some (decide (0 ≤ a0) && decide (a0 ≤ 1000000000))

def pointmachine_Valid (N : Nat) (a0 : T_Machine) : Option (Bool) :=
 Option.bind (pointmachine_lies N a0.Side) fun r4 =>
 Option.bind (gO r4 (pointmachine_time N a0.Until)) fun r13 =>
 some (((r4 && r13) && decide (0 ≤ a0.Cuts)) && decide (a0.Cuts ≤ 96))

def pointmachine_Throw (N : Nat) (a0 : T_Machine) (a1 : Int) (a2 : Int) (a3 : Int) : Option (T_Machine × Int) :=
 Option.bind (pointmachine_Valid N a0) fun r7 =>
 Option.bind (gO (!(!r7)) (pointmachine_lies N a1)) fun r15 =>
 Option.bind (gO (!((!r7) || (!r15))) (pointmachine_time N a2)) fun r25 =>
 Option.bind (gO (!(((!r7) || (!r15)) || (!r25))) (pointmachine_time N a3)) fun r35 =>
 bif ((((!r7) || (!r15)) || (!r25)) || (!r35)) then (
 some ((T_Machine.mk 0 0 0 false), 1)) else (
 bif a0.Failed then (
 some ((T_Machine.mk 0 0 0 false), 16)) else (
 bif ((!decide (a0.Cuts = 0)) || decide (a2 < a0.Until)) then (
 some ((T_Machine.mk 0 0 0 false), 21)) else (
 bif decide (a0.Side = a1) then (
 some (a0, 0)) else (
 Option.bind (in64 (a2 + a3)) fun x64 =>
 bif decide (1000000000 < x64) then (
 some ((T_Machine.mk 0 0 0 false), 4)) else (
 Option.bind (in64 (a2 + a3)) fun x71 =>
 some ((T_Machine.mk a1 x71 a0.Cuts a0.Failed), 0))))))

def pointmachine_Enter (N : Nat) (a0 : T_Machine) (a1 : Int) : Option (T_Machine × Int × Int) :=
 Option.bind (pointmachine_Valid N a0) fun r7 =>
 Option.bind (gO (!(!r7)) (pointmachine_time N a1)) fun r15 =>
 bif ((!r7) || (!r15)) then (
 some ((T_Machine.mk 0 0 0 false), 0, 1)) else (
 bif decide (a0.Cuts = 96) then (
 some ((T_Machine.mk 0 0 0 false), 0, 18)) else (
 Option.bind (in64 (a0.Cuts + 1)) fun x31 =>
 bif decide (a1 < a0.Until) then (
 some ((T_Machine.mk a0.Side a0.Until x31 true), 0, 0)) else (
 some ((T_Machine.mk a0.Side a0.Until x31 a0.Failed), a0.Side, 0))))

def pointmachine_Leave (N : Nat) (a0 : T_Machine) : Option (T_Machine × Int) :=
 Option.bind (pointmachine_Valid N a0) fun r7 =>
 bif (!r7) then (
 some ((T_Machine.mk 0 0 0 false), 1)) else (
 bif decide (a0.Cuts = 0) then (
 some ((T_Machine.mk 0 0 0 false), 16)) else (
 Option.bind (in64 (a0.Cuts - 1)) fun x21 =>
 some ((T_Machine.mk a0.Side a0.Until x21 a0.Failed), 0)))

def law25_sane (N : Nat) : Option (Bool) :=
 Option.bind (pointmachine_Throw N (T_Machine.mk 1 0 0 false) 2 1000 800) fun r1 =>
 Option.bind (pointmachine_Enter N r1.1 1800) fun r12 =>
 Option.bind (pointmachine_Enter N r1.1 1799) fun r23 =>
 Option.bind (pointmachine_Throw N r12.1 2 5000 800) fun r34 =>
 Option.bind (pointmachine_Leave N r1.1) fun r45 =>
 some ((((((((((decide (r1.2 = 0) && decide (r1.1 = (T_Machine.mk 2 1800 0 false))) && decide (r12.2.2 = 0)) && decide (r12.2.1 = 2)) && decide (r12.1.Cuts = 1)) && (!r12.1.Failed)) && decide (r23.2.2 = 0)) && decide (r23.2.1 = 0)) && r23.1.Failed) && decide (r34.2 = 21)) && decide (r45.2 = 16))

def law25_PointmachineHolds_l1 (N : Nat) (a0 : List Int) (i894 : Int) (i895 : Int) (i896 : Int) (i897 : Int) (i898 : Int) (b899 : Bool) : Option ((Int × Int × Int × Int × Int × Bool) ⊕ (Bool ⊕ Unit)) :=
 Option.bind (in64 (i895 + 1)) fun x912 =>
 bif (decide (x912 < (List.length a0 : Int)) && decide (i895 < 120)) then (
 Option.bind (idx a0 i895) fun x920 =>
 Option.bind (yardgen_Place N x920 1500) fun r923 =>
 Option.bind (in64 (i894 + r923)) fun x929 =>
 Option.bind (in64 (i895 + 1)) fun x946 =>
 Option.bind (idx a0 x946) fun x949 =>
 Option.bind (yardgen_Place N x949 4) fun r952 =>
 Option.bind (
 bif decide (r952 = 0) then (
 some (decide (r952 = 0))) else (
 some (decide (r952 = 1)))) fun j961 =>
 bif j961 then (
 Option.bind (
 Option.bind (in64 (i895 + 1)) fun x1108 =>
 Option.bind (idx a0 x1108) fun x1111 =>
 Option.bind (quo64 x1111 4) fun x1114 =>
 Option.bind (yardgen_Place N x1114 2) fun r1117 =>
 Option.bind (in64 (1 + r1117)) fun x1123 =>
 Option.bind (pointmachine_Throw N (T_Machine.mk i896 i897 i898 b899) x1123 x929 800) fun r1126 =>
 some (r1126.2, r1126.1.Side, r1126.1.Until, r1126.1.Cuts, r1126.1.Failed)) fun j1072 =>
 Option.bind (
 bif decide (j1072.1 = 0) then (
 some (j1072.2.1, j1072.2.2.1, j1072.2.2.2.1, j1072.2.2.2.2)) else (
 some (i896, i897, i898, b899))) fun j1181 =>
 bif ((decide (0 < i898) && decide (j1072.1 = 0)) || (!decide (j1181.2.2.1 = i898))) then (
 some (.inr (Sum.inl false))) else (
 Option.bind (gO (!(decide (0 < i898) && (!decide (j1181.1 = i896)))) (pointmachine_Valid N (T_Machine.mk j1181.1 j1181.2.1 j1181.2.2.1 j1181.2.2.2))) fun r1211 =>
 bif ((decide (0 < i898) && (!decide (j1181.1 = i896))) || (!r1211)) then (
 some (.inr (Sum.inl false))) else (
 Option.bind (in64 (i895 + 2)) fun x1221 =>
 some (.inl (x929, x1221, j1181.1, j1181.2.1, j1181.2.2.1, j1181.2.2.2))))) else (
 bif decide (r952 = 2) then (
 Option.bind (pointmachine_Enter N (T_Machine.mk i896 i897 i898 b899) x929) fun r1226 =>
 Option.bind (gO (!(!decide (r1226.2.2 = 0))) (in64 (i898 + 1))) fun x1242 =>
 bif (((((!decide (r1226.2.2 = 0)) || (!decide (r1226.1.Cuts = x1242))) || (!decide (r1226.1.Side = i896))) || (!((!decide (r1226.2.1 = i896)) == decide (x929 < i897)))) || (!(r1226.1.Failed == (b899 || decide (x929 < i897))))) then (
 some (.inr (Sum.inl false))) else (
 Option.bind (pointmachine_Valid N r1226.1) fun r1287 =>
 bif ((decide (0 < i898) && (!decide (r1226.1.Side = i896))) || (!r1287)) then (
 some (.inr (Sum.inl false))) else (
 Option.bind (in64 (i895 + 2)) fun x1297 =>
 some (.inl (x929, x1297, r1226.1.Side, r1226.1.Until, r1226.1.Cuts, r1226.1.Failed))))) else (
 Option.bind (pointmachine_Leave N (T_Machine.mk i896 i897 i898 b899)) fun r1300 =>
 bif (!(decide (r1300.2 = 0) == decide (0 < i898))) then (
 some (.inr (Sum.inl false))) else (
 Option.bind (
 bif decide (r1300.2 = 0) then (
 some (r1300.1.Side, r1300.1.Until, r1300.1.Cuts, r1300.1.Failed)) else (
 some (i896, i897, i898, b899))) fun j1321 =>
 Option.bind (gO (!(decide (0 < i898) && (!decide (j1321.1 = i896)))) (pointmachine_Valid N (T_Machine.mk j1321.1 j1321.2.1 j1321.2.2.1 j1321.2.2.2))) fun r1340 =>
 bif ((decide (0 < i898) && (!decide (j1321.1 = i896))) || (!r1340)) then (
 some (.inr (Sum.inl false))) else (
 Option.bind (in64 (i895 + 2)) fun x1350 =>
 some (.inl (x929, x1350, j1321.1, j1321.2.1, j1321.2.2.1, j1321.2.2.2))))))) else (
 some (.inr (Sum.inr ())))

def law25_PointmachineHolds (N : Nat) (a0 : List Int) : Option (Bool) :=
 Option.bind (iterN (fun s : Int × Int × Int × Int × Int × Bool => law25_PointmachineHolds_l1 N a0 s.1 s.2.1 s.2.2.1 s.2.2.2.1 s.2.2.2.2.1 s.2.2.2.2.2) N (0, 0, 1, 0, 0, false)) fun r906 =>
 match r906 with
 | .inl p1357 => (
 some p1357)
 | .inr p1360 => (
 Option.bind (law25_sane N) fun r1363 =>
 some r1363)

def law25_PointmachineThrows_l1 (N : Nat) (x31 : Int) (r34 : Int) (x67 : Int) (r70 : Int) (i255 : Int) : Option ((Int) ⊕ (Bool ⊕ Unit)) :=
 bif decide (i255 ≤ 2) then (
 Option.bind (pointmachine_Throw N (T_Machine.mk x31 r34 0 false) i255 x67 r70) fun r270 =>
 Option.bind (
 bif (!decide (i255 = x31)) then (
 Option.bind (in64 (x67 + r70)) fun x292 =>
 some x292) else (
 some r34)) fun j287 =>
 bif (((((!decide (r270.2 = 0)) || (!decide (r270.1.Side = i255))) || (!decide (r270.1.Cuts = 0))) || r270.1.Failed) || (!decide (r270.1.Until = j287))) then (
 some (.inr (Sum.inl false))) else (
 Option.bind (pointmachine_Throw N r270.1 i255 (max x67 r270.1.Until) r70) fun r319 =>
 Option.bind (pointmachine_Enter N r270.1 (max x67 r270.1.Until)) fun r330 =>
 bif ((((!decide (r319.2 = 0)) || (!decide (r319.1 = r270.1))) || (!decide (r330.2.2 = 0))) || (!decide (r330.2.1 = i255))) then (
 some (.inr (Sum.inl false))) else (
 Option.bind (in64 (i255 + 1)) fun x354 =>
 some (.inl x354)))) else (
 some (.inr (Sum.inr ())))

def law25_PointmachineThrows (N : Nat) (a0 : T_Machine) (a1 : Int) (a2 : Int) : Option (Bool) :=
 Option.bind (yardgen_Place N a0.Side 2) fun r25 =>
 Option.bind (in64 (1 + r25)) fun x31 =>
 Option.bind (yardgen_Place N a0.Until 100000) fun r34 =>
 Option.bind (yardgen_Place N a1 100000) fun r61 =>
 Option.bind (in64 (r34 + r61)) fun x67 =>
 Option.bind (yardgen_Place N a2 5000) fun r70 =>
 Option.bind (iterN (fun s : Int => law25_PointmachineThrows_l1 N x31 r34 x67 r70 s) N 1) fun r262 =>
 match r262 with
 | .inl p361 => (
 some p361)
 | .inr p364 => (
 Option.bind (law25_sane N) fun r367 =>
 some r367)

def r25_side (N : Nat) (a0 : Int) : Option (Bool) :=
 some (decide (a0 = 1) || decide (a0 = 2))

def r25_time (N : Nat) (a0 : Int) : Option (Bool) :=
 some (decide (0 ≤ a0) && decide (a0 ≤ 1000000000))

def r25_Valid (N : Nat) (a0 : T_Machine) : Option (Bool) :=
 Option.bind (r25_side N a0.Side) fun r4 =>
 Option.bind (gO r4 (r25_time N a0.Until)) fun r13 =>
 some (((r4 && r13) && decide (0 ≤ a0.Cuts)) && decide (a0.Cuts ≤ 96))

def r25_Throw (N : Nat) (a0 : T_Machine) (a1 : Int) (a2 : Int) (a3 : Int) : Option (T_Machine × Int) :=
 Option.bind (r25_Valid N a0) fun r7 =>
 Option.bind (gO (!(!r7)) (r25_side N a1)) fun r15 =>
 Option.bind (gO (!((!r7) || (!r15))) (r25_time N a2)) fun r25 =>
 Option.bind (gO (!(((!r7) || (!r15)) || (!r25))) (r25_time N a3)) fun r35 =>
 bif ((((!r7) || (!r15)) || (!r25)) || (!r35)) then (
 some ((T_Machine.mk 0 0 0 false), 1)) else (
 bif a0.Failed then (
 some ((T_Machine.mk 0 0 0 false), 16)) else (
 bif (decide (0 < a0.Cuts) || decide (a2 < a0.Until)) then (
 some ((T_Machine.mk 0 0 0 false), 21)) else (
 bif decide (a1 = a0.Side) then (
 some (a0, 0)) else (
 Option.bind (in64 (a2 + a3)) fun x64 =>
 bif decide (1000000000 < x64) then (
 some ((T_Machine.mk 0 0 0 false), 4)) else (
 Option.bind (in64 (a2 + a3)) fun x71 =>
 some ((T_Machine.mk a1 x71 a0.Cuts a0.Failed), 0))))))

def r25_Enter (N : Nat) (a0 : T_Machine) (a1 : Int) : Option (T_Machine × Int × Int) :=
 Option.bind (r25_Valid N a0) fun r7 =>
 Option.bind (gO (!(!r7)) (r25_time N a1)) fun r15 =>
 bif ((!r7) || (!r15)) then (
 some ((T_Machine.mk 0 0 0 false), 0, 1)) else (
 bif decide (a0.Cuts = 96) then (
 some ((T_Machine.mk 0 0 0 false), 0, 18)) else (
 Option.bind (in64 (a0.Cuts + 1)) fun x31 =>
 bif decide (a1 < a0.Until) then (
 some ((T_Machine.mk a0.Side a0.Until x31 true), 0, 0)) else (
 some ((T_Machine.mk a0.Side a0.Until x31 a0.Failed), a0.Side, 0))))

def r25_Leave (N : Nat) (a0 : T_Machine) : Option (T_Machine × Int) :=
 Option.bind (r25_Valid N a0) fun r7 =>
 bif (!r7) then (
 some ((T_Machine.mk 0 0 0 false), 1)) else (
 bif decide (a0.Cuts = 0) then (
 some ((T_Machine.mk 0 0 0 false), 16)) else (
 Option.bind (in64 (a0.Cuts - 1)) fun x21 =>
 some ((T_Machine.mk a0.Side a0.Until x21 a0.Failed), 0)))

def pointmachine_Repair (N : Nat) (a0 : T_Machine) (a1 : Int) : Option (T_Machine × Int) :=
 Option.bind (pointmachine_Valid N a0) fun r7 =>
 Option.bind (gO (!(!r7)) (pointmachine_lies N a1)) fun r15 =>
 bif ((!r7) || (!r15)) then (
 some ((T_Machine.mk 0 0 0 false), 1)) else (
 bif (!decide (a0.Cuts = 0)) then (
 some ((T_Machine.mk 0 0 0 false), 21)) else (
 some ((T_Machine.mk a1 0 a0.Cuts false), 0)))

def r25_Repair (N : Nat) (a0 : T_Machine) (a1 : Int) : Option (T_Machine × Int) :=
 Option.bind (r25_Valid N a0) fun r7 =>
 Option.bind (gO (!(!r7)) (r25_side N a1)) fun r15 =>
 bif ((!r7) || (!r15)) then (
 some ((T_Machine.mk 0 0 0 false), 1)) else (
 bif decide (0 < a0.Cuts) then (
 some ((T_Machine.mk 0 0 0 false), 21)) else (
 some ((T_Machine.mk a1 0 0 false), 0)))

def law25_PointmachineExact_l1 (N : Nat) (a0 : T_Machine) (a1 : Int) (a2 : Int) (a3 : Int) (i861 : Int) : Option ((Int) ⊕ (Bool ⊕ Unit)) :=
 bif decide (i861 < 4) then (
 Option.bind (
 bif decide (0 < i861) then (
 Option.bind (yardgen_Place N a0.Side 2) fun r999 =>
 Option.bind (in64 (1 + r999)) fun x1005 =>
 Option.bind (yardgen_Place N a0.Until 1000000001) fun r1008 =>
 Option.bind (yardgen_Place N a0.Cuts 3) fun r1014 =>
 Option.bind (yardgen_Place N a1 4) fun r1025 =>
 Option.bind (yardgen_Place N a2 1000000002) fun r1031 =>
 Option.bind (yardgen_Place N a3 1000000000) fun r1037 =>
 some (r1025, r1031, r1037, x1005, r1008, r1014, (a0.Failed && decide (i861 < 3)))) else (
 some (a1, a2, a3, a0.Side, a0.Until, a0.Cuts, a0.Failed))) fun j964 =>
 Option.bind (
 bif decide (1 < i861) then (
 Option.bind (in64 (i861 - 2)) fun x1094 =>
 Option.bind (in64 (x1094 * 96)) fun x1097 =>
 Option.bind (yardgen_Place N a2 3) fun r1118 =>
 Option.bind (in64 (j964.2.2.2.2.1 + r1118)) fun x1124 =>
 Option.bind (in64 (x1124 - 1)) fun x1127 =>
 some (x1127, (Int.tmod j964.2.2.1 5000), x1097)) else (
 some (j964.2.1, j964.2.2.1, j964.2.2.2.2.2.1))) fun j1089 =>
 Option.bind (pointmachine_Throw N (T_Machine.mk j964.2.2.2.1 j964.2.2.2.2.1 j1089.2.2 j964.2.2.2.2.2.2) j964.1 j1089.1 j1089.2.1) fun r1135 =>
 Option.bind (r25_Throw N (T_Machine.mk j964.2.2.2.1 j964.2.2.2.2.1 j1089.2.2 j964.2.2.2.2.2.2) j964.1 j1089.1 j1089.2.1) fun r1146 =>
 Option.bind (pointmachine_Enter N (T_Machine.mk j964.2.2.2.1 j964.2.2.2.2.1 j1089.2.2 j964.2.2.2.2.2.2) j1089.1) fun r1157 =>
 Option.bind (r25_Enter N (T_Machine.mk j964.2.2.2.1 j964.2.2.2.2.1 j1089.2.2 j964.2.2.2.2.2.2) j1089.1) fun r1168 =>
 Option.bind (gO (!(((((!decide (r1135.1 = r1146.1)) || (!decide (r1135.2 = r1146.2))) || (!decide (r1157.1 = r1168.1))) || (!decide (r1157.2.1 = r1168.2.1))) || (!decide (r1157.2.2 = r1168.2.2)))) (pointmachine_Valid N (T_Machine.mk j964.2.2.2.1 j964.2.2.2.2.1 j1089.2.2 j964.2.2.2.2.2.2))) fun r1236 =>
 Option.bind (gO (!(((((!decide (r1135.1 = r1146.1)) || (!decide (r1135.2 = r1146.2))) || (!decide (r1157.1 = r1168.1))) || (!decide (r1157.2.1 = r1168.2.1))) || (!decide (r1157.2.2 = r1168.2.2)))) (r25_Valid N (T_Machine.mk j964.2.2.2.1 j964.2.2.2.2.1 j1089.2.2 j964.2.2.2.2.2.2))) fun r1243 =>
 bif ((((((!decide (r1135.1 = r1146.1)) || (!decide (r1135.2 = r1146.2))) || (!decide (r1157.1 = r1168.1))) || (!decide (r1157.2.1 = r1168.2.1))) || (!decide (r1157.2.2 = r1168.2.2))) || (!(r1236 == r1243))) then (
 some (.inr (Sum.inl false))) else (
 Option.bind (pointmachine_Leave N (T_Machine.mk j964.2.2.2.1 j964.2.2.2.2.1 j1089.2.2 j964.2.2.2.2.2.2)) fun r1253 =>
 Option.bind (r25_Leave N (T_Machine.mk j964.2.2.2.1 j964.2.2.2.2.1 j1089.2.2 j964.2.2.2.2.2.2)) fun r1261 =>
 Option.bind (pointmachine_Repair N (T_Machine.mk j964.2.2.2.1 j964.2.2.2.2.1 j1089.2.2 j964.2.2.2.2.2.2) j964.1) fun r1269 =>
 Option.bind (r25_Repair N (T_Machine.mk j964.2.2.2.1 j964.2.2.2.2.1 j1089.2.2 j964.2.2.2.2.2.2) j964.1) fun r1277 =>
 bif ((((!decide (r1253.1 = r1261.1)) || (!decide (r1253.2 = r1261.2))) || (!decide (r1269.1 = r1277.1))) || (!decide (r1269.2 = r1277.2))) then (
 some (.inr (Sum.inl false))) else (
 Option.bind (in64 (i861 + 1)) fun x1299 =>
 some (.inl x1299)))) else (
 some (.inr (Sum.inr ())))

def law25_PointmachineExact (N : Nat) (a0 : T_Machine) (a1 : Int) (a2 : Int) (a3 : Int) : Option (Bool) :=
 Option.bind (iterN (fun s : Int => law25_PointmachineExact_l1 N a0 a1 a2 a3 s) N 0) fun r868 =>
 match r868 with
 | .inl p1306 => (
 some p1306)
 | .inr p1309 => (
 Option.bind (law25_sane N) fun r1312 =>
 some r1312)

def law25_PointmachineRepairs_l1 (N : Nat) (x12 : Int) (i64 : Int) (i65 : Int) (i66 : Int) (i67 : Int) (b68 : Bool) : Option ((Int × Int × Int × Int × Bool) ⊕ (Bool ⊕ (Int × Int × Int × Bool))) :=
 bif decide (i64 < x12) then (
 Option.bind (pointmachine_Enter N (T_Machine.mk i65 i66 i67 b68) 50) fun r83 =>
 bif (!decide (r83.2.2 = 0)) then (
 some (.inr (Sum.inl false))) else (
 Option.bind (in64 (i64 + 1)) fun x98 =>
 some (.inl (x98, r83.1.Side, r83.1.Until, r83.1.Cuts, r83.1.Failed)))) else (
 some (.inr (Sum.inr (i65, i66, i67, b68))))

def law25_PointmachineRepairs_l2 (N : Nat) (x12 : Int) (i216 : Int) (i217 : Int) (i218 : Int) (i219 : Int) (b220 : Bool) : Option ((Int × Int × Int × Int × Bool) ⊕ (Bool ⊕ (Int × Int × Int × Bool))) :=
 bif decide (i216 < x12) then (
 Option.bind (pointmachine_Throw N (T_Machine.mk i217 i218 i219 b220) 2 1000 10) fun r235 =>
 Option.bind (pointmachine_Repair N (T_Machine.mk i217 i218 i219 b220) 1) fun r246 =>
 Option.bind (pointmachine_Leave N (T_Machine.mk i217 i218 i219 b220)) fun r257 =>
 bif (((!decide (r235.2 = 16)) || (!decide (r246.2 = 21))) || (!decide (r257.2 = 0))) then (
 some (.inr (Sum.inl false))) else (
 Option.bind (in64 (i216 + 1)) fun x278 =>
 some (.inl (x278, r257.1.Side, r257.1.Until, r257.1.Cuts, r257.1.Failed)))) else (
 some (.inr (Sum.inr (i217, i218, i219, b220))))

def law25_PointmachineRepairs (N : Nat) (a0 : Int) (a1 : Int) : Option (Bool) :=
 Option.bind (yardgen_Place N a0 5) fun r6 =>
 Option.bind (in64 (1 + r6)) fun x12 =>
 Option.bind (iterN (fun s : Int × Int × Int × Int × Bool => law25_PointmachineRepairs_l1 N x12 s.1 s.2.1 s.2.2.1 s.2.2.2.1 s.2.2.2.2) N (0, 1, 100, 0, false)) fun r75 =>
 match r75 with
 | .inl p105 => (
 some p105)
 | .inr p108 => (
 Option.bind (iterN (fun s : Int × Int × Int × Int × Bool => law25_PointmachineRepairs_l2 N x12 s.1 s.2.1 s.2.2.1 s.2.2.2.1 s.2.2.2.2) N (0, p108.1, p108.2.1, p108.2.2.1, p108.2.2.2)) fun r227 =>
 match r227 with
 | .inl p285 => (
 some p285)
 | .inr p288 => (
 Option.bind (yardgen_Place N a1 2) fun r291 =>
 Option.bind (in64 (1 + r291)) fun x297 =>
 Option.bind (pointmachine_Repair N (T_Machine.mk p288.1 p288.2.1 p288.2.2.1 p288.2.2.2) x297) fun r300 =>
 Option.bind (in64 (3 - x297)) fun x311 =>
 Option.bind (pointmachine_Throw N r300.1 x311 0 10) fun r314 =>
 Option.bind (gO ((decide (r300.2 = 0) && decide (r300.1 = (T_Machine.mk x297 0 0 false))) && decide (r314.2 = 0)) (in64 (3 - x297))) fun x337 =>
 Option.bind (gO (((decide (r300.2 = 0) && decide (r300.1 = (T_Machine.mk x297 0 0 false))) && decide (r314.2 = 0)) && decide (r314.1.Side = x337)) (law25_sane N)) fun r343 =>
 some ((((decide (r300.2 = 0) && decide (r300.1 = (T_Machine.mk x297 0 0 false))) && decide (r314.2 = 0)) && decide (r314.1.Side = x337)) && r343)))

end Go.Gv
