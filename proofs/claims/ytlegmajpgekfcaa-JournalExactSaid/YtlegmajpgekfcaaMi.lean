/- Plain functions that mirror the program, written by a program of mine (gowalk.py). -/
import Derived.Test.YtlegmajpgekfcaaPu
namespace Go.Gv
set_option linter.unusedVariables false

structure T_Maker where
  l : List Int
  n : Int
deriving DecidableEq, Inhabited

def humpgen_New (N : Nat) (a0 : List Int) : Option (Int) :=
 some 0

def Maker_Next (N : Nat) (a0_l : List Int) (a0_n : Int) (a1 : Int) : Option (Int × Int) :=
 Option.bind (
 bif decide (0 < (List.length a0_l : Int)) then (
 Option.bind (rem64 a0_n (List.length a0_l : Int)) fun x78 =>
 Option.bind (idx a0_l x78) fun x81 =>
 Option.bind (quo64 a0_n (List.length a0_l : Int)) fun x84 =>
 some (wr64 (x81 + (wr64 (x84 * 7919))))) else (
 some 0)) fun j69 =>
 Option.bind (in64 (a0_n + 1)) fun x92 =>
 Option.bind (rem64 j69 a1) fun x97 =>
 bif decide (x97 < 0) then (
 Option.bind (in64 (x97 + a1)) fun x102 =>
 some (x92, x102)) else (
 some (x92, x97))

def Maker_Pick (N : Nat) (a0_l : List Int) (a0_n : Int) (a1 : List Int) : Option (Int × Int) :=
 Option.bind (Maker_Next N a0_l a0_n (List.length a1 : Int)) fun r10 =>
 Option.bind (idx a1 r10.2) fun x16 =>
 some (r10.1, x16)

def law43_records_l5 (N : Nat) (a0_l : List Int) (i880 : Int) (i881 : Int) (l882 : List UInt8) : Option ((Int × Int × List UInt8) ⊕ (Int × List UInt8)) :=
 bif decide (i880 < (List.length l882 : Int)) then (
 Option.bind (Maker_Next N a0_l i881 256) fun r895 =>
 Option.bind (idx l882 i880) fun x901 =>
 Option.bind (in64 (i880 + 1)) fun x906 =>
 some (.inl (x906, r895.1, (List.set l882 (Int.toNat i880) (toU8 r895.2))))) else (
 some (.inr (i881, l882)))

def law43_records_l4 (N : Nat) (a0_l : List Int) (i811 : Int) (i812 : Int) (l813 : List (List UInt8)) : Option ((Int × Int × List (List UInt8)) ⊕ (Int × List (List UInt8))) :=
 bif decide (0 < i811) then (
 Option.bind (Maker_Pick N a0_l i812 ([0, 1, 2, 5, 17])) fun r831 =>
 Option.bind (mkL 1 r831.2 (0 : UInt8)) fun l837 =>
 Option.bind (iterN (fun s : Int × Int × List UInt8 => law43_records_l5 N a0_l s.1 s.2.1 s.2.2) N (0, r831.1, l837)) fun r889 =>
 Option.bind (app 24 l813 ([r889.2])) fun l919 =>
 Option.bind (in64 (i811 - 1)) fun x929 =>
 some (.inl (x929, r889.1, l919))) else (
 some (.inr (i812, l813)))

def law43_records (N : Nat) (a0_l : List Int) (a0_n : Int) (a1 : Int) : Option (Int × List (List UInt8)) :=
 Option.bind (in64 (a1 + 1)) fun x469 =>
 Option.bind (Maker_Next N a0_l a0_n x469) fun r472 =>
 Option.bind (iterN (fun s : Int × Int × List (List UInt8) => law43_records_l4 N a0_l s.1 s.2.1 s.2.2) N (r472.2, r472.1, [])) fun r822 =>
 some (r822.1, r822.2)

def r43_Check_l4 (N : Nat) (i259 : Int) (i260 : Int) : Option ((Int × Int) ⊕ (Int)) :=
 bif decide (i260 < 8) then (
 Option.bind (shl_i64 i259 1) fun x273 =>
 bif decide (65535 < x273) then (
 Option.bind (andN 63 x273 65535) fun x278 =>
 Option.bind (xorN 63 x278 4129) fun x281 =>
 Option.bind (in64 (i260 + 1)) fun x284 =>
 some (.inl (x281, x284))) else (
 Option.bind (in64 (i260 + 1)) fun x287 =>
 some (.inl (x273, x287)))) else (
 some (.inr i259))

def r43_Check_l3 (N : Nat) (a0 : List UInt8) (i192 : Int) (i193 : Int) : Option ((Int × Int) ⊕ (Int)) :=
 bif decide (i193 < (List.length a0 : Int)) then (
 Option.bind (idx a0 i193) fun x206 =>
 Option.bind (in64 (x206.toNat : Int)) fun x209 =>
 Option.bind (shl_i64 x209 8) fun x212 =>
 Option.bind (xorN 63 i192 x212) fun x215 =>
 Option.bind (iterN (fun s : Int × Int => r43_Check_l4 N s.1 s.2) N (x215, 0)) fun r267 =>
 Option.bind (in64 (i193 + 1)) fun x295 =>
 some (.inl (r267, x295))) else (
 some (.inr i192))

def r43_Check (N : Nat) (a0 : List UInt8) : Option (Int) :=
 Option.bind (iterN (fun s : Int × Int => r43_Check_l3 N a0 s.1 s.2) N (65535, 0)) fun r200 =>
 some r200

def r43_Append (N : Nat) (a0 : List UInt8) (a1 : List UInt8) : Option (List UInt8 × Int) :=
 bif decide (8192 < (List.length a1 : Int)) then (
 some ([], 3)) else (
 Option.bind (shr_i64 (List.length a1 : Int) 8) fun x4 =>
 Option.bind (app 1 [] ([(toU8 x4), (toU8 (List.length a1 : Int))])) fun l13 =>
 Option.bind (app 1 l13 a1) fun l19 =>
 Option.bind (r43_Check N l19) fun r25 =>
 Option.bind (app 1 [] a0) fun l34 =>
 Option.bind (idx ([(toU8 x4), (toU8 (List.length a1 : Int))]) 0) fun x44 =>
 Option.bind (idx ([(toU8 x4), (toU8 (List.length a1 : Int))]) 1) fun x47 =>
 Option.bind (shr_i64 r25 8) fun x50 =>
 Option.bind (app 1 l34 ([x44, x47, (toU8 x50), (toU8 r25)])) fun l56 =>
 Option.bind (app 1 l56 a1) fun l62 =>
 some (l62, 0))

def law43_written_l1 (N : Nat) (a0 : List (List UInt8)) (i92 : Int) (l93 : List UInt8) (l95 : List Int) : Option ((Int × List UInt8 × List Int) ⊕ (List UInt8 × List Int)) :=
 bif decide (i92 < (List.length a0 : Int)) then (
 Option.bind (idx a0 i92) fun x109 =>
 Option.bind (r43_Append N l93 x109) fun r114 =>
 Option.bind (app 8 l95 ([(List.length r114.1 : Int)])) fun l124 =>
 Option.bind (in64 (i92 + 1)) fun x130 =>
 some (.inl (x130, r114.1, l124))) else (
 some (.inr (l93, l95)))

def law43_written (N : Nat) (a0 : List (List UInt8)) : Option (List UInt8 × List Int) :=
 Option.bind (iterN (fun s : Int × List UInt8 × List Int => law43_written_l1 N a0 s.1 s.2.1 s.2.2) N (0, [], [])) fun r103 =>
 some (r103.1, r103.2)

def yardgen_Place (N : Nat) (a0 : Int) (a1 : Int) : Option (Int) :=
 bif decide (a1 < 1) then (
 some 0) else (
 Option.bind (rem64 a0 a1) fun x3 =>
 bif decide (x3 < 0) then (
 Option.bind (in64 (x3 + a1)) fun x8 =>
 some x8) else (
 some x3))

def journal_further_l4 (N : Nat) (i250 : Int) (i251 : Int) : Option ((Int × Int) ⊕ (Int)) :=
 bif decide (i251 < 8) then (
 Option.bind (shr_u16 i250 15) fun x264 =>
 Option.bind (shl_u16 i250 1) fun x267 =>
 bif decide (x264 = 1) then (
 Option.bind (xorN 16 x267 4129) fun x272 =>
 Option.bind (in64 (i251 + 1)) fun x275 =>
 some (.inl (x272, x275))) else (
 Option.bind (in64 (i251 + 1)) fun x278 =>
 some (.inl (x267, x278)))) else (
 some (.inr i250))

def journal_further_l3 (N : Nat) (a1 : List UInt8) (i186 : Int) (i187 : Int) : Option ((Int × Int) ⊕ (Int)) :=
 bif decide (i187 < (List.length a1 : Int)) then (
 Option.bind (idx a1 i187) fun x200 =>
 Option.bind (shl_u16 ((x200.toNat : Int) % 65536) 8) fun x203 =>
 Option.bind (xorN 16 i186 x203) fun x206 =>
 Option.bind (iterN (fun s : Int × Int => journal_further_l4 N s.1 s.2) N (x206, 0)) fun r258 =>
 Option.bind (in64 (i187 + 1)) fun x286 =>
 some (.inl (r258, x286))) else (
 some (.inr i186))

def journal_further (N : Nat) (a0 : Int) (a1 : List UInt8) : Option (Int) :=
 Option.bind (iterN (fun s : Int × Int => journal_further_l3 N a1 s.1 s.2) N (a0, 0)) fun r194 =>
 some r194

def journal_check (N : Nat) (a0 : List UInt8) : Option (Int) :=
 Option.bind (shr_i64 (List.length a0 : Int) 8) fun x1 =>
 Option.bind (journal_further N 65535 ([(toU8 x1), (toU8 (List.length a0 : Int))])) fun r7 =>
 Option.bind (journal_further N r7 a0) fun r13 =>
 some r13

def journal_Records_l1 (N : Nat) (a0 : List UInt8) (i299 : Int) (l300 : List (List UInt8)) : Option ((Int × List (List UInt8)) ⊕ ((List (List UInt8) × Int × Int) ⊕ (Int × List (List UInt8)))) :=
 Option.bind (in64 ((List.length a0 : Int) - i299)) fun x315 =>
 bif decide (4 ≤ x315) then (
 Option.bind (slc a0 i299 (List.length a0 : Int)) fun l320 =>
 Option.bind (idx l320 0) fun x327 =>
 Option.bind (in64 (x327.toNat : Int)) fun x330 =>
 Option.bind (shl_i64 x330 8) fun x333 =>
 Option.bind (idx l320 1) fun x336 =>
 Option.bind (in64 (x336.toNat : Int)) fun x339 =>
 Option.bind (orN 63 x333 x339) fun x342 =>
 bif decide (8192 < x342) then (
 some (.inr (Sum.inl (l300, i299, 11)))) else (
 Option.bind (in64 (4 + x342)) fun x347 =>
 bif decide ((List.length l320 : Int) < x347) then (
 some (.inr (Sum.inr (i299, l300)))) else (
 Option.bind (in64 (4 + x342)) fun x352 =>
 Option.bind (slc l320 4 x352) fun l355 =>
 Option.bind (app 1 [] l355) fun l359 =>
 Option.bind (journal_check N l359) fun r365 =>
 Option.bind (shr_u16 r365 8) fun x371 =>
 Option.bind (idx l320 2) fun x374 =>
 Option.bind (gO (!(!decide (((toU8 x371).toNat : Int) = (x374.toNat : Int)))) (idx l320 3)) fun x381 =>
 bif ((!decide (((toU8 x371).toNat : Int) = (x374.toNat : Int))) || (!decide (((toU8 r365).toNat : Int) = (x381.toNat : Int)))) then (
 some (.inr (Sum.inl (l300, i299, 9)))) else (
 Option.bind (app 24 l300 ([l359])) fun l394 =>
 Option.bind (in64 (4 + x342)) fun x404 =>
 Option.bind (in64 (i299 + x404)) fun x407 =>
 some (.inl (x407, l394)))))) else (
 some (.inr (Sum.inr (i299, l300))))

def journal_Records (N : Nat) (a0 : List UInt8) : Option (List (List UInt8) × Int × Int) :=
 Option.bind (iterN (fun s : Int × List (List UInt8) => journal_Records_l1 N a0 s.1 s.2) N (0, [])) fun r309 =>
 match r309 with
 | .inl p414 => (
 some p414)
 | .inr p417 => (
 some (p417.2, p417.1, 0))

def humpgen_Bytes_l1 (N : Nat) (a0 : List UInt8) (a1 : List UInt8) (i38 : Int) : Option ((Int) ⊕ (Bool ⊕ Unit)) :=
 bif decide (i38 < (List.length a0 : Int)) then (
 Option.bind (idx a0 i38) fun x57 =>
 Option.bind (idx a1 i38) fun x60 =>
 bif (!decide ((x57.toNat : Int) = (x60.toNat : Int))) then (
 some (.inr (Sum.inl false))) else (
 Option.bind (in64 (i38 + 1)) fun x65 =>
 some (.inl x65))) else (
 some (.inr (Sum.inr ())))

def humpgen_Bytes (N : Nat) (a0 : List UInt8) (a1 : List UInt8) : Option (Bool) :=
 bif (!decide ((List.length a0 : Int) = (List.length a1 : Int))) then (
 some false) else (
 Option.bind (iterN (fun s : Int => humpgen_Bytes_l1 N a0 a1 s) N 0) fun r45 =>
 match r45 with
 | .inl p72 => (
 some p72)
 | .inr p75 => (
 some true))

def law43_same_l1 (N : Nat) (a0 : List (List UInt8)) (a1 : List (List UInt8)) (i58 : Int) : Option ((Int) ⊕ (Bool ⊕ Unit)) :=
 bif decide (i58 < (List.length a0 : Int)) then (
 Option.bind (idx a0 i58) fun x77 =>
 Option.bind (idx a1 i58) fun x82 =>
 Option.bind (humpgen_Bytes N x77 x82) fun r87 =>
 bif (!r87) then (
 some (.inr (Sum.inl false))) else (
 Option.bind (in64 (i58 + 1)) fun x95 =>
 some (.inl x95))) else (
 some (.inr (Sum.inr ())))

def law43_same (N : Nat) (a0 : List (List UInt8)) (a1 : List (List UInt8)) : Option (Bool) :=
 bif (!decide ((List.length a0 : Int) = (List.length a1 : Int))) then (
 some false) else (
 Option.bind (iterN (fun s : Int => law43_same_l1 N a0 a1 s) N 0) fun r65 =>
 match r65 with
 | .inl p102 => (
 some p102)
 | .inr p105 => (
 some true))

def journal_Append (N : Nat) (a0 : List UInt8) (a1 : List UInt8) : Option (List UInt8 × Int) :=
 bif decide (8192 < (List.length a1 : Int)) then (
 some ([], 3)) else (
 Option.bind (journal_check N a1) fun r4 =>
 Option.bind (in64 ((List.length a0 : Int) + 4)) fun x10 =>
 Option.bind (in64 (x10 + (List.length a1 : Int))) fun x13 =>
 Option.bind (mkC 1 0 x13 (0 : UInt8)) fun l16 =>
 Option.bind (app 1 l16 a0) fun l22 =>
 Option.bind (shr_i64 (List.length a1 : Int) 8) fun x28 =>
 Option.bind (shr_u16 r4 8) fun x31 =>
 Option.bind (app 1 l22 ([(toU8 x28), (toU8 (List.length a1 : Int)), (toU8 x31), (toU8 r4)])) fun l37 =>
 Option.bind (app 1 l37 a1) fun l43 =>
 some (l43, 0))

def journal_Check (N : Nat) (a0 : List UInt8) : Option (Int) :=
 Option.bind (journal_further N 65535 a0) fun r1 =>
 Option.bind (in64 r1) fun x7 =>
 some x7

def law43_sane (N : Nat) : Option (Bool) :=
 Option.bind (journal_Append N [] []) fun r1 =>
 Option.bind (journal_Records N ([(0 : UInt8), (1 : UInt8), (2 : UInt8)])) fun r11 =>
 Option.bind (app 1 r1.1 ([(0 : UInt8)])) fun l22 =>
 Option.bind (journal_Records N l22) fun r28 =>
 Option.bind (journal_Check N ([(49 : UInt8), (50 : UInt8), (51 : UInt8), (52 : UInt8), (53 : UInt8), (54 : UInt8), (55 : UInt8), (56 : UInt8), (57 : UInt8)])) fun r41 =>
 bif (decide (r41 = 10673) && decide (r1.2 = 0)) then (
 Option.bind (humpgen_Bytes N r1.1 ([(0 : UInt8), (0 : UInt8), (29 : UInt8), (15 : UInt8)])) fun r59 =>
 Option.bind (gO ((((((((decide (r41 = 10673) && decide (r1.2 = 0)) && r59) && decide (r11.2.2 = 0)) && decide (r11.2.1 = 0)) && decide ((List.length r11.1 : Int) = 0)) && decide (r28.2.2 = 0)) && decide (r28.2.1 = 4)) && decide ((List.length r28.1 : Int) = 1)) (idx r28.1 0)) fun x88 =>
 some (((((((((decide (r41 = 10673) && decide (r1.2 = 0)) && r59) && decide (r11.2.2 = 0)) && decide (r11.2.1 = 0)) && decide ((List.length r11.1 : Int) = 0)) && decide (r28.2.2 = 0)) && decide (r28.2.1 = 4)) && decide ((List.length r28.1 : Int) = 1)) && decide ((List.length x88 : Int) = 0))) else (
 some (((((((((decide (r41 = 10673) && decide (r1.2 = 0)) && false) && false) && false) && false) && false) && false) && false) && false))

def law43_JournalFinds (N : Nat) (a0 : List Int) (a1 : Int) (a2 : Int) : Option (Bool) :=
 Option.bind (humpgen_New N a0) fun r1 =>
 Option.bind (law43_records N a0 r1 6) fun r8 =>
 Option.bind (app 24 r8.2 ([[(1 : UInt8), (2 : UInt8)]])) fun l24 =>
 Option.bind (law43_written N l24) fun r34 =>
 Option.bind (yardgen_Place N a1 (List.length l24 : Int)) fun r42 =>
 Option.bind (
 bif decide (0 < r42) then (
 Option.bind (in64 (r42 - 1)) fun x62 =>
 Option.bind (idx r34.2 x62) fun x65 =>
 some x65) else (
 some 0)) fun j57 =>
 Option.bind (idx r34.2 r42) fun x73 =>
 Option.bind (in64 (x73 - j57)) fun x76 =>
 Option.bind (in64 (x76 - 2)) fun x79 =>
 Option.bind (in64 (8 * x79)) fun x82 =>
 Option.bind (yardgen_Place N a2 x82) fun r85 =>
 Option.bind (in64 (j57 + 2)) fun x91 =>
 Option.bind (quo64 r85 8) fun x94 =>
 Option.bind (in64 (x91 + x94)) fun x97 =>
 Option.bind (idx r34.1 x97) fun x100 =>
 Option.bind (shl_u8 1 ((Int.tmod r85 8) % 18446744073709551616)) fun x103 =>
 Option.bind (idx r34.1 x97) fun x106 =>
 Option.bind (journal_Records N (List.set r34.1 (Int.toNat x97) (x100 ^^^ x103))) fun r111 =>
 Option.bind (gO (decide (r111.2.2 = 9) && decide (r111.2.1 = j57)) (slc l24 0 r42)) fun l127 =>
 Option.bind (gO (decide (r111.2.2 = 9) && decide (r111.2.1 = j57)) (law43_same N r111.1 l127)) fun r131 =>
 Option.bind (gO ((decide (r111.2.2 = 9) && decide (r111.2.1 = j57)) && r131) (law43_sane N)) fun r139 =>
 some (((decide (r111.2.2 = 9) && decide (r111.2.1 = j57)) && r131) && r139)

def Maker_Spoil (N : Nat) (a0_l : List Int) (a0_n : Int) (a1 : List UInt8) : Option (Int × List UInt8) :=
 bif decide (a1 = []) then (
 Option.bind (Maker_Next N a0_l a0_n 256) fun r132 =>
 some (r132.1, [(toU8 r132.2)])) else (
 Option.bind (Maker_Next N a0_l a0_n (List.length a1 : Int)) fun r141 =>
 Option.bind (Maker_Next N a0_l r141.1 4) fun r147 =>
 bif decide (r147.2 = 0) then (
 Option.bind (slc a1 0 r141.2) fun l159 =>
 Option.bind (in64 (r141.2 + 1)) fun x162 =>
 Option.bind (slc a1 x162 (List.length a1 : Int)) fun l165 =>
 Option.bind (appS l159 l165) fun l168 =>
 some (r147.1, l168)) else (
 bif decide (r147.2 = 1) then (
 Option.bind (slc a1 0 r141.2) fun l177 =>
 Option.bind (slc a1 r141.2 (List.length a1 : Int)) fun l180 =>
 Option.bind (Maker_Next N a0_l r147.1 256) fun r183 =>
 Option.bind (appS l177 ([(toU8 r183.2)])) fun l192 =>
 Option.bind (appS l192 l180) fun l195 =>
 some (r183.1, l195)) else (
 bif decide (r147.2 = 2) then (
 Option.bind (slc a1 0 r141.2) fun l204 =>
 Option.bind (in64 (r141.2 + 1)) fun x207 =>
 Option.bind (slc a1 x207 (List.length a1 : Int)) fun l210 =>
 Option.bind (Maker_Next N a0_l r147.1 10) fun r213 =>
 Option.bind (in64 (48 + r213.2)) fun x219 =>
 Option.bind (appS l204 ([(toU8 x219)])) fun l225 =>
 Option.bind (appS l225 l210) fun l228 =>
 some (r213.1, l228)) else (
 Option.bind (slc a1 0 r141.2) fun l235 =>
 Option.bind (in64 (r141.2 + 1)) fun x238 =>
 Option.bind (slc a1 x238 (List.length a1 : Int)) fun l241 =>
 Option.bind (Maker_Next N a0_l r147.1 256) fun r244 =>
 Option.bind (appS l235 ([(toU8 r244.2)])) fun l253 =>
 Option.bind (appS l253 l241) fun l256 =>
 some (r244.1, l256)))))

def Maker_SpoilBytes (N : Nat) (a0_l : List Int) (a0_n : Int) (a1 : List UInt8) : Option (Int × List UInt8) :=
 Option.bind (Maker_Spoil N a0_l a0_n a1) fun r13 =>
 Option.bind (byS r13.2) fun l19 =>
 some (r13.1, l19)

def r43_Records_l1 (N : Nat) (a0 : List UInt8) (i566 : Int) (l567 : List (List UInt8)) : Option ((Int × List (List UInt8)) ⊕ ((List (List UInt8) × Int × Int) ⊕ (Int × List (List UInt8)))) :=
 Option.bind (in64 ((List.length a0 : Int) - i566)) fun x582 =>
 bif decide (4 ≤ x582) then (
 Option.bind (idx a0 i566) fun x591 =>
 Option.bind (in64 (x591.toNat : Int)) fun x594 =>
 Option.bind (shl_i64 x594 8) fun x597 =>
 Option.bind (in64 (i566 + 1)) fun x600 =>
 Option.bind (idx a0 x600) fun x603 =>
 Option.bind (in64 (x603.toNat : Int)) fun x606 =>
 Option.bind (orN 63 x597 x606) fun x609 =>
 bif decide (8192 < x609) then (
 some (.inr (Sum.inl (l567, i566, 11)))) else (
 Option.bind (in64 ((List.length a0 : Int) - i566)) fun x614 =>
 Option.bind (in64 (x614 - 4)) fun x617 =>
 bif decide (x617 < x609) then (
 some (.inr (Sum.inr (i566, l567)))) else (
 Option.bind (in64 (i566 + 4)) fun x625 =>
 Option.bind (in64 (i566 + 4)) fun x628 =>
 Option.bind (in64 (x628 + x609)) fun x631 =>
 Option.bind (slc a0 x625 x631) fun l634 =>
 Option.bind (app 1 [] l634) fun l637 =>
 Option.bind (idx a0 i566) fun x695 =>
 Option.bind (in64 (i566 + 1)) fun x698 =>
 Option.bind (idx a0 x698) fun x701 =>
 Option.bind (in64 (i566 + 2)) fun x704 =>
 Option.bind (idx a0 x704) fun x707 =>
 Option.bind (in64 (x707.toNat : Int)) fun x710 =>
 Option.bind (shl_i64 x710 8) fun x713 =>
 Option.bind (in64 (i566 + 3)) fun x716 =>
 Option.bind (idx a0 x716) fun x719 =>
 Option.bind (in64 (x719.toNat : Int)) fun x722 =>
 Option.bind (orN 63 x713 x722) fun x725 =>
 Option.bind (app 1 [x695, x701] l637) fun l731 =>
 Option.bind (r43_Check N l731) fun r737 =>
 bif (!decide (r737 = x725)) then (
 some (.inr (Sum.inl (l567, i566, 9)))) else (
 Option.bind (app 24 l567 ([l637])) fun l750 =>
 Option.bind (in64 (4 + x609)) fun x760 =>
 Option.bind (in64 (i566 + x760)) fun x763 =>
 some (.inl (x763, l750)))))) else (
 some (.inr (Sum.inr (i566, l567))))

def r43_Records (N : Nat) (a0 : List UInt8) : Option (List (List UInt8) × Int × Int) :=
 Option.bind (iterN (fun s : Int × List (List UInt8) => r43_Records_l1 N a0 s.1 s.2) N (0, [])) fun r576 =>
 match r576 with
 | .inl p770 => (
 some p770)
 | .inr p773 => (
 some (p773.2, p773.1, 0))

def journal_Mend (N : Nat) (a0 : List UInt8) : Option (List UInt8 × Int) :=
 Option.bind (journal_Records N a0) fun r1 =>
 bif (!decide (r1.2.2 = 0)) then (
 some ([], r1.2.2)) else (
 Option.bind (slc a0 0 r1.2.1) fun l12 =>
 Option.bind (app 1 [] l12) fun l16 =>
 some (l16, 0))

def r43_Mend (N : Nat) (a0 : List UInt8) : Option (List UInt8 × Int) :=
 Option.bind (r43_Records N a0) fun r1 =>
 bif (!decide (r1.2.2 = 0)) then (
 some ([], r1.2.2)) else (
 Option.bind (slc a0 0 r1.2.1) fun l15 =>
 Option.bind (app 1 [] l15) fun l18 =>
 some (l18, 0))

def law43_exact (N : Nat) (a0 : List UInt8) (a1 : List UInt8) : Option (Bool) :=
 Option.bind (journal_Append N a0 a1) fun r1 =>
 Option.bind (r43_Append N a0 a1) fun r8 =>
 Option.bind (journal_Records N a0) fun r15 =>
 Option.bind (r43_Records N a0) fun r23 =>
 Option.bind (journal_Mend N a0) fun r31 =>
 Option.bind (r43_Mend N a0) fun r38 =>
 Option.bind (humpgen_Bytes N r1.1 r8.1) fun r45 =>
 Option.bind (gO (r45 && decide (r1.2 = r8.2)) (law43_same N r15.1 r23.1)) fun r58 =>
 Option.bind (gO ((((r45 && decide (r1.2 = r8.2)) && r58) && decide (r15.2.1 = r23.2.1)) && decide (r15.2.2 = r23.2.2)) (humpgen_Bytes N r31.1 r38.1)) fun r76 =>
 Option.bind (gO ((((((r45 && decide (r1.2 = r8.2)) && r58) && decide (r15.2.1 = r23.2.1)) && decide (r15.2.2 = r23.2.2)) && r76) && decide (r31.2 = r38.2)) (journal_Check N a0)) fun r89 =>
 Option.bind (gO ((((((r45 && decide (r1.2 = r8.2)) && r58) && decide (r15.2.1 = r23.2.1)) && decide (r15.2.2 = r23.2.2)) && r76) && decide (r31.2 = r38.2)) (r43_Check N a0)) fun r97 =>
 Option.bind (gO (((((((r45 && decide (r1.2 = r8.2)) && r58) && decide (r15.2.1 = r23.2.1)) && decide (r15.2.2 = r23.2.2)) && r76) && decide (r31.2 = r38.2)) && decide (r89 = r97)) (journal_Check N a1)) fun r107 =>
 Option.bind (gO (((((((r45 && decide (r1.2 = r8.2)) && r58) && decide (r15.2.1 = r23.2.1)) && decide (r15.2.2 = r23.2.2)) && r76) && decide (r31.2 = r38.2)) && decide (r89 = r97)) (r43_Check N a1)) fun r115 =>
 some ((((((((r45 && decide (r1.2 = r8.2)) && r58) && decide (r15.2.1 = r23.2.1)) && decide (r15.2.2 = r23.2.2)) && r76) && decide (r31.2 = r38.2)) && decide (r89 = r97)) && decide (r107 = r115))

def law43_JournalExact_l1 (N : Nat) (a0 : List Int) (i302 : Int) (i303 : Int) : Option ((Int × Int) ⊕ (Bool ⊕ Unit)) :=
 bif decide (i302 < 5) then (
 Option.bind (law43_records N a0 i303 5) fun r318 =>
 Option.bind (law43_written N r318.2) fun r326 =>
 Option.bind (
 bif decide (1 < i302) then (
 Option.bind (Maker_SpoilBytes N a0 r318.1 r326.1) fun r361 =>
 some (r361.1, r361.2)) else (
 some (r318.1, r326.1))) fun j356 =>
 Option.bind (
 bif decide (i302 = 4) then (
 Option.bind (Maker_Pick N a0 j356.1 ([0, 31, 32, 33, 255])) fun r413 =>
 Option.bind (Maker_Pick N a0 r413.1 ([0, 1, 255])) fun r422 =>
 Option.bind (app 1 j356.2 ([(toU8 r413.2), (toU8 r422.2), (1 : UInt8), (2 : UInt8), (3 : UInt8)])) fun l431 =>
 some (r422.1, l431)) else (
 some (j356.1, j356.2))) fun j405 =>
 Option.bind (Maker_Next N a0 j405.1 256) fun r442 =>
 Option.bind (law43_exact N j405.2 ([(toU8 i302), (toU8 r442.2)])) fun r451 =>
 bif (!r451) then (
 some (.inr (Sum.inl false))) else (
 Option.bind (in64 (i302 + 1)) fun x459 =>
 some (.inl (x459, r442.1)))) else (
 some (.inr (Sum.inr ())))

def law43_JournalExact (N : Nat) (a0 : List Int) (a1 : List UInt8) (a2 : List UInt8) : Option (Bool) :=
 Option.bind (humpgen_New N a0) fun r1 =>
 Option.bind (iterN (fun s : Int × Int => law43_JournalExact_l1 N a0 s.1 s.2) N (0, r1)) fun r310 =>
 match r310 with
 | .inl p466 => (
 some p466)
 | .inr p469 => (
 bif (decide (3000 < (List.length a1 : Int)) || decide (3000 < (List.length a2 : Int))) then (
 Option.bind (law43_sane N) fun r478 =>
 some r478) else (
 Option.bind (mkL 1 8193 (0 : UInt8)) fun l484 =>
 Option.bind (journal_Append N [] l484) fun r490 =>
 Option.bind (mkL 1 8192 (0 : UInt8)) fun l497 =>
 Option.bind (journal_Append N [] l497) fun r503 =>
 Option.bind (gO ((decide (r490.2 = 3) && decide (r503.2 = 0)) && decide ((List.length r503.1 : Int) = 8196)) (law43_exact N a1 a2)) fun r520 =>
 Option.bind (gO (((decide (r490.2 = 3) && decide (r503.2 = 0)) && decide ((List.length r503.1 : Int) = 8196)) && r520) (law43_sane N)) fun r528 =>
 some ((((decide (r490.2 = 3) && decide (r503.2 = 0)) && decide ((List.length r503.1 : Int) = 8196)) && r520) && r528)))

def law43_JournalReads_l1 (N : Nat) (r8 : Int × List (List UInt8)) (i203 : Int) (l204 : List UInt8) : Option ((Int × List UInt8) ⊕ (Bool ⊕ (List UInt8))) :=
 bif decide (i203 < (List.length r8.2 : Int)) then (
 Option.bind (idx r8.2 i203) fun x220 =>
 Option.bind (journal_Append N l204 x220) fun r225 =>
 Option.bind (gO (!(!decide (r225.2 = 0))) (in64 ((List.length l204 : Int) + 4))) fun x237 =>
 Option.bind (gO (!(!decide (r225.2 = 0))) (idx r8.2 i203)) fun x243 =>
 Option.bind (gO (!(!decide (r225.2 = 0))) (in64 (x237 + (List.length x243 : Int)))) fun x251 =>
 Option.bind (gO (!((!decide (r225.2 = 0)) || (!decide ((List.length r225.1 : Int) = x251)))) (slc r225.1 0 (List.length l204 : Int))) fun l260 =>
 Option.bind (gO (!((!decide (r225.2 = 0)) || (!decide ((List.length r225.1 : Int) = x251)))) (humpgen_Bytes N l260 l204)) fun r265 =>
 bif (((!decide (r225.2 = 0)) || (!decide ((List.length r225.1 : Int) = x251))) || (!r265)) then (
 some (.inr (Sum.inl false))) else (
 Option.bind (in64 (i203 + 1)) fun x275 =>
 some (.inl (x275, r225.1)))) else (
 some (.inr (Sum.inr l204)))

def law43_JournalReads (N : Nat) (a0 : List Int) : Option (Bool) :=
 Option.bind (humpgen_New N a0) fun r1 =>
 Option.bind (law43_records N a0 r1 9) fun r8 =>
 Option.bind (iterN (fun s : Int × List UInt8 => law43_JournalReads_l1 N r8 s.1 s.2) N (0, [])) fun r212 =>
 match r212 with
 | .inl p282 => (
 some p282)
 | .inr p285 => (
 Option.bind (journal_Records N p285) fun r288 =>
 Option.bind (journal_Mend N p285) fun r296 =>
 Option.bind (gO (decide (r288.2.2 = 0) && decide (r288.2.1 = (List.length p285 : Int))) (law43_same N r288.1 r8.2)) fun r311 =>
 Option.bind (gO (((decide (r288.2.2 = 0) && decide (r288.2.1 = (List.length p285 : Int))) && r311) && decide (r296.2 = 0)) (humpgen_Bytes N r296.1 p285)) fun r324 =>
 Option.bind (gO ((((decide (r288.2.2 = 0) && decide (r288.2.1 = (List.length p285 : Int))) && r311) && decide (r296.2 = 0)) && r324) (law43_sane N)) fun r332 =>
 some (((((decide (r288.2.2 = 0) && decide (r288.2.1 = (List.length p285 : Int))) && r311) && decide (r296.2 = 0)) && r324) && r332))

def law43_JournalCuts_l1 (N : Nat) (r16 : List UInt8 × List Int) (r27 : Int) (i88 : Int) (i89 : Int) (i90 : Int) : Option ((Int × Int × Int) ⊕ (Int × Int)) :=
 Option.bind (gO (decide (i90 < (List.length r16.2 : Int))) (idx r16.2 i90)) fun x104 =>
 bif (decide (i90 < (List.length r16.2 : Int)) && decide (x104 ≤ r27)) then (
 Option.bind (in64 (i90 + 1)) fun x117 =>
 Option.bind (idx r16.2 i90) fun x120 =>
 Option.bind (in64 (i90 + 1)) fun x123 =>
 some (.inl (x117, x120, x123))) else (
 some (.inr (i88, i89)))

def law43_JournalCuts (N : Nat) (a0 : List Int) (a1 : Int) (a2 : List UInt8) : Option (Bool) :=
 Option.bind (humpgen_New N a0) fun r1 =>
 Option.bind (law43_records N a0 r1 9) fun r8 =>
 Option.bind (law43_written N r8.2) fun r16 =>
 Option.bind (in64 ((List.length r16.1 : Int) + 1)) fun x24 =>
 Option.bind (yardgen_Place N a1 x24) fun r27 =>
 Option.bind (iterN (fun s : Int × Int × Int => law43_JournalCuts_l1 N r16 r27 s.1 s.2.1 s.2.2) N (0, 0, 0)) fun r97 =>
 Option.bind (slc r16.1 0 r27) fun l131 =>
 Option.bind (journal_Records N l131) fun r134 =>
 Option.bind (slc r16.1 0 r27) fun l142 =>
 Option.bind (journal_Mend N l142) fun r145 =>
 Option.bind (gO (!((!decide (r134.2.2 = 0)) || (!decide (r134.2.1 = r97.2)))) (slc r8.2 0 r97.1)) fun l160 =>
 Option.bind (gO (!((!decide (r134.2.2 = 0)) || (!decide (r134.2.1 = r97.2)))) (law43_same N r134.1 l160)) fun r164 =>
 Option.bind (gO (!((((!decide (r134.2.2 = 0)) || (!decide (r134.2.1 = r97.2))) || (!r164)) || (!decide (r145.2 = 0)))) (slc r16.1 0 r97.2)) fun l179 =>
 Option.bind (gO (!((((!decide (r134.2.2 = 0)) || (!decide (r134.2.1 = r97.2))) || (!r164)) || (!decide (r145.2 = 0)))) (humpgen_Bytes N r145.1 l179)) fun r183 =>
 bif (((((!decide (r134.2.2 = 0)) || (!decide (r134.2.1 = r97.2))) || (!r164)) || (!decide (r145.2 = 0))) || (!r183)) then (
 some false) else (
 bif decide (200 < (List.length a2 : Int)) then (
 Option.bind (law43_sane N) fun r195 =>
 some r195) else (
 Option.bind (journal_Append N r145.1 a2) fun r201 =>
 Option.bind (journal_Records N r201.1) fun r208 =>
 bif (decide (r201.2 = 0) && decide (r208.2.2 = 0)) then (
 Option.bind (gO (decide (r201.2 = 0) && decide (r208.2.2 = 0)) (slc r8.2 0 r97.1)) fun l230 =>
 Option.bind (app 24 [] l230) fun l234 =>
 Option.bind (app 24 l234 ([a2])) fun l250 =>
 Option.bind (law43_same N r208.1 l250) fun r259 =>
 Option.bind (gO ((decide (r201.2 = 0) && decide (r208.2.2 = 0)) && r259) (law43_sane N)) fun r267 =>
 some (((decide (r201.2 = 0) && decide (r208.2.2 = 0)) && r259) && r267)) else (
 some (((decide (r201.2 = 0) && decide (r208.2.2 = 0)) && false) && false))))

end Go.Gv
