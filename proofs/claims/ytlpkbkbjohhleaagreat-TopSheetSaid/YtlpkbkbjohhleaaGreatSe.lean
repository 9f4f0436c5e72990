/- The message of the wagons: reading one wagon. -/
import Derived.Test.YtlpkbkbjohhleaaGreatSd
namespace Go.Gv
theorem one_ok (N : Nat) {b : List UInt8} {p : Nat} (h : p < b.length) (hb : b.length ≤ 100000) : reader_one N b (p : Int) = some (((p + 1 : Nat) : Int), ((g8 b p).toNat : Int)) := by
  have h1 := (g8 b p).toNat_lt
  unfold reader_one
  exact obi (inc_nat (by omega)) (obi (in64_nat (n := p) (by omega) (by omega)) (obi (idx_g8 h) (obi (in64_ok (by omega)) rfl)))
theorem rtwo_ok (N : Nat) {b : List UInt8} {p : Nat} (h : p + 1 < b.length) (hb : b.length ≤ 100000) : reader_two N b (p : Int) = some (((p + 2 : Nat) : Int), 256 * ((g8 b p).toNat : Int) + ((g8 b (p + 1)).toNat : Int)) := by
  have h1 := (g8 b p).toNat_lt
  have h2 := (g8 b (p + 1)).toNat_lt
  have e1 : shl_i64 ((g8 b p).toNat : Int) 8 = some (((g8 b p).toNat * 2 ^ 8 : Nat) : Int) := shl_ok (x := (g8 b p).toNat) (s := 8) (by omega) (by decide)
  have e0 : (2 : Nat) ^ 8 = 256 := by decide
  have e2 : orN 63 (((g8 b p).toNat * 2 ^ 8 : Nat) : Int) ((g8 b (p + 1)).toNat : Int) = some (256 * ((g8 b p).toNat : Int) + ((g8 b (p + 1)).toNat : Int)) := by
    rw [orN_nat (by omega) (by omega), Nat.mul_comm, ← Nat.two_pow_add_eq_or_of_lt (show (g8 b (p + 1)).toNat < 2 ^ 8 by omega)]
    congr 1
  unfold reader_two
  exact obi (one_ok N (by omega) hb) (obi e1 (obi (one_ok N h hb) (obi e2 rfl)))
theorem num_ok {N : Nat} (hN : 5000 ≤ N) {x : T_Wagon} (W : WagR x) {L b : List UInt8} (B : WB x L) {p : Nat} (hp : p + L.length ≤ b.length) (hb : b.length ≤ 100000) (hg : ∀ j, j < L.length → g8 b (p + j) = g8 L j) :
    iterN (fun s : Bool × Int × Int × List UInt8 => reader_wagon_l1 N b s.1 s.2.1 s.2.2.1 s.2.2.2) N (true, 0, (p : Int), []) = some (true, ((p + 6 : Nat) : Int), x.Number) := by
  have hl := B.len
  have hn := W.len
  refine runN1 (f := fun s : Bool × Int × Int × List UInt8 => reader_wagon_l1 N b s.1 s.2.1 s.2.2.1 s.2.2.2) 6 (fun i s => s.1 = true ∧ s.2.1 = ((2 * i : Nat) : Int) ∧ s.2.2.1 = ((p + i : Nat) : Int) ∧ s.2.2.2 = x.Number.take (2 * i)) _ ?_ ?_ N (by omega) (true, 0, (p : Int), []) ⟨rfl, rfl, rfl, rfl⟩
  · rintro i ⟨t, i', q, l⟩ hi ⟨rfl, rfl, rfl, rfl⟩
    simp only
    have d1 := W.dig (2 * i) (by omega)
    have d2 := W.dig (2 * i + 1) (by omega)
    have hv := B.nib i hi
    have h1 := one_ok N (b := b) (p := p + i) (by omega) hb
    rw [hg i (by omega)] at h1
    generalize hc : (g8 L i).toNat = c at hv h1
    have s1 : shr_i64 (c : Int) 4 = some ((c / 16 : Nat) : Int) := shr_ok (x := c) (s := 4) (by decide)
    have s2 : andN 63 (c : Int) 15 = some ((c % 16 : Nat) : Int) := by
      have h := andN_nat (a := c) (b := 15) (by omega) (by omega)
      rw [show (15 : Nat) = 2 ^ 4 - 1 from rfl, Nat.and_two_pow_sub_one_eq_mod] at h
      exact h
    have e1 : toU8 ((48 + c / 16 : Nat) : Int) = g8 x.Number (2 * i) := by
      apply UInt8.toNat_inj.1
      rw [toU8_nat]; omega
    have e2 : toU8 ((48 + c % 16 : Nat) : Int) = g8 x.Number (2 * i + 1) := by
      apply UInt8.toNat_inj.1
      rw [toU8_nat]; omega
    have tk : x.Number.take (2 * (i + 1)) = x.Number.take (2 * i) ++ [g8 x.Number (2 * i), g8 x.Number (2 * i + 1)] := by
      rw [show 2 * (i + 1) = 2 * i + 1 + 1 by omega, take_snoc (by omega), take_snoc (by omega), List.append_assoc]
      have : ∀ k (h : k < x.Number.length), x.Number[k] = g8 x.Number k := fun k h => by unfold g8; rw [List.getD_eq_getElem?_getD, List.getElem?_eq_getElem h]; rfl
      rw [this, this]; rfl
    have g : (true && decide (((c / 16 : Nat) : Int) ≤ 9)) = true := band rfl (decide_eq_true (by omega))
    unfold reader_wagon_l1
    refine ⟨_, oit (decide_eq_true (by omega)) (obi h1 (obi (gO_T rfl s1) (obi (gO_T g s2) (obi s1 (obi (in64_nat (n := 48 + c / 16) (by omega) (by omega)) (obi s2 (obi (in64_nat (n := 48 + c % 16) (by omega) (by omega)) (obi (app_ok (by simp only [List.length_take, List.length_cons, List.length_nil]; omega) (by simp only [List.length_take, List.length_cons, List.length_nil]; omega)) (obi (in64_nat (n := 2 * (i + 1)) (by omega) (by omega)) rfl))))))))), band g (decide_eq_true (by omega)), rfl, rfl, ?_⟩
    simp only
    rw [tk, e1, e2]
  · rintro ⟨t, i', q, l⟩ ⟨rfl, rfl, rfl, rfl⟩
    unfold reader_wagon_l1
    refine oif (decide_eq_false (by simp only; omega)) ?_
    simp only
    rw [List.take_of_length_le (by omega)]
theorem rwagon_ok {N : Nat} (hN : 5000 ≤ N) {x : T_Wagon} (W : WagR x) {L b : List UInt8} (B : WB x L) {p : Nat} (hp : p + L.length ≤ b.length) (hb : b.length ≤ 100000) (hg : ∀ j, j < L.length → g8 b (p + j) = g8 L j) (hd : (b.take (p + L.length)).drop (p + 15) = L.drop 15) :
    reader_wagon N b (p : Int) = some (((p + L.length : Nat) : Int), x, true) := by
  have hl := B.len
  have h0 := num_ok hN W B hp hb hg
  have h1 := rtwo_ok N (b := b) (p := p + 6) (by omega) hb
  have h2 := one_ok N (b := b) (p := p + 8) (by omega) hb
  have h3 := rtwo_ok N (b := b) (p := p + 9) (by omega) hb
  have h4 := rtwo_ok N (b := b) (p := p + 11) (by omega) hb
  have h5 := one_ok N (b := b) (p := p + 13) (by omega) hb
  have h6 := one_ok N (b := b) (p := p + 14) (by omega) hb
  rw [hg 6 (by omega), show p + 6 + 1 = p + 7 from rfl, hg 7 (by omega), ← B.lgt] at h1
  rw [hg 8 (by omega), ← B.axl] at h2
  rw [hg 9 (by omega), show p + 9 + 1 = p + 10 from rfl, hg 10 (by omega), ← B.mas] at h3
  rw [hg 11 (by omega), show p + 11 + 1 = p + 12 from rfl, hg 12 (by omega), ← B.bra] at h4
  rw [hg 13 (by omega), B.goo] at h5
  rw [hg 14 (by omega), B.nam] at h6
  have hs : slc b ((p + 15 : Nat) : Int) ((p + L.length : Nat) : Int) = some x.Dest := by
    rw [slc_nat (by omega) (by omega), hd, B.dst]
  have w5 := W.goo
  have hin : in64 (((p + 14 + 1 : Nat) : Int) + (x.Dest.length : Int)) = some ((p + L.length : Nat) : Int) := in64_nat (by omega) (by omega)
  unfold reader_wagon
  refine obi h0 (obi h1 (obi h2 (obi h3 (obi h4 (obi h5 (obi h6 (obi hin (obi hs ?_))))))))
  cases hgt : x.Gentle with
  | false =>
    have e : x.Goods + (bif false then 16 else 0) = x.Goods := Int.add_zero _
    have e2 : Int.tmod x.Goods 16 = x.Goods := by rw [Int.tmod_eq_emod_of_nonneg w5.1]; omega
    simp only [e, e2]
    rw [decide_eq_false (show ¬ 16 ≤ x.Goods by omega), decide_eq_true (show x.Goods ≤ 25 by omega), decide_eq_true w5.2]
    cases x
    simp only at hgt
    subst hgt
    rfl
  | true =>
    have e : x.Goods + (bif true then 16 else 0) = x.Goods + 16 := rfl
    have e2 : Int.tmod (x.Goods + 16) 16 = x.Goods := by rw [Int.tmod_eq_emod_of_nonneg (by omega)]; omega
    simp only [e, e2]
    rw [decide_eq_true (show 16 ≤ x.Goods + 16 by omega), decide_eq_true (show x.Goods + 16 ≤ 25 by omega), decide_eq_true w5.2]
    cases x
    simp only at hgt
    subst hgt
    rfl
end Go.Gv
