/- The loads of the tracks. -/
import Derived.Test.YtlpkbkbjohhleaaGreatSw
namespace Go.Gv
/-- one item's loads on the sorting tracks -/
theorem loads4 {N : Nat} (hN : 5000 ≤ N) {l : List T_Item} {w s : Nat} {c : List Int} (J : JobOk l w) (P : PlanOk l w s c) {i : Nat} (hi : i < l.length) {T B : Nat} (hB : B ≤ 100000) {L : List Int} (hL : L.length = s + T) (hb : ∀ j, 0 ≤ gi L j ∧ gi L j ≤ B) :
    ∃ L', iterN (fun x : Int × List Int => rollin_Loads_l4 N (s : Int) c (i : Int) (it l i) x.1 x.2) N ((it l i).Round, L) = some L' ∧ L'.length = s + T ∧ ∀ j, 0 ≤ gi L' j ∧ gi L' j ≤ B + (if j < s then 400 else 0) := by
  have hs := P.le
  have hc := P.len
  have hr := J.rd i hi
  have hle := J.le i hi
  obtain ⟨k, hk, k1, k2⟩ := P.at_ i hi
  have hkk := k2.1
  have e1 : idx c (i : Int) = some (k : Int) := by rw [idx_gi (by omega), hk]
  obtain ⟨q, hq, q1, q2⟩ := iterN_run (f := fun x : Int × List Int => rollin_Loads_l4 N (s : Int) c (i : Int) (it l i) x.1 x.2)
    (I := fun x => ∃ b : Nat, x.1 = b ∧ x.2.length = s + T ∧ ∀ j, 0 ≤ gi x.2 j ∧ gi x.2 j ≤ B + (if j < s ∧ j < b then 400 else 0))
    (Q := fun q => q.length = s + T ∧ ∀ j, 0 ≤ gi q j ∧ gi q j ≤ B + (if j < s then 400 else 0)) (fun x => s - x.1.toNat) (by
    rintro ⟨b', L⟩ ⟨b, rfl, h1, h2⟩
    simp only at h1 h2 ⊢
    unfold rollin_Loads_l4
    by_cases h : b < s
    · have e2 := shr_ok (x := k) (s := b) (by omega)
      have hle2 : k / 2 ^ b ≤ k := Nat.div_le_self _ _
      have e3 := andN_nat (a := k / 2 ^ b) (b := 1) (by omega) (by omega)
      rw [Nat.and_one_is_mod] at e3
      by_cases hbit : ((k / 2 ^ b % 2 : Nat) : Int) = 1
      · have hg := h2 b
        rw [if_neg (by omega)] at hg
        refine .inl ⟨_, oit (decide_eq_true (by omega)) (obi e1 (obi e2 (obi e3 (oit (decide_eq_true hbit) (obi (idx_gi (r := L) (i := b) (by omega)) (obi (in64_ok (by omega)) (obi (inc_nat (by omega)) rfl))))))), ⟨b + 1, rfl, by simpa using h1, fun j => ?_⟩, by simp only [Int.toNat_natCast]; omega⟩
        simp only [Int.toNat_natCast]
        rw [gi_set (by omega)]
        by_cases e : j = b
        · rw [if_pos e, if_pos (by omega)]; omega
        · rw [if_neg e]
          have := h2 j
          split at this <;> split <;> omega
      · refine .inl ⟨_, oit (decide_eq_true (by omega)) (obi e1 (obi e2 (obi e3 (oif (decide_eq_false hbit) (obi (inc_nat (by omega)) rfl))))), ⟨b + 1, rfl, h1, fun j => ?_⟩, by simp only [Int.toNat_natCast]; omega⟩
        have := h2 j
        simp only
        split at this <;> split <;> omega
    · refine .inr ⟨_, oif (decide_eq_false (by omega)) rfl, h1, fun j => ?_⟩
      have := h2 j
      split at this <;> split <;> omega) N ((it l i).Round, L) ⟨(it l i).Round.toNat, by simp only; omega, hL, fun j => by
        have := hb j
        simp only
        split <;> omega⟩ (by omega)
  exact ⟨q, hq, q1, q2⟩
theorem loads_ok {N : Nat} (hN : 5000 ≤ N) {l : List T_Item} {w s : Nat} {c : List Int} (J : JobOk l w) (P : PlanOk l w s c) : ∃ L, rollin_Loads N l (w : Int) (s : Int) c = some (L, 0) ∧ L.length ≤ 28 ∧ ∀ j, 0 ≤ gi L j ∧ gi L j ≤ 38400 := by
  have hl := J.len
  have hs := P.le
  have htl : ∀ x, x < l.length → (it l x).Train.toNat < trs l l.length := fun x hx => trs_lt hx
  have htr : trs l l.length ≤ 16 := trs_le (m := 15) fun i hi => by have := J.tr i hi; omega
  have hm : mkL 8 ((s + trs l l.length : Nat) : Int) (0 : Int) = some (List.replicate (s + trs l l.length) 0) := mkL_ok _ (by omega) (by omega)
  obtain ⟨q, hq, q1, q2⟩ := runN (f := fun x : Int × List Int => rollin_Loads_l3 N l (s : Int) c x.1 x.2) l.length
    (fun i x => x.1 = i ∧ x.2.length = s + trs l l.length ∧ ∀ j, 0 ≤ gi x.2 j ∧ gi x.2 j ≤ ((400 * i : Nat) : Int))
    (fun q => q.length = s + trs l l.length ∧ ∀ j, 0 ≤ gi q j ∧ gi q j ≤ ((400 * l.length : Nat) : Int)) (by
    rintro i ⟨i', L⟩ hi ⟨rfl, h1, h2⟩
    simp only at h1 h2 ⊢
    left
    have ht := J.tr i hi
    have ht2 := htl i hi
    have hle := J.le i hi
    obtain ⟨L', hL', m1, m2⟩ := loads4 hN J P hi (T := trs l l.length) (B := 400 * i) (by omega) h1 h2
    have es : in64 ((s : Int) + (it l i).Train) = some ((s + (it l i).Train.toNat : Nat) : Int) := in64_nat (by omega) (by omega)
    have hg := m2 (s + (it l i).Train.toNat)
    rw [if_neg (by omega)] at hg
    unfold rollin_Loads_l3
    refine ⟨_, oit (decide_eq_true (by omega)) (obi (idx_it hi) (obi hL' (obi es (obi (idx_gi (r := L') (i := s + (it l i).Train.toNat) (by omega)) (obi (in64_ok (by omega)) (obi (inc_nat (by omega)) rfl)))))), rfl, by simpa using m1, fun j => ?_⟩
    simp only [Int.toNat_natCast]
    rw [gi_set (by omega)]
    split
    · omega
    · have := m2 j
      split at this <;> omega) (by
    rintro ⟨i', L⟩ ⟨rfl, h1, h2⟩
    unfold rollin_Loads_l3
    exact ⟨_, oif (decide_eq_false (by simp only; omega)) rfl, h1, h2⟩) N (by omega) (0, List.replicate (s + trs l l.length) 0) ⟨rfl, by simp, fun j => by simp only; rw [gi_rep]; omega⟩
  refine ⟨q, ?_, by omega, fun j => by have := q2 j; omega⟩
  unfold rollin_Loads
  exact obi (rvalid_ok hN J P) (oif rfl (obi (start_ok hN c J hs) (obi (in64_nat (n := s + trs l l.length) (by simp only [List.length_replicate]; omega) (by omega)) (obi hm (obi hq rfl)))))
end Go.Gv
