/- Made wagons: their numbers are valid. -/
import Derived.Test.YtlpkbkbjohhleaaGreatSa
namespace Go.Gv
def g8 (r : List UInt8) (i : Nat) : UInt8 := r.getD i 0
theorem idx_g8 {r : List UInt8} {i : Nat} (h : i < r.length) : idx r (i : Int) = some (g8 r i) := idx_getD _ h
theorem g8_set {r : List UInt8} {i j : Nat} {x : UInt8} (h : i < r.length) : g8 (r.set i x) j = if j = i then x else g8 r j := getD_set' h
theorem g8_app {b : List UInt8} {x : UInt8} {j : Nat} : g8 (b ++ [x]) j = if j < b.length then g8 b j else if j = b.length then x else 0 := getD_app
/-- digits -/
def Dig (s : List UInt8) : Prop := ∀ i, i < s.length → 48 ≤ (g8 s i).toNat ∧ (g8 s i).toNat ≤ 57
theorem toU8_dig {x : Int} (h : 48 ≤ x ∧ x ≤ 57) : ((toU8 x).toNat : Int) = x := by rw [toU8_toNat]; omega
theorem Dig.set {s : List UInt8} (h : Dig s) {i : Nat} (hi : i < s.length) {x : Int} (hx : 48 ≤ x ∧ x ≤ 57) : Dig (s.set i (toU8 x)) := fun j hj => by
  rw [List.length_set] at hj
  rw [g8_set hi]
  have := toU8_dig hx
  split
  · omega
  · exact h j hj
theorem digits_made {N : Nat} (hN : 5000 ≤ N) (t : List Int) {k : Int} (h0 : 0 ≤ k) (h1 : k ≤ 100000) : ∃ s, Maker_Digits N t k 11 = some (k + 11, s) ∧ s.length = 11 ∧ Dig s := by
  obtain ⟨q, hq, q1, q2, q3⟩ := runN (f := fun s : Int × Int × List UInt8 => Maker_Digits_l1 N t 11 s.1 s.2.1 s.2.2) 11
    (fun i s => s.1 = i ∧ s.2.1 = k + i ∧ s.2.2.length = 11 ∧ ∀ j, j < i → 48 ≤ (g8 s.2.2 j).toNat ∧ (g8 s.2.2 j).toNat ≤ 57)
    (fun q => q.1 = k + 11 ∧ q.2.length = 11 ∧ Dig q.2) (by
    rintro i ⟨i', k', b⟩ hi ⟨rfl, rfl, g1, g2⟩
    simp only at g1 g2 ⊢
    left
    obtain ⟨d, hd, d1, d2⟩ := next_ok N t (k := k + i) (n := 10) (by omega) (by omega) (by decide) (by decide)
    unfold Maker_Digits_l1
    refine ⟨_, oit (decide_eq_true (by omega)) (obi hd (obi (in64_ok (by simp only; omega)) (obi (idx_g8 (r := b) (i := i) (by omega)) (obi (inc_nat (by omega)) rfl)))), rfl, by simp only; omega, by simpa using g1, fun j hj => ?_⟩
    simp only [Int.toNat_natCast]
    rw [g8_set (by omega)]
    have := toU8_dig (x := 48 + d) (by omega)
    split
    · omega
    · exact g2 j (by omega)) (by
    rintro ⟨i', k', b⟩ ⟨rfl, rfl, g1, g2⟩
    simp only at g1 g2
    unfold Maker_Digits_l1
    exact ⟨_, oif (decide_eq_false (by simp only; omega)) rfl, rfl, g1, fun i hi => g2 i (by simp only at hi; omega)⟩) N (by omega) (0, k, List.replicate 11 0) ⟨rfl, by simp only; omega, by simp, fun j h => absurd h (Nat.not_lt_zero _)⟩
  refine ⟨q.2, obi (mkL_ok (n := 11) _ (by omega) (by omega)) (obi hq ?_), q2, q3⟩
  rw [q1]
theorem sum_ok {N : Nat} (hN : 5000 ≤ N) {s : List UInt8} (hs : s.length = 11) (D : Dig s) : ∃ v : Nat, r02_sum N s 11 = some (v : Int) ∧ wagonnumber_sum N s = some (v : Int) ∧ v ≤ 200 := by
  have same : (fun x : Int × Int => r02_sum_l1 N s 11 x.1 x.2) = fun x : Int × Int => wagonnumber_sum_l1 N s x.1 x.2 := by
    funext x
    unfold r02_sum_l1 wagonnumber_sum_l1
    rw [show (s.length : Int) = 11 by omega]
  obtain ⟨q, hq, v, rfl, hv⟩ := runN (f := fun x : Int × Int => wagonnumber_sum_l1 N s x.1 x.2) s.length
    (fun i x => x.2 = i ∧ ∃ v : Nat, x.1 = v ∧ v ≤ 10 * i) (fun q => ∃ v : Nat, q = v ∧ v ≤ 200) (by
    rintro i ⟨a, i'⟩ hi ⟨rfl, v, rfl, hv⟩
    simp only
    left
    have hd := D i hi
    obtain ⟨z, e2, hz⟩ : ∃ z : Nat, in64 ((toU8 (((g8 s i).toNat : Int) - 48)).toNat : Int) = some (z : Int) ∧ z ≤ 9 := ⟨(g8 s i).toNat - 48, in64_nat (by rw [toU8_toNat]; omega) (by omega), by omega⟩
    unfold wagonnumber_sum_l1
    by_cases c : Int.tmod (i : Int) 2 = 0
    · by_cases c2 : 9 < (z : Int) * 2
      · exact ⟨_, oit (decide_eq_true (by omega)) (obi (idx_g8 hi) (obi e2 (oit (decide_eq_true c) (obi (in64_ok (by omega)) (oit (decide_eq_true c2) (obi (in64_ok (by omega)) (obi (in64_ok (by omega)) (obi (inc_nat (by omega)) rfl)))))))), rfl, v + (z * 2 - 9), by simp only; omega, by omega⟩
      · exact ⟨_, oit (decide_eq_true (by omega)) (obi (idx_g8 hi) (obi e2 (oit (decide_eq_true c) (obi (in64_ok (by omega)) (oif (decide_eq_false c2) (obi (in64_ok (by omega)) (obi (inc_nat (by omega)) rfl))))))), rfl, v + z * 2, by simp only; omega, by omega⟩
    · exact ⟨_, oit (decide_eq_true (by omega)) (obi (idx_g8 hi) (obi e2 (oif (decide_eq_false c) (obi (in64_ok (by omega)) (obi (inc_nat (by omega)) rfl))))), rfl, v + z, by simp only; omega, by omega⟩) (by
    rintro ⟨a, i'⟩ ⟨rfl, v, rfl, hv⟩
    unfold wagonnumber_sum_l1
    exact ⟨_, oif (decide_eq_false (by simp)) rfl, v, rfl, by omega⟩) N (by omega) (0, 0) ⟨rfl, 0, rfl, by omega⟩
  refine ⟨v, ?_, obi hq rfl, hv⟩
  unfold r02_sum
  rw [same]
  exact obi hq rfl
theorem rdigits_ok {N : Nat} (hN : 5000 ≤ N) {s : List UInt8} (hs : s.length = 11) (D : Dig s) : r02_digits N s 11 = some true := by
  have hq : iterN (fun x : Int => r02_digits_l1 N s 11 x) N 0 = some (.inr ()) := by
    refine runN1 (f := fun x : Int => r02_digits_l1 N s 11 x) s.length (fun i x => x = i) _ ?_ ?_ N (by omega) 0 rfl
    · rintro i x hi rfl
      have hd := D i hi
      unfold r02_digits_l1
      exact ⟨_, oit (decide_eq_true (by omega)) (obi (idx_g8 hi) (obi (gO_T (bnotIt (decide_eq_false (by omega))) (idx_g8 hi)) (oif (borF (decide_eq_false (by omega)) (decide_eq_false (by omega))) (obi (inc_nat (by omega)) rfl)))), rfl⟩
    · rintro x rfl
      unfold r02_digits_l1
      exact oif (decide_eq_false (by omega)) rfl
  unfold r02_digits
  exact oif (by rw [decide_eq_true (by omega)]; rfl) (obi hq rfl)
theorem wdigits_ok {N : Nat} (hN : 5000 ≤ N) {s : List UInt8} (hs : s.length = 12) (D : Dig s) : wagonnumber_digits N s 12 = some true := by
  have hq : iterN (fun x : Int => wagonnumber_digits_l1 N s x) N 0 = some (.inr ()) := by
    refine runN1 (f := fun x : Int => wagonnumber_digits_l1 N s x) s.length (fun i x => x = i) _ ?_ ?_ N (by omega) 0 rfl
    · rintro i x hi rfl
      have hd := D i hi
      unfold wagonnumber_digits_l1
      exact ⟨_, oit (decide_eq_true (by omega)) (obi (idx_g8 hi) (obi (gO_T (bnotIt (decide_eq_false (by omega))) (idx_g8 hi)) (oif (borF (decide_eq_false (by omega)) (decide_eq_false (by omega))) (obi (inc_nat (by omega)) rfl)))), rfl⟩
    · rintro x rfl
      unfold wagonnumber_digits_l1
      exact oif (decide_eq_false (by omega)) rfl
  unfold wagonnumber_digits
  exact obi hq (by show some (decide ((s.length : Int) = 12)) = some true; rw [decide_eq_true (by omega)])
/-- the kind that a number's fifth digit tells -/
def kd (c : UInt8) : Int := if (c.toNat : Int) = 55 ∨ (c.toNat : Int) = 56 then 1 else if (c.toNat : Int) = 50 ∨ (c.toNat : Int) = 52 then 2 else if (c.toNat : Int) = 57 then 3 else 0
/-- a number that has a kind -/
structure NumOk (N : Nat) (s : List UInt8) : Prop where
  len : s.length = 12
  dig : Dig s
  kind : wagonnumber_Kind N s = some (kd (g8 s 4), 0)
  val : wagonnumber_Valid N s = some 0
theorem kind_ok {N : Nat} (hN : 5000 ≤ N) {s : List UInt8} (hs : s.length = 12) (hv : wagonnumber_Valid N s = some 0) : wagonnumber_Kind N s = some (kd (g8 s 4), 0) := by
  have e := idx_g8 (r := s) (i := 4) (by omega)
  unfold wagonnumber_Kind
  generalize g8 s 4 = c at e ⊢
  unfold kd
  have mk : ∀ (p q : Prop) [Decidable p] [Decidable q], (bif decide p then some (decide p) else some (decide q)) = some (decide (p ∨ q)) := fun p q _ _ => by
    by_cases h : p
    · rw [decide_eq_true h, decide_eq_true (show p ∨ q from .inl h)]; rfl
    · rw [decide_eq_false h]
      by_cases h2 : q
      · rw [decide_eq_true h2, decide_eq_true (show p ∨ q from .inr h2)]; rfl
      · rw [decide_eq_false h2, decide_eq_false (show ¬ (p ∨ q) from fun g => g.elim h h2)]; rfl
  by_cases c1 : (c.toNat : Int) = 55 ∨ (c.toNat : Int) = 56
  · rw [if_pos c1]; exact obi hv (oif rfl (obi e (obi (mk _ _) (oit (decide_eq_true c1) rfl))))
  · by_cases c2 : (c.toNat : Int) = 50 ∨ (c.toNat : Int) = 52
    · rw [if_neg c1, if_pos c2]; exact obi hv (oif rfl (obi e (obi (mk _ _) (oif (decide_eq_false c1) (obi (mk _ _) (oit (decide_eq_true c2) rfl))))))
    · by_cases c3 : (c.toNat : Int) = 57
      · rw [if_neg c1, if_neg c2, if_pos c3]; exact obi hv (oif rfl (obi e (obi (mk _ _) (oif (decide_eq_false c1) (obi (mk _ _) (oif (decide_eq_false c2) (oit (decide_eq_true c3) rfl)))))))
      · rw [if_neg c1, if_neg c2, if_neg c3]; exact obi hv (oif rfl (obi e (obi (mk _ _) (oif (decide_eq_false c1) (obi (mk _ _) (oif (decide_eq_false c2) (oif (decide_eq_false c3) rfl)))))))
theorem number_made {N : Nat} (hN : 5000 ≤ N) (t : List Int) {k : Int} (h0 : 0 ≤ k) (h1 : k ≤ 100000) {i : Nat} (hi : i ≤ 1000) : ∃ s, Maker_Number N t k (i : Int) = some (k + 11, s) ∧ NumOk N s ∧ ((g8 s 8).toNat = 48 + i / 100 % 10 ∧ (g8 s 9).toNat = 48 + i / 10 % 10 ∧ (g8 s 10).toNat = 48 + i % 10) := by
  obtain ⟨s0, hs0, l0, D0⟩ := digits_made hN t h0 h1
  have dg : ∀ x : Nat, x ≤ 1000 → in64 (48 + Int.tmod (x : Int) 10) = some (48 + ((x % 10 : Nat) : Int)) := fun x hx => by
    have e : Int.tmod (x : Int) 10 = ((x % 10 : Nat) : Int) := by rw [Int.tmod_eq_emod_of_nonneg (by omega)]; omega
    rw [e]; exact in64_ok (by omega)
  have q100 : quo64 (i : Int) 100 = some ((i / 100 : Nat) : Int) := by
    have e : Int.tdiv (i : Int) 100 = ((i / 100 : Nat) : Int) := by rw [Int.tdiv_eq_ediv_of_nonneg (by omega)]; omega
    rw [quo64_ok (by decide) (by rw [e]; omega), e]
  have q10 : quo64 (i : Int) 10 = some ((i / 10 : Nat) : Int) := by
    have e : Int.tdiv (i : Int) 10 = ((i / 10 : Nat) : Int) := by rw [Int.tdiv_eq_ediv_of_nonneg (by omega)]; omega
    rw [quo64_ok (by decide) (by rw [e]; omega), e]
  have D1 := D0.set (i := 8) (by omega) (x := 48 + ((i / 100 % 10 : Nat) : Int)) (by omega)
  have D2 := D1.set (i := 9) (by simp [l0]) (x := 48 + ((i / 10 % 10 : Nat) : Int)) (by omega)
  have D3 := D2.set (i := 10) (by simp [l0]) (x := 48 + ((i % 10 : Nat) : Int)) (by omega)
  generalize hS : (((s0.set 8 (toU8 (48 + ((i / 100 % 10 : Nat) : Int)))).set 9 (toU8 (48 + ((i / 10 % 10 : Nat) : Int)))).set 10 (toU8 (48 + ((i % 10 : Nat) : Int)))) = S at D3
  have lS : S.length = 11 := by rw [← hS]; simp [l0]
  obtain ⟨v, hv1, hv2, hv3⟩ := sum_ok hN lS D3
  have em : Int.tmod (v : Int) 10 = ((v % 10 : Nat) : Int) := by rw [Int.tmod_eq_emod_of_nonneg (by omega)]; omega
  have es : in64 (10 - Int.tmod (v : Int) 10) = some ((10 - v % 10 : Nat) : Int) := by rw [em]; exact in64_nat (by omega) (by omega)
  have ed : Int.tmod ((10 - v % 10 : Nat) : Int) 10 = (((10 - v % 10) % 10 : Nat) : Int) := by rw [Int.tmod_eq_emod_of_nonneg (by omega)]; omega
  have hdig : r02_Digit N S = some ((((10 - v % 10) % 10 : Nat) : Int), 0) := by
    unfold r02_Digit
    exact obi (rdigits_ok hN lS D3) (oif rfl (obi hv1 (obi es (by rw [ed]))))
  have hchk : wagonnumber_check N S = some (((10 - v % 10) % 10 : Nat) : Int) := by
    unfold wagonnumber_check
    exact obi hv2 (obi es (by rw [ed]))
  generalize hd : (10 - v % 10) % 10 = d at hdig hchk
  have hd9 : d ≤ 9 := by omega
  have htd := toU8_dig (x := 48 + (d : Int)) (by omega)
  have D4 : Dig (S ++ [toU8 (48 + (d : Int))]) := fun j hj => by
    simp only [List.length_append, List.length_cons, List.length_nil] at hj
    rw [g8_app]
    by_cases h : j < S.length
    · rw [if_pos h]; exact D3 j h
    · rw [if_neg h, if_pos (by omega)]; omega
  have l4 : (S ++ [toU8 (48 + (d : Int))]).length = 12 := by simp [lS]
  have hval : wagonnumber_Valid N (S ++ [toU8 (48 + (d : Int))]) = some 0 := by
    have e11 := idx_g8 (r := S ++ [toU8 (48 + (d : Int))]) (i := 11) (by omega)
    rw [g8_app, if_neg (by omega), if_pos (by omega)] at e11
    have esl : slc (S ++ [toU8 (48 + (d : Int))]) 0 11 = some S := by
      have := slc_nat (l := S ++ [toU8 (48 + (d : Int))]) (a := 0) (b := 11) (by omega) (by omega)
      rw [List.drop_zero, List.take_append_of_le_length (by omega), List.take_of_length_le (by omega)] at this
      exact this
    unfold wagonnumber_Valid
    refine obi (wdigits_ok hN l4 D4) (oif rfl (obi e11 (obi (in64_nat (n := d) (by rw [toU8_toNat]; omega) (by omega)) (obi esl (obi hchk (oif (by simp) rfl))))))
  have hd8 : (g8 S 8).toNat = 48 + i / 100 % 10 ∧ (g8 S 9).toNat = 48 + i / 10 % 10 ∧ (g8 S 10).toNat = 48 + i % 10 := by
    have u1 := toU8_dig (x := 48 + ((i / 100 % 10 : Nat) : Int)) (by omega)
    have u2 := toU8_dig (x := 48 + ((i / 10 % 10 : Nat) : Int)) (by omega)
    have u3 := toU8_dig (x := 48 + ((i % 10 : Nat) : Int)) (by omega)
    have q10 : g8 S 10 = toU8 (48 + ((i % 10 : Nat) : Int)) := by rw [← hS, g8_set (by simp [l0]), if_pos rfl]
    have q9 : g8 S 9 = toU8 (48 + ((i / 10 % 10 : Nat) : Int)) := by rw [← hS, g8_set (by simp [l0]), if_neg (by decide), g8_set (by simp [l0]), if_pos rfl]
    have q8 : g8 S 8 = toU8 (48 + ((i / 100 % 10 : Nat) : Int)) := by rw [← hS, g8_set (by simp [l0]), if_neg (by decide), g8_set (by simp [l0]), if_neg (by decide), g8_set (by omega), if_pos rfl]
    rw [q10, q9, q8]
    omega
  refine ⟨S ++ [toU8 (48 + (d : Int))], ?_, ⟨l4, D4, kind_ok hN l4 hval, hval⟩, by rw [g8_app, if_pos (by omega), g8_app, if_pos (by omega), g8_app, if_pos (by omega)]; exact hd8⟩
  have hbs : byS s0 = some s0 := by unfold byS; rw [if_pos (by omega)]
  have hap : appS S [toU8 (48 + (d : Int))] = some (S ++ [toU8 (48 + (d : Int))]) := by unfold appS; rw [if_pos (by simp [lS])]
  unfold Maker_Number
  refine obi hs0 (obi hbs (obi q100 (obi (dg (i / 100) (by omega)) (obi q10 (obi (dg (i / 10) (by omega)) (obi (dg i hi) (obi (idx_g8 (r := s0) (i := 8) (by omega)) (obi (idx_g8 (i := 9) (by simp [l0])) (obi (idx_g8 (i := 10) (by simp [l0])) (obi (by rw [show Int.toNat 8 = 8 from rfl, show Int.toNat 9 = 9 from rfl, show Int.toNat 10 = 10 from rfl, hS]; exact hdig) (obi (in64_ok (by simp only; omega)) (obi (by rw [show Int.toNat 8 = 8 from rfl, show Int.toNat 9 = 9 from rfl, show Int.toNat 10 = 10 from rfl, hS]; exact hap) rfl))))))))))))
/-- a wagon in its ranges -/
structure WagR (x : T_Wagon) : Prop where
  len : x.Number.length = 12
  dig : Dig x.Number
  lgt : 80 ≤ x.Length ∧ x.Length ≤ 400
  axl : x.Axles = 2 ∨ x.Axles = 4 ∨ x.Axles = 6
  mas : 50 ≤ x.Mass ∧ x.Mass ≤ 2000
  bra : 0 ≤ x.Brake ∧ x.Brake ≤ x.Mass
  goo : 0 ≤ x.Goods ∧ x.Goods ≤ 9
  dst : 1 ≤ x.Dest.length ∧ x.Dest.length ≤ 12
/-- the ten names -/
def nameS : List Str := [(Str.mk ([97] : List UInt8)), (Str.mk ([98] : List UInt8)), (Str.mk ([99] : List UInt8)), (Str.mk ([100] : List UInt8)), (Str.mk ([101] : List UInt8)), (Str.mk ([110, 111, 114, 116, 104] : List UInt8)), (Str.mk ([115, 111, 117, 116, 104] : List UInt8)), (Str.mk ([112, 111, 114, 116, 49] : List UInt8)), (Str.mk ([120, 57] : List UInt8)), (Str.mk ([97, 98, 99, 100, 101, 102, 103, 104, 105, 106, 107, 108] : List UInt8))]
theorem names_fact : ∀ y ∈ nameS, (1 ≤ y.s.length ∧ y.s.length ≤ 12) ∧ ∀ c ∈ y.s, (97 ≤ c.toNat ∧ c.toNat ≤ 122) ∨ (48 ≤ c.toNat ∧ c.toNat ≤ 57) := by decide +kernel
theorem name_ok {N : Nat} (hN : 5000 ≤ N) {y : Str} (hy : y ∈ nameS) : consist_name N y.s = some true := by
  obtain ⟨⟨h1, h2⟩, h3⟩ := names_fact y hy
  have hq : iterN (fun x : Int => consist_name_l1 N y.s x) N 0 = some (.inr ()) := by
    refine runN1 (f := fun x : Int => consist_name_l1 N y.s x) y.s.length (fun i x => x = i) _ ?_ ?_ N (by omega) 0 rfl
    · rintro i x hi rfl
      have hc := h3 (g8 y.s i) (by
        have : y.s[i] = g8 y.s i := by unfold g8; rw [List.getD_eq_getElem?_getD, List.getElem?_eq_getElem hi]; rfl
        rw [← this]; exact List.getElem_mem hi)
      have hb : ((decide (((g8 y.s i).toNat : Int) < 97) || decide (122 < ((g8 y.s i).toNat : Int))) && (decide (((g8 y.s i).toNat : Int) < 48) || decide (57 < ((g8 y.s i).toNat : Int)))) = false := by
        rcases hc with hc | hc
        · exact bandF (borF (decide_eq_false (by omega)) (decide_eq_false (by omega)))
        · exact bandF2 (borF (decide_eq_false (by omega)) (decide_eq_false (by omega)))
      unfold consist_name_l1
      exact ⟨_, oit (decide_eq_true (by omega)) (obi (idx_g8 hi) (oif hb (obi (inc_nat (by omega)) rfl))), rfl⟩
    · rintro x rfl
      unfold consist_name_l1
      exact oif (decide_eq_false (by omega)) rfl
  unfold consist_name
  exact obi hq (by show some (decide (0 < (y.s.length : Int)) && decide ((y.s.length : Int) ≤ 12)) = some true; rw [decide_eq_true (by omega), decide_eq_true (by omega)]; rfl)
/-- how the axles go with the kind -/
def AxOk (x : T_Wagon) : Prop := (x.Axles = 2 ∧ kd (g8 x.Number 4) = 2) ∨ (x.Axles = 6 ∧ kd (g8 x.Number 4) = 3 ∧ 120 ≤ x.Length) ∨ (x.Axles = 4 ∧ kd (g8 x.Number 4) ≠ 2 ∧ kd (g8 x.Number 4) ≠ 3)
theorem valid_ok {N : Nat} (hN : 5000 ≤ N) {x : T_Wagon} (hn : NumOk N x.Number) (hk : AxOk x) (W : WagR x) (hd : ∃ y ∈ nameS, x.Dest = y.s) : consist_Valid N x = some 0 := by
  obtain ⟨y, hy, ey⟩ := hd
  have hnm := name_ok hN hy
  rw [← ey] at hnm
  obtain ⟨_, _, l1, _, m1, b1, g1, _⟩ := W
  have hb : (((decide (x.Brake < 0) || decide (x.Mass < x.Brake)) || decide (x.Goods < 0)) || decide (9 < x.Goods)) = false := borF (borF (borF (decide_eq_false (by omega)) (decide_eq_false (by omega))) (decide_eq_false (by omega))) (decide_eq_false (by omega))
  unfold consist_Valid
  rcases hk with ⟨k1, k2⟩ | ⟨k1, k2, k3⟩ | ⟨k1, k2, k3⟩
  · have h1 := hn.kind
    rw [k2] at h1
    have ha : consist_axles N 2 = some 2 := rfl
    exact obi h1 (oif rfl (obi (x := 80) rfl (obi ha (oif (bnotIf (decide_eq_true k1)) (oif (borF (borF (borF (decide_eq_false (by omega)) (decide_eq_false (by omega))) (decide_eq_false (by omega))) (decide_eq_false (by omega))) (oif hb (obi hnm (oif rfl rfl))))))))
  · have h1 := hn.kind
    rw [k2] at h1
    have ha : consist_axles N 3 = some 6 := rfl
    exact obi h1 (oif rfl (obi (x := 120) rfl (obi ha (oif (bnotIf (decide_eq_true k1)) (oif (borF (borF (borF (decide_eq_false (by omega)) (decide_eq_false (by omega))) (decide_eq_false (by omega))) (decide_eq_false (by omega))) (oif hb (obi hnm (oif rfl rfl))))))))
  · have h1 := hn.kind
    have ha : consist_axles N (kd (g8 x.Number 4)) = some 4 := by
      unfold consist_axles
      exact oif (decide_eq_false k2) (oif (decide_eq_false k3) rfl)
    exact obi h1 (oif rfl (obi (x := 80) (oif (decide_eq_false k3) rfl) (obi ha (oif (bnotIf (decide_eq_true k1)) (oif (borF (borF (borF (decide_eq_false (by omega)) (decide_eq_false (by omega))) (decide_eq_false (by omega))) (decide_eq_false (by omega))) (oif hb (obi hnm (oif rfl rfl))))))))
/-- the number of a made wagon among the wagons -/
def numI (s : List UInt8) : Nat := ((g8 s 8).toNat - 48) * 100 + ((g8 s 9).toNat - 48) * 10 + ((g8 s 10).toNat - 48)
/-- a made wagon -/
structure WagOk (N : Nat) (x : T_Wagon) : Prop where
  r : WagR x
  val : consist_Valid N x = some 0
  dst : ∃ y ∈ nameS, x.Dest = y.s
theorem wagon_made {N : Nat} (hN : 5000 ≤ N) (t : List Int) {k : Int} (h0 : 0 ≤ k) (h1 : k ≤ 50000) {i : Nat} (hi : i < 1000) : ∃ k' x, Maker_Wagon N t k (i : Int) = some (k', x) ∧ 0 ≤ k' ∧ k' ≤ k + 30 ∧ WagOk N x ∧ numI x.Number = i := by
  obtain ⟨s, hs, hn, hd8⟩ := number_made hN t h0 (by omega) (i := i) (by omega)
  obtain ⟨a, ha, a1⟩ := pick_ok N t (k := k + 11) (v := [80, 120, 142, 199, 262, 400]) (by omega) (by omega) (by decide) (by decide)
  obtain ⟨b, hb, b1⟩ := pick_ok N t (k := k + 11 + 1) (v := [50, 120, 400, 800, 2000]) (by omega) (by omega) (by decide) (by decide)
  obtain ⟨c, hc, c1⟩ := pick_ok N t (k := k + 11 + 1 + 1) (v := [0, 0, 0, 1, 3, 9]) (by omega) (by omega) (by decide) (by decide)
  obtain ⟨d, hd, d1, d2⟩ := next_ok N t (k := k + 11 + 1 + 1 + 1) (n := 5) (by omega) (by omega) (by decide) (by decide)
  obtain ⟨e, he, e1, e2⟩ := next_ok N t (k := k + 11 + 1 + 1 + 1 + 1) (n := 10) (by omega) (by omega) (by decide) (by decide)
  obtain ⟨f, hf, f1, f2⟩ := next_ok N t (k := k + 11 + 1 + 1 + 1 + 1 + 1) (n := 5) (by omega) (by omega) (by decide) (by decide)
  have ha2 : 80 ≤ a ∧ a ≤ 400 := by
    simp only [List.mem_cons, List.not_mem_nil, or_false] at a1
    omega
  have hb2 : 50 ≤ b ∧ b ≤ 2000 := by
    simp only [List.mem_cons, List.not_mem_nil, or_false] at b1
    omega
  have hc2 : 0 ≤ c ∧ c ≤ 9 := by
    simp only [List.mem_cons, List.not_mem_nil, or_false] at c1
    omega
  obtain ⟨nm, hnm, nm2⟩ : ∃ nm : Str, Maker_Name N t (k + 11 + 1 + 1 + 1 + 1) = some (k + 11 + 1 + 1 + 1 + 1 + 1, nm.s) ∧ nm ∈ nameS := by
    obtain ⟨e', rfl⟩ : ∃ e' : Nat, e = e' := ⟨e.toNat, by omega⟩
    have hlt : e' < nameS.length := by show e' < 10; omega
    unfold Maker_Name
    exact ⟨nameS[e'], obi he (obi (idx_nat (i := e') (l := nameS) hlt) rfl), List.getElem_mem hlt⟩
  have hmul : 0 ≤ b * f ∧ b * f ≤ 4 * b := by
    have hf4 : f = 0 ∨ f = 1 ∨ f = 2 ∨ f = 3 ∨ f = 4 := by omega
    rcases hf4 with rfl | rfl | rfl | rfl | rfl <;> omega
  obtain ⟨z, hz, hz2⟩ : ∃ z, quo64 (b * f) 4 = some z ∧ 0 ≤ z ∧ z ≤ b := by
    have e : Int.tdiv (b * f) 4 = (b * f) / 4 := Int.tdiv_eq_ediv_of_nonneg hmul.1
    generalize b * f = m at hmul e
    exact ⟨_, quo64_ok (by decide) (by rw [e]; omega), by rw [e]; omega⟩
  have e4 := idx_g8 (r := s) (i := 4) (by rw [hn.len]; omega)
  have hx : ∃ x y : Int, (Option.bind (
      bif decide (((g8 s 4).toNat : Int) = 50) then (
      some (decide (((g8 s 4).toNat : Int) = 50))) else (
      some (decide (((g8 s 4).toNat : Int) = 52)))) fun j248 =>
      bif j248 then (
      some (a, (2 : Int))) else (
      bif decide (((g8 s 4).toNat : Int) = 57) then (
      some ((max a 120), 6)) else (
      some (a, 4)))) = some (x, y) ∧ (80 ≤ x ∧ x ≤ 400) ∧ ((y = 2 ∧ kd (g8 s 4) = 2) ∨ (y = 6 ∧ kd (g8 s 4) = 3 ∧ 120 ≤ x) ∨ (y = 4 ∧ kd (g8 s 4) ≠ 2 ∧ kd (g8 s 4) ≠ 3)) := by
    unfold kd
    by_cases c1 : ((g8 s 4).toNat : Int) = 50
    · exact ⟨a, 2, obi (oit (decide_eq_true c1) rfl) (oit (decide_eq_true c1) rfl), ha2, .inl ⟨rfl, by rw [if_neg (by omega), if_pos (.inl c1)]⟩⟩
    · by_cases c2 : ((g8 s 4).toNat : Int) = 52
      · exact ⟨a, 2, obi (oif (decide_eq_false c1) rfl) (oit (decide_eq_true c2) rfl), ha2, .inl ⟨rfl, by rw [if_neg (by omega), if_pos (.inr c2)]⟩⟩
      · by_cases c3 : ((g8 s 4).toNat : Int) = 57
        · exact ⟨max a 120, 6, obi (oif (decide_eq_false c1) rfl) (oif (decide_eq_false c2) (oit (decide_eq_true c3) rfl)), by omega, .inr (.inl ⟨rfl, by rw [if_neg (by omega), if_neg (by omega), if_pos c3], by omega⟩)⟩
        · refine ⟨a, 4, obi (oif (decide_eq_false c1) rfl) (oif (decide_eq_false c2) (oif (decide_eq_false c3) rfl)), ha2, .inr (.inr ⟨rfl, ?_⟩)⟩
          rw [if_neg (show ¬ (((g8 s 4).toNat : Int) = 50 ∨ ((g8 s 4).toNat : Int) = 52) by omega), if_neg c3]
          split <;> decide
  obtain ⟨x, y, hxy, x1, x2⟩ := hx
  have hR : WagR (T_Wagon.mk s x y b z c (decide (d = 0)) nm.s) := ⟨hn.len, hn.dig, x1, by show y = 2 ∨ y = 4 ∨ y = 6; omega, hb2, hz2, hc2, (names_fact nm nm2).1⟩
  unfold Maker_Wagon
  refine ⟨_, _, obi hs (obi ha (obi hb (obi hc (obi hd (obi hnm (obi e4 (obi hxy (obi hf (obi (in64_ok (by simp only; omega)) (obi hz rfl)))))))))), by omega, by omega, ⟨hR, valid_ok hN hn x2 hR ⟨nm, nm2, rfl⟩, nm, nm2, rfl⟩, ?_⟩
  show numI s = i
  unfold numI
  omega
theorem wagons_made {N : Nat} (hN : 5000 ≤ N) (t : List Int) {n : Nat} (hn : n ≤ 12) : ∃ k w, Maker_Wagons N t 0 (n : Int) = some (k, w) ∧ 0 ≤ k ∧ k ≤ 1000 ∧ w.length ≤ n ∧ (∀ x ∈ w, WagOk N x) ∧ ∀ i (h : i < w.length), numI w[i].Number = i := by
  obtain ⟨c, hc, c1, c2⟩ := next_ok N t (k := 0) (n := (n : Int) + 1) (by decide) (by decide) (by omega) (by omega)
  obtain ⟨q, hq, q1, q2, q3, q4⟩ := iterN_run (f := fun s : Int × Int × List T_Wagon => Maker_Wagons_l1 N t s.1 s.2.1 s.2.2)
    (I := fun s => 0 ≤ s.1 ∧ s.1 + s.2.2.length ≤ n ∧ 0 ≤ s.2.1 ∧ s.2.1 ≤ 1 + 30 * s.2.2.length ∧ (∀ x ∈ s.2.2, WagOk N x) ∧ ∀ i (h : i < s.2.2.length), numI s.2.2[i].Number = i)
    (Q := fun q => 0 ≤ q.1 ∧ q.1 ≤ 1000 ∧ q.2.length ≤ n ∧ (∀ x ∈ q.2, WagOk N x) ∧ ∀ i (h : i < q.2.length), numI q.2[i].Number = i) (fun s => s.1.toNat) (by
    rintro ⟨m, k, w⟩ ⟨h1, h2, h3, h4, h5, h6⟩
    simp only at h1 h2 h3 h4 h5 h6 ⊢
    unfold Maker_Wagons_l1
    by_cases hm : 0 < m
    · obtain ⟨k', x, hx, k1, k2, W, W2⟩ := wagon_made hN t (k := k) h3 (by omega) (i := w.length) (by omega)
      refine .inl ⟨_, oit (decide_eq_true hm) (obi hx (obi (app_ok (by simp only [List.length_cons, List.length_nil]; omega) (by simp only [List.length_cons, List.length_nil]; omega)) (obi (in64_ok (by omega)) rfl))), ⟨by simp only; omega, ?_, by simp only; omega, ?_, fun y hy => ?_, fun i hi => ?_⟩, by simp only; omega⟩
      · simp only [List.length_append, List.length_cons, List.length_nil]; omega
      · simp only [List.length_append, List.length_cons, List.length_nil]; omega
      · simp only [List.mem_append, List.mem_singleton] at hy
        rcases hy with hy | rfl
        · exact h5 y hy
        · exact W
      · simp only [List.length_append, List.length_cons, List.length_nil] at hi
        simp only
        by_cases e : i < w.length
        · rw [List.getElem_append_left e]; exact h6 i e
        · have : i = w.length := by omega
          subst this
          rw [List.getElem_append_right (by omega)]
          simpa using W2
    · exact .inr ⟨_, oif (decide_eq_false hm) rfl, h3, by simp only; omega, by simp only; omega, h5, h6⟩) N (c, 0 + 1, []) ⟨c1, by simp only [List.length_nil]; omega, by simp only; omega, by simp only [List.length_nil]; omega, fun x hx => absurd hx (by simp), fun i h => absurd h (by simp)⟩ (by simp only; omega)
  unfold Maker_Wagons
  exact ⟨q.1, q.2, obi (in64_ok (by omega)) (obi hc (obi hq rfl)), q1, q2, q3, q4⟩
theorem sget_sset {β : Type} : ∀ (m : List (List UInt8 × β)) (k k' : List UInt8) (v : β), sget (sset m k v) k' = if k' = k then some v else sget m k' := by
  intro m
  induction m with
  | nil =>
    intro k k' v
    show (if k = k' then some v else none) = _
    by_cases h : k = k'
    · rw [if_pos h, if_pos h.symm]
    · rw [if_neg h, if_neg (fun e => h e.symm)]; rfl
  | cons p m ih =>
    intro k k' v
    by_cases h : p.1 = k
    · have e : sset (p :: m) k v = (k, v) :: m := if_pos h
      rw [e]
      show (if k = k' then some v else sget m k') = _
      by_cases h2 : k' = k
      · rw [if_pos h2, if_pos h2.symm]
      · rw [if_neg h2, if_neg (fun e => h2 e.symm)]
        show _ = if p.1 = k' then some p.2 else sget m k'
        rw [if_neg (by rw [h]; exact fun e => h2 e.symm)]
    · have e : sset (p :: m) k v = p :: sset m k v := if_neg h
      rw [e]
      show (if p.1 = k' then some p.2 else sget (sset m k v) k') = _
      rw [ih]
      show _ = if k' = k then some v else if p.1 = k' then some p.2 else sget m k'
      by_cases h2 : p.1 = k'
      · rw [if_pos h2, if_neg (by rw [← h2]; exact h), if_pos h2]
      · rw [if_neg h2]
        by_cases h3 : k' = k
        · rw [if_pos h3, if_pos h3]
        · rw [if_neg h3, if_neg h3, if_neg h2]
/-- made wagons pass the check -/
theorem wcheck_ok {N : Nat} (hN : 5000 ≤ N) {ws : List T_Wagon} (hw : ws.length ≤ 12) (W : ∀ x ∈ ws, WagOk N x) (D : ∀ i (h : i < ws.length), numI ws[i].Number = i) : consist_check N ws = some 0 := by
  have hq : iterN (fun s : Int × (List ((List UInt8) × Bool)) => consist_check_l1 N ws s.1 s.2) N (0, []) = some (.inr ()) := by
    refine runN1 (f := fun s : Int × (List ((List UInt8) × Bool)) => consist_check_l1 N ws s.1 s.2) ws.length (fun i s => s.1 = i ∧ ∀ k, sget s.2 k ≠ none → numI k < i) _ ?_ ?_ N (by omega) (0, []) ⟨rfl, fun k h => absurd rfl h⟩
    · rintro i ⟨i', m⟩ hi ⟨rfl, h1⟩
      simp only at h1
      have hv := (W ws[i] (List.getElem_mem hi)).val
      have hd := D i hi
      have hnone : sget m ws[i].Number = none := by
        cases h : sget m ws[i].Number with
        | none => rfl
        | some b => have := h1 ws[i].Number (by rw [h]; simp); omega
      unfold consist_check_l1
      refine ⟨_, oit (decide_eq_true (by simp only; omega)) (obi (idx_nat hi) (obi hv (oif rfl (oif (by rw [hnone]; rfl) (obi (inc_nat (by omega)) rfl))))), rfl, fun k hk => ?_⟩
      simp only at hk
      rw [sget_sset] at hk
      by_cases e : k = ws[i].Number
      · rw [e]; omega
      · rw [if_neg e] at hk
        have := h1 k hk; omega
    · rintro ⟨i', m⟩ ⟨rfl, h1⟩
      unfold consist_check_l1
      exact oif (decide_eq_false (by simp only; omega)) rfl
  unfold consist_check
  exact oif (decide_eq_false (by omega)) (obi hq rfl)
end Go.Gv
