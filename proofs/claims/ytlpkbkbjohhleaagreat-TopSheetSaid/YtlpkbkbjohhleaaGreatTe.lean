/- Least codes: the plan, the witness and the certificate. -/
import Derived.Test.YtlpkbkbjohhleaaGreatTd
namespace Go.Gv
theorem reverse_eq (N : Nat) (hN : 200 ≤ N) (l : List Int) (hl : l.length ≤ 100) : g_slices_Reverse_int_int N l = some l.reverse := by
  obtain ⟨q, hq, rfl⟩ := iterN_run (f := fun s : Int × Int × List Int => g_slices_Reverse_int_int_l1 N s.1 s.2.1 s.2.2)
    (I := fun s => ∃ i : Nat, s.1 = i ∧ 2 * i ≤ l.length + 1 ∧ s.2.1 = (l.length : Int) - 1 - i ∧ s.2.2.length = l.length ∧ ∀ (m : Nat) (h : m < s.2.2.length) (h2 : m < l.length), s.2.2[m] = if m < i ∨ l.length ≤ m + i then l[l.length - 1 - m] else l[m])
    (Q := fun q => q = l.reverse) (fun s => 150 - s.1.toNat) (by
    rintro ⟨i', j', b⟩ ⟨i, rfl, hi, rfl, hb, hall⟩
    simp only at hb hall ⊢
    unfold g_slices_Reverse_int_int_l1
    by_cases h : (i : Int) < (l.length : Int) - 1 - i
    · have ej : ((l.length : Int) - 1 - i) = ((l.length - 1 - i : Nat) : Int) := by omega
      rw [ej]
      have hib : i < b.length := by omega
      have hjb : l.length - 1 - i < b.length := by omega
      have hne : i ≠ l.length - 1 - i := by omega
      have e1 : b[i] = l[i] := by rw [hall i hib (by omega), if_neg (by omega)]
      have e2 : b[l.length - 1 - i] = l[l.length - 1 - i] := by rw [hall _ hjb (by omega), if_neg (by omega)]
      refine .inl ⟨(((i + 1 : Nat) : Int), ((l.length - 1 - i : Nat) : Int) - 1, (b.set i b[l.length - 1 - i]).set (l.length - 1 - i) b[i]), oit (decide_eq_true (by omega)) (obi (idx_nat hjb) (obi (idx_nat hib) (obi (idx_nat (by simp; omega)) (obi (inc_nat (by omega)) (obi (in64_ok (by omega)) (by rw [Int.toNat_natCast, Int.toNat_natCast])))))), ⟨i + 1, rfl, by omega, by simp only; omega, by simp [hb], fun m hm hm2 => ?_⟩, by simp only; omega⟩
      simp only [List.getElem_set]
      by_cases m1 : l.length - 1 - i = m
      · subst m1
        rw [if_pos rfl, if_pos (by omega), e1]
        congr 1
        omega
      · rw [if_neg m1]
        by_cases m2 : i = m
        · subst m2
          rw [if_pos rfl, if_pos (by omega), e2]
        · rw [if_neg m2, hall m (by omega) hm2]
          by_cases c : m < i ∨ l.length ≤ m + i
          · rw [if_pos c, if_pos (by omega)]
          · rw [if_neg c, if_neg (by omega)]
    · refine .inr ⟨_, oif (decide_eq_false h) rfl, ?_⟩
      apply List.ext_getElem (by simp [hb])
      intro m h1 h2
      rw [hall m h1 (by omega), List.getElem_reverse]
      by_cases c : m < i ∨ l.length ≤ m + i
      · rw [if_pos c]
      · rw [if_neg c]
        congr 1
        omega) N (0, (l.length : Int) - 1, l) ⟨0, rfl, by omega, by simp, rfl, fun m h h2 => by rw [if_neg (by simp only at h; omega)]⟩ (by simp only; omega)
  unfold g_slices_Reverse_int_int
  exact obi (in64_ok (by omega)) (obi hq rfl)


theorem steps_ok {N : Nat} (hN : 5000 ≤ N) {k : Nat} (hk : k < 4096) : ∃ n : Nat, code_Steps N (k : Int) = some ((n : Int), 0) ∧ n ≤ 12 ∧ k < 2 ^ n ∧ (n = 0 ∨ 2 ^ (n - 1) ≤ k) := by
  have hi : code_in N (k : Int) 0 4095 = some true := by unfold code_in; rw [decide_eq_true (by omega), decide_eq_true (by omega)]; rfl
  obtain ⟨q, hq, n, rfl, q1, q2, q3⟩ := iterN_run (f := fun s : Int × Int => code_Steps_l1 N s.1 s.2) (I := fun s => ∃ n : Nat, s.2 = n ∧ s.1 = ((k / 2 ^ n : Nat) : Int) ∧ n ≤ 12 ∧ (n = 0 ∨ 2 ^ (n - 1) ≤ k)) (Q := fun q => ∃ n : Nat, q = n ∧ n ≤ 12 ∧ k < 2 ^ n ∧ (n = 0 ∨ 2 ^ (n - 1) ≤ k)) (fun s => 13 - s.2.toNat) (by
    rintro ⟨m, n'⟩ ⟨n, rfl, rfl, h1, h2⟩
    simp only
    unfold code_Steps_l1
    by_cases h : 0 < k / 2 ^ n
    · have hge : 2 ^ n ≤ k := by
        rcases Nat.lt_or_ge k (2 ^ n) with h' | h'
        · rw [Nat.div_eq_of_lt h'] at h; omega
        · exact h'
      have h12 : n < 12 := by
        rcases Nat.lt_or_ge n 12 with h' | h'
        · exact h'
        · have := Nat.pow_le_pow_right (show 0 < 2 by decide) h'
          have h3 : (2 : Nat) ^ 12 = 4096 := by decide
          omega
      have e : shr_i64 ((k / 2 ^ n : Nat) : Int) 1 = some ((k / 2 ^ (n + 1) : Nat) : Int) := by
        have := shr_ok (x := k / 2 ^ n) (s := 1) (by decide)
        rw [Nat.div_div_eq_div_mul, Nat.pow_one, ← Nat.pow_succ] at this
        exact this
      exact .inl ⟨_, oit (decide_eq_true (by omega)) (obi (inc_nat (by omega)) (obi e rfl)), ⟨n + 1, rfl, rfl, by omega, .inr (by simpa using hge)⟩, by simp only [Int.toNat_natCast]; omega⟩
    · have hlt : k < 2 ^ n := by
        rcases Nat.lt_or_ge k (2 ^ n) with h' | h'
        · exact h'
        · have := Nat.div_pos h' (Nat.two_pow_pos n); omega
      exact .inr ⟨_, oif (decide_eq_false (by omega)) rfl, n, rfl, h1, hlt, h2⟩) N ((k : Int), 0) ⟨0, rfl, by simp, by omega, .inl rfl⟩ (by simp only; omega)
  refine ⟨n, obi hi (oif rfl (obi hq rfl)), q1, q2, q3⟩
/-- the steps of codes -/
structure StepsOf (least : List Int) (s : Nat) : Prop where
  le : s ≤ 12
  lt : ∀ i, i < least.length → gi least i < ((2 ^ s : Nat) : Int)
  one : s = 0 ∨ ∃ i, i < least.length ∧ ((2 ^ (s - 1) : Nat) : Int) ≤ gi least i
theorem stepsmax {N : Nat} (hN : 5000 ≤ N) {a least : List Int} {e : Int} (hl : least.length ≤ 96) (hr : ∀ i, i < least.length → 0 ≤ gi least i ∧ gi least i < 4096) : ∃ s : Nat, iterN (fun s : Int × Int => leastcode_Least_l1 N (a, least, e) s.1 s.2) N (0, 0) = some (s : Int) ∧ StepsOf least s := by
  obtain ⟨q, hq, s, rfl, q1, q2, q3⟩ := runN (f := fun s : Int × Int => leastcode_Least_l1 N (a, least, e) s.1 s.2) least.length
    (fun i s => s.1 = i ∧ ∃ n : Nat, s.2 = n ∧ n ≤ 12 ∧ (∀ j, j < i → gi least j < ((2 ^ n : Nat) : Int)) ∧ (n = 0 ∨ ∃ j, j < least.length ∧ ((2 ^ (n - 1) : Nat) : Int) ≤ gi least j))
    (fun q => ∃ s : Nat, q = s ∧ s ≤ 12 ∧ (∀ i, i < least.length → gi least i < ((2 ^ s : Nat) : Int)) ∧ (s = 0 ∨ ∃ i, i < least.length ∧ ((2 ^ (s - 1) : Nat) : Int) ≤ gi least i)) (by
    rintro i ⟨i', n'⟩ hi ⟨rfl, n, rfl, h1, h2, h3⟩
    simp only
    left
    have hri := hr i hi
    obtain ⟨k, hk⟩ : ∃ k : Nat, gi least i = k := ⟨(gi least i).toNat, by omega⟩
    obtain ⟨m, hm, m1, m2, m3⟩ := steps_ok (N := N) hN (k := k) (by omega)
    have e : idx least (i : Int) = some (k : Int) := by rw [idx_gi hi, hk]
    unfold leastcode_Least_l1
    have mono : ∀ {x y : Nat}, x ≤ y → ((2 ^ x : Nat) : Int) ≤ ((2 ^ y : Nat) : Int) := fun {x y} h => by
      have := Nat.pow_le_pow_right (show 0 < 2 by decide) h; omega
    refine ⟨_, oit (decide_eq_true (by simp only; omega)) (obi e (obi hm (obi (inc_nat (by omega)) rfl))), rfl, max n m, by simp only; omega, by omega, fun j hj => ?_, ?_⟩
    · by_cases e : j = i
      · subst e
        have := mono (Nat.le_max_right n m)
        omega
      · have := h2 j (by omega)
        have := mono (Nat.le_max_left n m)
        omega
    · rcases Nat.le_total n m with hnm | hnm
      · rw [Nat.max_eq_right hnm]
        rcases m3 with m3 | m3
        · exact .inl m3
        · exact .inr ⟨i, hi, by omega⟩
      · rw [Nat.max_eq_left hnm]; exact h3) (by
    rintro ⟨i', n'⟩ ⟨rfl, n, rfl, h1, h2, h3⟩
    exact ⟨_, oif (decide_eq_false (by simp)) rfl, n, rfl, h1, h2, h3⟩) N (by omega) (0, 0) ⟨rfl, 0, rfl, by omega, fun j h => absurd h (Nat.not_lt_zero _), .inl rfl⟩
  exact ⟨s, hq, q1, q2, q3⟩
theorem SolveS.rng {l : List T_Item} {w : Nat} {base least : List Int} (S : SolveS l w base least) : ∀ i, i < least.length → 0 ≤ gi least i ∧ gi least i < 4096 := fun i hi => by
  obtain ⟨b, k, _, h2, h3, _⟩ := S.at_ i (by rw [← S.ll]; exact hi)
  have := h3.2.1.1
  omega
theorem max_ok {N : Nat} (hN : 5000 ≤ N) {l : List Int} (h0 : 0 < l.length) (hl : l.length ≤ 96) : ∃ m, g_slices_Max_int_int N l = some m ∧ (∀ z, z < l.length → gi l z ≤ m) ∧ ∃ z, z < l.length ∧ gi l z = m := by
  have hz0 : ∀ z, z < 1 → gi l z ≤ gi l 0 := fun z hz => by
    have : z = 0 := by omega
    rw [this]
    exact Int.le_refl _
  obtain ⟨m, hq, q1, q2⟩ := iterN_run (f := fun s : Int × Int => g_slices_Max_int_int_l1 N l s.1 s.2) (I := fun s => ∃ i : Nat, s.2 = i ∧ 1 ≤ i ∧ i ≤ l.length ∧ (∀ z, z < i → gi l z ≤ s.1) ∧ ∃ z, z < l.length ∧ gi l z = s.1) (Q := fun m => (∀ z, z < l.length → gi l z ≤ m) ∧ ∃ z, z < l.length ∧ gi l z = m) (fun s => l.length - s.2.toNat) (by
    rintro ⟨m, i'⟩ ⟨i, rfl, h1, h2, h3, z, h4, h5⟩
    simp only at h3 h5 ⊢
    unfold g_slices_Max_int_int_l1
    by_cases h : i < l.length
    · refine .inl ⟨_, oit (decide_eq_true (by omega)) (obi (idx_gi h) (obi (inc_nat (by omega)) rfl)), ⟨i + 1, rfl, by omega, by omega, fun z hz => ?_, ?_⟩, by simp only [Int.toNat_natCast]; omega⟩
      · simp only
        by_cases e : z = i
        · subst e; omega
        · have := h3 z (by omega); omega
      · simp only
        by_cases e : m ≤ gi l i
        · exact ⟨i, h, by omega⟩
        · exact ⟨z, h4, by omega⟩
    · have : i = l.length := by omega
      subst this
      exact .inr ⟨_, oif (decide_eq_false (by omega)) rfl, h3, z, h4, h5⟩) N (gi l 0, 1) ⟨1, rfl, by omega, by omega, hz0, 0, h0, rfl⟩ (by simp only; omega)
  exact ⟨m, obi (oif (decide_eq_false (by omega)) rfl) (obi (idx_gi (i := 0) h0) (obi hq rfl)), q1, q2⟩
theorem index_ok {N : Nat} (hN : 5000 ≤ N) {l : List Int} (hl : l.length ≤ 96) {v : Int} (hv : ∃ z, z < l.length ∧ gi l z = v) : ∃ i : Nat, g_slices_Index_int_int N l v = some (i : Int) ∧ i < l.length ∧ gi l i = v := by
  have h := first_loop l (fun x => decide (v = x)) (fun i => (i : Int)) (f := g_slices_Index_int_int_l1 N l v) (fun i h hp => by
    unfold g_slices_Index_int_int_l1
    exact oit (decide_eq_true (by omega)) (obi (idx_nat h) (oit hp rfl))) (fun i h hp => by
    unfold g_slices_Index_int_int_l1
    exact oit (decide_eq_true (by omega)) (obi (idx_nat h) (oif hp (obi (inc_nat (by omega)) rfl)))) (by
    unfold g_slices_Index_int_int_l1
    exact oif (decide_eq_false (by omega)) rfl) N (by omega)
  cases hf : l.findIdx? (fun x => decide (v = x)) with
  | none =>
    obtain ⟨z, hz, e⟩ := hv
    have := List.findIdx?_eq_none_iff.1 hf l[z] (List.getElem_mem hz)
    rw [getElem_gi hz, e] at this
    simp at this
  | some i =>
    obtain ⟨hi, hp, _⟩ := List.findIdx?_eq_some_iff_getElem.1 hf
    rw [hf] at h
    refine ⟨i, obi h rfl, hi, ?_⟩
    rw [← getElem_gi hi]; exact (of_decide_eq_true hp).symm
/-- a witness, from its last item on -/
structure WitS (l : List T_Item) (base least out : List Int) : Prop where
  pos : 0 < out.length ∧ out.length ≤ 32
  rng : ∀ i, i < out.length → ∃ y : Nat, y < l.length ∧ gi out i = y
  top : ∃ y : Nat, y < l.length ∧ gi out 0 = y ∧ ∀ z, z < l.length → gi least z ≤ gi least y
  link : ∀ (i x y : Nat), i + 1 < out.length → gi out i = (y : Int) → gi out (i + 1) = (x : Int) → 0 < rel l x y ∧ gi least x + rel l x y - 1 = gi base y
  bot : ∀ y : Nat, gi out (out.length - 1) = (y : Int) → gi base y ≤ 0
theorem wit4 {N : Nat} (hN : 5000 ≤ N) {l : List T_Item} (hl : l.length ≤ 96) {w : Nat} {M : List (List Int)} (R : RelM l M) {base least : List Int} {e : Int} (S : SolveS l w base least) {y : Nat} (hy : y < l.length) (hb : 0 < gi base y) :
    ∃ x : Nat, iterN (fun s : Int => leastcode_Witness_l4 N M (base, least, e) (y : Int) s) N 0 = some (x : Int) ∧ x < l.length ∧ 0 < rel l x y ∧ gi least x + rel l x y - 1 = gi base y := by
  have hll := S.ll
  have hbl := S.bl
  obtain ⟨b, k, b1, _, _, b2⟩ := S.at_ y hy
  obtain ⟨x0, c1, c2, c3⟩ : ∃ x, x < l.length ∧ 0 < rel l x y ∧ gi least x + rel l x y - 1 = gi base y := by
    rcases b2.2 with h | ⟨x, h1, h2, h3⟩
    · omega
    · exact ⟨x, h1, h2, by omega⟩
  obtain ⟨q, hq, x, rfl, q1, q2, q3⟩ := iterN_run (f := fun s : Int => leastcode_Witness_l4 N M (base, least, e) (y : Int) s) (I := fun s => ∃ i : Nat, s = i ∧ i ≤ x0) (Q := fun q => ∃ x : Nat, q = x ∧ x < l.length ∧ 0 < rel l x y ∧ gi least x + rel l x y - 1 = gi base y) (fun s => l.length - s.toNat) (by
    rintro s ⟨i, rfl, hi⟩
    have hil : i < l.length := by omega
    have hr := rel_rng l i y
    have hx := S.rng i (by omega)
    have eM := idx_gl (r := M) (i := i) (by rw [R.len]; exact hil)
    have er : idx (gl M i) (y : Int) = some (rel l i y) := by rw [idx_gi (by rw [R.row i hil]; exact hy), R.at_ i y hil hy]
    unfold leastcode_Witness_l4
    by_cases c : 0 < rel l i y
    · have g : decide (0 < rel l i y) = true := decide_eq_true c
      by_cases c' : gi least i + rel l i y - 1 = gi base y
      · exact .inr ⟨_, oit (decide_eq_true (by simp only; omega)) (obi eM (obi er (obi (gO_T g (idx_gi (r := least) (i := i) (by omega))) (obi (gO_T g (in64_ok (by omega))) (obi (gO_T g (in64_ok (by omega))) (obi (gO_T g (idx_gi (r := base) (i := y) (by omega))) (oit (band g (decide_eq_true c')) rfl))))))), i, rfl, hil, c, c'⟩
      · have hne : i ≠ x0 := fun e1 => by subst e1; exact c' c3
        exact .inl ⟨_, oit (decide_eq_true (by simp only; omega)) (obi eM (obi er (obi (gO_T g (idx_gi (r := least) (i := i) (by omega))) (obi (gO_T g (in64_ok (by omega))) (obi (gO_T g (in64_ok (by omega))) (obi (gO_T g (idx_gi (r := base) (i := y) (by omega))) (oif (bandF2 (decide_eq_false c')) (obi (inc_nat (by omega)) rfl)))))))), ⟨i + 1, rfl, by omega⟩, by simp only [Int.toNat_natCast]; omega⟩
    · have g : decide (0 < rel l i y) = false := decide_eq_false c
      have hne : i ≠ x0 := fun e1 => by subst e1; exact c c2
      exact .inl ⟨_, oit (decide_eq_true (by simp only; omega)) (obi eM (obi er (obi (gO_F g) (obi (gO_F g) (obi (gO_F g) (obi (gO_F g) (oif (bandF g) (obi (inc_nat (by omega)) rfl)))))))), ⟨i + 1, rfl, by omega⟩, by simp only [Int.toNat_natCast]; omega⟩) N 0 ⟨0, rfl, Nat.zero_le _⟩ (by omega)
  exact ⟨x, hq, q1, q2, q3⟩
theorem gi_app {b : List Int} {x : Int} {j : Nat} : gi (b ++ [x]) j = if j < b.length then gi b j else if j = b.length then x else 0 := getD_app
theorem wit3 {N : Nat} (hN : 5000 ≤ N) {l : List T_Item} {w : Nat} (J : JobOk l w) {M : List (List Int)} (R : RelM l M) {base least : List Int} {e : Int} (S : SolveS l w base least) {y0 : Nat} (hy : y0 < l.length) (hm : ∀ z, z < l.length → gi least z ≤ gi least y0) :
    ∃ out, iterN (fun s : Int × List Int => leastcode_Witness_l3 N M (base, least, e) s.1 s.2) N ((y0 : Int), [(y0 : Int)]) = some out ∧ WitS l base least out := by
  have hl := J.len
  have hbl := S.bl
  obtain ⟨out, hq, hQ⟩ := iterN_run (f := fun s : Int × List Int => leastcode_Witness_l3 N M (base, least, e) s.1 s.2)
    (I := fun s => ∃ y : Nat, s.1 = y ∧ y < l.length ∧ 0 < s.2.length ∧ gi s.2 (s.2.length - 1) = y ∧ (it l y).Block + s.2.length ≤ 32 ∧ (∀ i, i < s.2.length → ∃ y : Nat, y < l.length ∧ gi s.2 i = y) ∧ gi s.2 0 = y0 ∧
      ∀ (i x y : Nat), i + 1 < s.2.length → gi s.2 i = (y : Int) → gi s.2 (i + 1) = (x : Int) → 0 < rel l x y ∧ gi least x + rel l x y - 1 = gi base y)
    (Q := fun out => WitS l base least out) (fun s => (it l s.1.toNat).Block.toNat) (by
    rintro ⟨y', out⟩ ⟨y, rfl, h1, h2, h3, h4, h5, h6, h7⟩
    simp only at h2 h3 h4 h5 h6 h7 ⊢
    have hbk := J.bl y h1
    unfold leastcode_Witness_l3
    by_cases hb : 0 < gi base y
    · obtain ⟨x, hx, x1, x2, x3⟩ := wit4 (e := e) hN hl R S h1 hb
      have hr := (rel_pos x2).2
      have hbx := J.bl x x1
      refine .inl ⟨_, obi (idx_gi (r := base) (i := y) (by omega)) (oit (decide_eq_true hb) (obi hx (obi (app_ok (by simp only [List.length_cons, List.length_nil]; omega) (by simp only [List.length_cons, List.length_nil]; omega)) rfl))), ⟨x, rfl, x1, by simp, ?_, ?_, fun i hi => ?_, ?_, fun i a c hi e1 e2 => ?_⟩, ?_⟩
      · simp only [List.length_append, List.length_cons, List.length_nil]
        rw [gi_app, if_neg (by omega), if_pos (by omega)]
      · simp only [List.length_append, List.length_cons, List.length_nil]; omega
      · simp only [List.length_append, List.length_cons, List.length_nil] at hi
        simp only
        rw [gi_app]
        by_cases e1 : i < out.length
        · rw [if_pos e1]; exact h5 i e1
        · rw [if_neg e1, if_pos (by omega)]; exact ⟨x, x1, rfl⟩
      · simp only
        rw [gi_app, if_pos h2]; exact h6
      · simp only [List.length_append, List.length_cons, List.length_nil] at hi
        simp only at e1 e2
        rw [gi_app, if_pos (by omega)] at e1
        rw [gi_app] at e2
        by_cases e3 : i + 1 < out.length
        · rw [if_pos e3] at e2; exact h7 i a c e3 e1 e2
        · rw [if_neg e3, if_pos (by omega)] at e2
          have : i = out.length - 1 := by omega
          subst this
          rw [h3] at e1
          have hc : c = y := by omega
          have ha : a = x := by omega
          subst hc; subst ha
          exact ⟨x2, x3⟩
      · simp only [Int.toNat_natCast]; omega
    · refine .inr ⟨_, obi (idx_gi (r := base) (i := y) (by omega)) (oif (decide_eq_false hb) rfl), ⟨⟨h2, by omega⟩, h5, ⟨y0, hy, h6, hm⟩, h7, fun z hz => ?_⟩⟩
      rw [h3] at hz
      have : z = y := by omega
      subst this; omega) N ((y0 : Int), [(y0 : Int)]) ⟨y0, rfl, hy, by simp, by simp [gi], by have := J.bl y0 hy; simp only [List.length_cons, List.length_nil]; omega, fun i hi => ⟨y0, hy, by simp at hi; subst hi; rfl⟩, rfl, fun i x y hi => by simp at hi⟩ (by have := J.bl y0 hy; simp only [Int.toNat_natCast]; omega)
  exact ⟨out, hq, hQ⟩
/-- what Make answers -/
inductive MakeS (l : List T_Item) (w : Nat) : Int × List Int × List Int × Int → Prop where
  | none : MakeS l w (0, [], [], 15)
  | nil : l = [] → MakeS l w (0, [], [], 0)
  | some {s : Nat} {base least out : List Int} : 0 < l.length → SolveS l w base least → StepsOf least s → WitS l base least out → MakeS l w ((s : Int), least, out.reverse, 0)
theorem least_make {N : Nat} (hN : 5000 ≤ N) {l : List T_Item} {w : Nat} (J : JobOk l w) : (leastcode_Least N l (w : Int) = some (0, [], 15) ∧ certificate_Make N l (w : Int) = some (0, [], [], 15)) ∨
    ∃ (s : Nat) (least chain : List Int), leastcode_Least N l (w : Int) = some ((s : Int), least, 0) ∧ certificate_Make N l (w : Int) = some ((s : Int), least, chain, 0) ∧ (∃ base, SolveS l w base least) ∧ MakeS l w ((s : Int), least, chain, 0) ∧ StepsOf least s := by
  have hl := J.len
  have hv := jobvalid_ok hN J
  obtain ⟨M, hM, R⟩ := relations_ok hN hl (w : Int)
  obtain ⟨q, hq, hQ⟩ := solve_ok hN J R
  rcases hQ with rfl | ⟨base, least, rfl, S⟩
  · have hL : leastcode_Least N l (w : Int) = some (0, [], 15) := obi hv (oif rfl (obi hM (obi hq (oit rfl rfl))))
    exact .inl ⟨hL, obi hL (oit rfl rfl)⟩
  · right
    have hll := S.ll
    obtain ⟨s, hs, hS⟩ := stepsmax (a := base) (e := 0) hN (least := least) (by omega) S.rng
    have hL : leastcode_Least N l (w : Int) = some ((s : Int), least, 0) := obi hv (oif rfl (obi hM (obi hq (oif rfl (obi hs rfl)))))
    by_cases h0 : l.length = 0
    · have hle : least = [] := List.eq_nil_of_length_eq_zero (by omega)
      have hs0 : s = 0 := by
        rcases hS.one with h | ⟨i, hi, _⟩
        · exact h
        · omega
      have hW : leastcode_Witness N l (w : Int) = some ([], 0) := obi hv (oif rfl (obi hM (obi hq (oif rfl (oit (decide_eq_true (by simp only; omega)) rfl)))))
      refine ⟨s, least, [], hL, obi hL (oif rfl (obi hW (oif rfl rfl))), ⟨base, S⟩, ?_, hS⟩
      rw [hle, hs0]
      exact .nil (List.eq_nil_of_length_eq_zero h0)
    · obtain ⟨m, hm, m1, m2⟩ := max_ok hN (l := least) (by omega) (by omega)
      obtain ⟨y0, hy, y1, y2⟩ := index_ok hN (l := least) (by omega) m2
      obtain ⟨out, ho, hW⟩ := wit3 (e := 0) hN J R S (y0 := y0) (by omega) (fun z hz => by rw [y2]; exact m1 z (by omega))
      have hrev := reverse_eq N (by omega) out (by have := hW.pos; omega)
      have hWi : leastcode_Witness N l (w : Int) = some (out.reverse, 0) := obi hv (oif rfl (obi hM (obi hq (oif rfl (oif (decide_eq_false (by simp only; omega)) (obi hm (obi hy (obi ho (obi hrev rfl)))))))))
      exact ⟨s, least, out.reverse, hL, obi hL (oif rfl (obi hWi (oif rfl rfl))), ⟨base, S⟩, .some (by omega) S hS hW, hS⟩
end Go.Gv
