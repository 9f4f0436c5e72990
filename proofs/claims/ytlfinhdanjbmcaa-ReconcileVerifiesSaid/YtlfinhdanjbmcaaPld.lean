/- Made lists; equality of lists; the metric. -/
import Derived.Test.YtlfinhdanjbmcaaPlc
namespace Go.Gv

theorem lists_ok (N : Nat) (hN : 200 ≤ N) (m : List Int) {k n : Int} (hk : 0 ≤ k) (hk2 : k ≤ 1000000) (hn : 0 ≤ n) (hn2 : n ≤ 40) : ∃ k' a b, law08_lists N m k n = some (k', a, b) ∧ 0 ≤ k' ∧ k' ≤ k + 1000 ∧ a.length ≤ n.toNat ∧ b.length ≤ 2 * n.toNat := by
  obtain ⟨x, hx, x0, x1⟩ := next_ok N m hk (by omega) (n := n + 1) (by omega) (by omega)
  obtain ⟨r1, e1, q1⟩ := iterN_run (f := fun s : Int × Int × List Int => law08_lists_l1 N m s.1 s.2.1 s.2.2)
    (I := fun s => 0 ≤ s.1 ∧ k + 1 ≤ s.2.1 ∧ s.2.1 + s.1 = k + 1 + x ∧ (s.2.2.length : Int) = x - s.1) (Q := fun r => k ≤ r.1 ∧ r.1 ≤ k + 100 ∧ (r.2.length : Int) ≤ n) (fun s => s.1.toNat) (by
    rintro ⟨i, k1, l⟩ ⟨h1, h2, h3, h4⟩
    simp only at h1 h2 h3 h4 ⊢
    unfold law08_lists_l1
    by_cases hc : 0 < i
    · obtain ⟨y, hy, _, _⟩ := next_ok N m (k := k1) (n := 4) (by omega) (by omega) (by omega) (by omega)
      exact .inl ⟨(i - 1, k1 + 1, l ++ [y]), oit (decide_eq_true hc) (obi hy (obi (app_ok (by simp; omega) (by simp; omega)) (obi (in64_ok (by omega)) rfl))), ⟨by simp only; omega, by simp only; omega, by simp only; omega, by simp; omega⟩, by simp only; omega⟩
    · exact .inr ⟨(k1, l), oif (decide_eq_false hc) rfl, by simp only; omega, by simp only; omega, by simp only; omega⟩) N (x, k + 1, []) ⟨x0, by simp, by simp, by simp⟩ (by simp only; omega)
  obtain ⟨k1, a⟩ := r1
  simp only at q1
  obtain ⟨r2, e2, q2⟩ := iterN_run (f := fun s : Int × Int × List Int => law08_lists_l2 N m (k1, a) s.1 s.2.1 s.2.2)
    (I := fun s => ∃ i : Nat, s.1 = i ∧ i ≤ a.length ∧ k ≤ s.2.1 ∧ s.2.1 ≤ k1 + 2 * i ∧ s.2.2.length ≤ 2 * i) (Q := fun r => k ≤ r.1 ∧ r.1 ≤ k + 900 ∧ r.2.length ≤ 2 * a.length) (fun s => a.length - s.1.toNat) (by
    rintro ⟨i', k2, l⟩ ⟨i, rfl, h1, h2, h3, h4⟩
    simp only at h1 h2 h3 h4 ⊢
    unfold law08_lists_l2
    by_cases hc : i < a.length
    · obtain ⟨y, hy, _, _⟩ := next_ok N m (k := k2) (n := 9) (by omega) (by omega) (by omega) (by omega)
      obtain ⟨z, hz, _, _⟩ := next_ok N m (k := k2 + 1) (n := 4) (by omega) (by omega) (by omega) (by omega)
      have dc : decide ((i : Int) < (List.length a : Int)) = true := decide_eq_true (by omega)
      by_cases y0 : y = 0
      · exact .inl ⟨(((i + 1 : Nat) : Int), k2 + 1, l), oit dc (obi hy (oit (decide_eq_true y0) (obi (inc_nat (by omega)) rfl))), ⟨i + 1, rfl, hc, by simp only; omega, by simp only; omega, by simp only; omega⟩, by simp only; omega⟩
      by_cases y1 : y = 1
      · exact .inl ⟨(((i + 1 : Nat) : Int), k2 + 1 + 1, l ++ [a[i], z]), oit dc (obi hy (oif (decide_eq_false y0) (oit (decide_eq_true y1) (obi (idx_nat hc) (obi hz (obi (app_ok (by simp; omega) (by simp; omega)) (obi (inc_nat (by omega)) rfl))))))), ⟨i + 1, rfl, hc, by simp only; omega, by simp only; omega, by simp; omega⟩, by simp only; omega⟩
      by_cases y2 : y = 2
      · exact .inl ⟨(((i + 1 : Nat) : Int), k2 + 1 + 1, l ++ [z]), oit dc (obi hy (oif (decide_eq_false y0) (oif (decide_eq_false y1) (oit (decide_eq_true y2) (obi hz (obi (app_ok (by simp; omega) (by simp; omega)) (obi (inc_nat (by omega)) rfl))))))), ⟨i + 1, rfl, hc, by simp only; omega, by simp only; omega, by simp; omega⟩, by simp only; omega⟩
      by_cases y3 : y = 3
      · by_cases hc2 : i + 1 < a.length
        · exact .inl ⟨(((i + 1 + 1 : Nat) : Int), k2 + 1, l ++ [a[i + 1], a[i]]), oit dc (obi hy (oif (decide_eq_false y0) (oif (decide_eq_false y1) (oif (decide_eq_false y2) (oit (decide_eq_true y3) (obi (inc_nat (by omega)) (oit (decide_eq_true (by simp only; omega)) (obi (inc_nat (by omega)) (obi (idx_nat hc2) (obi (idx_nat hc) (obi (app_ok (by simp; omega) (by simp; omega)) (obi (inc_nat (by omega)) (obi (inc_nat (by omega)) rfl))))))))))))), ⟨i + 1 + 1, rfl, hc2, by simp only; omega, by simp only; omega, by simp; omega⟩, by simp only; omega⟩
        · exact .inl ⟨(((i + 1 : Nat) : Int), k2 + 1, l), oit dc (obi hy (oif (decide_eq_false y0) (oif (decide_eq_false y1) (oif (decide_eq_false y2) (oit (decide_eq_true y3) (obi (inc_nat (by omega)) (oif (decide_eq_false (by simp only; omega)) (obi (inc_nat (by omega)) rfl)))))))), ⟨i + 1, rfl, hc, by simp only; omega, by simp only; omega, by simp only; omega⟩, by simp only; omega⟩
      · exact .inl ⟨(((i + 1 : Nat) : Int), k2 + 1, l ++ [a[i]]), oit dc (obi hy (oif (decide_eq_false y0) (oif (decide_eq_false y1) (oif (decide_eq_false y2) (oif (decide_eq_false y3) (obi (idx_nat hc) (obi (app_ok (by simp; omega) (by simp; omega)) (obi (inc_nat (by omega)) rfl)))))))), ⟨i + 1, rfl, hc, by simp only; omega, by simp only; omega, by simp; omega⟩, by simp only; omega⟩
    · exact .inr ⟨(k2, l), oif (decide_eq_false (by simp only; omega)) rfl, by simp only; omega, by simp only; omega, by simp only; omega⟩) N (0, k1, []) ⟨0, rfl, by omega, by simp only; omega, by simp, by simp⟩ (by simp only; omega)
  obtain ⟨k2, b⟩ := r2
  simp only at q2
  refine ⟨k2, a, b, ?_, by omega, by omega, by omega, by omega⟩
  unfold law08_lists
  exact obi (in64_ok (by omega)) (obi hx (obi e1 (obi e2 rfl)))

theorem first_any {α ρ : Type} (l : List α) (p : Nat → Bool) (c : ρ) (f : Int → Option (Int ⊕ (ρ ⊕ Unit)))
    (hT : ∀ (i : Nat), i < l.length → p i = true → f (i : Int) = some (.inr (.inl c))) (hF : ∀ (i : Nat), i < l.length → p i = false → f (i : Int) = some (.inl ((i + 1 : Nat) : Int)))
    (he : f (l.length : Int) = some (.inr (.inr ()))) (N : Nat) (hN : l.length < N) :
    (iterN f N 0 = some (.inl c) ∧ ∃ i, i < l.length ∧ p i = true) ∨ (iterN f N 0 = some (.inr ()) ∧ ∀ i, i < l.length → p i = false) := by
  obtain ⟨q, hq, hQ⟩ := iterN_run (f := f) (I := fun s => ∃ i : Nat, s = i ∧ i ≤ l.length ∧ ∀ (j : Nat), j < i → p j = false)
    (Q := fun q => (q = .inl c ∧ ∃ i, i < l.length ∧ p i = true) ∨ (q = .inr () ∧ ∀ i, i < l.length → p i = false)) (fun s => l.length - s.toNat) (by
    rintro s ⟨i, rfl, hi, hall⟩
    by_cases h : i < l.length
    · cases hp : p i with
      | false => exact .inl ⟨_, hF i h hp, ⟨i + 1, rfl, h, fun j hji => by
          by_cases e : j = i
          · subst e; exact hp
          · exact hall j (by omega)⟩, by omega⟩
      | true => exact .inr ⟨_, hT i h hp, .inl ⟨rfl, i, h, hp⟩⟩
    · have : i = l.length := by omega
      subst this
      exact .inr ⟨_, he, .inr ⟨rfl, fun j hj => hall j hj⟩⟩) N 0 ⟨0, rfl, Nat.zero_le _, fun _ h => absurd h (Nat.not_lt_zero _)⟩ (by simp; omega)
  rcases hQ with ⟨rfl, h⟩ | ⟨rfl, h⟩
  · exact .inl ⟨hq, h⟩
  · exact .inr ⟨hq, h⟩
theorem list_eq_getD {a b : List Int} (h : a.length = b.length) (h2 : ∀ i, i < a.length → a.getD i 0 = b.getD i 0) : a = b := by
  apply List.ext_getElem h
  intro i h3 h4
  have := h2 i h3
  rw [List.getD_eq_getElem?_getD, List.getD_eq_getElem?_getD, List.getElem?_eq_getElem h3, List.getElem?_eq_getElem h4] at this
  exact this
theorem ints_ok (N : Nat) (a b : List Int) (h : a.length < N) (h2 : a.length ≤ 1000000) : humpgen_Ints N a b = some (decide (a = b)) := by
  unfold humpgen_Ints
  by_cases hl : a.length = b.length
  · have hl' : (!decide ((List.length a : Int) = (List.length b : Int))) = false := by rw [decide_eq_true (by omega)]; rfl
    rcases first_any a (fun i => !decide (a.getD i 0 = b.getD i 0)) false (fun s => humpgen_Ints_l1 N a b s) (fun i hi hp => by
      unfold humpgen_Ints_l1
      exact oit (decide_eq_true (by omega)) (obi (idx_getD 0 hi) (obi (idx_getD 0 (by omega)) (oit hp rfl)))) (fun i hi hp => by
      unfold humpgen_Ints_l1
      exact oit (decide_eq_true (by omega)) (obi (idx_getD 0 hi) (obi (idx_getD 0 (by omega)) (oif hp (obi (inc_nat (by omega)) rfl))))) (by
      unfold humpgen_Ints_l1
      exact oif (decide_eq_false (by omega)) rfl) N h with ⟨e, i, hi, hp⟩ | ⟨e, hp⟩
    · refine oif hl' (obi e (congrArg some (decide_eq_false ?_).symm))
      rintro rfl
      simp at hp
    · refine oif hl' (obi e (congrArg some (decide_eq_true ?_).symm))
      exact list_eq_getD hl fun i hi => by
        have := hp i hi
        simpa using this
  · exact oit (by rw [decide_eq_false (by omega)]; rfl) (congrArg some (decide_eq_false (fun e => hl (by rw [e]))).symm)

theorem sane_any (N : Nat) (hN : 200 ≤ N) : law08_sane N = some true := by
  obtain ⟨s, es, hp, hc⟩ := align_ok N hN [1, 2, 3] [1, 3] (by decide) (by decide)
  obtain ⟨s2, es2, hp2, hc2⟩ := align_ok N hN [1, 2] [2, 1] (by decide) (by decide)
  have k1 : reconcile_Align 200 [1, 2, 3] [1, 3] = some ([0, 2, 0], 4, 0) := by decide +kernel
  have k2 : reconcile_Align 200 [1, 2] [2, 1] = some ([4], 4, 0) := by decide +kernel
  obtain ⟨t, et, _, hct⟩ := align_ok 200 (by omega) [1, 2, 3] [1, 3] (by decide) (by decide)
  obtain ⟨t2, et2, _, hct2⟩ := align_ok 200 (by omega) [1, 2] [2, 1] (by decide) (by decide)
  rw [hct.uniq hc, k1] at et
  rw [hct2.uniq hc2, k2] at et2
  have e1 : reconcile_Align N [1, 2, 3] [1, 3] = some ([0, 2, 0], 4, 0) := es.trans et.symm
  have e2 : reconcile_Align N [1, 2] [2, 1] = some ([4], 4, 0) := es2.trans et2.symm
  unfold law08_sane
  exact obi e1 (obi e2 (oit rfl (obi (ints_ok N _ _ (by simp; omega) (by simp)) (oit (by decide) (obi (ints_ok N _ _ (by simp; omega) (by simp)) (by decide))))))

/-! the metric -/
theorem Path.swap {a b : List Int} {i j k l c : Nat} {s : List Int} (h : Path a b i j s k l c) : ∃ s', Path b a j i s' l k c := by
  induction h with
  | nil i j => exact ⟨_, Path.nil j i⟩
  | @cons i j e s k l c ho hp ih =>
    obtain ⟨s', hp'⟩ := ih
    rcases okE_cases ho with ⟨rfl, h1, h2, h3⟩ | ⟨rfl, h1, h2, h3⟩ | ⟨rfl, h1⟩ | ⟨rfl, h1⟩ | ⟨rfl, h1, h2, h3, h4, h5⟩
    · exact ⟨_, Path.cons (e := 0) (ok0 h2 h1 h3.symm) hp'⟩
    · exact ⟨_, Path.cons (ok1 h2 h1 (Ne.symm h3)) hp'⟩
    · exact ⟨_, Path.cons (e := 3) (ok3 h1) hp'⟩
    · exact ⟨_, Path.cons (e := 2) (ok2 h1) hp'⟩
    · exact ⟨_, Path.cons (e := 4) (ok4 h2 h1 h4.symm h3.symm (by rw [← h3, ← h4]; exact Ne.symm h5)) hp'⟩
theorem dist_path0 (a b : List Int) : ∃ s, Path a b 0 0 s a.length b.length (V a b 0 0) := dist_path (Nat.zero_le _) (Nat.le_refl _) (Nat.zero_le _) (Nat.le_refl _)
theorem V_swap (a b : List Int) : V a b 0 0 = V b a 0 0 := by
  apply Nat.le_antisymm
  · obtain ⟨s, hp⟩ := dist_path0 b a
    obtain ⟨s', hp'⟩ := hp.swap
    exact dist_le hp'
  · obtain ⟨s, hp⟩ := dist_path0 a b
    obtain ⟨s', hp'⟩ := hp.swap
    exact dist_le hp'
theorem Path.zero {a b : List Int} {i j k l c : Nat} {s : List Int} (h : Path a b i j s k l c) : c = 0 → k = i + s.length ∧ l = j + s.length ∧ ∀ x, x < s.length → a.getD (i + x) 0 = b.getD (j + x) 0 := by
  induction h with
  | nil => intro _; simp
  | @cons i j e s k l c ho hp ih =>
    intro hc
    rcases okE_cases ho with ⟨rfl, h1, h2, h3⟩ | ⟨rfl, h1, h2, h3⟩ | ⟨rfl, h1⟩ | ⟨rfl, h1⟩ | ⟨rfl, h1, h2, h3, h4, h5⟩
    · obtain ⟨g1, g2, g3⟩ := ih (by simp [cst] at hc; omega)
      simp only [di, dj, List.length_cons] at *
      refine ⟨by simp at g1; omega, by simp at g2; omega, fun x hx => ?_⟩
      cases x with
      | zero => simpa using h3
      | succ x =>
        have := g3 x (by omega)
        simp only [show ¬ ((0 : Int) = 3) by decide, show ¬ ((0 : Int) = 4) by decide, show ¬ ((0 : Int) = 2) by decide, if_false] at this
        rw [show i + (x + 1) = i + 1 + x by omega, show j + (x + 1) = j + 1 + x by omega]
        exact this
    · simp [cst] at hc
    · simp [cst] at hc
    · simp [cst] at hc
    · simp [cst] at hc
theorem path_same (a : List Int) : ∀ n i, n = a.length - i → i ≤ a.length → ∃ s, Path a a i i s a.length a.length 0
  | 0, i, hn, hi => by
    obtain rfl : i = a.length := by omega
    exact ⟨_, Path.nil _ _⟩
  | n + 1, i, hn, hi => by
    obtain ⟨s, hp⟩ := path_same a n (i + 1) (by omega) (by omega)
    exact ⟨_, Path.cons (ok0 (by omega) (by omega) rfl) hp⟩
theorem V_same (a : List Int) : V a a 0 0 = 0 := by
  obtain ⟨s, hp⟩ := path_same a _ 0 rfl (Nat.zero_le _)
  exact Nat.le_zero.1 (dist_le hp)
theorem V_zero {a b : List Int} : V a b 0 0 = 0 ↔ a = b := by
  constructor
  · intro h
    obtain ⟨s, hp⟩ := dist_path0 a b
    obtain ⟨h1, h2, h3⟩ := hp.zero h
    exact list_eq_getD (by omega) fun i hi => by
      have := h3 i (by omega)
      simpa using this
  · rintro rfl; exact V_same a

theorem getD_app {a : List Int} {x : Int} {i : Nat} (h : i < a.length) : (a ++ [x]).getD i 0 = a.getD i 0 := by
  rw [List.getD_eq_getElem?_getD, List.getD_eq_getElem?_getD, List.getElem?_append_left h]
theorem okE_app {a b : List Int} {x : Int} {i j : Nat} {e : Int} (h : okE a b i j e = true) : okE (a ++ [x]) b i j e = true := by
  rcases okE_cases h with ⟨rfl, h1, h2, h3⟩ | ⟨rfl, h1, h2, h3⟩ | ⟨rfl, h1⟩ | ⟨rfl, h1⟩ | ⟨rfl, h1, h2, h3, h4, h5⟩
  · exact ok0 (by simp; omega) h2 (by rw [getD_app h1]; exact h3)
  · exact ok1 (by simp; omega) h2 (by rw [getD_app h1]; exact h3)
  · exact ok2 (by simp; omega)
  · exact ok3 h1
  · exact ok4 (by simp; omega) h2 (by rw [getD_app (by omega)]; exact h3) (by rw [getD_app h1]; exact h4) (by rw [getD_app h1, getD_app (by omega)]; exact h5)
theorem Path.app {a b : List Int} {x : Int} {i j k l c : Nat} {s : List Int} (h : Path a b i j s k l c) : Path (a ++ [x]) b i j s k l c := by
  induction h with
  | nil => exact Path.nil _ _
  | cons ho _ ih => exact Path.cons (okE_app ho) ih
theorem V_app_le (a b : List Int) (x : Int) : V (a ++ [x]) b 0 0 ≤ V a b 0 0 + 4 := by
  obtain ⟨s, hp⟩ := dist_path0 a b
  have h2 := (hp.app (x := x)).trans (Path.one (e := 2) (ok2 (by simp)))
  have := dist_le h2
  simpa [V, di, dj, cst] using this
theorem Path.tail {a b : List Int} {x : Int} {i j k l c : Nat} {s : List Int} (h : Path (a ++ [x]) b i j s k l c) : k = a.length + 1 → (i = a.length + 1 → ∃ s', Path a b a.length j s' a.length l c) ∧ (i ≤ a.length → ∃ s' c', Path a b i j s' a.length l c' ∧ c' ≤ c + 4) := by
  induction h with
  | nil i j =>
    intro hk
    exact ⟨fun _ => ⟨_, Path.nil _ _⟩, fun hi => by omega⟩
  | @cons i j e s k l c ho hp ih =>
    intro hk
    obtain ⟨i1, i2⟩ := ih hk
    have hlen : (a ++ [x]).length = a.length + 1 := by simp
    rcases okE_cases ho with ⟨rfl, h1, h2, h3⟩ | ⟨rfl, h1, h2, h3⟩ | ⟨rfl, h1⟩ | ⟨rfl, h1⟩ | ⟨rfl, h1, h2, h3, h4, h5⟩
    · refine ⟨fun hi => by omega, fun hi => ?_⟩
      by_cases hl : i < a.length
      · obtain ⟨s', c', hp', hc'⟩ := i2 (by simp [di]; omega)
        rw [getD_app hl] at h3
        exact ⟨_, _, Path.cons (ok0 hl h2 h3) hp', by omega⟩
      · obtain rfl : i = a.length := by omega
        obtain ⟨s', hp'⟩ := i1 (by simp [di])
        exact ⟨_, _, Path.cons (e := 3) (ok3 h2) hp', by simp [cst]; omega⟩
    · refine ⟨fun hi => by omega, fun hi => ?_⟩
      by_cases hl : i < a.length
      · obtain ⟨s', c', hp', hc'⟩ := i2 (by simp [di]; omega)
        rw [getD_app hl] at h3
        exact ⟨_, _, Path.cons (ok1 hl h2 h3) hp', by omega⟩
      · obtain rfl : i = a.length := by omega
        obtain ⟨s', hp'⟩ := i1 (by simp [di])
        exact ⟨_, _, Path.cons (e := 3) (ok3 h2) hp', by simp [cst]; omega⟩
    · refine ⟨fun hi => by omega, fun hi => ?_⟩
      by_cases hl : i < a.length
      · obtain ⟨s', c', hp', hc'⟩ := i2 (by simp [di]; omega)
        exact ⟨_, _, Path.cons (ok2 hl) hp', by omega⟩
      · obtain rfl : i = a.length := by omega
        obtain ⟨s', hp'⟩ := i1 (by simp [di])
        exact ⟨s', c, hp', by omega⟩
    · refine ⟨fun hi => ?_, fun hi => ?_⟩
      · obtain ⟨s', hp'⟩ := i1 (by simp [di]; omega)
        exact ⟨_, Path.cons (ok3 h1) hp'⟩
      · obtain ⟨s', c', hp', hc'⟩ := i2 (by simp [di]; omega)
        exact ⟨_, _, Path.cons (ok3 h1) hp', by omega⟩
    · refine ⟨fun hi => by omega, fun hi => ?_⟩
      by_cases hl : i + 1 < a.length
      · obtain ⟨s', c', hp', hc'⟩ := i2 (by simp [di]; omega)
        rw [getD_app (by omega)] at h3 h5
        rw [getD_app hl] at h4 h5
        exact ⟨_, _, Path.cons (ok4 hl h2 h3 h4 h5) hp', by omega⟩
      · have hi' : i + 1 = a.length := by omega
        obtain ⟨s', hp'⟩ := i1 (by simp [di]; omega)
        rw [getD_app (by omega)] at h3
        have hq : Path a b i (j + 1) (0 :: s') a.length l (cst 0 + c) := Path.cons (ok0 (by omega) h2 h3) (by simpa [di, dj, hi'] using hp')
        exact ⟨3 :: 0 :: s', _, Path.cons (e := 3) (ok3 (by omega)) hq, by simp [cst] <;> omega⟩
theorem V_le_app (a b : List Int) (x : Int) : V a b 0 0 ≤ V (a ++ [x]) b 0 0 + 4 := by
  obtain ⟨s, hp⟩ := dist_path0 (a ++ [x]) b
  obtain ⟨s', c', hp', hc'⟩ := (hp.tail (by simp)).2 (Nat.zero_le _)
  exact Nat.le_trans (dist_le hp') hc'

theorem metric_law (N : Nat) (hN : 200 ≤ N) (t : List Int) (x : Int) : law08_ReconcileMetric N t x = some true := by
  obtain ⟨k', a, b, hl, k0, k1, la, lb⟩ := lists_ok N hN t (k := 0) (n := 12) (by omega) (by omega) (by omega) (by omega)
  obtain ⟨s1, e1, p1, _⟩ := align_ok N hN a b (by omega) (by omega)
  obtain ⟨s2, e2, p2, _⟩ := align_ok N hN b a (by omega) (by omega)
  obtain ⟨s3, e3, p3, _⟩ := align_ok N hN a a (by omega) (by omega)
  obtain ⟨s4, e4, p4, _⟩ := align_ok N hN (a ++ [x]) b (by simp; omega) (by omega)
  rw [← V_swap a b] at e2
  rw [V_same a] at e3
  have hs3 := (p3.zero (V_same a)).1
  have b1 := V_bound (a := a) (b := b) (Nat.zero_le _) (Nat.zero_le _)
  have m1 := V_app_le a b x
  have m2 := V_le_app a b x
  have hz : (decide (((V a b 0 0 : Nat) : Int) = 0) == decide (a = b)) = true := by
    have := V_zero (a := a) (b := b)
    by_cases h : a = b
    · rw [decide_eq_true h, decide_eq_true (by rw [this.2 h]; rfl)]; rfl
    · rw [decide_eq_false h, decide_eq_false (fun hx => h (this.1 (by omega)))]; rfl
  have hpre : (((((((!decide ((0 : Int) = 0)) || (!decide ((0 : Int) = 0))) || (!decide ((0 : Int) = 0))) || (!decide ((0 : Int) = 0))) || (!decide (((V a b 0 0 : Nat) : Int) = ((V a b 0 0 : Nat) : Int)))) || (!decide (((0 : Nat) : Int) = 0))) || (!decide ((List.length s3 : Int) = (List.length a : Int)))) = false := by
    rw [decide_eq_true (p := ((V a b 0 0 : Nat) : Int) = ((V a b 0 0 : Nat) : Int)) rfl, decide_eq_true (p := (List.length s3 : Int) = (List.length a : Int)) (by omega)]; rfl
  unfold law08_ReconcileMetric
  refine obi (x := 0) rfl (obi hl (obi e1 (obi e2 (obi e3 (obi (app_ok (by simp; omega) (by simp; omega)) (obi (app_ok (by simp; omega) (by simp; omega)) (obi e4 (obi (gO_T (bnotIt hpre) (ints_ok N a b (by omega) (by omega))) (oif (borF hpre (bnotIf hz)) (obi (in64_ok (by simp only; omega)) (obi (gO_T (decide_eq_true (by simp only; omega)) (in64_ok (by simp only; omega))) (obi (gO_T ?_ (sane_any N hN)) ?_))))))))))))
  · exact band (decide_eq_true (by simp only; omega)) (decide_eq_true (by simp only; omega))
  · exact congrArg some (band (band (decide_eq_true (by simp only; omega)) (decide_eq_true (by simp only; omega))) rfl)
theorem Metric_true (t : List Int) (x : Int) : law08_ReconcileMetric 200 t x = some true := metric_law 200 (Nat.le_refl _) t x
end Go.Gv
