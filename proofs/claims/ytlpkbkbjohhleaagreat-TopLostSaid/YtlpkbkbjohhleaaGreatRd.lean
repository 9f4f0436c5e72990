/- Ways over the grid (from the law of chapter 8). -/
import Derived.Test.YtlpkbkbjohhleaaGreatRc
namespace Go.Gv.R
theorem first_any {α ρ : Type} (l : List α) (p : Nat → Bool) (c : ρ) (f : Int → Option (Int ⊕ (ρ ⊕ Unit)))
    (hT : ∀ (i : Nat), i < l.length → p i = true → f (i : Int) = some (.inr (.inl c))) (hF : ∀ (i : Nat), i < l.length → p i = false → f (i : Int) = some (.inl ((i + 1 : Nat) : Int)))
    (he : f (l.length : Int) = some (.inr (.inr ()))) (N : Nat) (hN : l.length < N) :
    (iterN f N 0 = some (.inl c) ∧ ∃ i, i < l.length ∧ p i = true) ∨ (iterN f N 0 = some (.inr ()) ∧ ∀ i, i < l.length → p i = false) := by
  obtain ⟨q, hq, hQ⟩ := iterN_run (f := f) (I := fun s => ∃ i : Nat, s = i ∧ i ≤ l.length ∧ ∀ (j : Nat), j < i → p j = false)
    (Q := fun q => (q = .inl c ∧ ∃ i, i < l.length ∧ p i = true) ∨ (q = .inr () ∧ ∀ i, i < l.length → p i = false)) (fun s => l.length - s.toNat) (by
    rintro s ⟨i, rfl, hi, hall⟩
    by_cases h : i < l.length
    · cases hp : p i with
      | false => exact .inl ⟨_, hF i h hp, ⟨i + 1, rfl, h, fun j hji => by
          by_cases e : j = i
          · subst e; exact hp
          · exact hall j (by omega)⟩, by omega⟩
      | true => exact .inr ⟨_, hT i h hp, .inl ⟨rfl, i, h, hp⟩⟩
    · have : i = l.length := by omega
      subst this
      exact .inr ⟨_, he, .inr ⟨rfl, fun j hj => hall j hj⟩⟩) N 0 ⟨0, rfl, Nat.zero_le _, fun _ h => absurd h (Nat.not_lt_zero _)⟩ (by simp; omega)
  rcases hQ with ⟨rfl, h⟩ | ⟨rfl, h⟩
  · exact .inl ⟨hq, h⟩
  · exact .inr ⟨hq, h⟩
theorem list_eq_getD {a b : List Int} (h : a.length = b.length) (h2 : ∀ i, i < a.length → a.getD i 0 = b.getD i 0) : a = b := by
  apply List.ext_getElem h
  intro i h3 h4
  have := h2 i h3
  rw [List.getD_eq_getElem?_getD, List.getD_eq_getElem?_getD, List.getElem?_eq_getElem h3, List.getElem?_eq_getElem h4] at this
  exact this
theorem Path.swap {a b : List Int} {i j k l c : Nat} {s : List Int} (h : Path a b i j s k l c) : ∃ s', Path b a j i s' l k c := by
  induction h with
  | nil i j => exact ⟨_, Path.nil j i⟩
  | @cons i j e s k l c ho hp ih =>
    obtain ⟨s', hp'⟩ := ih
    rcases okE_cases ho with ⟨rfl, h1, h2, h3⟩ | ⟨rfl, h1, h2, h3⟩ | ⟨rfl, h1⟩ | ⟨rfl, h1⟩ | ⟨rfl, h1, h2, h3, h4, h5⟩
    · exact ⟨_, Path.cons (e := 0) (ok0 h2 h1 h3.symm) hp'⟩
    · exact ⟨_, Path.cons (ok1 h2 h1 (Ne.symm h3)) hp'⟩
    · exact ⟨_, Path.cons (e := 3) (ok3 h1) hp'⟩
    · exact ⟨_, Path.cons (e := 2) (ok2 h1) hp'⟩
    · exact ⟨_, Path.cons (e := 4) (ok4 h2 h1 h4.symm h3.symm (by rw [← h3, ← h4]; exact Ne.symm h5)) hp'⟩
theorem dist_path0 (a b : List Int) : ∃ s, Path a b 0 0 s a.length b.length (V a b 0 0) := dist_path (Nat.zero_le _) (Nat.le_refl _) (Nat.zero_le _) (Nat.le_refl _)
theorem V_swap (a b : List Int) : V a b 0 0 = V b a 0 0 := by
  apply Nat.le_antisymm
  · obtain ⟨s, hp⟩ := dist_path0 b a
    obtain ⟨s', hp'⟩ := hp.swap
    exact dist_le hp'
  · obtain ⟨s, hp⟩ := dist_path0 a b
    obtain ⟨s', hp'⟩ := hp.swap
    exact dist_le hp'
theorem Path.zero {a b : List Int} {i j k l c : Nat} {s : List Int} (h : Path a b i j s k l c) : c = 0 → k = i + s.length ∧ l = j + s.length ∧ ∀ x, x < s.length → a.getD (i + x) 0 = b.getD (j + x) 0 := by
  induction h with
  | nil => intro _; simp
  | @cons i j e s k l c ho hp ih =>
    intro hc
    rcases okE_cases ho with ⟨rfl, h1, h2, h3⟩ | ⟨rfl, h1, h2, h3⟩ | ⟨rfl, h1⟩ | ⟨rfl, h1⟩ | ⟨rfl, h1, h2, h3, h4, h5⟩
    · obtain ⟨g1, g2, g3⟩ := ih (by simp [cst] at hc; omega)
      simp only [di, dj, List.length_cons] at *
      refine ⟨by simp at g1; omega, by simp at g2; omega, fun x hx => ?_⟩
      cases x with
      | zero => simpa using h3
      | succ x =>
        have := g3 x (by omega)
        simp only [show ¬ ((0 : Int) = 3) by decide, show ¬ ((0 : Int) = 4) by decide, show ¬ ((0 : Int) = 2) by decide, if_false] at this
        rw [show i + (x + 1) = i + 1 + x by omega, show j + (x + 1) = j + 1 + x by omega]
        exact this
    · simp [cst] at hc
    · simp [cst] at hc
    · simp [cst] at hc
    · simp [cst] at hc
theorem path_same (a : List Int) : ∀ n i, n = a.length - i → i ≤ a.length → ∃ s, Path a a i i s a.length a.length 0
  | 0, i, hn, hi => by
    obtain rfl : i = a.length := by omega
    exact ⟨_, Path.nil _ _⟩
  | n + 1, i, hn, hi => by
    obtain ⟨s, hp⟩ := path_same a n (i + 1) (by omega) (by omega)
    exact ⟨_, Path.cons (ok0 (by omega) (by omega) rfl) hp⟩
theorem V_same (a : List Int) : V a a 0 0 = 0 := by
  obtain ⟨s, hp⟩ := path_same a _ 0 rfl (Nat.zero_le _)
  exact Nat.le_zero.1 (dist_le hp)
theorem V_zero {a b : List Int} : V a b 0 0 = 0 ↔ a = b := by
  constructor
  · intro h
    obtain ⟨s, hp⟩ := dist_path0 a b
    obtain ⟨h1, h2, h3⟩ := hp.zero h
    exact list_eq_getD (by omega) fun i hi => by
      have := h3 i (by omega)
      simpa using this
  · rintro rfl; exact V_same a

end Go.Gv.R
