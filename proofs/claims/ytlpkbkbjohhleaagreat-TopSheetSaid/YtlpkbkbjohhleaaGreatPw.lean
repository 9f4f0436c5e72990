/- Ways with loops over lists. Pt is the text with the plain ways. -/
import Derived.Test.YtlpkbkbjohhleaaGreatPt
namespace Go.Gv
/-! loops that look for the first place -/
theorem inc_nat {n : Nat} (h : n ≤ 100000000000) : in64 ((n : Int) + 1) = some ((n + 1 : Nat) : Int) := in64_nat (by omega) (by omega)
theorem gO_T {α : Type} [Inhabited α] {g : Bool} {m : Option α} {x : α} (hg : g = true) (h : m = some x) : gO g m = some x := by subst hg; exact h
theorem gO_F {α : Type} [Inhabited α] {g : Bool} {m : Option α} (hg : g = false) : gO g m = some default := by subst hg; rfl
theorem first_loop {α ρ : Type} (l : List α) (p : α → Bool) (res : Nat → ρ) (f : Int → Option (Int ⊕ (ρ ⊕ Unit)))
    (hT : ∀ (i : Nat) (h : i < l.length), p l[i] = true → f (i : Int) = some (.inr (.inl (res i)))) (hF : ∀ (i : Nat) (h : i < l.length), p l[i] = false → f (i : Int) = some (.inl ((i + 1 : Nat) : Int)))
    (he : f (l.length : Int) = some (.inr (.inr ()))) (N : Nat) (hN : l.length < N) :
    iterN f N 0 = some ((l.findIdx? p).elim (.inr ()) fun i => .inl (res i)) := by
  obtain ⟨q, hq, rfl⟩ := iterN_run (f := f) (I := fun s => ∃ i : Nat, s = i ∧ i ≤ l.length ∧ ∀ (j : Nat) (h : j < l.length), j < i → p l[j] = false)
    (Q := fun q => q = (l.findIdx? p).elim (.inr ()) fun i => .inl (res i)) (fun s => l.length - s.toNat) (by
    rintro s ⟨i, rfl, hi, hall⟩
    by_cases h : i < l.length
    · cases hp : p l[i] with
      | false => exact .inl ⟨_, hF i h hp, ⟨i + 1, rfl, h, fun j hj hji => by
          by_cases e : j = i
          · subst e; exact hp
          · exact hall j hj (by omega)⟩, by omega⟩
      | true =>
        refine .inr ⟨_, hT i h hp, ?_⟩
        have : l.findIdx? p = some i := List.findIdx?_eq_some_iff_getElem.2 ⟨h, hp, fun j hj => by rw [hall j (by omega) hj]; decide⟩
        rw [this]; rfl
    · have : i = l.length := by omega
      subst this
      rw [he]
      refine .inr ⟨_, rfl, ?_⟩
      have : l.findIdx? p = none := List.findIdx?_eq_none_iff.2 fun x hx => by
        obtain ⟨j, hj, rfl⟩ := List.getElem_of_mem hx
        exact hall j hj hj
      rw [this]; rfl) N 0 ⟨0, rfl, Nat.zero_le _, fun _ _ h => absurd h (Nat.not_lt_zero _)⟩ (by simp; omega)
  exact hq
/-- A loop with a counter. -/
theorem runN {τ ρ : Type} {f : τ → Option (τ ⊕ ρ)} (n : Nat) (I : Nat → τ → Prop) (Q : ρ → Prop)
    (step : ∀ i s, i < n → I i s → (∃ s', f s = some (.inl s') ∧ I (i + 1) s') ∨ (∃ r, f s = some (.inr r) ∧ Q r))
    (last : ∀ s, I n s → ∃ r, f s = some (.inr r) ∧ Q r) : ∀ (N : Nat), n < N → ∀ s, I 0 s → ∃ r, iterN f N s = some r ∧ Q r := by
  have key : ∀ (d N i : Nat) (s : τ), i + d = n → d < N → I i s → ∃ r, iterN f N s = some r ∧ Q r := by
    intro d
    induction d with
    | zero =>
      intro N i s hi hN hI
      obtain ⟨M, rfl⟩ : ∃ M, N = M + 1 := ⟨N - 1, by omega⟩
      obtain rfl : i = n := by omega
      obtain ⟨r, hr, hQ⟩ := last s hI
      exact ⟨r, by simp only [iterN, hr], hQ⟩
    | succ d ih =>
      intro N i s hi hN hI
      obtain ⟨M, rfl⟩ : ∃ M, N = M + 1 := ⟨N - 1, by omega⟩
      rcases step i s (by omega) hI with ⟨s', hs, hI'⟩ | ⟨r, hr, hQ⟩
      · obtain ⟨r, hr, hQ⟩ := ih M (i + 1) s' (by omega) (by omega) hI'
        exact ⟨r, by simp only [iterN, hs]; exact hr, hQ⟩
      · exact ⟨r, by simp only [iterN, hr], hQ⟩
  intro N hN s hI
  exact key n N 0 s (by omega) hN hI
theorem runN1 {τ ρ : Type} {f : τ → Option (τ ⊕ ρ)} (n : Nat) (I : Nat → τ → Prop) (r : ρ)
    (step : ∀ i s, i < n → I i s → ∃ s', f s = some (.inl s') ∧ I (i + 1) s')
    (last : ∀ s, I n s → f s = some (.inr r)) (N : Nat) (hN : n < N) (s : τ) (hI : I 0 s) : iterN f N s = some r := by
  obtain ⟨r', h1, h2⟩ := runN (f := f) n I (fun q => q = r) (fun i s hi h => .inl (step i s hi h)) (fun s h => ⟨r, last s h, rfl⟩) N hN s hI
  rw [h1, h2]
theorem idx_getD {α : Type} {l : List α} {i : Nat} (d : α) (h : i < l.length) : idx l (i : Int) = some (l.getD i d) := by
  rw [idx_nat h, List.getD_eq_getElem?_getD, List.getElem?_eq_getElem h]; rfl
theorem drop_cons {α : Type} {l : List α} {i : Nat} (h : i < l.length) : l.drop i = l[i] :: l.drop (i + 1) := List.drop_eq_getElem_cons h
theorem take_snoc {α : Type} {l : List α} {i : Nat} (h : i < l.length) : l.take (i + 1) = l.take i ++ [l[i]] := List.take_succ_eq_append_getElem h
end Go.Gv
