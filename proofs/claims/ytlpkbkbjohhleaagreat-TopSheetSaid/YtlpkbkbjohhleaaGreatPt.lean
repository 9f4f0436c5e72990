/- Plain ways: steps of Option, of loops and of checked integers. They name nothing of the program. -/
import Derived.Test.YtlpkbkbjohhleaaGreatMi
namespace Go.Gv

theorem obi {α β : Type} {m : Option α} {f : α → Option β} {x : α} {R : Option β} (h : m = some x) (k : f x = R) : Option.bind m f = R := by subst h; exact k
theorem oit {α : Type} {b : Bool} {x y R : α} (h : b = true) (k : x = R) : (bif b then x else y) = R := by subst h; exact k
theorem oif {α : Type} {b : Bool} {x y R : α} (h : b = false) (k : y = R) : (bif b then x else y) = R := by subst h; exact k
theorem in64_ok {x : Int} (h : -9223372036854775808 ≤ x ∧ x ≤ 9223372036854775807) : in64 x = some x := if_pos h
theorem in64_nat {x : Int} {n : Nat} (h : x = n) (hn : n ≤ 1000000000000000000) : in64 x = some (n : Int) := by subst h; exact if_pos (by omega)
theorem idx_nat {α : Type} {l : List α} {i : Nat} (h : i < l.length) : idx l (i : Int) = some l[i] := by
  unfold idx
  rw [if_pos (by omega), Int.toNat_natCast, List.getElem?_eq_getElem h]
theorem app_ok {α : Type} {b : Nat} {l r : List α} (h : (l.length + r.length) * b ≤ 140737488355328) (h2 : l.length + r.length ≤ 9223372036854775807) : app b l r = some (l ++ r) := if_pos ⟨h, h2⟩
theorem slc_nat {α : Type} {l : List α} {a b : Nat} (h : a ≤ b) (hb : b ≤ l.length) : slc l (a : Int) (b : Int) = some ((l.take b).drop a) := by
  unfold slc; rw [if_pos (by omega)]; simp
theorem quo64_ok {a b : Int} (hb : b ≠ 0) (h : -9223372036854775808 ≤ a.tdiv b ∧ a.tdiv b ≤ 9223372036854775807) : quo64 a b = some (a.tdiv b) := by
  unfold quo64; rw [if_neg hb]; exact in64_ok h
theorem iterN_run {σ ρ : Type} {f : σ → Option (σ ⊕ ρ)} {I : σ → Prop} {Q : ρ → Prop} (μ : σ → Nat)
    (step : ∀ s, I s → (∃ s', f s = some (.inl s') ∧ I s' ∧ μ s' < μ s) ∨ (∃ r, f s = some (.inr r) ∧ Q r)) : ∀ (N : Nat) (s : σ), I s → μ s < N → ∃ r, iterN f N s = some r ∧ Q r := by
  intro N
  induction N with
  | zero => intro s _ h; omega
  | succ N ih =>
    intro s hI hN
    rcases step s hI with ⟨s', hf, hI', hμ⟩ | ⟨r, hf, hQ⟩
    · obtain ⟨r, hr, hQ⟩ := ih s' hI' (by omega)
      exact ⟨r, by simp only [iterN, hf]; exact hr, hQ⟩
    · exact ⟨r, by simp only [iterN, hf], hQ⟩
end Go.Gv
