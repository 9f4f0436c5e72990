/- What a maker of numbers answers. Pw is the text with the plain ways. -/
import Derived.Test.YtlpkbkbjohhleaaGreatPw
namespace Go.Gv

theorem next_ok (N : Nat) (l : List Int) {k n : Int} (hk : 0 ≤ k) (hk2 : k ≤ 1000000000000000) (hn : 1 ≤ n) (hn2 : n ≤ 1000000000000000) : ∃ x, Maker_Next N l k n = some (k + 1, x) ∧ 0 ≤ x ∧ x < n := by
  have fin : ∀ j : Int, ∃ x, (Option.bind (in64 (k + 1)) fun x92 => Option.bind (rem64 j n) fun x97 => bif decide (x97 < 0) then (Option.bind (in64 (x97 + n)) fun x102 => some (x92, x102)) else some (x92, x97)) = some (k + 1, x) ∧ 0 ≤ x ∧ x < n := by
    intro j
    have h1 := Int.tmod_lt_of_pos j (show (0 : Int) < n by omega)
    have h2 := Int.lt_tmod_of_pos j (show (0 : Int) < n by omega)
    by_cases hneg : Int.tmod j n < 0
    · refine ⟨Int.tmod j n + n, obi (in64_ok (by omega)) (obi (x := Int.tmod j n) ?_ (oit (by simpa using hneg) (obi (in64_ok (by omega)) rfl))), by omega, by omega⟩
      unfold rem64; rw [if_neg (by omega)]
    · refine ⟨Int.tmod j n, obi (in64_ok (by omega)) (obi (x := Int.tmod j n) ?_ (oif (by simpa using hneg) rfl)), by omega, by omega⟩
      unfold rem64; rw [if_neg (by omega)]
  unfold Maker_Next
  by_cases hl : 0 < l.length
  · obtain ⟨q, hq⟩ : ∃ q, quo64 k (l.length : Int) = some q := by
      unfold quo64
      rw [if_neg (by omega)]
      have : Int.natAbs (k.tdiv l.length) ≤ k.natAbs := by rw [Int.natAbs_tdiv]; exact Nat.div_le_self _ _
      generalize k.tdiv l.length = q at this
      exact ⟨q, in64_ok (by omega)⟩
    have h1 := Int.tmod_lt_of_pos k (show (0 : Int) < l.length by omega)
    have h2 := Int.tmod_nonneg (l.length : Int) hk
    obtain ⟨i, hi⟩ : ∃ i : Nat, Int.tmod k l.length = i := ⟨(Int.tmod k l.length).toNat, by omega⟩
    have hr : rem64 k (l.length : Int) = some (i : Int) := by unfold rem64; rw [if_neg (by omega), hi]
    obtain ⟨x, hx, hx2⟩ := fin (wr64 (l[i]'(by omega) + wr64 (q * 7919)))
    exact ⟨x, obi (oit (by simp; omega) (obi hr (obi (idx_nat (by omega)) (obi hq rfl)))) hx, hx2⟩
  · obtain ⟨x, hx, hx2⟩ := fin 0
    exact ⟨x, obi (oif (decide_eq_false (by omega)) rfl) hx, hx2⟩

theorem pick_ok (N : Nat) (l : List Int) {k : Int} {v : List Int} (hk : 0 ≤ k) (hk2 : k ≤ 1000000000000000) (h0 : 0 < v.length) (hv : v.length ≤ 1000000) : ∃ x, Maker_Pick N l k v = some (k + 1, x) ∧ x ∈ v := by
  obtain ⟨x, hx, h0, h1⟩ := next_ok N l hk hk2 (n := v.length) (by omega) (by omega)
  obtain ⟨i, rfl⟩ : ∃ i : Nat, x = i := ⟨x.toNat, by omega⟩
  refine ⟨v[i]'(by omega), ?_, List.getElem_mem _⟩
  unfold Maker_Pick
  exact obi hx (obi (idx_nat (by omega)) rfl)
end Go.Gv
