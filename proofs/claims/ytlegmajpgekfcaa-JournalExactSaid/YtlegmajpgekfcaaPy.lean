/- What Place answers. Pt is the text with the plain ways. -/
import Derived.Test.YtlegmajpgekfcaaPt
namespace Go.Gv
theorem place_ok (N : Nat) (a : Int) {n : Int} (h1 : 1 ≤ n) (h2 : n ≤ 1000000000000000000) : ∃ x, yardgen_Place N a n = some x ∧ 0 ≤ x ∧ x < n := by
  have m1 := Int.tmod_lt_of_pos a (show 0 < n by omega)
  have m2 := Int.lt_tmod_of_pos a (show 0 < n by omega)
  by_cases h : Int.tmod a n < 0
  · exact ⟨Int.tmod a n + n, oif (decide_eq_false (by omega)) (obi (rem64_ok (by omega)) (oit (decide_eq_true h) (obi (in64_ok (by omega)) rfl))), by omega, by omega⟩
  · exact ⟨Int.tmod a n, oif (decide_eq_false (by omega)) (obi (rem64_ok (by omega)) (oif (decide_eq_false h) rfl)), by omega, by omega⟩
end Go.Gv
