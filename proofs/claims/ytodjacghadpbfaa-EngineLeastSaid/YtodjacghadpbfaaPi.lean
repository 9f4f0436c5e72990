/- The places of a list. Py has the stable sort. -/
import Derived.Test.YtodjacghadpbfaaPy
namespace Go.Gv
def idxs (n : Nat) : List Int := (List.range n).map Int.ofNat
theorem idxs_succ (n : Nat) : idxs (n + 1) = idxs n ++ [(n : Int)] := by unfold idxs; rw [List.range_succ, List.map_append]; rfl
theorem idxs_len (n : Nat) : (idxs n).length = n := by simp [idxs]
theorem idxs_mem {n : Nat} {x : Int} : x ∈ idxs n ↔ 0 ≤ x ∧ x < n := by
  unfold idxs
  rw [List.mem_map]
  constructor
  · rintro ⟨k, hk, rfl⟩
    have := List.mem_range.1 hk
    exact ⟨by simp, by simp; omega⟩
  · rintro ⟨h0, h1⟩
    exact ⟨x.toNat, List.mem_range.2 (by omega), by simp; omega⟩
theorem idxs_asc (n : Nat) : (idxs n).Pairwise (· < ·) := by
  unfold idxs
  rw [List.pairwise_map]
  exact (List.pairwise_lt_range).imp fun h => by simpa using h
theorem Same.perm {key : Int → Int} {l l' : List Int} (h : Same key l l') : l'.Perm l := by
  rw [List.perm_iff_count]
  intro x
  have h1 := h (key x)
  have e : ∀ m : List Int, (m.filter fun y => decide (key y = key x)).count x = m.count x := fun m => List.count_filter (decide_eq_true rfl)
  rw [← e l', ← e l, h1]
end Go.Gv
