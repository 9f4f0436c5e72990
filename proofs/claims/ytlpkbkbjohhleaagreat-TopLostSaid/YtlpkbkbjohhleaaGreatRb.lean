/- What Align answers. -/
import Derived.Test.YtlpkbkbjohhleaaGreatRa
namespace Go.Gv.R
theorem gO_idx {g : Bool} {l : List Int} {i : Nat} (h : g = true → i < l.length) : gO g (idx l (i : Int)) = some (bif g then l.getD i 0 else 0) := by
  cases g with
  | true => exact idx_getD 0 (h rfl)
  | false => rfl
theorem two_nat {n : Nat} (h : n ≤ 100000000000) : in64 ((n : Int) + 2) = some ((n + 2 : Nat) : Int) := in64_nat (by omega) (by omega)
theorem dnat (m n : Nat) : decide ((m : Int) < (n : Int)) = decide (m < n) := by rw [Bool.eq_iff_iff]; simp
theorem step_ok (N : Nat) (a b : List Int) {i j : Nat} (hi : i ≤ 1000000) (hj : j ≤ 1000000) (e : Int) : ∃ x y, reconcile_step N a b i j e = some (x, y, okE a b i j e) ∧ (okE a b i j e = true → x = ((i + di e : Nat) : Int) ∧ y = ((j + dj e : Nat) : Int)) := by
  unfold reconcile_step
  by_cases e0 : e = 0
  · subst e0
    refine ⟨_, _, oit rfl (obi (inc_nat (by omega)) (obi (inc_nat (by omega)) (obi (gO_idx fun h => ?_) (obi (gO_idx fun h => ?_) (congrArg some (Prod.ext rfl (Prod.ext rfl ?_))))))), fun _ => ⟨rfl, rfl⟩⟩
    · simp at h; omega
    · simp at h; omega
    · show _ = okE a b i j 0
      unfold okE; rw [if_pos rfl]
      simp only [dnat]
      cases (decide (i < a.length) && decide (j < b.length)) <;> simp
  by_cases e1 : e = 1
  · subst e1
    refine ⟨_, _, oif rfl (oit rfl (obi (inc_nat (by omega)) (obi (inc_nat (by omega)) (obi (gO_idx fun h => ?_) (obi (gO_idx fun h => ?_) (congrArg some (Prod.ext rfl (Prod.ext rfl ?_)))))))), fun _ => ⟨rfl, rfl⟩⟩
    · simp at h; omega
    · simp at h; omega
    · show _ = okE a b i j 1
      unfold okE; rw [if_neg (by decide), if_pos rfl]
      simp only [dnat]
      cases (decide (i < a.length) && decide (j < b.length)) <;> simp
  by_cases e2 : e = 2
  · subst e2
    exact ⟨_, _, oif rfl (oif rfl (oit rfl (obi (inc_nat (by omega)) (congrArg some (Prod.ext rfl (Prod.ext rfl (by unfold okE; rw [if_neg (by decide), if_neg (by decide), if_pos rfl]; exact dnat _ _))))))), fun _ => ⟨rfl, rfl⟩⟩
  by_cases e3 : e = 3
  · subst e3
    exact ⟨_, _, oif rfl (oif rfl (oif rfl (oit rfl (obi (inc_nat (by omega)) (congrArg some (Prod.ext rfl (Prod.ext rfl (by unfold okE; rw [if_neg (by decide), if_neg (by decide), if_neg (by decide), if_pos rfl]; exact dnat _ _)))))))), fun _ => ⟨rfl, rfl⟩⟩
  by_cases e4 : e = 4
  · subst e4
    have hin : ∀ {g : Bool} {n : Nat}, n ≤ 1000000 → g = true → gO g (in64 ((n : Int) + 1)) = some ((n + 1 : Nat) : Int) := fun hn hg => gO_T hg (inc_nat (by omega))
    have hix : ∀ {g : Bool} {l : List Int} {n : Nat}, g = true → n < l.length → gO g (idx l (n : Int)) = some (l.getD n 0) := fun hg hn => gO_T hg (idx_getD 0 hn)
    have eok : okE a b i j 4 = ((((decide (i + 1 < a.length) && decide (j + 1 < b.length)) && decide (a.getD i 0 = b.getD (j + 1) 0)) && decide (a.getD (i + 1) 0 = b.getD j 0)) && !decide (a.getD i 0 = a.getD (i + 1) 0)) := by
      unfold okE; rw [if_neg (by decide), if_neg (by decide), if_neg (by decide), if_neg (by decide), if_pos rfl]
    rw [eok]
    by_cases c1 : i + 1 < a.length
    · have d1 : decide (((i + 1 : Nat) : Int) < (a.length : Int)) = true := decide_eq_true (by omega)
      by_cases c2 : j + 1 < b.length
      · have d2 : (decide (((i + 1 : Nat) : Int) < (a.length : Int)) && decide (((j + 1 : Nat) : Int) < (b.length : Int))) = true := band d1 (decide_eq_true (by omega))
        by_cases c3 : a.getD i 0 = b.getD (j + 1) 0
        · have d3 := band d2 (decide_eq_true c3)
          by_cases c4 : a.getD (i + 1) 0 = b.getD j 0
          · have d4 := band d3 (decide_eq_true c4)
            refine ⟨_, _, oif rfl (oif rfl (oif rfl (oif rfl (oit rfl (obi (inc_nat (by omega)) (obi (hin hj d1) (obi (hix d2 (by omega)) (obi (hin hj d2) (obi (hix d2 c2) (obi (hin hi d3) (obi (hix d3 c1) (obi (hix d3 (by omega)) (obi (hix d4 (by omega)) (obi (hin hi d4) (obi (hix d4 c1) (obi (two_nat (by omega)) (obi (two_nat (by omega)) (congrArg some (Prod.ext rfl (Prod.ext rfl ?_)))))))))))))))))))), fun _ => ⟨rfl, rfl⟩⟩
            simp only [dnat]
          · have d4 := bandF2 (a := (decide (((i + 1 : Nat) : Int) < (a.length : Int)) && decide (((j + 1 : Nat) : Int) < (b.length : Int))) && decide (a.getD i 0 = b.getD (j + 1) 0)) (decide_eq_false c4)
            refine ⟨_, _, oif rfl (oif rfl (oif rfl (oif rfl (oit rfl (obi (inc_nat (by omega)) (obi (hin hj d1) (obi (hix d2 (by omega)) (obi (hin hj d2) (obi (hix d2 c2) (obi (hin hi d3) (obi (hix d3 c1) (obi (hix d3 (by omega)) (obi (gO_F d4) (obi (gO_F d4) (obi (gO_F d4) (obi (two_nat (by omega)) (obi (two_nat (by omega)) (congrArg some (Prod.ext rfl (Prod.ext rfl ?_)))))))))))))))))))), fun h => ?_⟩
            · simp only [dnat] at d4 ⊢; exact (bandF d4).trans (bandF d4).symm
            · simp only [dnat] at d4; rw [bandF d4] at h; cases h
        · have d3 := bandF2 (a := decide (((i + 1 : Nat) : Int) < (a.length : Int)) && decide (((j + 1 : Nat) : Int) < (b.length : Int))) (decide_eq_false c3)
          refine ⟨_, _, oif rfl (oif rfl (oif rfl (oif rfl (oit rfl (obi (inc_nat (by omega)) (obi (hin hj d1) (obi (hix d2 (by omega)) (obi (hin hj d2) (obi (hix d2 c2) (obi (gO_F d3) (obi (gO_F d3) (obi (gO_F d3) (obi (gO_F (bandF d3)) (obi (gO_F (bandF d3)) (obi (gO_F (bandF d3)) (obi (two_nat (by omega)) (obi (two_nat (by omega)) (congrArg some (Prod.ext rfl (Prod.ext rfl ?_)))))))))))))))))))), fun h => ?_⟩
          · simp only [dnat] at d3 ⊢; exact (bandF (bandF d3)).trans (bandF (bandF d3)).symm
          · simp only [dnat] at d3; rw [bandF (bandF d3)] at h; cases h
      · have d2 := bandF2 (a := decide (((i + 1 : Nat) : Int) < (a.length : Int))) (b := decide (((j + 1 : Nat) : Int) < (b.length : Int))) (decide_eq_false (by omega))
        refine ⟨_, _, oif rfl (oif rfl (oif rfl (oif rfl (oit rfl (obi (inc_nat (by omega)) (obi (hin hj d1) (obi (gO_F d2) (obi (gO_F d2) (obi (gO_F d2) (obi (gO_F (bandF d2)) (obi (gO_F (bandF d2)) (obi (gO_F (bandF d2)) (obi (gO_F (bandF (bandF d2))) (obi (gO_F (bandF (bandF d2))) (obi (gO_F (bandF (bandF d2))) (obi (two_nat (by omega)) (obi (two_nat (by omega)) (congrArg some (Prod.ext rfl (Prod.ext rfl ?_)))))))))))))))))))), fun h => ?_⟩
        · simp only [dnat] at d2 ⊢; exact (bandF (bandF (bandF d2))).trans (bandF (bandF (bandF d2))).symm
        · simp only [dnat] at d2; rw [bandF (bandF (bandF d2))] at h; cases h
    · have d1 : decide (((i + 1 : Nat) : Int) < (a.length : Int)) = false := decide_eq_false (by omega)
      refine ⟨_, _, oif rfl (oif rfl (oif rfl (oif rfl (oit rfl (obi (inc_nat (by omega)) (obi (gO_F d1) (obi (gO_F (bandF d1)) (obi (gO_F (bandF d1)) (obi (gO_F (bandF d1)) (obi (gO_F (bandF (bandF d1))) (obi (gO_F (bandF (bandF d1))) (obi (gO_F (bandF (bandF d1))) (obi (gO_F (bandF (bandF (bandF d1)))) (obi (gO_F (bandF (bandF (bandF d1)))) (obi (gO_F (bandF (bandF (bandF d1)))) (obi (two_nat (by omega)) (obi (two_nat (by omega)) (congrArg some (Prod.ext rfl (Prod.ext rfl ?_)))))))))))))))))))), fun h => ?_⟩
      · simp only [dnat] at d1 ⊢; exact (bandF (bandF (bandF (bandF d1)))).trans (bandF (bandF (bandF (bandF d1)))).symm
      · simp only [dnat] at d1; rw [bandF (bandF (bandF (bandF d1)))] at h; cases h
  · exact ⟨0, 0, oif (decide_eq_false e0) (oif (decide_eq_false e1) (oif (decide_eq_false e2) (oif (decide_eq_false e3) (oif (decide_eq_false e4) (congrArg some (Prod.ext rfl (Prod.ext rfl (by unfold okE; rw [if_neg e0, if_neg e1, if_neg e2, if_neg e3, if_neg e4])))))))), fun h => by unfold okE at h; rw [if_neg e0, if_neg e1, if_neg e2, if_neg e3, if_neg e4] at h; cases h⟩
theorem cost_ok (N : Nat) {e : Int} (h : 0 ≤ e ∧ e ≤ 4) : reconcile_cost N e = some ((cst e : Nat) : Int) := by
  have : e = 0 ∨ e = 1 ∨ e = 2 ∨ e = 3 ∨ e = 4 := by omega
  rcases this with rfl | rfl | rfl | rfl | rfl <;> rfl
theorem long_ok (N : Nat) (a b : List Int) (ha : a.length ≤ 96) (hb : b.length ≤ 96) : reconcile_long N a b = some false :=
  congrArg some (borF (decide_eq_false (by omega)) (decide_eq_false (by omega)))
theorem mkL_nat {α : Type} {bytes n : Nat} {z : α} (h : bytes * n ≤ 100000000000000) (h2 : n ≤ 100000000000) : mkL bytes (n : Int) z = some (List.replicate n z) := by
  have : (bytes : Int) * (n : Int) = ((bytes * n : Nat) : Int) := by simp
  unfold mkL
  rw [if_pos (by rw [this]; omega)]; simp

theorem table_ok (N : Nat) (hN : 200 ≤ N) (a b : List Int) (ha : a.length ≤ 96) (hb : b.length ≤ 96) (z : Int) : ∃ t, reconcile_table N a b z = some t ∧ Shape a.length b.length t ∧ ∀ i j, i ≤ a.length → j ≤ b.length → cell t i j = z := by
  have h4 : ∀ (i : Nat) (x : List Int) (t : List (List Int)), i ≤ a.length → t.length = a.length + 1 → x.length = b.length + 1 → (t.getD i []).length = b.length + 1 → ∃ t', iterN (fun s : Int × List (List Int) => reconcile_table_l4 N z i x s.1 s.2) N (0, t) = some t' ∧ t'.length = a.length + 1 ∧ ((t'.getD i []).length = b.length + 1 ∧ ∀ l, l ≤ b.length → (t'.getD i []).getD l 0 = z) ∧ ∀ k, k ≠ i → t'.getD k [] = t.getD k [] := by
    intro i x t hi ht hx hr
    obtain ⟨r, hr, hQ⟩ := iterN_run (f := fun s : Int × List (List Int) => reconcile_table_l4 N z i x s.1 s.2)
      (I := fun s => ∃ j : Nat, s.1 = j ∧ j ≤ b.length + 1 ∧ s.2.length = a.length + 1 ∧ ((s.2.getD i []).length = b.length + 1 ∧ ∀ l, l < j → (s.2.getD i []).getD l 0 = z) ∧ ∀ k, k ≠ i → s.2.getD k [] = t.getD k [])
      (Q := fun t' => t'.length = a.length + 1 ∧ ((t'.getD i []).length = b.length + 1 ∧ ∀ l, l ≤ b.length → (t'.getD i []).getD l 0 = z) ∧ ∀ k, k ≠ i → t'.getD k [] = t.getD k [])
      (fun s => b.length + 1 - s.1.toNat) (by
      rintro ⟨j', t1⟩ ⟨j, rfl, hj, g1, ⟨g2, g3⟩, g4⟩
      simp only at g1 g2 g3 g4 ⊢
      unfold reconcile_table_l4
      by_cases hc : j < b.length + 1
      · refine .inl ⟨(((j + 1 : Nat) : Int), t1.set i ((t1.getD i []).set j z)), oit (decide_eq_true (by omega)) (obi (idx_getD [] (by omega)) (obi (idx_getD 0 (by omega)) (obi (inc_nat (by omega)) (by simp)))), ⟨j + 1, rfl, hc, by simpa using g1, ⟨?_, ?_⟩, ?_⟩, by simp only; omega⟩
        · simp only; rw [getD_set (by omega), if_pos rfl]; simpa using g2
        · intro l hl
          simp only; rw [getD_set (by omega), if_pos rfl, getD_set (by omega)]
          split
          · rfl
          · exact g3 l (by omega)
        · intro k hk
          simp only; rw [getD_set (by omega), if_neg hk]; exact g4 k hk
      · exact .inr ⟨t1, oif (decide_eq_false (by omega)) rfl, g1, ⟨g2, fun l hl => g3 l (by omega)⟩, g4⟩) N (0, t) ⟨0, rfl, by omega, ht, ⟨hr, fun l h => absurd h (Nat.not_lt_zero _)⟩, fun _ _ => rfl⟩ (by simp; omega)
    exact ⟨r, hr, hQ⟩
  have hl : ∀ l4 : List (List Int), l4.length = a.length + 1 → ∃ t, iterN (fun s : Int × List (List Int) => reconcile_table_l3 N b z l4 s.1 s.2) N (0, l4) = some t ∧ Shape a.length b.length t ∧ ∀ i j, i ≤ a.length → j ≤ b.length → cell t i j = z := by
    intro l4 h4l
    obtain ⟨r, hr, hQ⟩ := iterN_run (f := fun s : Int × List (List Int) => reconcile_table_l3 N b z l4 s.1 s.2)
      (I := fun s => ∃ i : Nat, s.1 = i ∧ i ≤ a.length + 1 ∧ s.2.length = a.length + 1 ∧ ∀ k, k < i → ((s.2.getD k []).length = b.length + 1 ∧ ∀ l, l ≤ b.length → (s.2.getD k []).getD l 0 = z))
      (Q := fun t => Shape a.length b.length t ∧ ∀ i j, i ≤ a.length → j ≤ b.length → cell t i j = z)
      (fun s => a.length + 1 - s.1.toNat) (by
      rintro ⟨i', t1⟩ ⟨i, rfl, hi, g1, g2⟩
      simp only at g1 g2 ⊢
      unfold reconcile_table_l3
      by_cases hc : i < a.length + 1
      · have hrow : (List.set t1 i (List.replicate (b.length + 1) 0)).getD i [] = List.replicate (b.length + 1) (0 : Int) := by rw [getD_set (by omega), if_pos rfl]
        obtain ⟨t2, e2, k1, k2, k3⟩ := h4 i (List.replicate (b.length + 1) 0) (List.set t1 i (List.replicate (b.length + 1) 0)) (by omega) (by simpa using g1) (by simp) (by rw [hrow]; simp)
        refine .inl ⟨(((i + 1 : Nat) : Int), t2), oit (decide_eq_true (by omega)) (obi (inc_nat (by omega)) (obi (mkL_nat (by omega) (by omega)) (obi (idx_getD [] (by omega)) (obi ((idx_getD [] (by simp; omega)).trans (congrArg some hrow)) (obi e2 (obi (inc_nat (by omega)) rfl)))))), ⟨i + 1, rfl, hc, k1, ?_⟩, by simp only; omega⟩
        intro k hk
        by_cases e : k = i
        · subst e; exact k2
        · have := g2 k (by omega)
          simp only
          rw [k3 k e, getD_set (by omega), if_neg e]
          exact this
      · exact .inr ⟨t1, oif (decide_eq_false (by omega)) rfl, ⟨g1, fun k hk => (g2 k (by omega)).1⟩, fun k l hk hl => (g2 k (by omega)).2 l hl⟩) N (0, l4) ⟨0, rfl, by omega, h4l, fun k h => absurd h (Nat.not_lt_zero _)⟩ (by simp; omega)
    exact ⟨r, hr, hQ⟩
  obtain ⟨t, ht, hs⟩ := hl (List.replicate (a.length + 1) []) (by simp)
  exact ⟨t, obi (inc_nat (by omega)) (obi (mkL_nat (by omega) (by omega)) (obi ht rfl)), hs⟩
end Go.Gv.R
