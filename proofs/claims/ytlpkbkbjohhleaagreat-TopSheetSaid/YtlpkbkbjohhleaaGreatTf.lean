/- The sanity check: a small train is sorted. -/
import Derived.Test.YtlpkbkbjohhleaaGreatTe
namespace Go.Gv
def i2s : List T_Item := [⟨0, 1, 0, 100⟩, ⟨0, 0, 0, 100⟩]
theorem i2job {w : Nat} (hw : w ≤ 12) : JobOk i2s w where
  len := by decide
  wt := hw
  tr := by decide
  bl := by decide
  rd := by decide
  le := by decide
  as := by
    intro i j h1 h2
    have : i = 0 ∧ j = 1 := by simp [i2s] at h2; omega
    rw [this.1, this.2]; decide
theorem i2sort {w : Nat} (hw : w ≤ 12) : sortFn (fun x y => leastcode_solve_1 6000 x y i2s (w : Int)) [0, 1] = some [1, 0] := by
  obtain ⟨r, ord, hr, ho, O⟩ := order_ok (N := 6000) (by decide) (i2job hw)
  have : r = [0, 1] := by
    have h2 : iterN (fun s : Int × List Int => leastcode_solve_l1 6000 (List.replicate i2s.length 0) s.1 s.2) 6000 (0, List.replicate i2s.length 0) = some [0, 1] := by decide +kernel
    rw [h2] at hr; exact (Option.some.inj hr).symm
  rw [this] at ho
  rw [ho]
  have hlen := O.len
  have e2 : i2s.length = 2 := rfl
  match ord, hlen with
  | [a, b], _ =>
    obtain ⟨y, hy, ey⟩ := O.rng 0 (by simp)
    obtain ⟨z, hz, ez⟩ := O.rng 1 (by simp)
    have ha := O.asc 0 1 y z (by decide) (by simp) ey ez
    have hi : y ≠ z := fun e => by
      have := O.inj 0 1 (by simp) (by simp) (by rw [ey, ez, e])
      omega
    have e3 : y = 1 ∧ z = 0 := by
      rw [e2] at hy hz
      have hy' : y = 0 ∨ y = 1 := by omega
      rcases hy' with rfl | rfl
      · have : z = 1 := by omega
        subst this
        exact absurd ha (by decide)
      · exact ⟨rfl, by omega⟩
    have ea : a = y := ey
    have eb : b = z := ez
    rw [ea, eb, e3.1, e3.2]; rfl
/-- the solution for two items -/
theorem i2solve {w : Nat} (hw : w ≤ 12) {q : List Int × List Int × Int} (h : (Option.bind (iterN (fun s : Int × List Int × List Int => leastcode_solve_l4 6000 i2s (w : Int) [[0, 0], [2, 0]] [1, 0] s.1 s.2.1 s.2.2) 6000 (0, [0, 0], [0, 0])) fun r =>
    match r with
    | .inl p => some p
    | .inr p => some (p.1, p.2, 0)) = some q) : leastcode_solve 6000 i2s (w : Int) [[0, 0], [2, 0]] = some q := by
  unfold leastcode_solve
  exact obi (x := [0, 0]) (by decide +kernel) (obi (x := [0, 1]) (by decide +kernel) (obi (i2sort hw) (obi (x := [0, 0]) (by decide +kernel) (obi (x := [0, 0]) (by decide +kernel) h))))
theorem i2s0 : leastcode_solve 6000 i2s 0 [[0, 0], [2, 0]] = some ([], [], 15) := i2solve (w := 0) (by decide) (by decide +kernel)
theorem i2s1 : leastcode_solve 6000 i2s 1 [[0, 0], [2, 0]] = some ([1, 0], [1, 0], 0) := i2solve (w := 1) (by decide) (by decide +kernel)
theorem i2s2 : leastcode_solve 6000 i2s 2 [[0, 0], [2, 0]] = some ([1, 0], [1, 0], 0) := i2solve (w := 2) (by decide) (by decide +kernel)
theorem i2s12 : leastcode_solve 6000 i2s 12 [[0, 0], [2, 0]] = some ([1, 0], [1, 0], 0) := i2solve (w := 12) (by decide) (by decide +kernel)
theorem i2r (w : Int) : leastcode_relations 6000 i2s w = some [[0, 0], [2, 0]] := by
  have : leastcode_relations 6000 i2s 0 = some [[0, 0], [2, 0]] := by decide +kernel
  exact this
theorem i2l0 : leastcode_Least 6000 i2s 0 = some (0, [], 15) := by
  unfold leastcode_Least
  exact obi (x := 0) (by decide +kernel) (oif rfl (obi (i2r 0) (obi i2s0 (by decide +kernel))))
theorem i2l1 : leastcode_Least 6000 i2s 1 = some (1, [1, 0], 0) := by
  unfold leastcode_Least
  exact obi (x := 0) (by decide +kernel) (oif rfl (obi (i2r 1) (obi i2s1 (by decide +kernel))))
theorem i2l2 : leastcode_Least 6000 i2s 2 = some (1, [1, 0], 0) := by
  unfold leastcode_Least
  exact obi (x := 0) (by decide +kernel) (oif rfl (obi (i2r 2) (obi i2s2 (by decide +kernel))))
theorem i2l12 : leastcode_Least 6000 i2s 12 = some (1, [1, 0], 0) := by
  unfold leastcode_Least
  exact obi (x := 0) (by decide +kernel) (oif rfl (obi (i2r 12) (obi i2s12 (by decide +kernel))))
theorem i2w1 : leastcode_Witness 6000 i2s 1 = some ([1, 0], 0) := by
  unfold leastcode_Witness
  exact obi (x := 0) (by decide +kernel) (oif rfl (obi (i2r 1) (obi i2s1 (by decide +kernel))))
theorem i2m1 : certificate_Make 6000 i2s 1 = some (1, [1, 0], [1, 0], 0) := by
  unfold certificate_Make
  exact obi i2l1 (oif rfl (obi i2w1 (oif rfl rfl)))
theorem i2c0 : planner_scheme 6000 i2s 0 = some (⟨0, 0, 0, 0⟩, 0, [], false) := by
  unfold planner_scheme
  exact obi i2l0 (oit rfl rfl)
theorem i2c1 : planner_scheme 6000 i2s 1 = some (⟨1, 1, 3, 2⟩, 1, [1, 0], true) := by
  unfold planner_scheme
  exact obi i2l1 (oif rfl (by decide +kernel))
theorem i2c2 : planner_scheme 6000 i2s 2 = some (⟨2, 1, 3, 2⟩, 1, [1, 0], true) := by
  unfold planner_scheme
  exact obi i2l2 (oif rfl (by decide +kernel))
theorem i2c12 : planner_scheme 6000 i2s 12 = some (⟨12, 1, 3, 2⟩, 1, [1, 0], true) := by
  unfold planner_scheme
  exact obi i2l12 (oif rfl (by decide +kernel))
theorem iterN_l {σ ρ : Type} {f : σ → Option (σ ⊕ ρ)} {n : Nat} {s s' : σ} {R : Option ρ} (h : f s = some (.inl s')) (k : iterN f n s' = R) : iterN f (n + 1) s = R := by
  unfold iterN; rw [h]; exact k
theorem iterN_r {σ ρ : Type} {f : σ → Option (σ ⊕ ρ)} {n : Nat} {s : σ} {r : ρ} (h : f s = some (.inr r)) : iterN f (n + 1) s = some r := by
  unfold iterN; rw [h]
theorem i2S : planner_Schemes 6000 i2s = some ([⟨1, 1, 3, 2⟩, ⟨2, 1, 3, 2⟩, ⟨12, 1, 3, 2⟩], 0) := by
  unfold planner_Schemes
  refine obi (x := 0) (by decide +kernel) (oif rfl (obi (x := [⟨1, 1, 3, 2⟩, ⟨2, 1, 3, 2⟩, ⟨12, 1, 3, 2⟩]) ?_ (oif rfl (by decide +kernel))))
  refine iterN_l (n := 5999) (s' := (1, [])) ?_ (iterN_l (n := 5998) (s' := (2, [⟨1, 1, 3, 2⟩])) ?_ (iterN_l (n := 5997) (s' := (3, [⟨1, 1, 3, 2⟩, ⟨2, 1, 3, 2⟩])) ?_ (iterN_l (n := 5996) (s' := (4, [⟨1, 1, 3, 2⟩, ⟨2, 1, 3, 2⟩, ⟨12, 1, 3, 2⟩])) ?_ (iterN_r (n := 5995) ?_))))
  · unfold planner_Schemes_l1
    exact oit rfl (obi (x := 0) rfl (obi i2c0 (oif rfl (obi (x := 1) (by decide +kernel) rfl))))
  · unfold planner_Schemes_l1
    exact oit rfl (obi (x := 1) rfl (obi i2c1 (oit rfl (obi (x := [⟨1, 1, 3, 2⟩]) (by decide +kernel) (obi (x := 2) (by decide +kernel) rfl)))))
  · unfold planner_Schemes_l1
    exact oit rfl (obi (x := 2) rfl (obi i2c2 (oit rfl (obi (x := [⟨1, 1, 3, 2⟩, ⟨2, 1, 3, 2⟩]) (by decide +kernel) (obi (x := 3) (by decide +kernel) rfl)))))
  · unfold planner_Schemes_l1
    exact oit rfl (obi (x := 12) rfl (obi i2c12 (oit rfl (obi (x := [⟨1, 1, 3, 2⟩, ⟨2, 1, 3, 2⟩, ⟨12, 1, 3, 2⟩]) (by decide +kernel) (obi (x := 4) (by decide +kernel) rfl)))))
  · decide +kernel
theorem i2h : ∃ a, planner_sheet 6000 i2s 1 [300, 300] = some (i2s, 1, 1, [1, 0], [1, 0], a, [], 0) := by
  unfold planner_sheet
  have hm : (assign_Match 6000 [100, 200] [300, 300]).map (fun x => x.2) = some ([], 0) := by decide +kernel
  cases h : assign_Match 6000 [100, 200] [300, 300] with
  | none => rw [h] at hm; exact absurd hm (by simp)
  | some q =>
    rw [h] at hm
    obtain ⟨a, b⟩ := q
    have hb : b = ([], 0) := Option.some.inj hm
    subst hb
    exact ⟨a, obi (x := i2s) (by decide +kernel) (obi i2m1 (oif rfl (obi (x := ([100, 200], 0)) (by decide +kernel) (oif rfl (obi h (oif rfl rfl))))))⟩
theorem awake_ok : humpyardtop_awake 6000 = some true := by
  obtain ⟨a, ha⟩ := i2h
  have hp : planner_Plan 6000 i2s [300, 300] = some (i2s, 1, 1, [1, 0], [1, 0], a, [], 0) := by
    unfold planner_Plan
    refine obi i2S (oif rfl (obi (x := .inl (i2s, 1, 1, [1, 0], [1, 0], a, [], 0)) (iterN_r (n := 5999) ?_) rfl))
    unfold planner_Plan_l1
    exact oit rfl (obi (x := ⟨1, 1, 3, 2⟩) rfl (obi ha (oit rfl rfl)))
  unfold humpyardtop_awake
  have hr : rollin_Run 6000 i2s 1 1 [1, 0] = some ([[1, 0]], 3, 0) := by decide +kernel
  exact obi hp (obi (x := ([[1, 0]], 3, 0)) hr (oit rfl (obi (x := true) (by decide +kernel) rfl)))
end Go.Gv
