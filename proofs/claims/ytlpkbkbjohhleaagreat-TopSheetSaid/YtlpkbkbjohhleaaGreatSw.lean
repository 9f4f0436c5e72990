/- The schemes of a job of first rounds. -/
import Derived.Test.YtlpkbkbjohhleaaGreatSv
import Derived.Test.YtlpkbkbjohhleaaGreatSj
namespace Go.Gv
theorem or_ok {N : Nat} (hN : 5000 ≤ N) (a b c : Int) : g_cmp_Or_int N [a, b, c] = some (if a = 0 then if b = 0 then c else b else a) := by
  obtain ⟨n, rfl⟩ : ∃ n, N = n + 4 := ⟨N - 4, by omega⟩
  have i1 : in64 ((0 : Int) + 1) = some 1 := by decide
  have i2 : in64 ((1 : Int) + 1) = some 2 := by decide
  have i3 : in64 ((2 : Int) + 1) = some 3 := by decide
  unfold g_cmp_Or_int
  by_cases ha : a = 0
  · rw [if_pos ha]
    by_cases hb : b = 0
    · rw [if_pos hb]
      by_cases hc : c = 0
      · refine obi (x := .inr ()) (iterN_l (s' := 1) ?_ (iterN_l (s' := 2) ?_ (iterN_l (s' := 3) ?_ (iterN_r ?_)))) (by rw [hc])
        · unfold g_cmp_Or_int_l1
          exact oit rfl (obi (x := a) rfl (oif (bnotIf (decide_eq_true ha)) (obi i1 rfl)))
        · unfold g_cmp_Or_int_l1
          exact oit rfl (obi (x := b) rfl (oif (bnotIf (decide_eq_true hb)) (obi i2 rfl)))
        · unfold g_cmp_Or_int_l1
          exact oit rfl (obi (x := c) rfl (oif (bnotIf (decide_eq_true hc)) (obi i3 rfl)))
        · unfold g_cmp_Or_int_l1
          exact oif rfl rfl
      · refine obi (x := .inl c) (iterN_l (s' := 1) ?_ (iterN_l (s' := 2) ?_ (iterN_r ?_))) rfl
        · unfold g_cmp_Or_int_l1
          exact oit rfl (obi (x := a) rfl (oif (bnotIf (decide_eq_true ha)) (obi i1 rfl)))
        · unfold g_cmp_Or_int_l1
          exact oit rfl (obi (x := b) rfl (oif (bnotIf (decide_eq_true hb)) (obi i2 rfl)))
        · unfold g_cmp_Or_int_l1
          exact oit rfl (obi (x := c) rfl (oit (bnotIt (decide_eq_false hc)) rfl))
    · rw [if_neg hb]
      refine obi (x := .inl b) (iterN_l (s' := 1) ?_ (iterN_r ?_)) rfl
      · unfold g_cmp_Or_int_l1
        exact oit rfl (obi (x := a) rfl (oif (bnotIf (decide_eq_true ha)) (obi i1 rfl)))
      · unfold g_cmp_Or_int_l1
        exact oit rfl (obi (x := b) rfl (oit (bnotIt (decide_eq_false hb)) rfl))
  · rw [if_neg ha]
    refine obi (x := .inl a) (iterN_r ?_) rfl
    unfold g_cmp_Or_int_l1
    exact oit rfl (obi (x := a) rfl (oit (bnotIt (decide_eq_false ha)) rfl))
/-- a scheme of a job -/
structure SchOk (N : Nat) (l : List T_Item) (x : T_Scheme) : Prop where
  wt : ∃ w : Nat, w ≤ 12 ∧ x.Weight = w ∧ ∃ (s : Nat) (least : List Int), leastcode_Least N l (w : Int) = some ((s : Int), least, 0)
  st : 0 ≤ x.Steps ∧ x.Steps ≤ 12
  mv : 0 ≤ x.Moves ∧ x.Moves ≤ 3000
theorem scheme_ok {N : Nat} (hN : 5000 ≤ N) {l : List T_Item} {w : Nat} (J : JobOk l w) : (planner_scheme N l (w : Int) = some (⟨0, 0, 0, 0⟩, 0, [], false) ∧ leastcode_Least N l (w : Int) = some (0, [], 15)) ∨ ∃ x s c, planner_scheme N l (w : Int) = some (x, s, c, true) ∧ SchOk N l x := by
  have hw := J.wt
  rcases least_make hN J with ⟨h, _⟩ | ⟨s, least, chain, h, _, ⟨base, S⟩, _, hS⟩
  · left
    refine ⟨?_, h⟩
    unfold planner_scheme
    exact obi h (oit rfl rfl)
  · right
    have hs := hS.le
    obtain ⟨tr, mv, L, hr, _, _, _, _, _, hm, pu, hp⟩ := run_ok hN J (S.plan hS)
    refine ⟨⟨(w : Int), (s : Int), mv, pu⟩, (s : Int), least, ?_, ⟨w, hw, rfl, s, least, h⟩, by simp only; omega, hm⟩
    unfold planner_scheme
    exact obi h (oif rfl (obi hr (oif rfl (obi hp rfl))))
def keyS (x : T_Scheme) : Int := x.Steps * 10000000 + x.Moves * 1000 + x.Weight
theorem schemes_ok {N : Nat} (hN : 5000 ≤ N) {l : List T_Item} (J : ∀ w, w ≤ 12 → JobOk l w) (h0 : ∀ i, i < l.length → (it l i).Round = 0) : ∃ xs, planner_Schemes N l = some (xs, 0) ∧ (0 < xs.length ∧ xs.length ≤ 4) ∧ ∀ x ∈ xs, SchOk N l x := by
  have hl := (J 0 (by decide)).len
  obtain ⟨q, hq, q1, q2, q3⟩ := runN (f := fun s : Int × List T_Scheme => planner_Schemes_l1 N l s.1 s.2) 4
    (fun i s => s.1 = i ∧ s.2.length ≤ i ∧ (∀ x ∈ s.2, SchOk N l x) ∧ (i = 4 → 0 < s.2.length))
    (fun q => 0 < q.length ∧ q.length ≤ 4 ∧ ∀ x ∈ q, SchOk N l x) (by
    rintro i ⟨i', xs⟩ hi ⟨rfl, h1, h2, h3⟩
    simp only at h1 h2 h3 ⊢
    left
    obtain ⟨w, hw, hidx, hw12⟩ : ∃ w : Nat, w ≤ 12 ∧ idx ([0, 1, 2, 12] : List Int) (i : Int) = some (w : Int) ∧ (i = 3 → w = 12) := by
      match i, hi with
      | 0, _ => exact ⟨0, by decide, rfl, fun h => absurd h (by decide)⟩
      | 1, _ => exact ⟨1, by decide, rfl, fun h => absurd h (by decide)⟩
      | 2, _ => exact ⟨2, by decide, rfl, fun h => absurd h (by decide)⟩
      | 3, _ => exact ⟨12, by decide, rfl, fun _ => rfl⟩
    unfold planner_Schemes_l1
    rcases scheme_ok hN (J w hw) with ⟨hs, hL⟩ | ⟨x, s, c, hs, hx⟩
    · refine ⟨_, oit (decide_eq_true (by omega)) (obi hidx (obi hs (oif rfl (obi (inc_nat (by omega)) rfl)))), rfl, by simp only; omega, h2, fun e => ?_⟩
      have e12 := hw12 (by omega)
      subst e12
      obtain ⟨s, least, h⟩ := least12 hN (J 12 (by decide)) h0
      have hL' := hL.symm.trans h
      exact absurd (show (15 : Int) = 0 from congrArg (fun q : Int × List Int × Int => q.2.2) (Option.some.inj hL')) (by decide)
    · refine ⟨_, oit (decide_eq_true (by omega)) (obi hidx (obi hs (oit rfl (obi (app_ok (by simp only [List.length_cons, List.length_nil]; omega) (by simp only [List.length_cons, List.length_nil]; omega)) (obi (inc_nat (by omega)) rfl))))), rfl, by simp only [List.length_append, List.length_cons, List.length_nil]; omega, fun y hy => ?_, fun _ => by simp⟩
      rcases List.mem_append.1 hy with hy | hy
      · exact h2 y hy
      · rw [List.mem_singleton.1 hy]; exact hx) (by
    rintro ⟨i', xs⟩ ⟨rfl, h1, h2, h3⟩
    unfold planner_Schemes_l1
    exact ⟨_, oif (decide_eq_false (by simp only; omega)) rfl, h3 rfl, h1, h2⟩) N (by omega) (0, []) ⟨rfl, by simp, fun x h => absurd h (by simp), fun h => absurd h (by decide)⟩
  obtain ⟨xs, hxs, x1, x2, _⟩ := SC.sort_ok (key := keyS) (S := SchOk N l) (N := N) (by omega) (fun x y hx hy => by
    obtain ⟨⟨w, w1, w2, _⟩, s1, m1⟩ := hx
    obtain ⟨⟨v, v1, v2, _⟩, s2, m2⟩ := hy
    refine ⟨_, by
      unfold planner_Schemes_1
      exact obi (in64_ok (by omega)) (obi (in64_ok (by omega)) (obi (in64_ok (by omega)) (obi (or_ok hN _ _ _) rfl))), ?_⟩
    unfold keyS
    split
    · split <;> omega
    · omega) q3 (by omega)
  refine ⟨xs, ?_, by omega, fun x hx => q3 x (x2.mem.1 hx)⟩
  unfold planner_Schemes
  exact obi (jobvalid_ok hN (J 0 (by decide))) (oif rfl (obi hq (oif (decide_eq_false (by omega)) (obi hxs rfl))))
end Go.Gv
