/- The law Exact. -/
import Derived.Test.YtlfinhdanjbmcaaPli
namespace Go.Gv

theorem table_eq {m n : Nat} {p q : List (List Int)} (hp : Shape m n p) (hq : Shape m n q) (h : ∀ k l, k ≤ m → l ≤ n → cell p k l = cell q k l) : p = q := by
  apply List.ext_getElem (by rw [hp.len, hq.len])
  intro i h1 h2
  have hi : i ≤ m := by rw [hp.len] at h1; omega
  have e1 : p.getD i [] = p[i] := by rw [List.getD_eq_getElem?_getD, List.getElem?_eq_getElem h1]; rfl
  have e2 : q.getD i [] = q[i] := by rw [List.getD_eq_getElem?_getD, List.getElem?_eq_getElem h2]; rfl
  have r1 := hp.row i hi
  have r2 := hq.row i hi
  rw [e1] at r1
  rw [e2] at r2
  refine list_eq_getD (by omega) fun j hj => ?_
  have := h i j hi (by omega)
  unfold cell at this
  rw [e1, e2] at this
  exact this
theorem lists_refl (N : Nat) (hN : 200 ≤ N) (p : List (List Int)) (h1 : p.length ≤ 100) (h2 : ∀ i, i < p.length → (p.getD i []).length ≤ 100) : humpgen_Lists N p p = some true := by
  unfold humpgen_Lists
  rcases first_anyP p.length (fun _ => False) false (fun s => humpgen_Lists_l1 N p p s) (fun i hi => .inr ⟨fun h => h, by
    unfold humpgen_Lists_l1
    have hl := h2 i hi
    exact oit (decide_eq_true (by omega)) (obi (idx_getD [] hi) (obi (idx_getD [] hi) (obi (ints_ok N _ _ (by omega) (by omega)) (oif (bnotIf (decide_eq_true rfl)) (obi (inc_nat (by omega)) rfl)))))⟩) (by
    unfold humpgen_Lists_l1
    exact oif (decide_eq_false (by omega)) rfl) N (by omega) with ⟨_, i, _, h⟩ | ⟨h, _⟩
  · exact h.elim
  · exact oif (bnotIf (decide_eq_true rfl)) (obi h rfl)
theorem exact_core (x y : List Int) (hx : x.length ≤ 96) (hy : y.length ≤ 96) : ∃ s p, reconcile_Align 200 x y = some (s, ((V x y 0 0 : Nat) : Int), 0) ∧ r08_Align 200 x y = some (s, ((V x y 0 0 : Nat) : Int), 0) ∧ reconcile_Potential 200 x y = some (p, 0) ∧ r08_Potential 200 x y = some (p, 0) ∧ humpgen_Ints 200 s s = some true ∧ humpgen_Lists 200 p p = some true ∧ s.length ≤ 192 := by
  obtain ⟨s, e1, p1, c1⟩ := align_ok 200 (Nat.le_refl _) x y hx hy
  obtain ⟨s2, e2, p2, c2⟩ := ralign_ok 200 (Nat.le_refl _) x y hx hy
  obtain rfl := c1.uniq c2
  obtain ⟨p, e3, sp, cp⟩ := pot_ok 200 (Nat.le_refl _) x y hx hy
  obtain ⟨q, e4, sq, cq⟩ := rpot_ok 200 (Nat.le_refl _) x y hx hy
  obtain rfl : p = q := table_eq sp sq fun k l hk hl => by rw [cp k l hk hl, cq k l hk hl]
  have hm := p1.mono
  refine ⟨s, p, e1, e2, e3, e4, ?_, lists_refl 200 (Nat.le_refl _) p (by rw [sp.len]; omega) (fun i hi => by rw [sp.row i (by rw [sp.len] at hi; omega)]; omega), by omega⟩
  rw [ints_ok 200 s s (by omega) (by omega), decide_eq_true rfl]
theorem l6_ok (x y ed : List Int) (hx : x.length ≤ 96) (hy : y.length ≤ 96) (r : List Int × Int × Int) (j : Int × List Int) : iterN (fun s : Int => law08_ReconcileExact_l6 200 x y ed r j s) 200 0 = some (.inr ()) := by
  rcases first_anyP 3 (fun _ => False) false (fun s => law08_ReconcileExact_l6 200 x y ed r j s) (fun i hi => .inr ⟨fun h => h, by
    unfold law08_ReconcileExact_l6
    exact oit (decide_eq_true (by simp; omega)) (obi (idx_getD [] (by simp; omega)) (obi (Ccost_ok 200 (Nat.le_refl _) x y _ hx hy) (obi (rcost_ok 200 (Nat.le_refl _) x y _ hx hy) (oif (borF (bnotIf (decide_eq_true rfl)) (bnotIf (decide_eq_true rfl))) (obi (inc_nat (by omega)) rfl)))))⟩) (by
    unfold law08_ReconcileExact_l6
    exact oif (decide_eq_false (by simp)) rfl) 200 (by omega) with ⟨_, i, _, h⟩ | ⟨h, _⟩
  · exact h.elim
  · exact h
theorem l7_ok (k : Int) (x y ed : List Int) (hx : x.length ≤ 96) (hy : y.length ≤ 96) (r : List Int × Int × Int) (j : Int × List Int) : iterN (fun s : Int => law08_ReconcileExact_l7 200 ed (k, x, y) r j s) 200 0 = some (.inr ()) := by
  rcases first_anyP 3 (fun _ => False) false (fun s => law08_ReconcileExact_l7 200 ed (k, x, y) r j s) (fun i hi => .inr ⟨fun h => h, by
    unfold law08_ReconcileExact_l7
    exact oit (decide_eq_true (by simp; omega)) (obi (idx_getD [] (by simp; omega)) (obi (Ccost_ok 200 (Nat.le_refl _) x y _ hx hy) (obi (rcost_ok 200 (Nat.le_refl _) x y _ hx hy) (oif (borF (bnotIf (decide_eq_true rfl)) (bnotIf (decide_eq_true rfl))) (obi (inc_nat (by omega)) rfl)))))⟩) (by
    unfold law08_ReconcileExact_l7
    exact oif (decide_eq_false (by simp)) rfl) 200 (by omega) with ⟨_, i, _, h⟩ | ⟨h, _⟩
  · exact h.elim
  · exact h
theorem spoil_ok (t l : List Int) (hl : l.length ≤ 192) {k : Int} (hk : 0 ≤ k) (hk2 : k ≤ 100000) : ∃ j : Int × List Int, (bif decide (0 < (List.length l : Int)) then (
 Option.bind (Maker_Next 200 t k (List.length l : Int)) fun r1171 =>
 Option.bind (Maker_Pick 200 t r1171.1 ([(-1), 0, 1, 2, 3, 4, 5])) fun r1180 =>
 Option.bind (idx l r1171.2) fun _ =>
 some (r1180.1, (List.set l (Int.toNat r1171.2) r1180.2))) else (
 some (k, l))) = some j ∧ k ≤ j.1 ∧ j.1 ≤ k + 2 := by
  by_cases h0 : 0 < l.length
  · obtain ⟨x, hx, x0, x1⟩ := next_ok 200 t hk (by omega) (n := (l.length : Int)) (by omega) (by omega)
    obtain ⟨v, hv, _⟩ := pick_ok 200 t (k := k + 1) (v := [(-1), 0, 1, 2, 3, 4, 5]) (by omega) (by omega) (by simp) (by simp)
    obtain ⟨i, rfl⟩ : ∃ i : Nat, x = i := ⟨x.toNat, by omega⟩
    exact ⟨(k + 1 + 1, _), oit (decide_eq_true (by omega)) (obi hx (obi hv (obi (idx_nat (by omega)) rfl))), by simp only; omega, by simp only; omega⟩
  · exact ⟨(k, l), oif (decide_eq_false (by omega)) rfl, by simp only; omega, by simp only; omega⟩

theorem exact_step (t a b ed : List Int) (hs : a.length + b.length ≤ 9223372036854775807) (i : Nat) (hi : i < 4) {k : Int} (hk : 0 ≤ k) (hk2 : k ≤ 1002 * i) : ∃ k', law08_ReconcileExact_l5 200 t a b ed i k = some (.inl (((i + 1 : Nat) : Int), k')) ∧ 0 ≤ k' ∧ k' ≤ 1002 * (i + 1) := by
  obtain ⟨k1, x, y, hl, k10, k11, lx, ly⟩ := lists_ok 200 (Nat.le_refl _) t (k := k) (n := 12) hk (by omega) (by omega) (by omega)
  have made : i ≠ 3 ∨ ¬ (a.length + b.length ≤ 60) → ∃ k', law08_ReconcileExact_l5 200 t a b ed i k = some (.inl (((i + 1 : Nat) : Int), k')) ∧ 0 ≤ k' ∧ k' ≤ 1002 * (i + 1) := by
    intro hne
    obtain ⟨s, p, e1, e2, e3, e4, e5, e6, hsl⟩ := exact_core x y (by omega) (by omega)
    obtain ⟨j, hj, j0, j1⟩ := spoil_ok t ([] ++ s) (by simpa using hsl) (k := k1) k10 (by omega)
    refine ⟨j.1, ?_, by omega, by omega⟩
    have tail := l7_ok k1 x y ed (by omega) (by omega) (s, ((V x y 0 0 : Nat) : Int), 0) j
    have hpre : (!(((!true) || (!decide (((V x y 0 0 : Nat) : Int) = ((V x y 0 0 : Nat) : Int)))) || (!decide ((0 : Int) = 0)))) = true := by simp
    have hcond : (((((!true) || (!decide (((V x y 0 0 : Nat) : Int) = ((V x y 0 0 : Nat) : Int)))) || (!decide ((0 : Int) = 0))) || (!true)) || (!decide ((0 : Int) = 0))) = false := by simp
    unfold law08_ReconcileExact_l5
    refine oit (decide_eq_true (by omega)) (obi hl ?_)
    by_cases h3 : (i : Int) = 3
    · have h60 : ¬ ((a.length : Int) + (b.length : Int) ≤ 60) := by omega
      exact obi (gO_T (decide_eq_true h3) (in64_ok (by omega))) (oif (bandF2 (decide_eq_false h60)) (obi e1 (obi e2 (obi e3 (obi e4 (obi e5 (obi (gO_T hpre e6) (oif hcond (obi (app_ok (b := 8) (l := []) (r := s) (by simp; omega) (by simp; omega)) (obi hj (obi tail (obi (inc_nat (by omega)) rfl))))))))))))
    · exact obi (gO_F (decide_eq_false h3)) (oif (bandF (decide_eq_false h3)) (obi e1 (obi e2 (obi e3 (obi e4 (obi e5 (obi (gO_T hpre e6) (oif hcond (obi (app_ok (b := 8) (l := []) (r := s) (by simp; omega) (by simp; omega)) (obi hj (obi tail (obi (inc_nat (by omega)) rfl))))))))))))
  by_cases h3 : i = 3
  · by_cases h60 : a.length + b.length ≤ 60
    · obtain ⟨s, p, e1, e2, e3, e4, e5, e6, hsl⟩ := exact_core a b (by omega) (by omega)
      obtain ⟨j, hj, j0, j1⟩ := spoil_ok t ([] ++ s) (by simpa using hsl) (k := k1) k10 (by omega)
      refine ⟨j.1, ?_, by omega, by omega⟩
      have tail := l6_ok a b ed (by omega) (by omega) (s, ((V a b 0 0 : Nat) : Int), 0) j
      have hpre : (!(((!true) || (!decide (((V a b 0 0 : Nat) : Int) = ((V a b 0 0 : Nat) : Int)))) || (!decide ((0 : Int) = 0)))) = true := by simp
      have hcond : (((((!true) || (!decide (((V a b 0 0 : Nat) : Int) = ((V a b 0 0 : Nat) : Int)))) || (!decide ((0 : Int) = 0))) || (!true)) || (!decide ((0 : Int) = 0))) = false := by simp
      unfold law08_ReconcileExact_l5
      exact oit (decide_eq_true (by omega)) (obi hl (obi (gO_T (decide_eq_true (by omega)) (in64_ok (by omega))) (oit (band (decide_eq_true (by omega)) (decide_eq_true (by omega))) (obi e1 (obi e2 (obi e3 (obi e4 (obi e5 (obi (gO_T hpre e6) (oif hcond (obi (app_ok (b := 8) (l := []) (r := s) (by simp; omega) (by simp; omega)) (obi hj (obi tail (obi (inc_nat (by omega)) rfl))))))))))))))
    · exact made (.inr h60)
  · exact made (.inl h3)
theorem Exact_sized (t a b ed : List Int) (_ : t.length ≤ 17592186044416) (ha : a.length ≤ 17592186044416) (hb : b.length ≤ 17592186044416) (_ : ed.length ≤ 17592186044416) : law08_ReconcileExact 200 t a b ed = some true := by
  obtain ⟨r, hr, hQ⟩ := iterN_run (f := fun s : Int × Int => law08_ReconcileExact_l5 200 t a b ed s.1 s.2)
    (I := fun s => ∃ i : Nat, s.1 = i ∧ i ≤ 4 ∧ 0 ≤ s.2 ∧ s.2 ≤ 1002 * i) (Q := fun r => r = .inr ()) (fun s => 4 - s.1.toNat) (by
    rintro ⟨i', k⟩ ⟨i, rfl, hi, hk, hk2⟩
    simp only at hk hk2 ⊢
    by_cases hc : i < 4
    · obtain ⟨k', h1, h2, h3⟩ := exact_step t a b ed (by omega) i hc hk hk2
      exact .inl ⟨_, h1, ⟨i + 1, rfl, hc, h2, by simp only; omega⟩, by simp only; omega⟩
    · obtain rfl : i = 4 := by omega
      exact .inr ⟨.inr (), by unfold law08_ReconcileExact_l5; exact oif (decide_eq_false (by omega)) rfl, rfl⟩) 200 (0, 0) ⟨0, rfl, by omega, by simp, by simp⟩ (by simp)
  subst hQ
  unfold law08_ReconcileExact
  exact obi (x := 0) rfl (obi hr (obi (sane_any 200 (Nat.le_refl _)) rfl))
end Go.Gv
