/- A job of first rounds has codes of twelve steps. -/
import Derived.Test.YtlpkbkbjohhleaaGreatSr
namespace Go.Gv
theorem solve12 {N : Nat} (hN : 5000 ≤ N) {l : List T_Item} (J : JobOk l 12) (h0 : ∀ i, i < l.length → (it l i).Round = 0) {M : List (List Int)} (R : RelM l M) : ∃ base least, leastcode_solve N l ((12 : Nat) : Int) M = some (base, least, 0) := by
  have hl := J.len
  have hm : mkL 8 (l.length : Int) (0 : Int) = some (List.replicate l.length 0) := mkL_ok _ (by omega) (by omega)
  obtain ⟨r, ord, hr, ho, O⟩ := order_ok hN J
  have hm2 : mkL 8 (ord.length : Int) (0 : Int) = some (List.replicate l.length 0) := by rw [O.len]; exact hm
  obtain ⟨q, hq, hQ⟩ := runN (f := fun s : Int × List Int × List Int => leastcode_solve_l4 N l ((12 : Nat) : Int) M ord s.1 s.2.1 s.2.2) l.length
    (fun p s => s.1 = p ∧ s.2.1.length = l.length ∧ s.2.2.length = l.length ∧ (∀ z, z < l.length → 0 ≤ gi s.2.2 z ∧ gi s.2.2 z ≤ (it l z).Block) ∧ ∀ q z : Nat, p ≤ q → q < l.length → gi ord q = (z : Int) → gi s.2.1 z = 0)
    (fun q => ∃ base least, q = .inr (base, least)) (by
    rintro p ⟨p', base, least⟩ hp ⟨rfl, h1, h2, h3, h5⟩
    simp only at h1 h2 h3 h5 ⊢
    obtain ⟨y, hy, ey⟩ := O.rng p (by rw [O.len]; exact hp)
    have eo : idx ord (p : Int) = some (y : Int) := by rw [idx_gi (by rw [O.len]; exact hp), ey]
    obtain ⟨base', k1, k2, k3, b, k4, k5, k6⟩ := base_loop hN hl R h1 h2 (fun x hx => by have := h3 x hx; have := J.bl x hx; omega) hy (h5 p y (Nat.le_refl _) hp ey)
    have hblk := J.bl y hy
    have hby : (b : Int) ≤ (it l y).Block := by
      rcases k6.2 with e | ⟨x, hx, hr, e⟩
      · omega
      · have h1 := (rel_pos hr).2
        have h2 := h3 x hx
        have h3 := rel_rng l x y
        omega
    have hisc : IsC b 0 12 := ⟨by omega, by rw [Nat.pow_zero, Nat.mod_one], by rw [Nat.pow_zero, Nat.div_one]; exact pc_le (by omega)⟩
    have hnx : code_Next N (b : Int) ((0 : Nat) : Int) ((12 : Nat) : Int) = some ((b : Int), 0) := next_at hN (by decide) (by decide) ⟨Nat.le_refl _, hisc, fun k' _ h => h⟩
    rw [← k4, show ((0 : Nat) : Int) = (it l y).Round by rw [h0 y hy]; rfl] at hnx
    have elen : (p : Int) < (List.length ord : Int) := by rw [O.len]; omega
    have other : ∀ q z : Nat, q < l.length → q ≠ p → gi ord q = (z : Int) → z ≠ y := fun q z hq1 hne e1 e2 => by
      subst e2
      exact hne (O.inj q p (by rw [O.len]; exact hq1) (by rw [O.len]; exact hp) (by rw [e1, ey]))
    unfold leastcode_solve_l4
    left
    refine ⟨_, oit (decide_eq_true elen) (obi eo (obi k1 (obi (idx_gi (r := base') (i := y) (by omega)) (obi (idx_it hy) (obi hnx (oif rfl (obi (idx_gi (r := least) (i := y) (by omega)) (obi (inc_nat (by omega)) rfl)))))))), rfl, k2, by simpa using h2, fun z hz => ?_, fun q z h6 h7 e1 => ?_⟩
    · simp only [Int.toNat_natCast]
      rw [gi_set (by omega)]
      split
      · rename_i e; rw [e, k4]; omega
      · exact h3 z hz
    · simp only
      rw [k3 z (other q z h7 (by omega) e1)]
      exact h5 q z (by omega) h7 e1) (by
    rintro ⟨p', base, least⟩ ⟨rfl, h1, h2, h3, h5⟩
    simp only at h1 h2 h3
    exact ⟨_, oif (decide_eq_false (by rw [O.len]; omega)) rfl, _, _, rfl⟩) N (by omega) (0, List.replicate l.length 0, List.replicate l.length 0)
    ⟨rfl, by simp, by simp, fun z hz => by have := J.bl z hz; simp only; rw [gi_rep]; omega, fun q z _ _ _ => gi_rep _ _⟩
  obtain ⟨base, least, rfl⟩ := hQ
  unfold leastcode_solve
  exact ⟨base, least, obi hm (obi hr (obi ho (obi hm2 (obi hm2 (obi hq rfl)))))⟩
/-- with twelve tracks there is always a plan -/
theorem least12 {N : Nat} (hN : 5000 ≤ N) {l : List T_Item} (J : JobOk l 12) (h0 : ∀ i, i < l.length → (it l i).Round = 0) : ∃ (s : Nat) (least : List Int), leastcode_Least N l 12 = some ((s : Int), least, 0) := by
  have hl := J.len
  have hv := jobvalid_ok hN J
  obtain ⟨M, hM, R⟩ := relations_ok hN hl ((12 : Nat) : Int)
  obtain ⟨base, least, hq⟩ := solve12 hN J h0 R
  obtain ⟨q', hq', hQ⟩ := solve_ok hN J R
  have e : q' = (base, least, 0) := Option.some.inj (hq'.symm.trans hq)
  rcases hQ with rfl | ⟨base', least', rfl, S⟩
  · exact absurd (show (15 : Int) = 0 from congrArg (fun q : List Int × List Int × Int => q.2.2) e) (by decide)
  · obtain ⟨s, hs, hS⟩ := stepsmax (a := base') (e := 0) hN (least := least') (by have := S.ll; omega) S.rng
    exact ⟨s, least', obi hv (oif rfl (obi hM (obi hq' (oif rfl (obi hs rfl)))))⟩
end Go.Gv
