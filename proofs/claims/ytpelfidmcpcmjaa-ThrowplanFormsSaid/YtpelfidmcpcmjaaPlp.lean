/- Throwing (chapter 24): planned cuts. -/
import Derived.Test.YtpelfidmcpcmjaaPlo
namespace Go.Gv
theorem rk_set {r : List Int} {i j : Nat} {x : Int} (h : i < r.length) : rk (r.set i x) j = if j = i then x else rk r j := by
  unfold rk
  rw [List.getD_eq_getElem?_getD, List.getD_eq_getElem?_getD, List.getElem?_set]
  by_cases e : i = j
  · subst e
    rw [if_pos rfl, if_pos h, if_pos rfl]; rfl
  · rw [if_neg e, if_neg (fun h => e h.symm)]
theorem starts_made {N : Nat} (hN : 2000 ≤ N) (t : List Int) {k : Int} (h0 : 0 ≤ k) (h1 : k ≤ 1000000) : ∃ k' st, yardgen_Starts N t k = some (k', st) ∧ k ≤ k' ∧ k' ≤ k + 4 ∧ st.length ≤ 2 ∧ (∀ x ∈ st, (x.Element = 2 ∨ x.Element = 4) ∧ (x.Side = 1 ∨ x.Side = 2)) ∧ st.Pairwise (fun x y => x.Element ≠ y.Element) := by
  obtain ⟨⟨k', st⟩, hq, q1, q2, q3, q4, q5⟩ := runN (f := fun s : Int × Int × List T_Throw => yardgen_Starts_l1 N t s.1 s.2.1 s.2.2) 2
    (fun i s => s.1 = 2 + 2 * i ∧ k ≤ s.2.1 ∧ s.2.1 ≤ k + 2 * i ∧ s.2.2.length ≤ i ∧ (∀ x ∈ s.2.2, (x.Element = 2 ∨ x.Element = 4) ∧ (x.Side = 1 ∨ x.Side = 2)) ∧ (∀ x ∈ s.2.2, x.Element < s.1) ∧ s.2.2.Pairwise (fun x y => x.Element ≠ y.Element))
    (fun q => k ≤ q.1 ∧ q.1 ≤ k + 4 ∧ q.2.length ≤ 2 ∧ (∀ x ∈ q.2, (x.Element = 2 ∨ x.Element = 4) ∧ (x.Side = 1 ∨ x.Side = 2)) ∧ q.2.Pairwise (fun x y => x.Element ≠ y.Element)) (by
    rintro i ⟨e, p, st⟩ hi ⟨rfl, p0, p1, hl, hs, hlt, hpw⟩
    simp only at p0 p1 hl hs hlt hpw ⊢
    left
    obtain ⟨a, ha, a0, a1⟩ := next_ok N t (k := p) (n := 2) (by omega) (by omega) (by omega) (by omega)
    unfold yardgen_Starts_l1
    by_cases c : a = 0
    · obtain ⟨b, hb, bm⟩ := pick_ok N t (k := p + 1) (v := [1, 2]) (by omega) (by omega) (by simp) (by simp)
      have bm : b = 1 ∨ b = 2 := by simpa using bm
      refine ⟨_, oit (decide_eq_true (by omega)) (obi ha (oit (decide_eq_true c) (obi hb (obi (app_ok (by simp only [List.length_cons, List.length_nil]; omega) (by simp only [List.length_cons, List.length_nil]; omega)) (obi (in64_ok (by omega)) rfl))))), by simp only; omega, by simp only; omega, by simp only; omega, by simp only [List.length_append, List.length_cons, List.length_nil]; omega, fun x hx => ?_, fun x hx => ?_, List.pairwise_append.2 ⟨hpw, List.pairwise_singleton _ _, fun x hx y hy => ?_⟩⟩
      · rcases List.mem_append.1 hx with h | h
        · exact hs x h
        · simp at h; rw [h]; exact ⟨by simp only; omega, bm⟩
      · rcases List.mem_append.1 hx with h | h
        · have := hlt x h; simp only; omega
        · simp at h; rw [h]; simp only; omega
      · simp at hy
        have := hlt x hx
        rw [hy]; simp only; omega
    · exact ⟨_, oit (decide_eq_true (by omega)) (obi ha (oif (decide_eq_false c) (obi (in64_ok (by omega)) rfl))), by simp only; omega, by simp only; omega, by simp only; omega, by simp only; omega, hs, fun x hx => by have := hlt x hx; simp only; omega, hpw⟩) (by
    rintro ⟨e, p, st⟩ ⟨rfl, p0, p1, hl, hs, hlt, hpw⟩
    simp only at p0 p1 hl hs hlt hpw
    exact ⟨_, oif (decide_eq_false (by simp)) rfl, p0, by simp only; omega, hl, hs, hpw⟩) N (by omega) (2, k, []) ⟨rfl, Int.le_refl _, by simp, by simp, fun x h => by simp at h, fun x h => by simp at h, List.Pairwise.nil⟩
  exact ⟨k', st, obi hq rfl, q1, q2, q3, q4, q5⟩
theorem planned_ok {N : Nat} (hN : 2000 ≤ N) (t : List Int) {k : Int} (h0 : 0 ≤ k) (h1 : k ≤ 100000) : ∃ k' l r th st, law24_planned N t k = some (k', l, r, th, st) ∧ k ≤ k' ∧ k' ≤ k + 1100 ∧ l.length ≤ 8 ∧ (∀ a ∈ l, Cut a) ∧ (0 ≤ th ∧ th ≤ 2500) ∧ r.length = l.length ∧
    (∀ i, i < l.length → th ≤ rk r i ∧ rk r i ≤ 1000000) ∧ (∀ i j, i < j → j < l.length → sepJ l th r i j (rk r j)) ∧ st.length ≤ 2 ∧ (∀ x ∈ st, (x.Element = 2 ∨ x.Element = 4) ∧ (x.Side = 1 ∨ x.Side = 2)) ∧ st.Pairwise (fun x y => x.Element ≠ y.Element) ∧ ∀ a ∈ l, Par a := by
  obtain ⟨k1, l, hl, a0, a1, a2, hcp⟩ := lists_okN N (by omega) t h0 h1 8 (by omega)
  have hc : ∀ a ∈ l, Cut a := fun a h => (hcp a h).1
  obtain ⟨th, hth, tm⟩ := pick_ok N t (k := k1) (v := [0, 800, 2500]) (by omega) (by omega) (by simp) (by simp)
  have tm : th = 0 ∨ th = 800 ∨ th = 2500 := by simpa using tm
  obtain ⟨R, hR, R1, R2, R3⟩ := rel_ok hN (l := l) (by omega) hc (th := th) (by omega) (by omega)
  obtain ⟨⟨k2, r⟩, hq, q1, q2, q3, q4, q5⟩ := runN (f := fun s : Int × Int × Int × List Int => law24_planned_l1 N t (k1 + 1, th) s.1 s.2.1 s.2.2.1 s.2.2.2) l.length
    (fun i s => s.2.1 = i ∧ (0 ≤ s.1 ∧ s.1 ≤ 700 * i) ∧ (k1 + 1 ≤ s.2.2.1 ∧ s.2.2.1 ≤ k1 + 1 + i) ∧ s.2.2.2.length = l.length ∧ (∀ p, i ≤ p → p < l.length → rk s.2.2.2 p = rk R p) ∧ ∀ p, p < i → ∃ d, rk s.2.2.2 p = rk R p + (th + d) ∧ 0 ≤ d ∧ d ≤ s.1 ∧ ∀ p', p' < p → ∃ d', rk s.2.2.2 p' = rk R p' + (th + d') ∧ d' ≤ d)
    (fun q => (k1 + 1 ≤ q.1 ∧ q.1 ≤ k1 + 10) ∧ q.2.length = l.length ∧ (∀ p, p < l.length → ∃ d, rk q.2 p = rk R p + (th + d) ∧ 0 ≤ d ∧ d ≤ 700 * 8 ∧ ∀ p', p' < p → ∃ d', rk q.2 p' = rk R p' + (th + d') ∧ d' ≤ d) ∧ True ∧ True) (by
    rintro i ⟨late, i', p, r⟩ hi ⟨rfl, ⟨l0, l1⟩, ⟨p0, p1⟩, hr, ho, hn⟩
    simp only at l0 l1 p0 p1 hr ho hn ⊢
    obtain ⟨b, hb, bm⟩ := pick_ok N t (k := p) (v := [0, 0, 0, 700]) (by omega) (by omega) (by simp) (by simp)
    have bm : b = 0 ∨ b = 700 := by simpa using bm
    have hRi := R2 i hi
    have hri := ho i (Nat.le_refl _) hi
    have er : idx r (i : Int) = some (rk r i) := idx_rk (by omega)
    refine .inl ⟨_, oit (decide_eq_true (by omega)) (obi hb (obi (in64_ok (by simp only; omega)) (obi er (obi (in64_ok (by simp only; omega)) (obi (in64_ok (by simp only; omega)) (obi er (obi (inc_nat (by omega)) rfl))))))), rfl, ⟨by simp only; omega, by simp only; omega⟩, ⟨by simp only; omega, by simp only; omega⟩, by simp only [List.length_set]; exact hr, fun q hq hq2 => ?_, fun q hq => ?_⟩
    · simp only [Int.toNat_natCast]
      rw [rk_set (by omega), if_neg (by omega)]
      exact ho q (by omega) hq2
    · simp only [Int.toNat_natCast]
      by_cases e : q = i
      · subst e
        refine ⟨late + b, ?_, by omega, Int.le_refl _, fun q' hq' => ?_⟩
        · rw [rk_set (by omega), if_pos rfl, hri]
        · obtain ⟨d, d1, d2, d3, _⟩ := hn q' hq'
          exact ⟨d, by rw [rk_set (by omega), if_neg (by omega)]; exact d1, by omega⟩
      · obtain ⟨d, d1, d2, d3, d4⟩ := hn q (by omega)
        refine ⟨d, by rw [rk_set (by omega), if_neg e]; exact d1, d2, by omega, fun q' hq' => ?_⟩
        obtain ⟨d', e1, e2⟩ := d4 q' hq'
        exact ⟨d', by rw [rk_set (by omega), if_neg (by omega)]; exact e1, e2⟩) (by
    rintro ⟨late, i', p, r⟩ ⟨rfl, ⟨l0, l1⟩, ⟨p0, p1⟩, hr, ho, hn⟩
    simp only at l0 l1 p0 p1 hr ho hn
    refine ⟨_, oif (decide_eq_false (by simp only [hr]; omega)) rfl, ⟨p0, by simp only; omega⟩, hr, fun q hq => ?_, trivial, trivial⟩
    obtain ⟨d, d1, d2, d3, d4⟩ := hn q hq
    exact ⟨d, d1, d2, by omega, d4⟩) N (by omega) (0, 0, k1 + 1, R) ⟨rfl, ⟨Int.le_refl _, by simp⟩, ⟨Int.le_refl _, by simp⟩, R1, fun p _ _ => rfl, fun p h => absurd h (Nat.not_lt_zero _)⟩
  simp only at q1 q2 q3
  obtain ⟨k3, st, hst, s1, s2, s3, s4, s5⟩ := starts_made hN t (k := k2) (by omega) (by omega)
  refine ⟨k3, l, r, th, st, ?_, by omega, by omega, a2, hc, by omega, q2, fun i hi => ?_, fun i j hij hj => ?_, s3, s4, s5, fun a h => (hcp a h).2⟩
  · unfold law24_planned
    exact obi hl (obi hth (obi hR (obi hq (obi hst rfl))))
  · obtain ⟨d, d1, d2, d3, _⟩ := q3 i hi
    have := R2 i hi
    omega
  · obtain ⟨d, d1, d2, d3, d4⟩ := q3 j hj
    obtain ⟨d', e1, e2⟩ := d4 i hij
    obtain ⟨b1, b2⟩ := R3 i j hij hj
    exact ⟨by omega, fun s hs x hx he => by have := b2 s hs x hx he; omega⟩
end Go.Gv
