/- Throwing (chapter 24): releases of made cuts. -/
import Derived.Test.YtpelfidmcpcmjaaPln
namespace Go.Gv
def sepJ (l : List (List T_Span)) (th : Int) (R : List Int) (j k : Nat) (x : Int) : Prop := rk R j ≤ x ∧ ∀ s ∈ lk l j, ∀ t ∈ lk l k, s.Element = t.Element → rk R j + ready s t th ≤ x + t.From
theorem gap_cut {N : Nat} (hN : 2000 ≤ N) {a b : List T_Span} (ca : Cut a) (cb : Cut b) {th : Int} (h0 : 0 ≤ th) (h1 : th ≤ 3000) : ∃ g, r23_gap N a b th = some (g, 0) ∧ 0 ≤ g ∧ g ≤ 103000 ∧ ∀ s ∈ a, ∀ t ∈ b, s.Element = t.Element → ready s t th - t.From ≤ g := by
  have hto := ca.to
  rcases rgap_spec N (by omega) ca.good cb.good h0 (by omega : th ≤ 1000000000) with ⟨_, s, hs, t, ht, _, e⟩ | ⟨g, hg, hi, _⟩
  · have := hto s hs; omega
  · refine ⟨g, hg, hi.pos, ?_, hi.most⟩
    rcases hi.one with e | ⟨s, hs, t, ht, _, e⟩
    · omega
    · have := hto s hs
      have := ready_le s t h0
      have := (cb.good.mem ht).2
      omega
theorem rel5 {N : Nat} (hN : 2000 ≤ N) {l : List (List T_Span)} (hl : l.length ≤ 10) (hc : ∀ a ∈ l, Cut a) {th : Int} (h0 : 0 ≤ th) (h1 : th ≤ 3000) {R : List Int} {k : Nat} (hk : k < l.length) (hR : R.length = k) (hb : ∀ j, j < k → 0 ≤ rk R j ∧ rk R j ≤ 110000 * j) :
    ∃ x, iterN (fun s : Int × Int => r23_Releases_l5 N l th (k : Int) R s.1 s.2) N (0, 0) = some (.inr x) ∧ 0 ≤ x ∧ x ≤ 110000 * k ∧ ∀ j, j < k → sepJ l th R j k x := by
  obtain ⟨q, hq, x, rfl, q1, q2, q3⟩ := runN (f := fun s : Int × Int => r23_Releases_l5 N l th (k : Int) R s.1 s.2) k
    (fun j s => s.2 = j ∧ 0 ≤ s.1 ∧ s.1 ≤ 110000 * k ∧ ∀ p, p < j → sepJ l th R p k s.1) (fun q => ∃ x, q = .inr x ∧ 0 ≤ x ∧ x ≤ 110000 * k ∧ ∀ j, j < k → sepJ l th R j k x) (by
    rintro j ⟨m, j'⟩ hj ⟨rfl, m0, m1, hs⟩
    simp only at m0 m1 hs ⊢
    have hbj := hb j hj
    obtain ⟨g, hg, g0, g1, g2⟩ := gap_cut hN (hc _ (lk_mem (show j < l.length by omega))) (hc _ (lk_mem hk)) h0 h1
    refine .inl ⟨_, oit (decide_eq_true (by omega)) (obi (idx_lk (by omega)) (obi (idx_lk hk) (obi hg (oif (bnotIf (decide_eq_true rfl)) (obi (idx_rk (by omega)) (obi (in64_ok (by simp only; omega)) (obi (inc_nat (by omega)) rfl))))))), rfl, by simp only; omega, by simp only; omega, fun p hp => ?_⟩
    simp only
    by_cases e : p = j
    · subst e
      exact ⟨by omega, fun s hs' t ht' he => by have := g2 s hs' t ht' he; omega⟩
    · obtain ⟨a1, a2⟩ := hs p (by omega)
      exact ⟨by omega, fun s hs' t ht' he => by have := a2 s hs' t ht' he; omega⟩) (by
    rintro ⟨m, j'⟩ ⟨rfl, m0, m1, hs⟩
    exact ⟨_, oif (decide_eq_false (by simp)) rfl, m, rfl, m0, m1, hs⟩) N (by omega) (0, 0) ⟨rfl, Int.le_refl _, by simp only; omega, fun p h => absurd h (Nat.not_lt_zero _)⟩
  exact ⟨x, hq, q1, q2, q3⟩
theorem rk_app {R : List Int} {x : Int} {j : Nat} : rk (R ++ [x]) j = if j < R.length then rk R j else if j = R.length then x else 0 := by
  unfold rk
  rw [List.getD_eq_getElem?_getD, List.getD_eq_getElem?_getD]
  by_cases h : j < R.length
  · rw [if_pos h, List.getElem?_append_left h]
  · rw [if_neg h, List.getElem?_append_right (by omega)]
    by_cases e : j = R.length
    · rw [if_pos e, e]; simp
    · rw [if_neg e, List.getElem?_eq_none (by simp; omega)]; rfl
theorem rel_ok {N : Nat} (hN : 2000 ≤ N) {l : List (List T_Span)} (hl : l.length ≤ 10) (hc : ∀ a ∈ l, Cut a) {th : Int} (h0 : 0 ≤ th) (h1 : th ≤ 3000) :
    ∃ R, r23_Releases N l th = some (R, 0) ∧ R.length = l.length ∧ (∀ k, k < l.length → 0 ≤ rk R k ∧ rk R k ≤ 110000 * k) ∧ ∀ j k, j < k → k < l.length → sepJ l th R j k (rk R k) := by
  have hs : soundB l th = true := by
    unfold soundB
    rw [inT_iff.2 ⟨h0, by omega⟩, Bool.and_true, List.all_eq_true]
    exact fun a ha => goodB_T (hc a ha).good
  have hL := rlists_all N (by omega) l (by omega) th
  rw [hs] at hL
  obtain ⟨q, hq, R, rfl, r1, r2, r3⟩ := runN (f := fun s : Int × List Int => r23_Releases_l4 N l th s.1 s.2) l.length
    (fun k s => s.1 = k ∧ s.2.length = k ∧ (∀ p, p < k → 0 ≤ rk s.2 p ∧ rk s.2 p ≤ 110000 * p) ∧ ∀ i j, i < j → j < k → sepJ l th s.2 i j (rk s.2 j))
    (fun q => ∃ R, q = .inr R ∧ R.length = l.length ∧ (∀ k, k < l.length → 0 ≤ rk R k ∧ rk R k ≤ 110000 * k) ∧ ∀ j k, j < k → k < l.length → sepJ l th R j k (rk R k)) (by
    rintro k ⟨k', R⟩ hk ⟨rfl, hR, hb, hs⟩
    simp only at hR hb hs ⊢
    obtain ⟨x, hx, x0, x1, x2⟩ := rel5 hN hl hc h0 h1 hk hR hb
    have hold : ∀ p, p < k → rk (R ++ [x]) p = rk R p := fun p hp => by rw [rk_app, if_pos (by omega)]
    have hnew : rk (R ++ [x]) k = x := by rw [rk_app, if_neg (by omega), if_pos hR.symm]
    refine .inl ⟨_, oit (decide_eq_true (by omega)) (obi hx (oif (decide_eq_false (by omega)) (obi (app_ok (by simp only [List.length_cons, List.length_nil]; omega) (by simp only [List.length_cons, List.length_nil]; omega)) (obi (inc_nat (by omega)) rfl)))), rfl, by simp only [List.length_append, List.length_cons, List.length_nil]; omega, fun p hp => ?_, fun i j hij hj => ?_⟩
    · simp only
      by_cases e : p = k
      · rw [e, hnew]; exact ⟨x0, x1⟩
      · rw [hold p (by omega)]; exact hb p (by omega)
    · simp only
      by_cases e : j = k
      · subst e
        have := x2 i hij
        unfold sepJ at this ⊢
        rw [hnew, hold i hij]; exact this
      · have := hs i j hij (by omega)
        unfold sepJ at this ⊢
        rw [hold i (by omega), hold j (by omega)]; exact this) (by
    rintro ⟨k', R⟩ ⟨rfl, hR, hb, hs⟩
    exact ⟨_, oif (decide_eq_false (by simp)) rfl, R, rfl, hR, hb, hs⟩) N (by omega) (0, []) ⟨rfl, rfl, fun p h => absurd h (Nat.not_lt_zero _), fun i j _ h => absurd h (Nat.not_lt_zero _)⟩
  refine ⟨R, ?_, r1, r2, r3⟩
  unfold r23_Releases
  exact obi hL (oif rfl (obi hq rfl))
end Go.Gv
