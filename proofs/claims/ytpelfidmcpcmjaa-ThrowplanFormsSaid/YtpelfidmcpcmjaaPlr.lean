/- Throwing (chapter 24): ThrowplanExact, whole. -/
import Derived.Test.YtpelfidmcpcmjaaPlq
namespace Go.Gv
theorem exact_turn {N : Nat} (hN : 2000 ≤ N) (t : List Int) (c : List T_Command) (i : Nat) (hi : i < 4) {k : Int} (h0 : 0 ≤ k) (h1 : k ≤ 50000) : ∃ q, law24_ThrowplanExact_l5 N t c i k = some q ∧ ∃ k' : Int, q = .inl (((i + 1 : Nat) : Int), k') ∧ 0 ≤ k' ∧ k' ≤ k + 1200 := by
  obtain ⟨k1, l, r, th, st, hp, p0, p1, hl, hc, hth, hrl, hrb, _, hst, _⟩ := planned_ok hN t h0 (by omega)
  obtain ⟨d, _, hd, hdl, hdt⟩ := Commands_time (N := N) (l := l) (r := r) (th := th) (st := st) hN (by omega) (by omega)
  unfold law24_ThrowplanExact_l5
  refine oitx (decide_eq_true (by omega)) (obx hp (obx hd (obe (P := fun j => (k ≤ j.1 ∧ j.1 ≤ k + 1150) ∧ j.2.2.1.length ≤ 8) ?_ fun j hj => ?_)))
  · simp only
    by_cases c1 : i = 1
    · refine oitx (decide_eq_true (by omega)) (obe (spoil7 hN t (k := k1) (by omega) (by omega) (q := r) (by omega) fun p hp => by have := hrb p (by omega); omega) fun q hq => ⟨_, rfl, ⟨by simp only; omega, by simp only; omega⟩, hq.2.2⟩)
    refine oifx (decide_eq_false (by omega)) ?_
    by_cases c2 : i = 2
    · refine oitx (decide_eq_true (by omega)) (obe (P := fun j => k1 ≤ j.1 ∧ j.1 ≤ k1 + 5) ?_ fun j hj => ?_)
      · by_cases hl0 : 0 < l.length
        · obtain ⟨a, ha, a0, a1⟩ := next_ok N t (k := k1) (n := (l.length : Int)) (by omega) (by omega) (by omega) (by omega)
          obtain ⟨a, rfl⟩ : ∃ b : Nat, a = b := ⟨a.toNat, by omega⟩
          have e0 : idx l 0 = some (lk l 0) := idx_lk (k := 0) hl0
          obtain ⟨k2, b, hb, b0, b1⟩ := spoil_ok N t (k := k1 + 1) (by omega) (by omega) (hc _ (lk_mem hl0))
          exact oitx (decide_eq_true (by omega)) (obx e0 (obx ha (obx hb (obx (idx_lk (k := a) (by omega)) ⟨_, rfl, by simp only; omega, by simp only; omega⟩))))
        · exact oifx (decide_eq_false (by omega)) ⟨_, rfl, by simp only; omega, by simp only; omega⟩
      · obtain ⟨a, ha, _⟩ := pick_ok N t (k := j.1) (v := [2, -1, 6]) (by omega) (by omega) (by simp) (by simp)
        obtain ⟨b, hb, _⟩ := pick_ok N t (k := j.1 + 1) (v := [0, 1, 2, 3]) (by omega) (by omega) (by simp) (by simp)
        exact obx ha (obx hb (obx (app_ok (by simp only [List.length_cons, List.length_nil]; omega) (by simp only [List.length_cons, List.length_nil]; omega)) ⟨_, rfl, ⟨by simp only; omega, by simp only; omega⟩, by simp only; omega⟩))
    refine oifx (decide_eq_false (by omega)) ?_
    by_cases c3 : i = 3
    · refine oitx (decide_eq_true (by omega)) ?_
      by_cases hd0 : 0 < d.1.length
      · obtain ⟨a, ha, a0, a1⟩ := next_ok N t (k := k1) (n := (d.1.length : Int)) (by omega) (by omega) (by omega) (by omega)
        obtain ⟨a, rfl⟩ : ∃ b : Nat, a = b := ⟨a.toNat, by omega⟩
        have hx := hdt _ (kc_mem (c := d.1) (i := a) (by omega))
        obtain ⟨b, hb, bm⟩ := pick_ok N t (k := k1 + 1) (v := [-(kc d.1 a).Time - 1, -1, 1, 5000]) (by omega) (by omega) (by simp) (by simp)
        have bm : b = -(kc d.1 a).Time - 1 ∨ b = -1 ∨ b = 1 ∨ b = 5000 := by simpa using bm
        obtain ⟨e, he, _⟩ := pick_ok N t (k := k1 + 1 + 1) (v := [(kc d.1 a).Side, 0, 1, 2]) (by omega) (by omega) (by simp) (by simp)
        exact oitx (decide_eq_true (by omega)) (obx ha (obx (idx_kc (c := d.1) (i := a) (by omega)) (obx (in64_ok (by omega)) (obx (in64_ok (by omega)) (obx hb (obx (in64_ok (by simp only; omega)) (obx he ⟨_, rfl, ⟨by simp only; omega, by simp only; omega⟩, by simp only; omega⟩)))))))
      · exact oifx (decide_eq_false (by omega)) ⟨_, rfl, ⟨by simp only; omega, by simp only; omega⟩, by simp only; omega⟩
    · exact oifx (decide_eq_false (by omega)) ⟨_, rfl, ⟨by simp only; omega, by simp only; omega⟩, by simp only; omega⟩
  · obtain ⟨⟨j0, j1⟩, j2⟩ := hj
    refine obx (exact_ok hN _ _ _ _ _ (by omega) (by omega)) ?_
    cases hc3 : decide ((List.length c : Int) < 300) with
    | true =>
      obtain ⟨a, ha, _⟩ := pick_ok N t (k := j.1) (v := [-1, 1000000000, 4000]) (by omega) (by omega) (by simp) (by simp)
      exact oitx rfl (obx ha (obx (exact_ok hN _ _ _ _ _ (by omega) (by omega)) (oifx rfl (obx (inc_nat (by omega)) ⟨_, rfl, _, rfl, by simp only; omega, by simp only; omega⟩))))
    | false => exact oifx rfl (oifx rfl (obx (inc_nat (by omega)) ⟨_, rfl, _, rfl, by omega, by omega⟩))
theorem ThrowplanExact_all {N : Nat} (hN : 2000 ≤ N) (t : List Int) (l : List (List T_Span)) (r : List Int) (st : List T_Throw) (c : List T_Command) (hr : r.length < N) (hr2 : r.length ≤ 17592186044416) : law24_ThrowplanExact N t l r st c = some true := by
  obtain ⟨q, hq, k, rfl, k0, k1⟩ := runN (f := fun s : Int × Int => law24_ThrowplanExact_l5 N t c s.1 s.2) 4 (fun i s => s.1 = i ∧ 0 ≤ s.2 ∧ s.2 ≤ 1200 * i) (fun q => ∃ k : Int, q = .inr k ∧ 0 ≤ k ∧ k ≤ 4800) (by
    rintro i ⟨i', k⟩ hi ⟨rfl, h0, h1⟩
    simp only at h0 h1 ⊢
    obtain ⟨q, hq, k', rfl, q0, q1⟩ := exact_turn hN t c i hi h0 (by omega)
    exact .inl ⟨_, hq, rfl, q0, by simp only; omega⟩) (by
    rintro ⟨i', k⟩ ⟨rfl, h0, h1⟩
    exact ⟨_, oif (decide_eq_false (by simp)) rfl, k, rfl, h0, by simp only at h1; omega⟩) N (by omega) (0, 0) ⟨rfl, Int.le_refl _, by simp⟩
  have hs := sane_ok hN
  unfold law24_ThrowplanExact
  refine obi rfl (obi hq ?_)
  simp only
  cases hc : ((decide (60 < (List.length l : Int)) || decide (300 < (List.length c : Int))) || decide (200 < (List.length st : Int))) with
  | true => exact oit rfl (obi hs rfl)
  | false =>
    have hl := of_decide_eq_false (borl (borl hc))
    refine oif rfl ?_
    refine obi (first_any l (fun a => decide (20 < (List.length a : Int))) true (f := law24_ThrowplanExact_l8 N l) (fun i h hp => oit (decide_eq_true (by omega)) (obi (idx_nat h) (oit hp (obi hs rfl)))) (fun i h hp => oit (decide_eq_true (by omega)) (obi (idx_nat h) (oif hp (obi (inc_nat (by omega)) rfl)))) (oif (decide_eq_false (by omega)) rfl) N (by omega)) ?_
    cases l.any (fun a => decide (20 < (List.length a : Int))) with
    | true => rfl
    | false =>
      obtain ⟨a, ha, _⟩ := pick_ok N t (k := k) (v := [0, 1000]) (by omega) (by omega) (by simp) (by simp)
      exact obi ha (obi (exact_ok hN l r a st c hr hr2) (obi (gO_T rfl hs) rfl))
theorem ThrowplanExact_sized (t : List Int) (l : List (List T_Span)) (r : List Int) (st : List T_Throw) (c : List T_Command) (_ : t.length ≤ 17592186044416) (hr : r.length ≤ 17592186044416) : law24_ThrowplanExact (r.length + 5000) t l r st c = some true := ThrowplanExact_all (by omega) t l r st c (by omega) hr
end Go.Gv
