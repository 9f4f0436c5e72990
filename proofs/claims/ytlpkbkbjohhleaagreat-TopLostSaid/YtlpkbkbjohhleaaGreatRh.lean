/- A missing wagon is told by the cheapest script. -/
import Derived.Test.YtlpkbkbjohhleaaGreatRg
namespace Go.Gv
open R (Path okE di dj cst V U cell Shape VerOK)
theorem path_counts {a b : List Int} {i j k l c : Nat} {s : List Int} (h : Path a b i j s k l c) : ∃ n0 n1 n3 n4 : Nat, c = 3 * n1 + 4 * s.count 2 + 4 * n3 + 4 * n4 ∧ k = i + n0 + n1 + s.count 2 + 2 * n4 ∧ l = j + n0 + n1 + n3 + 2 * n4 ∧ s.length = n0 + n1 + s.count 2 + n3 + n4 := by
  induction h with
  | nil i j => exact ⟨0, 0, 0, 0, by simp, by simp, by simp, by simp⟩
  | @cons i j e s k l c he p ih =>
    obtain ⟨n0, n1, n3, n4, h1, h2, h3, h4⟩ := ih
    have he5 : e = 0 ∨ e = 1 ∨ e = 2 ∨ e = 3 ∨ e = 4 := by
      unfold okE at he
      by_cases c0 : e = 0
      · exact .inl c0
      · by_cases c1 : e = 1
        · exact .inr (.inl c1)
        · by_cases c2 : e = 2
          · exact .inr (.inr (.inl c2))
          · by_cases c3 : e = 3
            · exact .inr (.inr (.inr (.inl c3)))
            · by_cases c4 : e = 4
              · exact .inr (.inr (.inr (.inr c4)))
              · rw [if_neg c0, if_neg c1, if_neg c2, if_neg c3, if_neg c4] at he; cases he
    rcases he5 with rfl | rfl | rfl | rfl | rfl
    · have e1 : di 0 = 1 := rfl
      have e2 : dj 0 = 1 := rfl
      have e3 : cst 0 = 0 := rfl
      have e4 : (0 :: s).count (2 : Int) = s.count 2 := List.count_cons_of_ne (by decide)
      exact ⟨n0 + 1, n1, n3, n4, by omega, by omega, by omega, by rw [List.length_cons]; omega⟩
    · have e1 : di 1 = 1 := rfl
      have e2 : dj 1 = 1 := rfl
      have e3 : cst 1 = 3 := rfl
      have e4 : (1 :: s).count (2 : Int) = s.count 2 := List.count_cons_of_ne (by decide)
      exact ⟨n0, n1 + 1, n3, n4, by omega, by omega, by omega, by rw [List.length_cons]; omega⟩
    · have e1 : di 2 = 1 := rfl
      have e2 : dj 2 = 0 := rfl
      have e3 : cst 2 = 4 := rfl
      have e4 : (2 :: s).count (2 : Int) = s.count 2 + 1 := List.count_cons_self
      exact ⟨n0, n1, n3, n4, by omega, by omega, by omega, by rw [List.length_cons]; omega⟩
    · have e1 : di 3 = 0 := rfl
      have e2 : dj 3 = 1 := rfl
      have e3 : cst 3 = 4 := rfl
      have e4 : (3 :: s).count (2 : Int) = s.count 2 := List.count_cons_of_ne (by decide)
      exact ⟨n0, n1, n3 + 1, n4, by omega, by omega, by omega, by rw [List.length_cons]; omega⟩
    · have e1 : di 4 = 2 := rfl
      have e2 : dj 4 = 2 := rfl
      have e3 : cst 4 = 4 := rfl
      have e4 : (4 :: s).count (2 : Int) = s.count 2 := List.count_cons_of_ne (by decide)
      exact ⟨n0, n1, n3, n4 + 1, by omega, by omega, by omega, by rw [List.length_cons]; omega⟩
theorem keep_path {a b : List Int} : ∀ (n i j : Nat), (∀ x, x < n → i + x < a.length ∧ j + x < b.length ∧ a.getD (i + x) 0 = b.getD (j + x) 0) → ∃ s, Path a b i j s (i + n) (j + n) 0 := by
  intro n
  induction n with
  | zero => intro i j _; exact ⟨[], Path.nil _ _⟩
  | succ n ih =>
    intro i j h
    obtain ⟨h1, h2, h3⟩ := h 0 (by omega)
    obtain ⟨s, p⟩ := ih (i + 1) (j + 1) fun x hx => by
      have := h (x + 1) (by omega)
      rw [show i + 1 + x = i + (x + 1) by omega, show j + 1 + x = j + (x + 1) by omega]
      exact this
    rw [show i + 1 + n = i + (n + 1) by omega, show j + 1 + n = j + (n + 1) by omega] at p
    exact ⟨0 :: s, Path.cons (e := 0) (R.ok0 h1 h2 h3) p⟩
theorem V_missing {a b : List Int} {at_ : Nat} (h : at_ < a.length) (hb : b.length + 1 = a.length) (h1 : ∀ x, x < at_ → a.getD x 0 = b.getD x 0) (h2 : ∀ x, at_ ≤ x → x < b.length → a.getD (x + 1) 0 = b.getD x 0) : V a b 0 0 = 4 ∧ ∀ s, Path a b 0 0 s a.length b.length (V a b 0 0) → s.count 2 = 1 ∧ s.length = a.length := by
  obtain ⟨s1, p1⟩ := keep_path (a := a) (b := b) at_ 0 0 fun x hx => ⟨by omega, by omega, by rw [Nat.zero_add]; exact h1 x hx⟩
  obtain ⟨s2, p2⟩ := keep_path (a := a) (b := b) (b.length - at_) (at_ + 1) at_ fun x hx => ⟨by omega, by omega, by rw [show at_ + 1 + x = at_ + x + 1 by omega]; exact h2 (at_ + x) (by omega) (by omega)⟩
  rw [Nat.zero_add] at p1
  rw [show at_ + 1 + (b.length - at_) = a.length by omega, show at_ + (b.length - at_) = b.length by omega] at p2
  have pm : Path a b at_ at_ (2 :: s2) a.length b.length 4 := Path.cons (e := 2) (R.ok2 h) p2
  have hp := R.Path.trans p1 pm
  have hle : V a b 0 0 ≤ 4 := R.dist_le hp
  obtain ⟨s0, p0⟩ := (R.dist_spec hp).1
  have key : ∀ s c, Path a b 0 0 s a.length b.length c → 4 ≤ c ∧ (c = 4 → s.count 2 = 1 ∧ s.length = a.length) := fun s c p => by
    obtain ⟨n0, n1, n3, n4, k1, k2, k3, k4⟩ := path_counts p
    exact ⟨by omega, fun h => by omega⟩
  have hV : V a b 0 0 = 4 := by
    have := (key s0 _ p0).1
    exact Nat.le_antisymm hle this
  exact ⟨hV, fun s p => (key s _ p).2 hV⟩
theorem count_ok {N : Nat} (hN : 5000 ≤ N) {s : List Int} (hs : s.length ≤ 1000) (c e : Int) : iterN (fun x : Int × Int => humpyardtop_TopLost_l2 N (s, c, e) x.1 x.2) N (0, 0) = some ((s.count 2 : Nat) : Int) := by
  refine runN1 (f := fun x : Int × Int => humpyardtop_TopLost_l2 N (s, c, e) x.1 x.2) s.length (fun i x => x.2 = i ∧ x.1 = (((s.take i).count 2 : Nat) : Int)) _ ?_ ?_ N (by omega) (0, 0) ⟨rfl, by simp⟩
  · rintro i ⟨n, i'⟩ hi ⟨rfl, rfl⟩
    have hle : (s.take i).count 2 ≤ s.length := Nat.le_trans List.count_le_length (by rw [List.length_take]; omega)
    unfold humpyardtop_TopLost_l2
    by_cases h : s[i] = 2
    · refine ⟨_, oit (decide_eq_true (by simp only; omega)) (obi (idx_nat hi) (oit (decide_eq_true h) (obi (inc_nat (by omega)) (obi (inc_nat (by omega)) rfl)))), rfl, ?_⟩
      simp only
      rw [take_snoc hi, List.count_append, h]; rfl
    · refine ⟨_, oit (decide_eq_true (by simp only; omega)) (obi (idx_nat hi) (oif (decide_eq_false h) (obi (inc_nat (by omega)) rfl))), rfl, ?_⟩
      simp only
      rw [take_snoc hi, List.count_append]
      have : ([s[i]] : List Int).count 2 = 0 := List.count_eq_zero.2 (by simp; exact fun e => h e.symm)
      rw [this]; rfl
  · rintro ⟨n, i'⟩ ⟨rfl, rfl⟩
    unfold humpyardtop_TopLost_l2
    exact oif (decide_eq_false (by simp)) (by simp only [List.take_length])
theorem lists_ok {N : Nat} (hN : 5000 ≤ N) {k : Int} {w : List T_Wagon} (hw : w.length ≤ 96) (W : ∀ x ∈ w, WagOk N x) {at_ : Nat} (hat : at_ < w.length) :
    ∃ a b, iterN (fun s : Int × List Int × List Int => humpyardtop_TopLost_l1 N (k, w) (at_ : Int) s.1 s.2.1 s.2.2) N (0, [], []) = some (.inr (a, b)) ∧ a.length = w.length ∧ b.length + 1 = w.length ∧ (∀ x, x < at_ → a.getD x 0 = b.getD x 0) ∧ ∀ x, at_ ≤ x → x < b.length → a.getD (x + 1) 0 = b.getD x 0 := by
  obtain ⟨q, hq, a, b, rfl, q1, q2, q3, q4⟩ := runN (f := fun s : Int × List Int × List Int => humpyardtop_TopLost_l1 N (k, w) (at_ : Int) s.1 s.2.1 s.2.2) w.length
    (fun i s => s.1 = i ∧ s.2.1.length = i ∧ (i ≤ at_ → s.2.2 = s.2.1) ∧ (at_ < i → s.2.2.length + 1 = i ∧ (∀ x, x < at_ → s.2.1.getD x 0 = s.2.2.getD x 0) ∧ ∀ x, at_ ≤ x → x < s.2.2.length → s.2.1.getD (x + 1) 0 = s.2.2.getD x 0))
    (fun q => ∃ a b, q = .inr (a, b) ∧ a.length = w.length ∧ b.length + 1 = w.length ∧ (∀ x, x < at_ → a.getD x 0 = b.getD x 0) ∧ ∀ x, at_ ≤ x → x < b.length → a.getD (x + 1) 0 = b.getD x 0) (by
    rintro i ⟨i', a, b⟩ hi ⟨rfl, h1, h2, h3⟩
    simp only at h1 h2 h3 ⊢
    left
    have hwi := W w[i] (List.getElem_mem hi)
    obtain ⟨n, hn, n3⟩ := hwi.num.kind
    have hlen := hwi.len
    have e1 : in64 ((n : Int) * 1000) = some ((n : Int) * 1000) := in64_ok (by omega)
    obtain ⟨v, e2⟩ : ∃ v, in64 ((n : Int) * 1000 + w[i].Length) = some v := ⟨_, in64_ok (x := (n : Int) * 1000 + w[i].Length) (by omega)⟩
    have ea : app 8 a [v] = some (a ++ [v]) := app_ok (by simp only [List.length_cons, List.length_nil]; omega) (by simp only [List.length_cons, List.length_nil]; omega)
    unfold humpyardtop_TopLost_l1
    by_cases c : i = at_
    · subst c
      have hb := h2 (Nat.le_refl _)
      refine ⟨_, oit (decide_eq_true (by simp only; omega)) (obi (idx_nat hi) (obi hn (oif rfl (obi e1 (obi e2 (obi ea (oif (by simp) (obi (inc_nat (by omega)) rfl)))))))), rfl, by simp [h1], fun h => by omega, fun _ => ?_⟩
      simp only
      rw [hb]
      refine ⟨by omega, fun x hx => ?_, fun x hx1 hx2 => by omega⟩
      rw [getD_app, if_pos (by omega)]
    · have hbl : b.length ≤ i := by
        rcases Nat.lt_or_ge at_ i with h | h
        · have := (h3 h).1; omega
        · rw [h2 h]; omega
      have eb : app 8 b [v] = some (b ++ [v]) := app_ok (by simp only [List.length_cons, List.length_nil]; omega) (by simp only [List.length_cons, List.length_nil]; omega)
      refine ⟨_, oit (decide_eq_true (by simp only; omega)) (obi (idx_nat hi) (obi hn (oif rfl (obi e1 (obi e2 (obi ea (oit (by rw [decide_eq_false (by omega)]; rfl) (obi eb (obi (inc_nat (by omega)) rfl))))))))), rfl, by simp [h1], fun h => ?_, fun h => ?_⟩
      · simp only; rw [h2 (by omega)]
      · simp only
        obtain ⟨g1, g2, g3⟩ := h3 (by omega)
        refine ⟨by simp only [List.length_append, List.length_cons, List.length_nil]; omega, fun x hx => ?_, fun x hx1 hx2 => ?_⟩
        · rw [getD_app, getD_app, if_pos (by omega), if_pos (by omega)]; exact g2 x hx
        · simp only [List.length_append, List.length_cons, List.length_nil] at hx2
          rw [getD_app, getD_app]
          by_cases e : x < b.length
          · rw [if_pos (by omega), if_pos e]; exact g3 x hx1 e
          · rw [if_neg (by omega), if_pos (by omega), if_neg e, if_pos (by omega)]) (by
    rintro ⟨i', a, b⟩ ⟨rfl, h1, h2, h3⟩
    obtain ⟨g1, g2, g3⟩ := h3 hat
    unfold humpyardtop_TopLost_l1
    exact ⟨_, oif (decide_eq_false (by simp)) rfl, a, b, rfl, h1, g1, g2, g3⟩) N (by omega) (0, [], []) ⟨rfl, rfl, fun _ => rfl, fun h => absurd h (Nat.not_lt_zero _)⟩
  exact ⟨a, b, hq, q1, q2, q3, q4⟩
theorem TopLost_true (t : List Int) (at_ : Int) : humpyardtop_TopLost 6000 t at_ = some true := by
  have hN : 5000 ≤ 6000 := by decide
  obtain ⟨k, w, hw, k1, k2, wl, W⟩ := wagons_made hN t (n := 10) (by decide)
  unfold humpyardtop_TopLost
  refine obi rfl (obi hw ?_)
  by_cases h0 : w.length = 0
  · exact oit (decide_eq_true (by simp only; omega)) (obi awake_ok rfl)
  · refine oif (decide_eq_false (by simp only; omega)) ?_
    have m1 : -(w.length : Int) < Int.tmod at_ w.length := by have := Int.lt_tmod_of_pos at_ (show (0 : Int) < w.length by omega); omega
    have m2 : Int.tmod at_ w.length < (w.length : Int) := Int.tmod_lt_of_pos at_ (by omega)
    have m3 : Int.tmod (Int.tmod at_ w.length + w.length) w.length = ((Int.tmod at_ w.length + w.length) % w.length) := Int.tmod_eq_emod_of_nonneg (by omega)
    have m4 : 0 ≤ (Int.tmod at_ w.length + w.length) % w.length := Int.emod_nonneg _ (by omega)
    have m5 : (Int.tmod at_ w.length + w.length) % w.length < w.length := Int.emod_lt_of_pos _ (by omega)
    obtain ⟨p, hp⟩ : ∃ p : Nat, (Int.tmod at_ w.length + w.length) % w.length = p := ⟨_, (Int.toNat_of_nonneg m4).symm⟩
    rw [hp] at m3 m5
    obtain ⟨a, b, hl, a1, a2, a3, a4⟩ := lists_ok hN (k := k) (w := w) (by omega) W (at_ := p) (by omega)
    obtain ⟨hV, hcnt⟩ := V_missing (a := a) (b := b) (at_ := p) (by omega) (by omega) a3 a4
    obtain ⟨s, hs, hpath, _⟩ := R.align_ok 6000 (by decide) a b (by omega) (by omega)
    obtain ⟨po, hpo, sp, hcell⟩ := R.pot_ok 6000 (by decide) a b (by omega) (by omega)
    obtain ⟨hin, hver⟩ := R.pot_ver (by omega) (by omega) sp hcell
    obtain ⟨c1, c2⟩ := hcnt s hpath
    obtain ⟨v, hv, hv2⟩ := R.ver_ok 6000 (by decide) a b (by omega) (by omega) 4 po hin
    have hvt : v = true := hv2.2 ((hver 4).2 (by omega))
    subst hvt
    rw [hV] at hs
    have hc := count_ok hN (s := s) (by omega) 4 0
    rw [c1] at hc
    have g : ((((decide ((0 : Int) = 0) && decide ((0 : Int) = 0)) && decide ((4 : Int) = 4)) && decide ((1 : Int) = 1)) && decide ((List.length s : Int) = (List.length a : Int))) = true := band rfl (decide_eq_true (by omega))
    have g2 := band g (show true = true from rfl)
    refine obi (rem64_ok (by simp only; omega)) (obi (in64_ok (by simp only; omega)) (obi (x := (p : Int)) (by rw [rem64_ok (by simp only; omega)]; exact congrArg some m3) (obi hl (obi hs (obi hpo (obi hc (obi (gO_T g hv) (obi (gO_T g2 awake_ok) ?_))))))))
    exact congrArg some (band g2 rfl)
end Go.Gv
