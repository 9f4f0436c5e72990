/- The law Limits. -/
import Derived.Test.YtlfinhdanjbmcaaPlf
namespace Go.Gv

theorem getD_rep {n i : Nat} {x : Int} (h : i < n) : (List.replicate n x).getD i 0 = x := by
  rw [List.getD_eq_getElem?_getD, List.getElem?_replicate, if_pos h]; rfl
theorem path_rep {n m : Nat} {i j k l c : Nat} {s : List Int} (h : Path (List.replicate n 0) (List.replicate m 1) i j s k l c) : ∃ t, i + t ≤ k ∧ j + t ≤ l ∧ c + 5 * t = 4 * ((k - i) + (l - j)) ∧ s.length + t = (k - i) + (l - j) := by
  induction h with
  | nil i j => exact ⟨0, by omega, by omega, by omega, by simp⟩
  | @cons i j e s k l c ho hp ih =>
    obtain ⟨t, h1, h2, h3, h4⟩ := ih
    rcases okE_cases ho with ⟨rfl, g1, g2, g3⟩ | ⟨rfl, g1, g2, g3⟩ | ⟨rfl, g1⟩ | ⟨rfl, g1⟩ | ⟨rfl, g1, g2, g3, g4, g5⟩
    · rw [getD_rep (by simpa using g1), getD_rep (by simpa using g2)] at g3
      cases g3
    · simp [di, dj] at h1 h2 h3 h4
      exact ⟨t + 1, by omega, by omega, by simp [cst]; omega, by simp; omega⟩
    · simp [di, dj] at h1 h2 h3 h4
      exact ⟨t, by omega, by omega, by simp [cst]; omega, by simp; omega⟩
    · simp [di, dj] at h1 h2 h3 h4
      exact ⟨t, by omega, by omega, by simp [cst]; omega, by simp; omega⟩
    · rw [getD_rep (by simp at g1; omega), getD_rep (by simpa using g2)] at g3
      cases g3
theorem path_mis (n m : Nat) : ∀ k, k ≤ n → k ≤ m → ∃ s, Path (List.replicate n 0) (List.replicate m 1) 0 0 s k k (3 * k)
  | 0, _, _ => ⟨[], Path.nil _ _⟩
  | k + 1, hn, hm => by
    obtain ⟨s, hp⟩ := path_mis n m k (by omega) (by omega)
    refine ⟨_, hp.trans (Path.one (e := 1) (ok1 (by simp; omega) (by simp; omega) ?_))⟩
    rw [getD_rep (by omega), getD_rep (by omega)]; decide
theorem V_rep (n m : Nat) : V (List.replicate n 0) (List.replicate m 1) 0 0 + 5 * min n m = 4 * (n + m) ∧ ∀ s, Path (List.replicate n 0) (List.replicate m 1) 0 0 s n m (V (List.replicate n 0) (List.replicate m 1) 0 0) → s.length = max n m := by
  obtain ⟨s1, p1⟩ := path_mis n m (min n m) (by omega) (by omega)
  obtain ⟨s2, c2, p2, h2⟩ := path_ex (List.replicate n 0) (List.replicate m 1) _ (min n m) (min n m) n m rfl (by omega) (by simp) (by omega) (by simp)
  have up : V (List.replicate n 0) (List.replicate m 1) 0 0 ≤ 3 * min n m + c2 := by
    have := dist_le (p1.trans p2)
    simpa [V] using this
  have key : ∀ s, Path (List.replicate n 0) (List.replicate m 1) 0 0 s n m (V (List.replicate n 0) (List.replicate m 1) 0 0) → V (List.replicate n 0) (List.replicate m 1) 0 0 + 5 * min n m = 4 * (n + m) ∧ s.length = max n m := by
    intro s hs
    obtain ⟨t, h1, h2, h3, h4⟩ := path_rep hs
    omega
  obtain ⟨s, hs⟩ := dist_path0 (List.replicate n 0) (List.replicate m 1)
  simp only [List.length_replicate] at hs
  exact ⟨(key s hs).1, fun s hs => (key s hs).2⟩

theorem ones_loop (l : List Int × List Int) (m : Nat) (hm : m ≤ 100) (h : l.2.length = m) : iterN (fun s : Int × List Int => law08_ReconcileLimits_l1 200 l s.1 s.2) 200 (0, l.2) = some (List.replicate m 1) := by
  obtain ⟨r, hr, hQ⟩ := iterN_run (f := fun s : Int × List Int => law08_ReconcileLimits_l1 200 l s.1 s.2)
    (I := fun s => ∃ i : Nat, s.1 = i ∧ i ≤ m ∧ s.2.length = m ∧ ∀ k, k < i → s.2.getD k 0 = 1)
    (Q := fun r => r = List.replicate m 1) (fun s => m - s.1.toNat) (by
    rintro ⟨i', x⟩ ⟨i, rfl, hi, hl, hall⟩
    simp only at hl hall ⊢
    unfold law08_ReconcileLimits_l1
    by_cases hc : i < m
    · refine .inl ⟨(((i + 1 : Nat) : Int), x.set i 1), oit (decide_eq_true (by omega)) (obi (idx_getD 0 (by omega)) (obi (inc_nat (by omega)) (by simp only [Int.toNat_natCast]))), ⟨i + 1, rfl, hc, by simpa using hl, fun k hk => ?_⟩, by simp only; omega⟩
      simp only
      rw [getD_set (by omega)]
      split
      · rfl
      · exact hall k (by omega)
    · refine .inr ⟨x, oif (decide_eq_false (by omega)) rfl, ?_⟩
      exact list_eq_getD (by simp; omega) fun k hk => by rw [hall k (by omega), getD_rep (by omega)]) 200 (0, l.2) ⟨0, rfl, by omega, h, fun k hk => absurd hk (Nat.not_lt_zero _)⟩ (by simp; omega)
  rw [hr, hQ]

theorem mod4 (a : Int) : ∃ n : Nat, 94 + Int.tmod (Int.tmod a 4 + 4) 4 = (n : Int) ∧ 94 ≤ n ∧ n ≤ 97 ∧ -9223372036854775808 ≤ Int.tmod a 4 + 4 ∧ Int.tmod a 4 + 4 ≤ 9223372036854775807 := by
  have h1 := Int.tmod_lt_of_pos a (show (0 : Int) < 4 by omega)
  have h2 := Int.lt_tmod_of_pos a (show (0 : Int) < 4 by omega)
  generalize hx : Int.tmod a 4 + 4 = x
  have h3 := Int.tmod_lt_of_pos x (show (0 : Int) < 4 by omega)
  have h4 := Int.tmod_nonneg 4 (show 0 ≤ x by omega)
  exact ⟨(94 + Int.tmod x 4).toNat, by omega, by omega, by omega, by omega, by omega⟩

theorem Limits_true (a b : Int) : law08_ReconcileLimits 200 a b = some true := by
  obtain ⟨n, en, n1, n2, n3⟩ := mod4 a
  obtain ⟨m, em, m1, m2, m3⟩ := mod4 b
  have hn : in64 (94 + Int.tmod (Int.tmod a 4 + 4) 4) = some (n : Int) := in64_nat en (by omega)
  have hm : in64 (94 + Int.tmod (Int.tmod b 4 + 4) 4) = some (m : Int) := in64_nat em (by omega)
  have hsane := sane_any 200 (Nat.le_refl _)
  have hones := ones_loop (List.replicate n 0, List.replicate m 0) m (by omega) (by simp)
  unfold law08_ReconcileLimits
  refine obi (in64_ok n3) (obi hn (obi (in64_ok m3) (obi hm (obi (x := (List.replicate n 0, List.replicate m 0)) (obi (mkL_nat (by omega) (by omega)) (obi (mkL_nat (by omega) (by omega)) rfl)) (obi hones ?_)))))
  by_cases hbig : 96 < n ∨ 96 < m
  · have hl : 96 < (List.replicate n (0 : Int)).length ∨ 96 < (List.replicate m (1 : Int)).length := by simpa using hbig
    have hb : (decide (96 < (n : Int)) || decide (96 < (m : Int))) = true := by simp only [Bool.or_eq_true, decide_eq_true_eq]; omega
    exact obi (align_long 200 _ _ hl) (obi (pot_long 200 _ _ hl) (oit hb (obi (gO_T rfl hsane) rfl)))
  · have ha96 : (List.replicate n (0 : Int)).length ≤ 96 := by simp; omega
    have hb96 : (List.replicate m (1 : Int)).length ≤ 96 := by simp; omega
    obtain ⟨s, e1, hp, _⟩ := align_ok 200 (Nat.le_refl _) (List.replicate n 0) (List.replicate m 1) ha96 hb96
    obtain ⟨p, e3, sp, hc⟩ := pot_ok 200 (Nat.le_refl _) (List.replicate n 0) (List.replicate m 1) ha96 hb96
    obtain ⟨hr, hv⟩ := pot_ver ha96 hb96 sp hc
    obtain ⟨v, e4, hv'⟩ := ver_ok 200 (Nat.le_refl _) (List.replicate n 0) (List.replicate m 1) ha96 hb96 ((V (List.replicate n 0) (List.replicate m 1) 0 0 : Nat) : Int) p hr
    obtain rfl : v = true := hv'.2 ((hv _).2 (Int.le_refl _))
    obtain ⟨hV, hS⟩ := V_rep n m
    have hS := hS s (by simpa using hp)
    have hb : (decide (96 < (n : Int)) || decide (96 < (m : Int))) = false := by rw [Bool.eq_false_iff]; simp only [ne_eq, Bool.or_eq_true, decide_eq_true_eq]; omega
    have g0 : (decide ((0 : Int) = 0) && decide ((0 : Int) = 0)) = true := rfl
    have g1 : ((decide ((0 : Int) = 0) && decide ((0 : Int) = 0)) && decide (((V (List.replicate n 0) (List.replicate m 1) 0 0 : Nat) : Int) = 3 * min (n : Int) m + 4 * (max (n : Int) m - min (n : Int) m))) = true := band g0 (decide_eq_true (by omega))
    have g2 := band g1 (decide_eq_true (show (List.length s : Int) = max (n : Int) m by omega))
    exact obi e1 (obi e3 (oif hb (obi (gO_T g0 (in64_ok (by omega))) (obi (gO_T g0 (in64_ok (by omega))) (obi (gO_T g0 (in64_ok (by omega))) (obi (gO_T g0 (in64_ok (by omega))) (obi (gO_T g2 e4) (obi (gO_T (band g2 rfl) hsane) (congrArg some (band (band g2 rfl) rfl))))))))))
end Go.Gv
