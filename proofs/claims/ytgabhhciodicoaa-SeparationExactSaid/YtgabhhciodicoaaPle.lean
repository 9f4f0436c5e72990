/- Separation: Releases, Critical, Check and Gap of arbitrary lists, program and reference. -/
import Derived.Test.YtgabhhciodicoaaPld
namespace Go.Gv
variable {l : List (List T_Span)} {th : Int}

theorem rinner (s : Snd l th) (N : Nat) (hN : 200 ≤ N) {k : Nat} {R : List Int} (hk : k < l.length) (hR : R.length = k) (hb : ∀ x ∈ R, 0 ≤ x ∧ x ≤ 1000000000) :
    (iterN (fun s : Int × Int => r23_Releases_l5 N l th (k : Int) R s.1 s.2) N (0, 0) = some (.inl ([], 24)) ∧ SlowRow l th k) ∨ (iterN (fun s : Int × Int => r23_Releases_l5 N l th (k : Int) R s.1 s.2) N (0, 0) = some (.inr (tmx l th R k k)) ∧ ¬ SlowRow l th k) := by
  have hl := s.len
  obtain ⟨q, hq, hQ⟩ := iterN_run (f := fun s : Int × Int => r23_Releases_l5 N l th (k : Int) R s.1 s.2) (I := fun s => ∃ j : Nat, s = (tmx l th R k j, (j : Int)) ∧ j ≤ k ∧ ∀ m, m < j → (gq l th m k).2 = 0) (Q := fun q => (q = .inl ([], 24) ∧ SlowRow l th k) ∨ (q = .inr (tmx l th R k k) ∧ ¬ SlowRow l th k)) (fun s => k - s.2.toNat) (by
    rintro s' ⟨j, rfl, hj, hz⟩
    simp only
    unfold r23_Releases_l5
    by_cases h : j < k
    · have hjl : j < l.length := by omega
      obtain ⟨hgp, _, g0, g1, he⟩ := s.gq N hN hjl hk
      by_cases h0 : (gq l th j k).2 = 0
      · have h5 := hb _ (getD_mem (i := j) (d := 0) (by omega))
        exact .inl ⟨(tmx l th R k (j + 1), ((j + 1 : Nat) : Int)), oit (decide_eq_true (by omega)) (obi (idx_getD [] hjl) (obi (idx_getD [] hk) (obi hgp (oif (bnotIf (decide_eq_true h0)) (obi (idx_getD 0 (by omega)) (obi (in64_ok (by omega)) (obi (inc_nat (by omega)) rfl))))))), ⟨j + 1, rfl, h, fun m hm => by
          by_cases e : m = j
          · subst e; exact h0
          · exact hz m (by omega)⟩, by simp only; omega⟩
      · have h24 : (gq l th j k).2 = 24 := by omega
        exact .inr ⟨_, oit (decide_eq_true (by omega)) (obi (idx_getD [] hjl) (obi (idx_getD [] hk) (obi hgp (oit (bnotIt (decide_eq_false h0)) rfl)))), .inl ⟨by rw [h24], j, h, h0⟩⟩
    · obtain rfl : j = k := by omega
      exact .inr ⟨_, oif (decide_eq_false (by omega)) rfl, .inr ⟨rfl, fun ⟨m, hm, hne⟩ => hne (hz m hm)⟩⟩) N (0, 0) ⟨0, rfl, Nat.zero_le _, fun m h => absurd h (Nat.not_lt_zero _)⟩ (by simp only; omega)
  rcases hQ with ⟨rfl, h⟩ | ⟨rfl, h⟩
  · exact .inl ⟨hq, h⟩
  · exact .inr ⟨hq, h⟩
theorem rrel_spec (s : Snd l th) (hB : soundB l th = true) (N : Nat) (hN : 200 ≤ N) :
    (r23_Releases N l th = some ([], 24) ∧ ∃ m, m < l.length ∧ SlowRow l th m ∧ (∀ k, k < m → ¬ SlowRow l th k) ∧ (tm l th m).isSome = true) ∨
    (r23_Releases N l th = some ([], 4) ∧ ∃ k, k ≤ l.length ∧ tm l th k = none ∧ ∀ m, m < k → ¬ SlowRow l th m) ∨
    ∃ R, r23_Releases N l th = some (R, 0) ∧ tm l th l.length = some R ∧ ∀ m, m < l.length → ¬ SlowRow l th m := by
  have hl := s.len
  obtain ⟨q, hq, hQ⟩ := iterN_run (f := fun s : Int × List Int => r23_Releases_l4 N l th s.1 s.2)
    (I := fun s => ∃ k : Nat, s.1 = k ∧ k ≤ l.length ∧ tm l th k = some s.2 ∧ ∀ m, m < k → ¬ SlowRow l th m)
    (Q := fun q => (q = .inl ([], 24) ∧ ∃ m, m < l.length ∧ SlowRow l th m ∧ (∀ k, k < m → ¬ SlowRow l th k) ∧ (tm l th m).isSome = true) ∨ (q = .inl ([], 4) ∧ ∃ k, k ≤ l.length ∧ tm l th k = none ∧ ∀ m, m < k → ¬ SlowRow l th m) ∨ ∃ R, q = .inr R ∧ tm l th l.length = some R ∧ ∀ m, m < l.length → ¬ SlowRow l th m) (fun s => l.length - s.1.toNat) (by
    rintro ⟨i, R⟩ ⟨k, rfl, hk, ht, hno⟩
    simp only at ht ⊢
    unfold r23_Releases_l4
    have hRl := tm_len ht
    by_cases h : k < l.length
    · rcases rinner s N hN (k := k) (R := R) h hRl (tm_range s hk ht).1 with ⟨e, hs⟩ | ⟨e, hs⟩
      · exact .inr ⟨_, oit (decide_eq_true (by omega)) (obi e rfl), .inl ⟨rfl, k, h, hs, hno, by rw [ht]; rfl⟩⟩
      · have hno' : ∀ m, m < k + 1 → ¬ SlowRow l th m := fun m hm => by
          by_cases e : m = k
          · subst e; exact hs
          · exact hno m (by omega)
        by_cases ho : 1000000000 < tmx l th R k k
        · refine .inr ⟨_, oit (decide_eq_true (by omega)) (obi e (oit (decide_eq_true ho) rfl)), .inr (.inl ⟨rfl, k + 1, h, ?_, hno'⟩)⟩
          simp only [tm, ht]
          rw [if_pos ho]
        · refine .inl ⟨(((k + 1 : Nat) : Int), R ++ [tmx l th R k k]), oit (decide_eq_true (by omega)) (obi e (oif (decide_eq_false ho) (obi (app_ok (by simp; omega) (by simp; omega)) (obi (inc_nat (by omega)) rfl)))), ⟨k + 1, rfl, h, ?_, hno'⟩, by simp only; omega⟩
          simp only [tm, ht]
          rw [if_neg ho]
    · obtain rfl : k = l.length := by omega
      exact .inr ⟨_, oif (decide_eq_false (by omega)) rfl, .inr (.inr ⟨R, rfl, ht, hno⟩)⟩) N (0, []) ⟨0, rfl, Nat.zero_le _, rfl, fun m h => absurd h (Nat.not_lt_zero _)⟩ (by simp only; omega)
  have hL := rlists_all N hN l hl th
  rw [hB] at hL
  unfold r23_Releases
  rcases hQ with ⟨rfl, h⟩ | ⟨rfl, h⟩ | ⟨R, rfl, h⟩
  · exact .inl ⟨obi hL (oif rfl (obi hq rfl)), h⟩
  · exact .inr (.inl ⟨obi hL (oif rfl (obi hq rfl)), h⟩)
  · exact .inr (.inr ⟨R, obi hL (oif rfl (obi hq rfl)), h⟩)

structure OKR (l : List (List T_Span)) (th : Int) (R : List Int) : Prop where
  snd : Snd l th
  sound : soundB l th = true
  slow : ∀ m, m < l.length → ¬ SlowRow l th m
  tm : tm l th l.length = some R
theorem rel_all (N : Nat) (hN : 200 ≤ N) (l : List (List T_Span)) (th : Int) :
    (∃ R, OKR l th R ∧ separation_released N l th = some (matG l th l.length, R, 0) ∧ separation_Releases N l th = some (R, 0) ∧ r23_Releases N l th = some (R, 0)) ∨
    ((¬ ∃ R, OKR l th R) ∧ ∃ e, e ≠ 0 ∧ separation_released N l th = some ([], [], e) ∧ separation_Releases N l th = some ([], e) ∧ r23_Releases N l th = some ([], e)) := by
  have t0 : separation_times N [] = some ([], 0) := by
    obtain ⟨M, rfl⟩ : ∃ M, N = M + 1 := ⟨N - 1, by omega⟩
    rfl
  by_cases hl : 96 < l.length
  · have h1 : separation_gaps N l th = some ([], 3) := oit (decide_eq_true (by omega)) rfl
    have h2 : separation_released N l th = some ([], [], 3) := obi h1 (obi t0 (obi (oif rfl rfl) (oit rfl rfl)))
    have h3 : r23_Lists N l th = some 3 := oit (decide_eq_true (by omega)) rfl
    exact .inr ⟨fun ⟨R, h⟩ => by have := h.snd.len; omega, 3, by decide, h2, obi h2 rfl, obi h3 (oit rfl rfl)⟩
  have hl : l.length ≤ 96 := by omega
  cases hB : soundB l th with
  | false =>
    have hs := sound_all N hN l (by omega) th
    have hL := rlists_all N hN l hl th
    rw [hB] at hs hL
    have h1 : separation_gaps N l th = some ([], 1) := oif (decide_eq_false (by omega)) (obi hs (oit rfl rfl))
    have h2 : separation_released N l th = some ([], [], 1) := obi h1 (obi t0 (obi (oif rfl rfl) (oit rfl rfl)))
    exact .inr ⟨fun ⟨R, h⟩ => (by rw [h.sound] at hB; cases hB), 1, by decide, h2, obi h2 rfl, obi hL (oit rfl rfl)⟩
  | true =>
    obtain ⟨g1, g2, g3⟩ := sound_good hB
    have s : Snd l th := ⟨hl, g1, g2, g3⟩
    rcases gaps_spec s hB N hN with ⟨hg, hno⟩ | ⟨m, hm, hg, hsl, hno⟩
    · have ht := times_spec s N hN (m := l.length) (Nat.le_refl _)
      rcases rrel_spec s hB N hN with ⟨_, m, hm, hs', _⟩ | ⟨hr, k, hk, hkn, _⟩ | ⟨R, hr, hR, _⟩
      · exact absurd hs' (hno m hm)
      · have hn := tm_none hkn hk
        rw [hn] at ht
        have h2 : separation_released N l th = some ([], [], 4) := obi hg (obi ht (obi (oit rfl rfl) (oit rfl rfl)))
        exact .inr ⟨fun ⟨R, h⟩ => (by rw [h.tm] at hn; cases hn), 4, by decide, h2, obi h2 rfl, hr⟩
      · rw [hR] at ht
        have h2 : separation_released N l th = some (matG l th l.length, R, 0) := obi hg (obi ht (obi (oif rfl rfl) (oif rfl rfl)))
        exact .inl ⟨R, ⟨s, hB, hno, hR⟩, h2, obi h2 rfl, hr⟩
    · have ht := times_spec s N hN (m := m) (by omega)
      have hnot : ¬ ∃ R, OKR l th R := fun ⟨R, h⟩ => h.slow m hm hsl
      rcases rrel_spec s hB N hN with ⟨hr, m', hm', hs', hno', hsome⟩ | ⟨hr, k, hk, hkn, hk2⟩ | ⟨R, hr, hR, hno'⟩
      · obtain rfl : m = m' := by
          rcases Nat.lt_trichotomy m m' with h | h | h
          · exact absurd hsl (hno' m h)
          · exact h
          · exact absurd hs' (hno m' h)
        obtain ⟨R, hR⟩ := Option.isSome_iff_exists.1 hsome
        rw [hR] at ht
        have h2 : separation_released N l th = some ([], [], 24) := obi hg (obi ht (obi (oif rfl rfl) (oit rfl rfl)))
        exact .inr ⟨hnot, 24, by decide, h2, obi h2 rfl, hr⟩
      · have hn := tm_none hkn (Nat.le_of_not_lt fun h => hk2 m h hsl)
        rw [hn] at ht
        have h2 : separation_released N l th = some ([], [], 4) := obi hg (obi ht (obi (oit rfl rfl) (oit rfl rfl)))
        exact .inr ⟨hnot, 4, by decide, h2, obi h2 rfl, hr⟩
      · exact absurd hsl (hno' m hm)

/-! Critical -/
theorem tmx_at {R : List Int} {k : Nat} : ∀ {j : Nat}, tmx l th R k j ≠ 0 → ∃ m, m < j ∧ R.getD m 0 + (gq l th m k).1 = tmx l th R k j
  | 0, h => absurd rfl h
  | j + 1, h => by
    simp only [tmx] at h ⊢
    by_cases hm : tmx l th R k j ≤ R.getD j 0 + (gq l th j k).1
    · exact ⟨j, by omega, by omega⟩
    · have e : max (tmx l th R k j) (R.getD j 0 + (gq l th j k).1) = tmx l th R k j := by omega
      rw [e] at h ⊢
      obtain ⟨m, h1, h2⟩ := tmx_at h
      exact ⟨m, by omega, h2⟩
theorem crit_chain {R : List Int} (o : OKR l th R) : ∀ k, k < l.length → ∃ tl : List Int, tl.length ≤ k ∧ ∀ N, 200 ≤ N → ∀ M, k < M →
    (∀ c : List Int, c.length + k ≤ 1000 → iterN (fun s : Int × List Int => separation_Critical_l3 N (matG l th l.length, R, 0) s.1 s.2) M ((k : Int), c) = some (c ++ tl)) ∧
    (∀ c : List Int, c.length + k ≤ 1000 → iterN (fun s : List Int => r23_Critical_l3 N l th (R, 0) s) M ((k : Int) :: c) = some (tl.reverse ++ ((k : Int) :: c))) := by
  have s := o.snd
  have hl := s.len
  have hRl := tm_len o.tm
  obtain ⟨hrg, hat⟩ := tm_range s (Nat.le_refl _) o.tm
  intro k
  induction k using Nat.strongRecOn with
  | _ k ih =>
    intro hk
    have hRk := hrg _ (getD_mem (i := k) (d := 0) (by omega))
    by_cases hz : R.getD k 0 = 0
    · refine ⟨[], Nat.zero_le _, fun N hN M hM => ?_⟩
      obtain ⟨M, rfl⟩ : ∃ M', M = M' + 1 := ⟨M - 1, by omega⟩
      constructor
      · intro c hc
        have e : separation_Critical_l3 N (matG l th l.length, R, 0) (k : Int) c = some (.inr c) := obi (idx_getD 0 (by simp only; omega)) (oif (bnotIf (decide_eq_true hz)) rfl)
        simp only [iterN, e, List.append_nil]
      · intro c hc
        have e : r23_Critical_l3 N l th (R, 0) ((k : Int) :: c) = some (.inr ((k : Int) :: c)) := obi (x := (k : Int)) rfl (obi (idx_getD 0 (by simp only; omega)) (oif (decide_eq_false (by simp only; omega)) rfl))
        simp only [iterN, e, List.reverse_nil, List.nil_append]
    · have hne : tmx l th R k k ≠ 0 := by rw [← hat k hk]; exact hz
      obtain ⟨m0, hm0, he0⟩ := tmx_at hne
      -- the first one
      obtain ⟨m, ⟨hmk, hme⟩, hmin⟩ : ∃ m, (m < k ∧ R.getD m 0 + (gq l th m k).1 = R.getD k 0) ∧ ∀ j, j < m → R.getD j 0 + (gq l th j k).1 ≠ R.getD k 0 := by
        have aux : ∀ n, (n < k ∧ R.getD n 0 + (gq l th n k).1 = R.getD k 0) → ∃ m, (m < k ∧ R.getD m 0 + (gq l th m k).1 = R.getD k 0) ∧ ∀ j, j < m → R.getD j 0 + (gq l th j k).1 ≠ R.getD k 0 := by
          intro n
          induction n using Nat.strongRecOn with
          | _ n ihn =>
            intro hn
            by_cases hc : ∃ j, j < n ∧ R.getD j 0 + (gq l th j k).1 = R.getD k 0
            · obtain ⟨j, hj, he⟩ := hc
              exact ihn j hj ⟨by omega, he⟩
            · exact ⟨n, hn, fun j hj he => hc ⟨j, hj, he⟩⟩
        exact aux m0 ⟨hm0, by rw [he0, hat k hk]⟩
      obtain ⟨tl, htl, hit⟩ := ih m hmk (by omega)
      refine ⟨(m : Int) :: tl, by simp only [List.length_cons]; omega, fun N hN M hM => ?_⟩
      obtain ⟨M, rfl⟩ : ∃ M', M = M' + 1 := ⟨M - 1, by omega⟩
      obtain ⟨i1, i2⟩ := hit N hN M (by omega)
      have hgl : ∀ j, j < k → 0 ≤ (gq l th j k).1 ∧ (gq l th j k).1 ≤ 2000000000 := fun j hj => by
        have := s.gq 200 (Nat.le_refl _) (j := j) (k := k) (by omega) hk; omega
      have hRj : ∀ j, j < k → 0 ≤ R.getD j 0 ∧ R.getD j 0 ≤ 1000000000 := fun j hj => hrg _ (getD_mem (i := j) (d := 0) (by omega))
      constructor
      · intro c hc
        have hin : iterN (fun s : Int => separation_Critical_l4 N (matG l th l.length, R, 0) (k : Int) (rowG l th k) s) N 0 = some (m : Int) := by
          obtain ⟨q, hq, rfl⟩ := iterN_run (f := fun s : Int => separation_Critical_l4 N (matG l th l.length, R, 0) (k : Int) (rowG l th k) s) (I := fun s => ∃ j : Nat, s = j ∧ j ≤ m) (Q := fun q => q = (m : Int)) (fun s => m - s.toNat) (by
            rintro s' ⟨j, rfl, hj⟩
            unfold separation_Critical_l4
            have hrl := rowG_len (l := l) (th := th) k
            have hx : idx (rowG l th k) (j : Int) = some (gq l th j k).1 := by rw [idx_getD 0 (by omega), rowG_get (by omega)]
            have b1 := hgl j (by omega)
            have b2 := hRj j (by omega)
            by_cases e : j = m
            · subst e
              exact .inr ⟨_, oit (decide_eq_true (by omega)) (obi hx (obi (idx_getD 0 (by simp only; omega)) (obi (in64_ok (by simp only; omega)) (obi (idx_getD 0 (by simp only; omega)) (oit (decide_eq_true hme) rfl))))), rfl⟩
            · exact .inl ⟨_, oit (decide_eq_true (by omega)) (obi hx (obi (idx_getD 0 (by simp only; omega)) (obi (in64_ok (by simp only; omega)) (obi (idx_getD 0 (by simp only; omega)) (oif (decide_eq_false (hmin j (by omega))) (obi (inc_nat (by omega)) rfl)))))), ⟨j + 1, rfl, by omega⟩, by omega⟩) N 0 ⟨0, rfl, Nat.zero_le _⟩ (by simp; omega)
          exact hq
        have hrow : idx (matG l th l.length) (k : Int) = some (rowG l th k) := by rw [idx_getD [] (by rw [matG_len]; exact hk), matG_get hk]
        have e : separation_Critical_l3 N (matG l th l.length, R, 0) (k : Int) c = some (.inl ((m : Int), c ++ [(m : Int)])) := obi (idx_getD 0 (by simp only; omega)) (oit (bnotIt (decide_eq_false hz)) (obi hrow (obi hin (obi (app_ok (by simp; omega) (by simp; omega)) rfl))))
        simp only [iterN, e]
        rw [i1 (c ++ [(m : Int)]) (by simp; omega), List.append_assoc]; rfl
      · intro c hc
        have hin : iterN (fun s : Int => r23_Critical_l4 N l th (R, 0) ((k : Int) :: c) s) N 0 = some ((m : Int) :: (k : Int) :: c) := by
          obtain ⟨q, hq, rfl⟩ := iterN_run (f := fun s : Int => r23_Critical_l4 N l th (R, 0) ((k : Int) :: c) s) (I := fun s => ∃ j : Nat, s = j ∧ j ≤ m) (Q := fun q => q = (m : Int) :: (k : Int) :: c) (fun s => m - s.toNat) (by
            rintro s' ⟨j, rfl, hj⟩
            unfold r23_Critical_l4
            have b1 := hgl j (by omega)
            have b2 := hRj j (by omega)
            have hk0 : idx ((k : Int) :: c) 0 = some (k : Int) := rfl
            obtain ⟨hgp, _⟩ := s.gq N hN (j := j) (k := k) (by omega) hk
            by_cases e : j = m
            · subst e
              exact .inr ⟨_, obi hk0 (oit (decide_eq_true (by omega)) (obi (idx_getD [] (by omega)) (obi hk0 (obi (idx_getD [] hk) (obi hgp (obi (idx_getD 0 (by simp only; omega)) (obi (in64_ok (by simp only; omega)) (obi hk0 (obi (idx_getD 0 (by simp only; omega)) (oit (decide_eq_true hme) (obi (app_ok (by simp; omega) (by simp; omega)) rfl))))))))))), rfl⟩
            · exact .inl ⟨_, obi hk0 (oit (decide_eq_true (by omega)) (obi (idx_getD [] (by omega)) (obi hk0 (obi (idx_getD [] hk) (obi hgp (obi (idx_getD 0 (by simp only; omega)) (obi (in64_ok (by simp only; omega)) (obi hk0 (obi (idx_getD 0 (by simp only; omega)) (oif (decide_eq_false (hmin j (by omega))) (obi (inc_nat (by omega)) rfl))))))))))), ⟨j + 1, rfl, by omega⟩, by omega⟩) N 0 ⟨0, rfl, Nat.zero_le _⟩ (by simp; omega)
          exact hq
        have e : r23_Critical_l3 N l th (R, 0) ((k : Int) :: c) = some (.inl ((m : Int) :: (k : Int) :: c)) := obi (x := (k : Int)) rfl (obi (idx_getD 0 (by simp only; omega)) (oit (decide_eq_true (by simp only; omega)) (obi hin rfl)))
        simp only [iterN, e]
        rw [i2 ((k : Int) :: c) (by simp; omega), List.reverse_cons, List.append_assoc]; rfl
theorem crit_ok {R : List Int} (o : OKR l th R) {n : Nat} (hn : n < l.length) : ∃ q : List Int × Int, ∀ N, 200 ≤ N → separation_Critical N l th n = some q ∧ r23_Critical N l th n = some q := by
  have hR : ∀ N, 200 ≤ N → separation_released N l th = some (matG l th l.length, R, 0) ∧ r23_Releases N l th = some (R, 0) := fun N hN => by
    rcases rel_all N hN l th with ⟨R', o', h1, _, h2⟩ | ⟨hn, _⟩
    · have : R' = R := Option.some.inj (o'.tm.symm.trans o.tm)
      subst this; exact ⟨h1, h2⟩
    · exact absurd ⟨R, o⟩ hn
  have hc : (decide ((n : Int) < 0) || decide ((List.length l : Int) ≤ n)) = false := borF (decide_eq_false (by omega)) (decide_eq_false (by omega))
  obtain ⟨tl, htl, hit⟩ := crit_chain o n hn
  have hl := o.snd.len
  refine ⟨(tl.reverse ++ [(n : Int)], 0), fun N hN => ?_⟩
  obtain ⟨i1, i2⟩ := hit N hN N (by omega)
  have hrev := reverse_eq N hN ([(n : Int)] ++ tl) (by simp; omega)
  have er : ([(n : Int)] ++ tl).reverse = tl.reverse ++ [(n : Int)] := by simp
  rw [er] at hrev
  exact ⟨obi (hR N hN).1 (oif rfl (oif hc (obi (i1 [(n : Int)] (by simp; omega)) (obi hrev rfl)))), obi (hR N hN).2 (oif rfl (oif hc (obi (i2 [] (by simp; omega)) rfl)))⟩
theorem crit_all (N : Nat) (hN : 200 ≤ N) (l : List (List T_Span)) (th k : Int) : ∃ q : List Int × Int, separation_Critical N l th k = some q ∧ r23_Critical N l th k = some q ∧ q.1.length ≤ 100 := by
  rcases rel_all N hN l th with ⟨R, o, h1, _, h2⟩ | ⟨_, e, he, h1, _, h2⟩
  · by_cases hk : k < 0 ∨ (l.length : Int) ≤ k
    · have hc : (decide (k < 0) || decide ((List.length l : Int) ≤ k)) = true := by simp only [Bool.or_eq_true, decide_eq_true_eq]; exact hk
      exact ⟨([], 2), obi h1 (oif rfl (oit hc rfl)), obi h2 (oif rfl (oit hc rfl)), by simp⟩
    · have hc : (decide (k < 0) || decide ((List.length l : Int) ≤ k)) = false := borF (decide_eq_false (by omega)) (decide_eq_false (by omega))
      obtain ⟨n, rfl⟩ : ∃ n : Nat, k = n := ⟨k.toNat, by omega⟩
      obtain ⟨tl, htl, hit⟩ := crit_chain o n (by omega)
      have hl := o.snd.len
      obtain ⟨i1, i2⟩ := hit N hN N (by omega)
      have hrev := reverse_eq N hN ([(n : Int)] ++ tl) (by simp; omega)
      have er : ([(n : Int)] ++ tl).reverse = tl.reverse ++ [(n : Int)] := by simp
      rw [er] at hrev
      exact ⟨(tl.reverse ++ [(n : Int)], 0), obi h1 (oif rfl (oif hc (obi (i1 [(n : Int)] (by simp; omega)) (obi hrev rfl)))), obi h2 (oif rfl (oif hc (obi (i2 [] (by simp; omega)) rfl))), by simp; omega⟩
  · exact ⟨([], e), obi h1 (oit (bnotIt (decide_eq_false he)) rfl), obi h2 (oit (bnotIt (decide_eq_false he)) rfl), by simp⟩
end Go.Gv
