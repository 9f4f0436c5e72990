/- Separation: Check and Gap of arbitrary lists; all functions and the reference. -/
import Derived.Test.YtgabhhciodicoaaPle
namespace Go.Gv
variable {l : List (List T_Span)} {th : Int}

def okP (l : List (List T_Span)) (th : Int) (q : List Int) (k j : Nat) : Prop := q.getD j 0 + (gq l th j k).1 ≤ q.getD k 0
structure CH (l : List (List T_Span)) (th : Int) (q : List Int) : Prop where
  len : q.length = l.length
  rng : ∀ k, k < q.length → 0 ≤ q.getD k 0 ∧ q.getD k 0 ≤ 1000000000
  ok : ∀ k, k < l.length → ∀ j, j < k → okP l th q k j

theorem check_impl (s : Snd l th) (N : Nat) (hN : 200 ≤ N) (q : List Int) (hg : separation_gaps N l th = some (matG l th l.length, 0)) : ∃ v, separation_Check N l th q = some (v, 0) ∧ (v = true ↔ CH l th q) := by
  have hl := s.len
  unfold separation_Check
  by_cases hlen : q.length = l.length
  · obtain ⟨x, hx, hX⟩ := iterN_run (f := fun s : Int => separation_Check_l3 N q (matG l th l.length, 0) s) (I := fun s => ∃ k : Nat, s = k ∧ k ≤ q.length ∧ ∀ m, m < k → (0 ≤ q.getD m 0 ∧ q.getD m 0 ≤ 1000000000) ∧ ∀ j, j < m → okP l th q m j)
      (Q := fun x => (x = .inl (false, 0) ∧ ¬ CH l th q) ∨ (x = .inr () ∧ CH l th q)) (fun s => q.length - s.toNat) (by
      rintro s' ⟨k, rfl, hk, hall⟩
      unfold separation_Check_l3
      by_cases h : k < q.length
      · by_cases hr : 0 ≤ q.getD k 0 ∧ q.getD k 0 ≤ 1000000000
        · have ec : (decide (q.getD k 0 < 0) || decide (1000000000 < q.getD k 0)) = false := borF (decide_eq_false (by omega)) (decide_eq_false (by omega))
          have hrow : idx (matG l th l.length) (k : Int) = some (rowG l th k) := by rw [idx_getD [] (by rw [matG_len]; omega), matG_get (by omega)]
          rcases first_anyP k (fun j => ¬ okP l th q k j) (fun _ => ((false, 0) : Bool × Int)) (fun s => separation_Check_l4 N q (q.getD k 0) (rowG l th k) s) (fun j hj => by
            unfold separation_Check_l4
            have hrl := rowG_len (l := l) (th := th) k
            have hx : idx (rowG l th k) (j : Int) = some (gq l th j k).1 := by rw [idx_getD 0 (by omega), rowG_get hj]
            have b1 := s.gq 200 (Nat.le_refl _) (j := j) (k := k) (by omega) (by omega)
            have b2 := (hall j hj).1
            by_cases e : q.getD j 0 + (gq l th j k).1 ≤ q.getD k 0
            · exact .inr ⟨fun h => h e, oit (decide_eq_true (by omega)) (obi hx (obi (idx_getD 0 (by omega)) (obi (in64_ok (by omega)) (oif (decide_eq_false (by omega)) (obi (inc_nat (by omega)) rfl)))))⟩
            · exact .inl ⟨e, oit (decide_eq_true (by omega)) (obi hx (obi (idx_getD 0 (by omega)) (obi (in64_ok (by omega)) (oit (decide_eq_true (by omega)) rfl))))⟩) (by
            unfold separation_Check_l4
            exact oif (decide_eq_false (by rw [rowG_len]; omega)) rfl) N (by omega) with ⟨j, e, hj, hp, _⟩ | ⟨e, hp⟩
          · exact .inr ⟨_, oit (decide_eq_true (by omega)) (obi (idx_getD 0 h) (oif ec (obi hrow (obi e rfl)))), .inl ⟨rfl, fun c => hp (c.ok k (by omega) j hj)⟩⟩
          · refine .inl ⟨_, oit (decide_eq_true (by omega)) (obi (idx_getD 0 h) (oif ec (obi hrow (obi e (obi (inc_nat (by omega)) rfl))))), ⟨k + 1, rfl, h, fun m hm => ?_⟩, by omega⟩
            by_cases e : m = k
            · subst e; exact ⟨hr, fun j hj => Classical.not_not.1 (hp j hj)⟩
            · exact hall m (by omega)
        · have ec : (decide (q.getD k 0 < 0) || decide (1000000000 < q.getD k 0)) = true := by simp only [Bool.or_eq_true, decide_eq_true_eq]; omega
          exact .inr ⟨_, oit (decide_eq_true (by omega)) (obi (idx_getD 0 h) (oit ec rfl)), .inl ⟨rfl, fun c => hr (c.rng k h)⟩⟩
      · have : k = q.length := by omega
        subst this
        exact .inr ⟨_, oif (decide_eq_false (by omega)) rfl, .inr ⟨rfl, hlen, fun k hk => (hall k hk).1, fun k hk j hj => (hall k (by omega)).2 j hj⟩⟩) N 0 ⟨0, rfl, Nat.zero_le _, fun _ h => absurd h (Nat.not_lt_zero _)⟩ (by simp; omega)
    have el : (!decide ((List.length q : Int) = (List.length l : Int))) = false := bnotIf (decide_eq_true (by omega))
    rcases hX with ⟨rfl, hn⟩ | ⟨rfl, hc⟩
    · exact ⟨false, obi hg (oif rfl (oif el (obi hx rfl))), by simp [hn]⟩
    · exact ⟨true, obi hg (oif rfl (oif el (obi hx rfl))), by simp [hc]⟩
  · exact ⟨false, obi hg (oif rfl (oit (bnotIt (decide_eq_false (by omega))) rfl)), by
      constructor
      · intro h; cases h
      · intro c; exact absurd c.len hlen⟩

theorem check_ref (s : Snd l th) (hB : soundB l th = true) (N : Nat) (hN : 200 ≤ N) (q : List Int) (hq : q.length < N) (hq2 : q.length ≤ 17592186044416) :
    (∃ v, r23_Check N l th q = some (v, 0) ∧ (v = true ↔ CH l th q) ∧ ∀ k, k < l.length → ¬ SlowRow l th k) ∨ (r23_Check N l th q = some (false, 24) ∧ ∃ k, k < l.length ∧ SlowRow l th k) := by
  have hl := s.len
  obtain ⟨b1, e1, q1⟩ := iterN_run (f := fun s : Bool × Int => r23_Check_l1 N q s.1 s.2) (I := fun s => ∃ i : Nat, s.2 = i ∧ i ≤ q.length ∧ (s.1 = true ↔ q.length = l.length ∧ ∀ k, k < i → 0 ≤ q.getD k 0 ∧ q.getD k 0 ≤ 1000000000))
    (Q := fun b => (b = true ↔ q.length = l.length ∧ ∀ k, k < q.length → 0 ≤ q.getD k 0 ∧ q.getD k 0 ≤ 1000000000)) (fun s => q.length - s.2.toNat) (by
    rintro ⟨b, i'⟩ ⟨i, rfl, hi, hb⟩
    simp only at hb ⊢
    unfold r23_Check_l1
    by_cases h : i < q.length
    · have step : ∀ b' : Bool, (b' = true ↔ b = true ∧ 0 ≤ q.getD i 0 ∧ q.getD i 0 ≤ 1000000000) → (b' = true ↔ q.length = l.length ∧ ∀ k, k < i + 1 → 0 ≤ q.getD k 0 ∧ q.getD k 0 ≤ 1000000000) := fun b' hb' => by
        rw [hb', hb]
        constructor
        · rintro ⟨⟨h1, h2⟩, h3⟩
          refine ⟨h1, fun k hk => ?_⟩
          by_cases e : k = i
          · subst e; exact h3
          · exact h2 k (by omega)
        · rintro ⟨h1, h2⟩
          exact ⟨⟨h1, fun k hk => h2 k (by omega)⟩, h2 i (by omega)⟩
      cases b with
      | true =>
        by_cases h0 : 0 ≤ q.getD i 0
        · exact .inl ⟨_, oit (decide_eq_true (by omega)) (obi (gO_T rfl (idx_getD 0 h)) (obi (gO_T (band rfl (decide_eq_true h0)) (idx_getD 0 h)) (obi (in64_nat (n := i + 1) (by omega) (by omega)) rfl))), ⟨i + 1, rfl, h, step _ (by simp)⟩, by simp only; omega⟩
        · exact .inl ⟨_, oit (decide_eq_true (by omega)) (obi (gO_T rfl (idx_getD 0 h)) (obi (gO_F (bandF2 (decide_eq_false h0))) (obi (in64_nat (n := i + 1) (by omega) (by omega)) rfl))), ⟨i + 1, rfl, h, step _ (by rw [bandF (bandF2 (decide_eq_false h0))]; exact ⟨fun h => (by cases h), fun h => absurd h.2.1 h0⟩)⟩, by simp only; omega⟩
      | false => exact .inl ⟨_, oit (decide_eq_true (by omega)) (obi (gO_F rfl) (obi (gO_F rfl) (obi (in64_nat (n := i + 1) (by omega) (by omega)) rfl))), ⟨i + 1, rfl, h, step _ (by simp)⟩, by simp only; omega⟩
    · have : i = q.length := by omega
      subst this
      exact .inr ⟨_, oif (decide_eq_false (by omega)) rfl, hb⟩) N (decide ((List.length q : Int) = (List.length l : Int)), 0) ⟨0, rfl, Nat.zero_le _, by
        simp only [decide_eq_true_eq]
        exact ⟨fun h => ⟨by omega, fun k h => absurd h (Nat.not_lt_zero _)⟩, fun h => by have := h.1; omega⟩⟩ (by simp only; omega)
  have inner : ∀ (k : Nat) (b : Bool), k < l.length → (b = true → b1 = true) → (∃ b', iterN (fun s : Bool × Int => r23_Check_l5 N l th q (k : Int) s.1 s.2) N (b, 0) = some (.inr b') ∧ (b' = true ↔ b = true ∧ ∀ j, j < k → okP l th q k j) ∧ ¬ SlowRow l th k) ∨ (iterN (fun s : Bool × Int => r23_Check_l5 N l th q (k : Int) s.1 s.2) N (b, 0) = some (.inl (false, 24)) ∧ SlowRow l th k) := fun k b hk hbb => by
    obtain ⟨x, hx, hX⟩ := iterN_run (f := fun s : Bool × Int => r23_Check_l5 N l th q (k : Int) s.1 s.2) (I := fun s => ∃ j : Nat, s.2 = j ∧ j ≤ k ∧ (s.1 = true ↔ b = true ∧ ∀ m, m < j → okP l th q k m) ∧ ∀ m, m < j → (gq l th m k).2 = 0)
      (Q := fun x => (∃ b', x = .inr b' ∧ (b' = true ↔ b = true ∧ ∀ j, j < k → okP l th q k j) ∧ ¬ SlowRow l th k) ∨ (x = .inl (false, 24) ∧ SlowRow l th k)) (fun s => k - s.2.toNat) (by
      rintro ⟨c, j'⟩ ⟨j, rfl, hj, hc, hz⟩
      simp only at hc ⊢
      unfold r23_Check_l5
      by_cases h : j < k
      · have hjl : j < l.length := by omega
        obtain ⟨hgp, _, g0, g1, he⟩ := s.gq N hN hjl hk
        by_cases h0 : (gq l th j k).2 = 0
        · have hz' : ∀ m, m < j + 1 → (gq l th m k).2 = 0 := fun m hm => by
            by_cases e : m = j
            · subst e; exact h0
            · exact hz m (by omega)
          have step : ∀ c' : Bool, (c' = true ↔ c = true ∧ okP l th q k j) → (c' = true ↔ b = true ∧ ∀ m, m < j + 1 → okP l th q k m) := fun c' hc' => by
            rw [hc', hc]
            constructor
            · rintro ⟨⟨h1, h2⟩, h3⟩
              refine ⟨h1, fun m hm => ?_⟩
              by_cases e : m = j
              · subst e; exact h3
              · exact h2 m (by omega)
            · rintro ⟨h1, h2⟩
              exact ⟨⟨h1, fun m hm => h2 m (by omega)⟩, h2 j (by omega)⟩
          cases c with
          | true =>
            obtain ⟨hql, hrg⟩ := q1.1 (hbb (hc.1 rfl).1)
            have r1 := hrg k (by omega)
            have r2 := hrg j (by omega)
            refine .inl ⟨_, oit (decide_eq_true (by omega)) (obi (idx_getD [] hjl) (obi (idx_getD [] hk) (obi hgp (oif (bnotIf (decide_eq_true h0)) (obi (gO_T rfl (idx_getD 0 (by omega))) (obi (gO_T rfl (idx_getD 0 (by omega))) (obi (gO_T rfl (in64_ok (by omega))) (obi (inc_nat (by omega)) rfl)))))))), ⟨j + 1, rfl, h, step _ ?_, hz'⟩, by simp only; omega⟩
            simp only [Bool.true_and, decide_eq_true_eq, true_and, okP]
            omega
          | false =>
            exact .inl ⟨_, oit (decide_eq_true (by omega)) (obi (idx_getD [] hjl) (obi (idx_getD [] hk) (obi hgp (oif (bnotIf (decide_eq_true h0)) (obi (gO_F rfl) (obi (gO_F rfl) (obi (gO_F rfl) (obi (inc_nat (by omega)) rfl)))))))), ⟨j + 1, rfl, h, step _ (by simp), hz'⟩, by simp only; omega⟩
        · have h24 : (gq l th j k).2 = 24 := by omega
          exact .inr ⟨_, oit (decide_eq_true (by omega)) (obi (idx_getD [] hjl) (obi (idx_getD [] hk) (obi hgp (oit (bnotIt (decide_eq_false h0)) rfl)))), .inr ⟨by rw [h24], j, h, h0⟩⟩
      · obtain rfl : j = k := by omega
        exact .inr ⟨_, oif (decide_eq_false (by omega)) rfl, .inl ⟨c, rfl, hc, fun ⟨m, hm, hne⟩ => hne (hz m hm)⟩⟩) N (b, 0) ⟨0, rfl, Nat.zero_le _, by simp, fun m h => absurd h (Nat.not_lt_zero _)⟩ (by simp only; omega)
    rcases hX with ⟨b', rfl, h⟩ | ⟨rfl, h⟩
    · exact .inl ⟨b', hx, h⟩
    · exact .inr ⟨hx, h⟩
  obtain ⟨x, hx, hX⟩ := iterN_run (f := fun s : Bool × Int => r23_Check_l4 N l th q s.1 s.2) (I := fun s => ∃ k : Nat, s.2 = k ∧ k ≤ l.length ∧ (s.1 = true ↔ b1 = true ∧ ∀ m, m < k → ∀ j, j < m → okP l th q m j) ∧ ∀ m, m < k → ¬ SlowRow l th m)
    (Q := fun x => (∃ b', x = .inr b' ∧ (b' = true ↔ b1 = true ∧ ∀ m, m < l.length → ∀ j, j < m → okP l th q m j) ∧ ∀ m, m < l.length → ¬ SlowRow l th m) ∨ (x = .inl (false, 24) ∧ ∃ k, k < l.length ∧ SlowRow l th k)) (fun s => l.length - s.2.toNat) (by
    rintro ⟨b, k'⟩ ⟨k, rfl, hk, hb, hno⟩
    simp only at hb ⊢
    unfold r23_Check_l4
    by_cases h : k < l.length
    · rcases inner k b h (fun hb' => (hb.1 hb').1) with ⟨b', e, hb', hs⟩ | ⟨e, hs⟩
      · refine .inl ⟨_, oit (decide_eq_true (by omega)) (obi e (obi (inc_nat (by omega)) rfl)), ⟨k + 1, rfl, h, ?_, fun m hm => ?_⟩, by simp only; omega⟩
        · simp only
          rw [hb', hb]
          constructor
          · rintro ⟨⟨h1, h2⟩, h3⟩
            refine ⟨h1, fun m hm => ?_⟩
            by_cases e : m = k
            · subst e; exact h3
            · exact h2 m (by omega)
          · rintro ⟨h1, h2⟩
            exact ⟨⟨h1, fun m hm => h2 m (by omega)⟩, h2 k (by omega)⟩
        · by_cases e : m = k
          · subst e; exact hs
          · exact hno m (by omega)
      · exact .inr ⟨_, oit (decide_eq_true (by omega)) (obi e rfl), .inr ⟨rfl, k, h, hs⟩⟩
    · obtain rfl : k = l.length := by omega
      exact .inr ⟨_, oif (decide_eq_false (by omega)) rfl, .inl ⟨b, rfl, hb, hno⟩⟩) N (b1, 0) ⟨0, rfl, Nat.zero_le _, by simp, fun m h => absurd h (Nat.not_lt_zero _)⟩ (by simp only; omega)
  have hL := rlists_all N hN l hl th
  rw [hB] at hL
  unfold r23_Check
  rcases hX with ⟨b', rfl, hb', hno⟩ | ⟨rfl, hs⟩
  · refine .inl ⟨b', obi hL (oif rfl (obi e1 (obi hx rfl))), ?_, hno⟩
    rw [hb', q1]
    exact ⟨fun h => ⟨h.1.1, h.1.2, h.2⟩, fun c => ⟨⟨c.len, c.rng⟩, c.ok⟩⟩
  · exact .inr ⟨obi hL (oif rfl (obi e1 (obi hx rfl))), hs⟩
theorem check_all (N : Nat) (hN : 200 ≤ N) (l : List (List T_Span)) (th : Int) (q : List Int) (hq : q.length < N) (hq2 : q.length ≤ 17592186044416) : ∃ v, separation_Check N l th q = some v ∧ r23_Check N l th q = some v := by
  by_cases hl : 96 < l.length
  · have h1 : separation_gaps N l th = some ([], 3) := oit (decide_eq_true (by omega)) rfl
    have h3 : r23_Lists N l th = some 3 := oit (decide_eq_true (by omega)) rfl
    exact ⟨(false, 3), obi h1 (oit rfl rfl), obi h3 (oit rfl rfl)⟩
  have hl : l.length ≤ 96 := by omega
  cases hB : soundB l th with
  | false =>
    have hs := sound_all N hN l (by omega) th
    have hL := rlists_all N hN l hl th
    rw [hB] at hs hL
    have h1 : separation_gaps N l th = some ([], 1) := oif (decide_eq_false (by omega)) (obi hs (oit rfl rfl))
    exact ⟨(false, 1), obi h1 (oit rfl rfl), obi hL (oit rfl rfl)⟩
  | true =>
    obtain ⟨g1, g2, g3⟩ := sound_good hB
    have s : Snd l th := ⟨hl, g1, g2, g3⟩
    rcases gaps_spec s hB N hN with ⟨hg, hno⟩ | ⟨m, hm, hg, hsl, _⟩
    · obtain ⟨v, e, hv⟩ := check_impl s N hN q hg
      rcases check_ref s hB N hN q hq hq2 with ⟨w, e', hw, _⟩ | ⟨_, k, hk, hs⟩
      · have : v = w := by rw [Bool.eq_iff_iff, hv, hw]
        subst this
        exact ⟨_, e, e'⟩
      · exact absurd hs (hno k hk)
    · rcases check_ref s hB N hN q hq hq2 with ⟨w, e', hw, hno⟩ | ⟨e', _⟩
      · exact absurd hsl (hno m hm)
      · exact ⟨(false, 24), obi hg (oit rfl rfl), e'⟩

/-! Gap -/
def gapF (a b : List T_Span) (th : Int) : Int × Int := bif soundB [a, b] th then gp a b th else (0, 1)
theorem gap_all (N : Nat) (hN : 200 ≤ N) (a b : List T_Span) (th : Int) : separation_Gap N a b th = some (gapF a b th) ∧ r23_Gap N a b th = some (gapF a b th) := by
  have hs := sound_all N hN [a, b] (by simp) th
  have ha := rvalid_eq N hN a
  have hb := rvalid_eq N hN b
  unfold gapF
  cases hB : soundB [a, b] th with
  | true =>
    rw [hB] at hs
    obtain ⟨g1, t0, t1⟩ := sound_good hB
    have ga : Good a := g1 0 (by simp)
    have gb : Good b := g1 1 (by simp)
    rw [goodB_T ga] at ha
    rw [goodB_T gb] at hb
    obtain ⟨h1, h2, _⟩ := gp_spec N hN ga gb t0 t1
    exact ⟨obi hs (oif rfl (obi h2 rfl)), obi ha (obi (gO_T rfl hb) (oif (borF (borF rfl (decide_eq_false (by omega))) (decide_eq_false (by omega))) (obi h1 rfl)))⟩
  | false =>
    rw [hB] at hs
    refine ⟨obi hs (oit rfl rfl), ?_⟩
    unfold r23_Gap
    cases hga : goodB a with
    | false => rw [hga] at ha; exact obi ha (obi (gO_F rfl) (oit rfl rfl))
    | true =>
      rw [hga] at ha
      refine obi ha (obi (gO_T rfl hb) ?_)
      cases hgb : goodB b with
      | false => exact oit rfl rfl
      | true =>
        refine oit ?_ rfl
        simp only [soundB, thOk, List.all_cons, List.all_nil, hga, hgb, Bool.true_and, Bool.and_eq_false_iff, decide_eq_false_iff_not] at hB
        simp only [Bool.or_eq_true, decide_eq_true_eq]
        omega

/-! everything -/
theorem ints_refl (N : Nat) (hN : 200 ≤ N) (p : List Int) (h1 : p.length ≤ 100) : humpgen_Ints N p p = some true := by
  unfold humpgen_Ints
  rcases first_anyP p.length (fun _ => False) (fun _ => false) (fun s => humpgen_Ints_l1 N p p s) (fun i hi => .inr ⟨fun h => h, by
    unfold humpgen_Ints_l1
    exact oit (decide_eq_true (by omega)) (obi (idx_getD 0 hi) (obi (idx_getD 0 hi) (oif (bnotIf (decide_eq_true rfl)) (obi (inc_nat (by omega)) rfl))))⟩) (by
    unfold humpgen_Ints_l1
    exact oif (decide_eq_false (by omega)) rfl) N (by omega) with ⟨i, _, _, h, _⟩ | ⟨h, _⟩
  · exact h.elim
  · exact oif (bnotIf (decide_eq_true rfl)) (obi h rfl)
theorem exact_ok2 (N : Nat) (hN : 200 ≤ N) (l : List (List T_Span)) (hl : l.length ≤ 1000) (th k : Int) (q : List Int) (hq : q.length < N) (hq2 : q.length ≤ 17592186044416) : law23_exact N l th k q = some true := by
  obtain ⟨x, hx, hx2, hxl⟩ : ∃ x : List Int × Int, separation_Releases N l th = some x ∧ r23_Releases N l th = some x ∧ x.1.length ≤ 100 := by
    rcases rel_all N hN l th with ⟨R, o, _, h1, h2⟩ | ⟨_, e, _, _, h1, h2⟩
    · have := tm_len o.tm
      have := o.snd.len
      exact ⟨(R, 0), h1, h2, by simp only; omega⟩
    · exact ⟨([], e), h1, h2, by simp⟩
  obtain ⟨y, hy, hy2, hyl⟩ := crit_all N hN l th k
  obtain ⟨z, hz, hz2⟩ := check_all N hN l th q hq hq2
  have h41 := ints_refl N hN x.1 hxl
  have h54 := ints_refl N hN y.1 hyl
  have hpre : (!((!true) || (!decide (x.2 = x.2)))) = true := by simp
  have hcond : ((((((!true) || (!decide (x.2 = x.2))) || (!true)) || (!decide (y.2 = y.2))) || (!(z.1 == z.1))) || (!decide (z.2 = z.2))) = false := by simp
  have hloop : iterN (fun s : Int => law23_exact_l1 N l th s) N 0 = some (.inr ()) := by
    rcases first_anyP (min 3 (l.length - 1)) (fun _ => False) (fun _ => false) (fun s => law23_exact_l1 N l th s) (fun i hi => .inr ⟨fun h => h, by
      unfold law23_exact_l1
      obtain ⟨g1, g2⟩ := gap_all N hN (l.getD i []) (l.getD (i + 1) []) th
      exact obi (inc_nat (by omega)) (oit (band (decide_eq_true (by omega)) (decide_eq_true (by omega))) (obi (idx_getD [] (by omega)) (obi (inc_nat (by omega)) (obi (idx_getD [] (by omega)) (obi g1 (obi (idx_getD [] (by omega)) (obi (inc_nat (by omega)) (obi (idx_getD [] (by omega)) (obi g2 (oif (borF (bnotIf (decide_eq_true rfl)) (bnotIf (decide_eq_true rfl))) (obi (inc_nat (by omega)) rfl)))))))))))⟩) (by
      unfold law23_exact_l1
      refine obi (inc_nat (by omega)) (oif ?_ rfl)
      rw [Bool.eq_false_iff]
      simp only [ne_eq, Bool.and_eq_true, decide_eq_true_eq]
      omega) N (by omega) with ⟨i, _, _, h, _⟩ | ⟨h, _⟩
    · exact h.elim
    · exact h
  unfold law23_exact
  exact obi hx (obi hx2 (obi hy (obi hy2 (obi hz (obi hz2 (obi h41 (obi (gO_T hpre h54) (oif hcond (obi hloop rfl)))))))))
end Go.Gv
