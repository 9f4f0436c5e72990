/- The assignment of tracks. -/
import Derived.Test.YtlpkbkbjohhleaaGreatSx
import Derived.Test.YtlpkbkbjohhleaaGreatSi
namespace Go.Gv
def gb (r : List Bool) (i : Nat) : Bool := r.getD i false
theorem idx_gb {r : List Bool} {i : Nat} (h : i < r.length) : idx r (i : Int) = some (gb r i) := idx_getD _ h
theorem gb_set {r : List Bool} {i j : Nat} {x : Bool} (h : i < r.length) : gb (r.set i x) j = if j = i then x else gb r j := getD_set' h
theorem gb_rep (n j : Nat) : gb (List.replicate n false) j = false := by
  unfold gb
  rw [List.getD_eq_getElem?_getD, List.getElem?_replicate]
  split <;> rfl
theorem clone_ok (N : Nat) {l : List Int} (h : l.length ≤ 1000) : g_slices_Clone_int_int N l = some l := by
  unfold g_slices_Clone_int_int
  rw [app_ok (by simp only [List.length_nil]; omega) (by simp only [List.length_nil]; omega), List.nil_append]
theorem clonei_ok (N : Nat) {l : List T_Item} (h : l.length ≤ 1000) : g_slices_Clone_api_Item_api_Item N l = some l := by
  unfold g_slices_Clone_api_Item_api_Item
  rw [app_ok (by simp only [List.length_nil]; omega) (by simp only [List.length_nil]; omega), List.nil_append]
/-- loads and tracks in their ranges -/
structure LT (ld tk : List Int) : Prop where
  l1 : ld.length ≤ 32
  l2 : ∀ j, j < ld.length → 0 ≤ gi ld j ∧ gi ld j ≤ 38400
  t1 : tk.length ≤ 32
  t2 : ∀ j, j < tk.length → 1 ≤ gi tk j ∧ gi tk j ≤ 38400
theorem acheck_ok {N : Nat} (hN : 5000 ≤ N) {ld tk : List Int} (H : LT ld tk) : assign_check N ld tk = some 0 := by
  obtain ⟨l1, l2, t1, t2⟩ := H
  have q1 : iterN (fun s : Int => assign_check_l1 N ld s) N 0 = some (.inr ()) := by
    refine runN1 (f := fun s : Int => assign_check_l1 N ld s) ld.length (fun i s => s = i) _ ?_ ?_ N (by omega) 0 rfl
    · rintro i s hi rfl
      have := l2 i hi
      unfold assign_check_l1
      exact ⟨_, oit (decide_eq_true (by omega)) (obi (idx_gi hi) (oif (borF (decide_eq_false (by omega)) (decide_eq_false (by omega))) (obi (inc_nat (by omega)) rfl))), rfl⟩
    · rintro s rfl
      unfold assign_check_l1
      exact oif (decide_eq_false (by omega)) rfl
  have q2 : iterN (fun s : Int => assign_check_l2 N tk s) N 0 = some (.inr ()) := by
    refine runN1 (f := fun s : Int => assign_check_l2 N tk s) tk.length (fun i s => s = i) _ ?_ ?_ N (by omega) 0 rfl
    · rintro i s hi rfl
      have := t2 i hi
      unfold assign_check_l2
      exact ⟨_, oit (decide_eq_true (by omega)) (obi (idx_gi hi) (oif (borF (decide_eq_false (by omega)) (decide_eq_false (by omega))) (obi (inc_nat (by omega)) rfl))), rfl⟩
    · rintro s rfl
      unfold assign_check_l2
      exact oif (decide_eq_false (by omega)) rfl
  unfold assign_check
  exact oif (borF (decide_eq_false (by omega)) (decide_eq_false (by omega))) (obi q1 (obi q2 rfl))
/-- the loads that need a track, in some order -/
structure OrdL (ld o : List Int) : Prop where
  len : o.length ≤ 32
  rng : ∀ p, p < o.length → ∃ i : Nat, gi o p = i ∧ i < ld.length ∧ 0 < gi ld i
  all : ∀ i : Nat, i < ld.length → 0 < gi ld i → ∃ p, p < o.length ∧ gi o p = i
theorem aorder_ok {N : Nat} (hN : 5000 ≤ N) {ld : List Int} (l1 : ld.length ≤ 32) (l2 : ∀ j, j < ld.length → 0 ≤ gi ld j ∧ gi ld j ≤ 38400) : ∃ o, assign_order N ld = some o ∧ OrdL ld o := by
  obtain ⟨q, hq, q1, q2, q3⟩ := runN (f := fun s : Int × List Int => assign_order_l1 N ld s.1 s.2) ld.length
    (fun i s => s.1 = i ∧ s.2.length ≤ i ∧ (∀ x ∈ s.2, ∃ j : Nat, x = j ∧ j < ld.length ∧ 0 < gi ld j) ∧ ∀ j : Nat, j < i → 0 < gi ld j → (j : Int) ∈ s.2)
    (fun q => q.length ≤ ld.length ∧ (∀ x ∈ q, ∃ j : Nat, x = j ∧ j < ld.length ∧ 0 < gi ld j) ∧ ∀ j : Nat, j < ld.length → 0 < gi ld j → (j : Int) ∈ q) (by
    rintro i ⟨i', r⟩ hi ⟨rfl, h1, h2, h3⟩
    simp only at h1 h2 h3 ⊢
    left
    unfold assign_order_l1
    by_cases c : 0 < gi ld i
    · refine ⟨_, oit (decide_eq_true (by omega)) (obi (idx_gi hi) (oit (decide_eq_true c) (obi (app_ok (by simp only [List.length_cons, List.length_nil]; omega) (by simp only [List.length_cons, List.length_nil]; omega)) (obi (inc_nat (by omega)) rfl)))), rfl, by simp only [List.length_append, List.length_cons, List.length_nil]; omega, fun x hx => ?_, fun j hj hp => ?_⟩
      · rcases List.mem_append.1 hx with hx | hx
        · exact h2 x hx
        · exact ⟨i, List.mem_singleton.1 hx, hi, c⟩
      · by_cases e : j = i
        · subst e; exact List.mem_append_right _ (List.mem_singleton.2 rfl)
        · exact List.mem_append_left _ (h3 j (by omega) hp)
    · refine ⟨_, oit (decide_eq_true (by omega)) (obi (idx_gi hi) (oif (decide_eq_false c) (obi (inc_nat (by omega)) rfl))), rfl, by simp only; omega, h2, fun j hj hp => ?_⟩
      by_cases e : j = i
      · subst e; exact absurd hp c
      · exact h3 j (by omega) hp) (by
    rintro ⟨i', r⟩ ⟨rfl, h1, h2, h3⟩
    unfold assign_order_l1
    exact ⟨_, oif (decide_eq_false (by simp only; omega)) rfl, h1, h2, h3⟩) N (by omega) (0, []) ⟨rfl, by simp, fun x h => absurd h (by simp), fun j h => absurd h (Nat.not_lt_zero _)⟩
  obtain ⟨o, ho, o1, o2, _⟩ := SI.sort_ok (key := fun x : Int => - gi ld x.toNat) (S := fun x : Int => ∃ j : Nat, x = j ∧ j < ld.length ∧ 0 < gi ld j) (N := N) (c := [ld]) (by omega) (fun x y hx hy => by
    obtain ⟨i, rfl, i1, i2⟩ := hx
    obtain ⟨j, rfl, j1, j2⟩ := hy
    have b1 := l2 i i1
    have b2 := l2 j j1
    refine ⟨gi ld j - gi ld i, ?_, by simp only [Int.toNat_natCast]; omega⟩
    unfold assign_order_1
    exact obi (x := ld) rfl (obi (idx_gi j1) (obi (idx_gi i1) (obi (in64_ok (by omega)) rfl)))) (l := q) q2 (by omega)
  refine ⟨o, ?_, by omega, fun p hp => ?_, fun i hi hp => ?_⟩
  · unfold assign_order
    exact obi hq (obi ho rfl)
  · have hm : o[p] ∈ q := o2.mem.1 (List.getElem_mem hp)
    obtain ⟨j, e, h⟩ := q2 _ hm
    exact ⟨j, by rw [← getElem_gi hp]; exact e, h⟩
  · obtain ⟨p, hp, e⟩ := List.getElem_of_mem (o2.mem.2 (q3 i hi hp))
    exact ⟨p, hp, by rw [← getElem_gi hp]; exact e⟩
theorem best_ok {N : Nat} (hN : 5000 ≤ N) {ld tk : List Int} (H : LT ld tk) {tkn : List Bool} (ht : tkn.length = tk.length) {x : Nat} (hx : x < ld.length) : ∃ b, iterN (fun s : Int × Int => assign_Match_l5 N ld tk tkn (x : Int) s.1 s.2) N (-1, 0) = some b ∧ (b = -1 ∨ ∃ t : Nat, b = t ∧ t < tk.length ∧ gb tkn t = false ∧ gi ld x ≤ gi tk t) := by
  obtain ⟨l1, l2, t1, t2⟩ := H
  obtain ⟨q, hq, hQ⟩ := runN (f := fun s : Int × Int => assign_Match_l5 N ld tk tkn (x : Int) s.1 s.2) tk.length
    (fun i s => s.2 = i ∧ (s.1 = -1 ∨ ∃ t : Nat, s.1 = t ∧ t < tk.length ∧ gb tkn t = false ∧ gi ld x ≤ gi tk t))
    (fun b => b = -1 ∨ ∃ t : Nat, b = t ∧ t < tk.length ∧ gb tkn t = false ∧ gi ld x ≤ gi tk t) (by
    rintro i ⟨b, i'⟩ hi ⟨rfl, h1⟩
    simp only at h1 ⊢
    left
    unfold assign_Match_l5
    have e1 := idx_gi (r := tk) hi
    have e2 := idx_gb (r := tkn) (i := i) (by omega)
    have e3 := idx_gi (r := ld) hx
    cases hb : gb tkn i with
    | true =>
      rw [hb] at e2
      exact ⟨_, oit (decide_eq_true (by omega)) (obi e1 (obi e2 (obi (gO_F rfl) (obi (gO_F rfl) (oif rfl (obi (inc_nat (by omega)) rfl)))))), rfl, h1⟩
    | false =>
      rw [hb] at e2
      by_cases c1 : gi ld x ≤ gi tk i
      · by_cases c2 : b < 0
        · exact ⟨_, oit (decide_eq_true (by omega)) (obi e1 (obi e2 (obi (gO_T rfl e3) (obi (gO_F (bandF2 (bnotIf (decide_eq_true c2)))) (oit (band (band rfl (decide_eq_true c1)) (borT (decide_eq_true c2))) (obi (inc_nat (by omega)) rfl)))))), rfl, .inr ⟨i, rfl, hi, hb, c1⟩⟩
        · obtain ⟨t, rfl, ht1, ht2⟩ : ∃ t : Nat, b = t ∧ t < tk.length ∧ gb tkn t = false ∧ gi ld x ≤ gi tk t := by
            rcases h1 with h1 | h1
            · omega
            · exact h1
          have e4 := idx_gi (r := tk) ht1
          by_cases c3 : gi tk i < gi tk t
          · exact ⟨_, oit (decide_eq_true (by omega)) (obi e1 (obi e2 (obi (gO_T rfl e3) (obi (gO_T (band (band rfl (decide_eq_true c1)) (bnotIt (decide_eq_false c2))) e4) (oit (band (band rfl (decide_eq_true c1)) (borT2 (decide_eq_true c3))) (obi (inc_nat (by omega)) rfl)))))), rfl, .inr ⟨i, rfl, hi, hb, c1⟩⟩
          · exact ⟨_, oit (decide_eq_true (by omega)) (obi e1 (obi e2 (obi (gO_T rfl e3) (obi (gO_T (band (band rfl (decide_eq_true c1)) (bnotIt (decide_eq_false c2))) e4) (oif (bandF2 (borF (decide_eq_false c2) (decide_eq_false c3))) (obi (inc_nat (by omega)) rfl)))))), rfl, h1⟩
      · exact ⟨_, oit (decide_eq_true (by omega)) (obi e1 (obi e2 (obi (gO_T rfl e3) (obi (gO_F (bandF (bandF2 (decide_eq_false c1)))) (oif (bandF (bandF2 (decide_eq_false c1))) (obi (inc_nat (by omega)) rfl)))))), rfl, h1⟩) (by
    rintro ⟨b, i'⟩ ⟨rfl, h1⟩
    unfold assign_Match_l5
    exact ⟨_, oif (decide_eq_false (by simp only; omega)) rfl, h1⟩) N (by omega) (-1, 0) ⟨rfl, .inl rfl⟩
  exact ⟨q, hq, hQ⟩
/-- an assignment -/
structure Fit (ld tk l : List Int) : Prop where
  len : l.length = ld.length
  at_ : ∀ i, i < ld.length → (gi ld i = 0 ∧ gi l i = -1) ∨ (0 < gi ld i ∧ ∃ t : Nat, gi l i = t ∧ t < tk.length ∧ gi ld i ≤ gi tk t)
  one : ∀ i j, i < ld.length → j < ld.length → i ≠ j → gi l i = gi l j → gi l i = -1
/-- an assignment under way -/
structure FitP (ld tk l : List Int) (tkn : List Bool) : Prop where
  len : l.length = ld.length
  tl : tkn.length = tk.length
  zero : ∀ i, i < ld.length → gi ld i = 0 → gi l i = -1
  at_ : ∀ i, i < ld.length → gi l i = -1 ∨ ∃ t : Nat, gi l i = t ∧ t < tk.length ∧ gb tkn t = true ∧ gi ld i ≤ gi tk t
  one : ∀ i j, i < ld.length → j < ld.length → i ≠ j → gi l i = gi l j → gi l i = -1
theorem match4 {N : Nat} (hN : 5000 ≤ N) {ld tk o l0 : List Int} (H : LT ld tk) (O : OrdL ld o) {t0 : List Bool} (F0 : FitP ld tk l0 t0) : ∃ q, iterN (fun s : Int × List Int × List Bool => assign_Match_l4 N ld tk o s.1 s.2.1 s.2.2) N (0, l0, t0) = some q ∧ ((∃ r, q = .inl ([], r, 14) ∧ 0 < r.length) ∨ ∃ l, q = .inr l ∧ Fit ld tk l) := by
  have hol := O.len
  refine runN (f := fun s : Int × List Int × List Bool => assign_Match_l4 N ld tk o s.1 s.2.1 s.2.2) o.length
    (fun p s => s.1 = p ∧ FitP ld tk s.2.1 s.2.2 ∧ ∀ q, q < p → gi s.2.1 (gi o q).toNat ≠ -1) _ ?_ ?_ N (by omega) (0, l0, t0) ⟨rfl, F0, fun q h => absurd h (Nat.not_lt_zero _)⟩
  · rintro p ⟨p', l, tkn⟩ hp ⟨rfl, F, G⟩
    simp only at F G ⊢
    obtain ⟨x, ex, hx, x0⟩ := O.rng p hp
    obtain ⟨b, hb, hB⟩ := best_ok hN H F.tl hx
    have eo : idx o (p : Int) = some (x : Int) := by rw [idx_gi hp, ex]
    unfold assign_Match_l4
    rcases hB with rfl | ⟨t, rfl, b1, b2, b3⟩
    · right
      have hsl : slc o 0 ((p + 1 : Nat) : Int) = some ((o.take (p + 1)).drop 0) := slc_nat (l := o) (a := 0) (b := p + 1) (by omega) (by omega)
      rw [List.drop_zero] at hsl
      have htl : (o.take (p + 1)).length = p + 1 := by rw [List.length_take]; omega
      obtain ⟨r, hr, hp2⟩ := sortI_ok (o.take (p + 1)) (by omega)
      refine ⟨_, oit (decide_eq_true (by omega)) (obi eo (obi hb (oit rfl (obi (inc_nat (by omega)) (obi hsl (obi (clone_ok N (by omega)) (obi hr rfl))))))), .inl ⟨r, rfl, ?_⟩⟩
      rw [hp2.length_eq]; omega
    · left
      have e1 := idx_gb (r := tkn) (i := t) (by rw [F.tl]; exact b1)
      have e2 := idx_gi (r := l) (i := x) (by rw [F.len]; exact hx)
      have hlx : x < l.length := by rw [F.len]; exact hx
      have htt : t < tkn.length := by rw [F.tl]; exact b1
      have free : ∀ i, i < ld.length → gi l i ≠ (t : Int) := fun i hi e => by
        rcases F.at_ i hi with h | ⟨t', h1, _, h2, _⟩
        · omega
        · have : t' = t := by omega
          subst this
          rw [b2] at h2; cases h2
      refine ⟨_, oit (decide_eq_true (by omega)) (obi eo (obi hb (oif (decide_eq_false (by omega)) (obi e1 (obi e2 (obi (inc_nat (by omega)) rfl)))))), rfl, ⟨by simpa using F.len, by simpa using F.tl, fun i hi h0 => ?_, fun i hi => ?_, fun i j hi hj hij e => ?_⟩, fun q hq => ?_⟩
      · simp only [Int.toNat_natCast]
        rw [gi_set hlx, if_neg (by intro e; subst e; omega)]
        exact F.zero i hi h0
      · simp only [Int.toNat_natCast]
        rw [gi_set hlx]
        by_cases e : i = x
        · rw [if_pos e]
          exact .inr ⟨t, rfl, b1, by rw [gb_set htt, if_pos rfl], by rw [e]; exact b3⟩
        · rw [if_neg e]
          rcases F.at_ i hi with h | ⟨t', h1, h2, h3, h4⟩
          · exact .inl h
          · refine .inr ⟨t', h1, h2, ?_, h4⟩
            rw [gb_set htt]
            split
            · rfl
            · exact h3
      · simp only [Int.toNat_natCast] at e ⊢
        rw [gi_set hlx, gi_set hlx] at e
        rw [gi_set hlx]
        by_cases ei : i = x
        · rw [if_pos ei] at e
          rw [if_neg (by omega)] at e
          exact absurd e.symm (free j hj)
        · rw [if_neg ei] at e ⊢
          by_cases ej : j = x
          · rw [if_pos ej] at e
            exact absurd e (free i hi)
          · rw [if_neg ej] at e
            exact F.one i j hi hj hij e
      · simp only [Int.toNat_natCast]
        rw [gi_set hlx]
        by_cases e : (gi o q).toNat = x
        · rw [if_pos e]; omega
        · rw [if_neg e]
          refine G q ?_
          by_cases eq : q = p
          · subst eq
            rw [ex] at e
            exact absurd (Int.toNat_natCast x) e
          · omega
  · rintro ⟨p', l, tkn⟩ ⟨rfl, F, G⟩
    unfold assign_Match_l4
    refine ⟨_, oif (decide_eq_false (by simp only; omega)) rfl, .inr ⟨l, rfl, F.len, fun i hi => ?_, F.one⟩⟩
    simp only at F G
    have hr := H.l2 i hi
    by_cases c : gi ld i = 0
    · exact .inl ⟨c, F.zero i hi c⟩
    · right
      obtain ⟨p, hp, ep⟩ := O.all i hi (by omega)
      have g := G p hp
      rw [ep, Int.toNat_natCast] at g
      rcases F.at_ i hi with h | ⟨t, h1, h2, _, h4⟩
      · exact absurd h g
      · exact ⟨by omega, t, h1, h2, h4⟩
theorem match_ok {N : Nat} (hN : 5000 ≤ N) {ld tk : List Int} (H : LT ld tk) : (∃ r, assign_Match N ld tk = some ([], r, 14) ∧ 0 < r.length) ∨ ∃ l, assign_Match N ld tk = some (l, [], 0) ∧ Fit ld tk l := by
  have hl1 := H.l1
  have ht1 := H.t1
  obtain ⟨o, ho, O⟩ := aorder_ok hN H.l1 H.l2
  have m1 : mkL 8 (ld.length : Int) (0 : Int) = some (List.replicate ld.length 0) := mkL_ok _ (by omega) (by omega)
  have m2 : mkL 1 (tk.length : Int) false = some (List.replicate tk.length false) := mkL_ok _ (by omega) (by omega)
  obtain ⟨l0, h0, h1, h2⟩ := runN (f := fun s : Int × List Int => assign_Match_l1 N (List.replicate ld.length 0) s.1 s.2) ld.length
    (fun i s => s.1 = i ∧ s.2.length = ld.length ∧ ∀ j, j < i → gi s.2 j = -1) (fun q => q.length = ld.length ∧ ∀ j, j < ld.length → gi q j = -1) (by
    rintro i ⟨i', r⟩ hi ⟨rfl, h1, h2⟩
    simp only at h1 h2 ⊢
    left
    unfold assign_Match_l1
    refine ⟨_, oit (decide_eq_true (by rw [List.length_replicate]; omega)) (obi (idx_gi (r := r) (i := i) (by omega)) (obi (inc_nat (by omega)) rfl)), rfl, by simpa using h1, fun j hj => ?_⟩
    simp only [Int.toNat_natCast]
    rw [gi_set (by omega)]
    split
    · rfl
    · exact h2 j (by omega)) (by
    rintro ⟨i', r⟩ ⟨rfl, h1, h2⟩
    unfold assign_Match_l1
    exact ⟨_, oif (decide_eq_false (by simp only [List.length_replicate]; omega)) rfl, h1, h2⟩) N (by omega) (0, List.replicate ld.length 0) ⟨rfl, by simp, fun j h => absurd h (Nat.not_lt_zero _)⟩
  obtain ⟨q, hq, hQ⟩ := match4 hN H O (l0 := l0) (t0 := List.replicate tk.length false) ⟨h1, by simp, fun i hi _ => h2 i hi, fun i hi => .inl (h2 i hi), fun i j hi _ _ _ => h2 i hi⟩
  rcases hQ with ⟨r, rfl, hr⟩ | ⟨l, rfl, F⟩
  · left
    refine ⟨r, ?_, hr⟩
    unfold assign_Match
    exact obi (acheck_ok hN H) (oif rfl (obi m1 (obi h0 (obi m2 (obi ho (obi hq rfl))))))
  · right
    refine ⟨l, ?_, F⟩
    unfold assign_Match
    exact obi (acheck_ok hN H) (oif rfl (obi m1 (obi h0 (obi m2 (obi ho (obi hq rfl))))))
theorem fits_ok {N : Nat} (hN : 5000 ≤ N) {ld tk l : List Int} (H : LT ld tk) (F : Fit ld tk l) : assign_Fits N ld tk l = some true := by
  have hl1 := H.l1
  have ht1 := H.t1
  have hfl := F.len
  have m2 : mkL 1 (tk.length : Int) false = some (List.replicate tk.length false) := mkL_ok _ (by omega) (by omega)
  have hq : iterN (fun s : Int × List Bool => assign_Fits_l1 N ld tk l s.1 s.2) N (0, List.replicate tk.length false) = some (.inr ()) := by
    refine runN1 (f := fun s : Int × List Bool => assign_Fits_l1 N ld tk l s.1 s.2) l.length
      (fun i s => s.1 = i ∧ s.2.length = tk.length ∧ ∀ t : Nat, gb s.2 t = true → ∃ j, j < i ∧ gi l j = t) _ ?_ ?_ N (by omega) (0, List.replicate tk.length false) ⟨rfl, by simp, fun t h => by simp only at h; rw [gb_rep] at h; cases h⟩
    · rintro i ⟨i', tkn⟩ hi ⟨rfl, h1, h2⟩
      simp only at h1 h2 ⊢
      have hi2 : i < ld.length := by omega
      unfold assign_Fits_l1
      rcases F.at_ i hi2 with ⟨c, e⟩ | ⟨c, t, e, t1, t2⟩
      · exact ⟨_, oit (decide_eq_true (by omega)) (obi (idx_gi hi) (obi (idx_gi hi2) (oit (decide_eq_true c) (oif (bnotIf (decide_eq_true e)) (obi (inc_nat (by omega)) rfl))))), rfl, h1, fun t ht => by
          obtain ⟨j, j1, j2⟩ := h2 t ht
          exact ⟨j, by omega, j2⟩⟩
      · have ei : idx l (i : Int) = some (t : Int) := by rw [idx_gi hi, e]
        have hfree : gb tkn t = false := by
          cases hg : gb tkn t with
          | false => rfl
          | true =>
            obtain ⟨j, j1, j2⟩ := h2 t hg
            have := F.one i j hi2 (by omega) (by omega) (by omega)
            omega
        have eb : idx tkn (t : Int) = some false := by rw [idx_gb (by omega), hfree]
        have g1 : (decide ((t : Int) < 0) || decide ((tk.length : Int) ≤ (t : Int))) = false := borF (decide_eq_false (by omega)) (decide_eq_false (by omega))
        refine ⟨_, oit (decide_eq_true (by omega)) (obi ei (obi (idx_gi hi2) (oif (decide_eq_false (by omega)) (obi (gO_T (bnotIt g1) eb) (obi (gO_T (bnotIt (borF g1 rfl)) (idx_gi t1)) (obi (gO_T (bnotIt (borF g1 rfl)) (idx_gi hi2)) (oif (borF (borF g1 rfl) (decide_eq_false (by omega))) (obi eb (obi (inc_nat (by omega)) rfl))))))))), rfl, by simpa using h1, fun t' ht' => ?_⟩
        simp only [Int.toNat_natCast] at ht'
        rw [gb_set (by omega)] at ht'
        by_cases et : t' = t
        · exact ⟨i, by omega, by rw [e, et]⟩
        · rw [if_neg et] at ht'
          obtain ⟨j, j1, j2⟩ := h2 t' ht'
          exact ⟨j, by omega, j2⟩
    · rintro ⟨i', tkn⟩ ⟨rfl, h1, h2⟩
      unfold assign_Fits_l1
      exact oif (decide_eq_false (by simp only; omega)) rfl
  unfold assign_Fits
  exact obi (acheck_ok hN H) (oif (borF rfl (bnotIf (decide_eq_true (by omega)))) (obi m2 (obi hq rfl)))
end Go.Gv
