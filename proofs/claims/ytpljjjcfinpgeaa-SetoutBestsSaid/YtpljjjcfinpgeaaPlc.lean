/- Setting out (chapter 34): SetoutAdds, SetoutBests and SetoutTails. -/
import Derived.Test.YtpljjjcfinpgeaaPlb
namespace Go.Gv
theorem train_in {l : List Int} (h : ∀ x ∈ l, 0 ≤ x ∧ x < 5) : okL l 16 = true := okL_iff.2 fun x hx => by have := h x hx; omega
theorem PL_good {l : List Int} (hl : l.length ≤ 96) (h : okL l 16 = true) : PL l 16 = (planL l 16, 0) := by
  unfold PL
  rw [if_neg (by omega), if_neg (by omega), h]; rfl
theorem GL_good {l : List Int} (hl : l.length ≤ 96) (h : okL l 16 = true) : GL l = ((sumG l 16 : Int), 0) := by
  unfold GL
  rw [if_neg (by omega), h]; rfl
theorem BL_good {l : List Int} (hl : l.length ≤ 96) (h : okL l 16 = true) : BL l = (bestL l, 0) := by
  unfold BL
  rw [if_neg (by omega), h]; rfl
theorem gr_pos {s : Int} : ∀ {l : List Int}, 0 < gr s false l ↔ s ∈ l
  | [] => by simp [gr]
  | x :: t => by
    rw [gr_cons]
    by_cases e : x = s
    · rw [if_pos e]; simp [e]; omega
    · rw [if_neg e]
      have : (if s < x then gr s false t else gr s false t) = gr s false t := by split <;> rfl
      rw [this, gr_pos, List.mem_cons]
      constructor
      · exact .inr
      · rintro (h | h)
        · exact absurd h.symm e
        · exact h
theorem planL_stops (l : List Int) : ∀ n : Nat, (planL l n).Pairwise (fun x y => x.Stop < y.Stop)
  | 0 => List.Pairwise.nil
  | n + 1 => by
    rw [planL_succ]
    refine List.pairwise_append.2 ⟨planL_stops l n, ?_, fun x hx y hy => ?_⟩
    · unfold rowL; split <;> simp
    · obtain ⟨s, hs, _, rfl⟩ := row_of hx
      unfold rowL at hy
      split at hy
      · simp at hy; rw [hy]; simp only; omega
      · simp at hy
def sumW (l : List Int) : Nat → Nat
  | 0 => 0
  | n + 1 => sumW l n + l.count (n : Int)
theorem sumW_rows (l : List Int) : ∀ n, ((planL l n).map (·.Wagons)).sum = (sumW l n : Int)
  | 0 => rfl
  | n + 1 => by
    rw [planL_succ, List.map_append, List.sum_append, sumW_rows l n]
    unfold rowL
    by_cases h : 0 < l.count (n : Int)
    · rw [if_pos h]; simp [sumW]
    · rw [if_neg h]; simp [sumW, Nat.eq_zero_of_not_pos h]
theorem sumW_cons (x : Int) (t : List Int) : ∀ n : Nat, sumW (x :: t) n = sumW t n + if 0 ≤ x ∧ x < n then 1 else 0
  | 0 => by simp only [sumW]; rw [if_neg (by omega)]
  | n + 1 => by
    simp only [sumW]
    rw [sumW_cons x t n, List.count_cons]
    by_cases h : x = n
    · rw [if_neg (by omega), if_pos (by simp [h]), if_pos (by omega)]; omega
    · by_cases h2 : 0 ≤ x ∧ x < n
      · rw [if_pos h2, if_neg (by simpa using h), if_pos (by omega)]; omega
      · rw [if_neg h2, if_neg (by simpa using h), if_neg (by omega)]; omega
theorem sumW_all {n : Nat} : ∀ {l : List Int}, (∀ x ∈ l, 0 ≤ x ∧ x < n) → sumW l n = l.length
  | [], _ => by
    have : ∀ n, sumW [] n = 0 := by
      intro n; induction n with
      | zero => rfl
      | succ n ih => simp [sumW, ih]
    exact this n
  | x :: t, h => by
    rw [sumW_cons, sumW_all fun y hy => h y (List.mem_cons_of_mem _ hy), if_pos (h x List.mem_cons_self)]; rfl
theorem SetoutAdds_true (t : List Int) : law34_SetoutAdds 2000 t = some true := by
  have hN : 2000 ≤ 2000 := Nat.le_refl _
  obtain ⟨k', l, hl, _, _, hlen, hx⟩ := train_ok hN t (k := 0) (by omega) (by omega) (n := 24) (by omega)
  have hin := train_in hx
  have hP := Plan_eq hN l 16
  rw [PL_good (by omega) hin] at hP
  have hG := Groups_eq hN l
  rw [GL_good (by omega) hin] at hG
  have hp := planL_len l 16
  have hrow : ∀ x ∈ planL l 16, 1 ≤ x.Groups ∧ x.Groups ≤ x.Wagons ∧ x.Wagons ≤ 96 := fun x hx => by
    obtain ⟨s, _, hc, rfl⟩ := row_of hx
    have h1 := gr_le s l false
    have h2 : 0 < gr s false l := gr_pos.2 (List.count_pos_iff.1 hc)
    have h3 : l.count (s : Int) ≤ l.length := List.count_le_length
    simp only; omega
  have hst := planL_stops l 16
  have h1 : iterN (fun s : Int × Int × Int => law34_SetoutAdds_l1 2000 (planL l 16, 0) s.1 s.2.1 s.2.2) 2000 ((sumG l 16 : Int), 0, 0) = some (.inr (0, (l.length : Int))) := by
    refine runN1 (f := fun s : Int × Int × Int => law34_SetoutAdds_l1 2000 (planL l 16, 0) s.1 s.2.1 s.2.2) (planL l 16).length
      (fun i u => u.2.2 = i ∧ u.1 = (sumG l 16 : Int) - (((planL l 16).take i).map (·.Groups)).sum ∧ u.2.1 = (((planL l 16).take i).map (·.Wagons)).sum) _ ?_ ?_ 2000 (by omega) _ ⟨rfl, by simp, by simp⟩
    · rintro i ⟨a, b, j⟩ hi ⟨rfl, rfl, rfl⟩
      simp only
      have hr := hrow _ (List.getElem_mem hi)
      have b1 := sum_le (l := ((planL l 16).take i).map (·.Groups)) (b := 96) (fun y hy => by
        obtain ⟨x, hx, rfl⟩ := List.mem_map.1 hy
        have := hrow x (List.mem_of_mem_take hx); omega)
      have b2 := sum_le (l := ((planL l 16).take i).map (·.Wagons)) (b := 96) (fun y hy => by
        obtain ⟨x, hx, rfl⟩ := List.mem_map.1 hy
        have := hrow x (List.mem_of_mem_take hx); omega)
      have hl1 : (((planL l 16).take i).map (·.Groups)).length ≤ 16 := by simp; omega
      have hl2 : (((planL l 16).take i).map (·.Wagons)).length ≤ 16 := by simp; omega
      have hs := sumG_le l 16
      have e1 : idx (planL l 16) (i : Int) = some (planL l 16)[i] := idx_nat hi
      have fin : ∀ P : Bool, P = false → (bif P then some (.inr (Sum.inl false)) else (Option.bind (idx (planL l 16) (i : Int)) fun x257 => Option.bind (in64 ((((planL l 16).take i).map (·.Wagons)).sum + x257.Wagons)) fun x260 => Option.bind (idx (planL l 16) (i : Int)) fun x263 => Option.bind (in64 ((sumG l 16 : Int) - (((planL l 16).take i).map (·.Groups)).sum - x263.Groups)) fun x266 => Option.bind (in64 ((i : Int) + 1)) fun x269 => some (.inl (x266, x260, x269)))) = (some (.inl ((sumG l 16 : Int) - (((planL l 16).take i).map (·.Groups)).sum - (planL l 16)[i].Groups, (((planL l 16).take i).map (·.Wagons)).sum + (planL l 16)[i].Wagons, ((i + 1 : Nat) : Int))) : Option ((Int × Int × Int) ⊕ (Bool ⊕ (Int × Int)))) := fun P hP =>
        oif hP (obi e1 (obi (in64_ok (by omega)) (obi e1 (obi (in64_ok (by omega)) (obi (inc_nat (by omega)) rfl)))))
      unfold law34_SetoutAdds_l1
      refine ⟨((sumG l 16 : Int) - (((planL l 16).take i).map (·.Groups)).sum - (planL l 16)[i].Groups, (((planL l 16).take i).map (·.Wagons)).sum + (planL l 16)[i].Wagons, ((i + 1 : Nat) : Int)), oit (decide_eq_true (by simp only; omega)) ?_, rfl, ?_, ?_⟩
      · by_cases h0 : i = 0
        · have d0 : decide (0 < (i : Int)) = false := decide_eq_false (by omega)
          have q1 : ∀ b, (decide (0 < (i : Int)) && b) = false := fun b => bandF d0
          have g1 : decide ((planL l 16)[i].Groups < 1) = false := decide_eq_false (by omega)
          exact obi (gO_F d0) (obi (gO_F d0) (obi (gO_F d0) (obi (gO_T (bnotIt (q1 _)) e1) (obi (gO_T (bnotIt (borF (q1 _) g1)) e1) (obi (gO_T (bnotIt (borF (q1 _) g1)) e1) (fin _ (borF (borF (q1 _) g1) (decide_eq_false (by omega)))))))))
        · have d0 : decide (0 < (i : Int)) = true := decide_eq_true (by omega)
          have e0 : idx (planL l 16) ((i - 1 : Nat) : Int) = some (planL l 16)[i - 1] := idx_nat (by omega)
          have hlt := List.pairwise_iff_getElem.1 hst (i - 1) i (by omega) hi (by omega)
          have q1 : (decide (0 < (i : Int)) && decide ((planL l 16)[i].Stop ≤ (planL l 16)[i - 1].Stop)) = false := bandF2 (decide_eq_false (by omega))
          have g1 : decide ((planL l 16)[i].Groups < 1) = false := decide_eq_false (by omega)
          exact obi (gO_T d0 e1) (obi (gO_T d0 (in64_nat (n := i - 1) (by omega) (by omega))) (obi (gO_T d0 e0) (obi (gO_T (bnotIt q1) e1) (obi (gO_T (bnotIt (borF q1 g1)) e1) (obi (gO_T (bnotIt (borF q1 g1)) e1) (fin _ (borF (borF q1 g1) (decide_eq_false (by omega)))))))))
      · simp only
        rw [take_snoc hi, List.map_append, List.sum_append]; simp; omega
      · simp only
        rw [take_snoc hi, List.map_append, List.sum_append]; simp
    · rintro ⟨a, b, j⟩ ⟨rfl, rfl, rfl⟩
      simp only
      rw [List.take_length, sumG_rows, sumW_rows, sumW_all (n := 16) (fun x h => by have := hx x h; omega)]
      rw [show (sumG l 16 : Int) - (sumG l 16 : Int) = 0 by omega]
      exact oif (decide_eq_false (by simp only; omega)) rfl
  unfold law34_SetoutAdds
  refine obi rfl (obi hl (obi hP (obi hG (oif rfl (obi h1 ?_)))))
  have q : (decide (((0 : Int), (l.length : Int)).2 = (List.length (k', l).2 : Int)) && decide (((0 : Int), (l.length : Int)).1 = 0)) = true := band (decide_eq_true rfl) (decide_eq_true rfl)
  exact obi (gO_T q sane_ok) (congrArg some (band q rfl))

/-! tails -/
def lat (s : Int) : List Int → Bool
  | [] => false
  | x :: t => (decide (s < x) && t.contains s) || lat s t
def btw (s : Int) : List Int → Bool
  | [] => false
  | x :: t => (decide (x = s) && lat s t) || btw s t
theorem lat_mem {s : Int} : ∀ {l : List Int}, lat s l = true → s ∈ l
  | [], h => by cases h
  | x :: t, h => by
    simp only [lat, Bool.or_eq_true, Bool.and_eq_true] at h
    rcases h with h | h
    · exact List.mem_cons_of_mem _ (by simpa using h.2)
    · exact List.mem_cons_of_mem _ (lat_mem h)
theorem btw_lat {s : Int} : ∀ {l : List Int}, btw s l = true → lat s l = true
  | [], h => by cases h
  | x :: t, h => by
    simp only [btw, Bool.or_eq_true, Bool.and_eq_true] at h
    simp only [lat, Bool.or_eq_true]
    rcases h with h | h
    · exact .inr h.2
    · exact .inr (btw_lat h)
theorem gr_lat {s : Int} : ∀ {l : List Int}, 0 < gr s true l ↔ lat s l = true
  | [] => by simp [gr, lat]
  | x :: t => by
    rw [gr_cons]
    simp only [lat, Bool.or_eq_true, Bool.and_eq_true, decide_eq_true_eq, cond_true, Nat.zero_add]
    by_cases e : x = s
    · rw [if_pos e, gr_lat]
      exact ⟨.inr, fun h => h.elim (fun h => by omega) id⟩
    · rw [if_neg e]
      by_cases h2 : s < x
      · rw [if_pos h2, gr_pos]
        constructor
        · exact fun h => .inl ⟨h2, by simpa using h⟩
        · rintro (h | h)
          · simpa using h.2
          · exact lat_mem h
      · rw [if_neg h2, gr_lat]
        exact ⟨.inr, fun h => h.elim (fun h => by omega) id⟩
theorem gr_btw {s : Int} : ∀ {l : List Int}, 2 ≤ gr s false l ↔ btw s l = true
  | [] => by simp [gr, btw]
  | x :: t => by
    rw [gr_cons]
    simp only [btw, Bool.or_eq_true, Bool.and_eq_true, decide_eq_true_eq, cond_false]
    by_cases e : x = s
    · rw [if_pos e]
      have := gr_lat (s := s) (l := t)
      constructor
      · exact fun h => .inl ⟨e, this.1 (by omega)⟩
      · rintro (h | h)
        · have := this.2 h.2; omega
        · have := this.2 (btw_lat h); omega
    · rw [if_neg e]
      have : (if s < x then gr s false t else gr s false t) = gr s false t := by split <;> rfl
      rw [this, gr_btw]
      exact ⟨.inr, fun h => h.elim (fun h => absurd h.1 e) id⟩
theorem lat_iff {s : Int} : ∀ {l : List Int}, lat s l = true ↔ ∃ (j k : Nat) (x : Int), j < k ∧ l[j]? = some x ∧ s < x ∧ l[k]? = some s
  | [] => by simp [lat]
  | y :: t => by
    simp only [lat, Bool.or_eq_true, Bool.and_eq_true, decide_eq_true_eq]
    constructor
    · rintro (h | h)
      · have : s ∈ t := by simpa using h.2
        obtain ⟨k, hk, e⟩ := List.getElem_of_mem this
        exact ⟨0, k + 1, y, by omega, rfl, h.1, by rw [List.getElem?_cons_succ, List.getElem?_eq_getElem hk, e]⟩
      · obtain ⟨j, k, x, h1, h2, h3, h4⟩ := lat_iff.1 h
        exact ⟨j + 1, k + 1, x, by omega, by simpa using h2, h3, by simpa using h4⟩
    · rintro ⟨j, k, x, h1, h2, h3, h4⟩
      obtain ⟨k', rfl⟩ : ∃ k', k = k' + 1 := ⟨k - 1, by omega⟩
      have h4' : t[k']? = some s := by simpa using h4
      cases j with
      | zero =>
        have : y = x := by simpa using h2
        exact .inl ⟨by omega, by simpa using List.mem_of_getElem? h4'⟩
      | succ j => exact .inr (lat_iff.2 ⟨j, k', x, by omega, by simpa using h2, h3, h4'⟩)
theorem btw_iff {s : Int} : ∀ {l : List Int}, btw s l = true ↔ ∃ (i j k : Nat) (x : Int), i < j ∧ j < k ∧ l[i]? = some s ∧ l[j]? = some x ∧ s < x ∧ l[k]? = some s
  | [] => by simp [btw]
  | y :: t => by
    simp only [btw, Bool.or_eq_true, Bool.and_eq_true, decide_eq_true_eq]
    constructor
    · rintro (⟨h, h'⟩ | h)
      · obtain ⟨j, k, x, h1, h2, h3, h4⟩ := lat_iff.1 h'
        exact ⟨0, j + 1, k + 1, x, by omega, by omega, by simp [h], by simpa using h2, h3, by simpa using h4⟩
      · obtain ⟨i, j, k, x, h0, h1, h2, h3, h4, h5⟩ := btw_iff.1 h
        exact ⟨i + 1, j + 1, k + 1, x, by omega, by omega, by simpa using h2, by simpa using h3, h4, by simpa using h5⟩
    · rintro ⟨i, j, k, x, h0, h1, h2, h3, h4, h5⟩
      obtain ⟨k', rfl⟩ : ∃ k', k = k' + 1 := ⟨k - 1, by omega⟩
      obtain ⟨j', rfl⟩ : ∃ j', j = j' + 1 := ⟨j - 1, by omega⟩
      have h5' : t[k']? = some s := by simpa using h5
      have h3' : t[j']? = some x := by simpa using h3
      cases i with
      | zero => exact .inl ⟨by simpa using h2, lat_iff.2 ⟨j', k', x, by omega, h3', h4, h5'⟩⟩
      | succ i => exact .inr (btw_iff.2 ⟨i, j', k', x, by omega, by omega, by simpa using h2, h3', h4, h5'⟩)
theorem ends_ok {l : List Int} (hl : l.length ≤ 96) (kk : Int) {P : List T_SetOut × Int} {i : Nat} (hi : i < P.1.length) (hs : P.1[i].Stop ∈ l) :
    ∃ a b : Nat, iterN (fun s : Int × Int × Int => law34_SetoutTails_l6 2000 (kk, l) P i s.1 s.2.1 s.2.2) 2000 ((-1), (-1), 0) = some ((a : Int), (b : Int)) ∧ a ≤ b ∧ b < l.length ∧ l[a]? = some P.1[i].Stop ∧ l[b]? = some P.1[i].Stop ∧ ∀ k, l[k]? = some P.1[i].Stop → a ≤ k ∧ k ≤ b := by
  obtain ⟨s, hse⟩ : ∃ s, s = P.1[i].Stop := ⟨_, rfl⟩
  obtain ⟨r, hr, a, b, rfl, h⟩ := runN (f := fun s : Int × Int × Int => law34_SetoutTails_l6 2000 (kk, l) P i s.1 s.2.1 s.2.2) l.length
    (fun j u => u.2.2 = j ∧ ((u.1 = -1 ∧ u.2.1 = -1 ∧ ∀ k, k < j → l[k]? ≠ some s) ∨ ∃ a b : Nat, u.1 = a ∧ u.2.1 = b ∧ a ≤ b ∧ b < j ∧ l[a]? = some s ∧ l[b]? = some s ∧ ∀ k, k < j → l[k]? = some s → a ≤ k ∧ k ≤ b))
    (fun r => ∃ a b : Nat, r = ((a : Int), (b : Int)) ∧ a ≤ b ∧ b < l.length ∧ l[a]? = some s ∧ l[b]? = some s ∧ ∀ k, l[k]? = some s → a ≤ k ∧ k ≤ b) (by
      rintro j ⟨f, la, j'⟩ hj ⟨rfl, hI⟩
      simp only at hI ⊢
      left
      have e1 : idx l (j : Int) = some l[j] := idx_nat hj
      have e2 : idx P.1 (i : Int) = some P.1[i] := idx_nat hi
      have ej : l[j]? = some l[j] := List.getElem?_eq_getElem hj
      unfold law34_SetoutTails_l6
      by_cases e : l[j] = s
      · have dT : decide (l[j] = P.1[i].Stop) = true := decide_eq_true (by rw [← hse, e])
        rcases hI with ⟨rfl, rfl, hno⟩ | ⟨a, b, rfl, rfl, h1, h2, h3, h4, h5⟩
        · refine ⟨_, oit (decide_eq_true (by simp only; omega)) (obi e1 (obi e2 (oit dT (oit (decide_eq_true (by omega)) (obi (inc_nat (by omega)) rfl))))), rfl, .inr ⟨j, j, rfl, rfl, Nat.le_refl _, by omega, by rw [ej, e], by rw [ej, e], fun k hk hks => ?_⟩⟩
          by_cases ek : k = j
          · omega
          · exact absurd hks (hno k (by omega))
        · refine ⟨_, oit (decide_eq_true (by simp only; omega)) (obi e1 (obi e2 (oit dT (oif (decide_eq_false (by omega)) (obi (inc_nat (by omega)) rfl))))), rfl, .inr ⟨a, j, rfl, rfl, by omega, by omega, h3, by rw [ej, e], fun k hk hks => ?_⟩⟩
          by_cases ek : k = j
          · omega
          · have := h5 k (by omega) hks; omega
      · have dF : decide (l[j] = P.1[i].Stop) = false := decide_eq_false (by rw [← hse]; exact e)
        have hnj : l[j]? ≠ some s := by rw [ej]; exact fun h => e (Option.some.inj h)
        refine ⟨_, oit (decide_eq_true (by simp only; omega)) (obi e1 (obi e2 (oif dF (obi (inc_nat (by omega)) rfl)))), rfl, ?_⟩
        rcases hI with ⟨rfl, rfl, hno⟩ | ⟨a, b, rfl, rfl, h1, h2, h3, h4, h5⟩
        · refine .inl ⟨rfl, rfl, fun k hk => ?_⟩
          by_cases ek : k = j
          · subst ek; exact hnj
          · exact hno k (by omega)
        · refine .inr ⟨a, b, rfl, rfl, h1, by omega, h3, h4, fun k hk hks => ?_⟩
          by_cases ek : k = j
          · subst ek; exact absurd hks hnj
          · exact h5 k (by omega) hks) (by
      rintro ⟨f, la, j'⟩ ⟨rfl, hI⟩
      simp only at hI ⊢
      rcases hI with ⟨rfl, rfl, hno⟩ | ⟨a, b, rfl, rfl, h1, h2, h3, h4, h5⟩
      · obtain ⟨k, hk, e⟩ := List.getElem_of_mem hs
        exact absurd (by rw [List.getElem?_eq_getElem hk, e, hse]) (hno k hk)
      · exact ⟨_, oif (decide_eq_false (by simp only; omega)) rfl, a, b, rfl, h1, h2, h3, h4, fun k hks => h5 k (List.getElem?_eq_some_iff.1 hks).1 hks⟩) 2000 (by omega) ((-1), (-1), 0) ⟨rfl, .inl ⟨rfl, rfl, fun k h => absurd h (Nat.not_lt_zero _)⟩⟩
  exact ⟨a, b, hr, by rw [← hse]; exact h⟩
theorem between_ok {l : List Int} (hl : l.length ≤ 96) (kk : Int) {P : List T_SetOut × Int} {i : Nat} (hi : i < P.1.length) {a b : Nat} (hab : a ≤ b) (hb : b < l.length) :
    ∃ q : Bool, iterN (fun s : Bool × Int => law34_SetoutTails_l7 2000 (kk, l) P i ((a : Int), (b : Int)) s.1 s.2) 2000 (false, max (a : Int) 0) = some q ∧ (q = true ↔ ∃ (k : Nat) (x : Int), a ≤ k ∧ k < b ∧ l[k]? = some x ∧ P.1[i].Stop < x) := by
  obtain ⟨r, hr, hQ⟩ := runN (f := fun s : Bool × Int => law34_SetoutTails_l7 2000 (kk, l) P i ((a : Int), (b : Int)) s.1 s.2) (b - a)
    (fun j u => u.2 = ((a + j : Nat) : Int) ∧ (u.1 = true ↔ ∃ (k : Nat) (x : Int), a ≤ k ∧ k < a + j ∧ l[k]? = some x ∧ P.1[i].Stop < x))
    (fun q => (q = true ↔ ∃ (k : Nat) (x : Int), a ≤ k ∧ k < b ∧ l[k]? = some x ∧ P.1[i].Stop < x)) (by
      rintro j ⟨q, j'⟩ hj ⟨rfl, hq⟩
      simp only at hq ⊢
      left
      have hlt : a + j < l.length := by omega
      have e1 : idx l ((a + j : Nat) : Int) = some l[a + j] := idx_nat hlt
      have e2 : idx P.1 (i : Int) = some P.1[i] := idx_nat hi
      have ej : l[a + j]? = some l[a + j] := List.getElem?_eq_getElem hlt
      unfold law34_SetoutTails_l7
      have step : ∀ q' : Bool, (q' = true ↔ q = true ∨ P.1[i].Stop < l[a + j]) → (q' = true ↔ ∃ (k : Nat) (x : Int), a ≤ k ∧ k < a + (j + 1) ∧ l[k]? = some x ∧ P.1[i].Stop < x) := fun q' h => by
        rw [h, hq]
        constructor
        · rintro (⟨k, x, h1, h2, h3⟩ | h)
          · exact ⟨k, x, h1, by omega, h3⟩
          · exact ⟨a + j, _, by omega, by omega, ej, h⟩
        · rintro ⟨k, x, h1, h2, h3, h4⟩
          by_cases e : k = a + j
          · subst e; rw [ej] at h3; rw [Option.some.inj h3]; exact .inr h4
          · exact .inl ⟨k, x, h1, by omega, h3, h4⟩
      cases q with
      | true => exact ⟨_, oit (decide_eq_true (by simp only; omega)) (obi (gO_F rfl) (obi (gO_F rfl) (obi (inc_nat (by omega)) rfl))), rfl, step _ ⟨fun _ => .inl rfl, fun _ => rfl⟩⟩
      | false =>
        refine ⟨_, oit (decide_eq_true (by simp only; omega)) (obi (gO_T rfl e1) (obi (gO_T rfl e2) (obi (inc_nat (by omega)) rfl))), rfl, step _ ?_⟩
        simp only [Bool.false_or, decide_eq_true_eq, Bool.false_eq_true, false_or]) (by
      rintro ⟨q, j'⟩ ⟨rfl, hq⟩
      simp only at hq ⊢
      rw [show a + (b - a) = b by omega] at hq ⊢
      exact ⟨q, oif (decide_eq_false (by simp only; omega)) rfl, hq⟩) 2000 (by omega) (false, max (a : Int) 0) ⟨by simp only; omega, by
      simp only
      constructor
      · intro h; cases h
      · rintro ⟨k, x, h1, h2, _⟩; omega⟩
  exact ⟨r, hr, hQ⟩
theorem SetoutTails_true (t : List Int) : law34_SetoutTails 2000 t = some true := by
  have hN : 2000 ≤ 2000 := Nat.le_refl _
  obtain ⟨k', l, hl, _, _, hlen, hx⟩ := train_ok hN t (k := 0) (by omega) (by omega) (n := 20) (by omega)
  have hin := train_in hx
  have hP := Plan_eq hN l 16
  rw [PL_good (by omega) hin] at hP
  have hp := planL_len l 16
  have h1 : iterN (fun s : Int => law34_SetoutTails_l5 2000 (k', l) (planL l 16, 0) s) 2000 0 = some (.inr ()) := by
    refine runN1 (f := fun s : Int => law34_SetoutTails_l5 2000 (k', l) (planL l 16, 0) s) (planL l 16).length (fun i u => u = i) _ ?_ ?_ 2000 (by omega) 0 rfl
    · rintro i _ hi rfl
      obtain ⟨s, _, hc, hrow⟩ := row_of (List.getElem_mem hi)
      have hsl : (s : Int) ∈ l := List.count_pos_iff.1 hc
      have hst : (planL l 16)[i].Stop = s := by rw [hrow]
      have hgr : (planL l 16)[i].Groups = (gr s false l : Int) := by rw [hrow]
      obtain ⟨a, b, h1, h2, h3, h4, h5, h6⟩ := ends_ok (l := l) (by omega) k' (P := (planL l 16, 0)) hi (by rw [hst]; exact hsl)
      obtain ⟨q, h7, h8⟩ := between_ok (l := l) (by omega) k' (P := (planL l 16, 0)) hi h2 h3
      simp only at h4 h5 h6 h8
      rw [hst] at h4 h5 h6 h8
      have hq : q = true ↔ 2 ≤ gr s false l := by
        rw [h8, gr_btw, btw_iff]
        constructor
        · rintro ⟨k, x, q1, q2, q3, q4⟩
          have : k ≠ a := fun e => by subst e; rw [h4] at q3; have := Option.some.inj q3; omega
          exact ⟨a, k, b, x, by omega, q2, h4, q3, q4, h5⟩
        · rintro ⟨i, j, k, x, q1, q2, q3, q4, q5, q6⟩
          have := h6 i q3
          have := h6 k q6
          exact ⟨j, x, by omega, by omega, q4, q5⟩
      have h0 : 0 < gr s false l := gr_pos.2 hsl
      have hne : (decide ((planL l 16)[i].Groups = 1) == q) = false := by
        rw [hgr]
        cases q with
        | true => rw [decide_eq_false (by have := hq.1 rfl; omega)]; rfl
        | false =>
          have : ¬ 2 ≤ gr s false l := fun h => by have := hq.2 h; cases this
          rw [decide_eq_true (by omega)]; rfl
      exact ⟨_, oit (decide_eq_true (by simp only; omega)) (obi h1 (obi h7 (obi (idx_nat hi) (oif hne (obi (inc_nat (by omega)) rfl))))), rfl⟩
    · rintro _ rfl
      exact oif (decide_eq_false (by simp only; omega)) rfl
  unfold law34_SetoutTails
  exact obi rfl (obi hl (obi hP (oif rfl (obi h1 (obi sane_ok rfl)))))
end Go.Gv
