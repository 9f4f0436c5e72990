/- Setting out (chapter 34): the best order, and SetoutExact. -/
import Derived.Test.YtpljjjcfinpgeaaPla
namespace Go.Gv
def idxs (n : Nat) : List Int := (List.range n).map Int.ofNat
theorem idxs_succ (n : Nat) : idxs (n + 1) = idxs n ++ [(n : Int)] := by unfold idxs; rw [List.range_succ, List.map_append]; rfl
theorem idxs_len (n : Nat) : (idxs n).length = n := by simp [idxs]
theorem idxs_mem {n : Nat} {x : Int} : x ∈ idxs n ↔ 0 ≤ x ∧ x < n := by
  unfold idxs
  rw [List.mem_map]
  constructor
  · rintro ⟨k, hk, rfl⟩
    have := List.mem_range.1 hk
    exact ⟨by simp, by simp; omega⟩
  · rintro ⟨h0, h1⟩
    exact ⟨x.toNat, List.mem_range.2 (by omega), by simp; omega⟩
theorem idxs_asc (n : Nat) : (idxs n).Pairwise (· < ·) := by
  unfold idxs
  rw [List.pairwise_map]
  exact (List.pairwise_lt_range).imp fun h => by simpa using h
/-- the stop of a place -/
def at0 (l : List Int) (x : Int) : Int := l.getD x.toNat 0
def keyB (l : List Int) (x : Int) : Int := -at0 l x
theorem cmp_ok (N : Nat) (l : List Int) (hl : ∀ x ∈ l, 0 ≤ x ∧ x < 16) : ∀ x y, x ∈ idxs l.length → y ∈ idxs l.length → ∃ r, setout_Best_1 N x y [l] = some r ∧ (r < 0 ↔ keyB l x < keyB l y) := by
  intro x y hx hy
  rw [idxs_mem] at hx hy
  obtain ⟨i, rfl⟩ : ∃ i : Nat, x = i := ⟨x.toNat, by omega⟩
  obtain ⟨j, rfl⟩ : ∃ j : Nat, y = j := ⟨y.toNat, by omega⟩
  have e1 := idx_getD (l := l) (i := i) 0 (by omega)
  have e2 := idx_getD (l := l) (i := j) 0 (by omega)
  have m1 : l.getD i 0 ∈ l := by rw [List.getD_eq_getElem?_getD, List.getElem?_eq_getElem (by omega)]; exact List.getElem_mem _
  have m2 : l.getD j 0 ∈ l := by rw [List.getD_eq_getElem?_getD, List.getElem?_eq_getElem (by omega)]; exact List.getElem_mem _
  have h1 := hl _ m1
  have h2 := hl _ m2
  refine ⟨l.getD j 0 - l.getD i 0, obi rfl (obi e2 (obi e1 (obi (in64_ok (by omega)) rfl))), ?_⟩
  unfold keyB at0
  simp only [Int.toNat_natCast]
  omega
def places (l : List Int) (s : Int) : List Int := (idxs l.length).filter fun x => decide (at0 l x = s)
def bk (l : List Int) : Nat → List Int
  | 0 => []
  | k + 1 => bk l k ++ places l (15 - k)
theorem bk_mem {l : List Int} {x : Int} : ∀ {k : Nat}, x ∈ bk l k → x ∈ idxs l.length ∧ 15 - (k : Int) < at0 l x
  | 0, h => by simp [bk] at h
  | k + 1, h => by
    rcases List.mem_append.1 h with h | h
    · have := bk_mem h; exact ⟨this.1, by omega⟩
    · obtain ⟨h1, h2⟩ := List.mem_filter.1 h
      have := of_decide_eq_true h2
      exact ⟨h1, by omega⟩
theorem bk_strict (l : List Int) : ∀ k, (bk l k).Pairwise fun x y => keyB l x < keyB l y ∨ keyB l x = keyB l y ∧ x < y
  | 0 => List.Pairwise.nil
  | k + 1 => by
    refine List.pairwise_append.2 ⟨bk_strict l k, ?_, fun x hx y hy => ?_⟩
    · refine ((idxs_asc _).filter _).imp_of_mem fun {x y} hx hy h => .inr ⟨?_, h⟩
      have h1 := of_decide_eq_true (List.mem_filter.1 hx).2
      have h2 := of_decide_eq_true (List.mem_filter.1 hy).2
      unfold keyB; omega
    · have h1 := (bk_mem hx).2
      have h2 := of_decide_eq_true (List.mem_filter.1 hy).2
      left; unfold keyB; omega
theorem bk_same (l : List Int) (t : Int) : ∀ k : Nat, (bk l k).filter (fun x => decide (keyB l x = t)) = if -15 ≤ t ∧ t < -15 + k then (idxs l.length).filter (fun x => decide (keyB l x = t)) else []
  | 0 => by rw [if_neg (by omega)]; rfl
  | k + 1 => by
    show (bk l k ++ places l (15 - k)).filter _ = _
    rw [List.filter_append, bk_same l t k]
    unfold places
    rw [List.filter_filter]
    by_cases h : t = -15 + k
    · rw [if_neg (by omega), if_pos (by omega), List.nil_append]
      congr 1; funext x
      by_cases e : keyB l x = t
      · rw [decide_eq_true e]; exact band rfl (decide_eq_true (by unfold keyB at e; omega))
      · rw [decide_eq_false e]; rfl
    · have he : (idxs l.length).filter (fun x => decide (keyB l x = t) && decide (at0 l x = 15 - (k : Int))) = [] := by
        rw [List.filter_eq_nil_iff]
        intro x _ hx
        have h1 := of_decide_eq_true (bandl hx)
        have h2 := of_decide_eq_true (bandr hx)
        unfold keyB at h1; omega
      rw [he, List.append_nil]
      by_cases h2 : -15 ≤ t ∧ t < -15 + k
      · rw [if_pos h2, if_pos (by omega)]
      · rw [if_neg h2, if_neg (by omega)]
def bestL (l : List Int) : List Int := bk l 16
theorem best_same {l : List Int} (hl : ∀ x ∈ l, 0 ≤ x ∧ x < 16) : Same (keyB l) (idxs l.length) (bestL l) := by
  intro t
  unfold bestL
  rw [bk_same]
  by_cases h : -15 ≤ t ∧ t < -15 + ((16 : Nat) : Int)
  · rw [if_pos h]
  · rw [if_neg h]
    symm
    rw [List.filter_eq_nil_iff]
    intro x hx he
    have h1 := of_decide_eq_true he
    have h2 := idxs_mem.1 hx
    obtain ⟨i, rfl⟩ : ∃ i : Nat, x = i := ⟨x.toNat, by omega⟩
    have m1 : l.getD i 0 ∈ l := by rw [List.getD_eq_getElem?_getD, List.getElem?_eq_getElem (by omega)]; exact List.getElem_mem _
    have := hl _ m1
    unfold keyB at0 at h1
    simp only [Int.toNat_natCast] at h1
    omega
theorem best_asc (l : List Int) : AscK (keyB l) (bestL l) := (bk_strict l 16).imp fun h => by omega
def BL (l : List Int) : List Int × Int := if 96 < l.length then ([], 3) else bif okL l 16 then (bestL l, 0) else ([], 2)
theorem Best_eq {N : Nat} (hN : 2000 ≤ N) (l : List Int) : setout_Best N l = some (BL l) := by
  unfold setout_Best BL
  refine obi (check_eq hN l 16) ?_
  by_cases h2 : 96 < l.length
  · rw [if_pos h2, if_pos h2]; rfl
  · rw [if_neg h2, if_neg h2]
    cases hk : okL l 16 with
    | false => rfl
    | true =>
      have hin := okL_iff.1 hk
      have h1 : iterN (fun s : Int × List Int => setout_Best_l1 N l s.1 s.2) N (0, []) = some (idxs l.length) := by
        refine runN1 (f := fun s : Int × List Int => setout_Best_l1 N l s.1 s.2) l.length (fun i u => u.1 = i ∧ u.2 = idxs i) _ ?_ ?_ N (by omega) (0, []) ⟨rfl, rfl⟩
        · rintro i ⟨j, o⟩ hi ⟨rfl, rfl⟩
          exact ⟨_, oit (decide_eq_true (by simp only; omega)) (obi (app_ok (by simp only [idxs_len, List.length_cons, List.length_nil]; omega) (by simp only [idxs_len, List.length_cons, List.length_nil]; omega)) (obi (inc_nat (by omega)) rfl)), rfl, (idxs_succ i).symm⟩
        · rintro ⟨j, o⟩ ⟨rfl, rfl⟩
          exact oif (decide_eq_false (by simp)) rfl
      obtain ⟨r, hr, hlen, hs, ha⟩ := sort_ok (c := [l]) (S := fun x => x ∈ idxs l.length) hN (cmp_ok N l hin) (l := idxs l.length) (fun x hx => hx) (by rw [idxs_len]; omega)
      have : r = bestL l := sorted_one (best_asc l) ha (fun t => (hs t).trans (best_same hin t).symm)
      rw [this] at hr
      exact oif rfl (obi h1 (obi hr rfl))
theorem rBest_eq {N : Nat} (hN : 2000 ≤ N) (l : List Int) : r34_Best N l = some (BL l) := by
  unfold r34_Best BL
  refine obi (rcheck_eq hN l) ?_
  by_cases h2 : 96 < l.length
  · rw [if_pos h2, if_pos h2]; rfl
  · rw [if_neg h2, if_neg h2]
    cases hk : okL l 16 with
    | false => rfl
    | true =>
      refine oif rfl (obi (x := bestL l) ?_ rfl)
      have hpl : ∀ s i, ((idxs i).filter fun x => decide (at0 l x = s)).length ≤ i := fun s i => Nat.le_trans (List.length_filter_le _ _) (by rw [idxs_len]; omega)
      have hbk : ∀ k : Nat, (bk l k).length ≤ k * l.length := by
        intro k
        induction k with
        | zero => simp [bk]
        | succ k ih =>
          have := hpl (15 - k) l.length
          simp only [bk, List.length_append, Nat.add_mul, Nat.one_mul]
          unfold places; omega
      refine runN1 (f := fun s : Int × List Int => r34_Best_l4 N l s.1 s.2) 16 (fun k u => u.1 = 15 - (k : Int) ∧ u.2 = bk l k) _ ?_ ?_ N (by omega) (15, []) ⟨rfl, rfl⟩
      · rintro k ⟨s, o⟩ hk ⟨rfl, rfl⟩
        simp only
        have hb := hbk k
        have hb2 : k * l.length ≤ 16 * 96 := Nat.mul_le_mul (by omega) (by omega)
        have h1 : iterN (fun s : Int × List Int => r34_Best_l5 N l (15 - (k : Int)) s.1 s.2) N (0, bk l k) = some (bk l (k + 1)) := by
          refine runN1 (f := fun s : Int × List Int => r34_Best_l5 N l (15 - (k : Int)) s.1 s.2) l.length (fun i u => u.1 = i ∧ u.2 = bk l k ++ (idxs i).filter fun x => decide (at0 l x = 15 - (k : Int))) _ ?_ ?_ N (by omega) (0, bk l k) ⟨rfl, by simp [idxs]⟩
          · rintro i ⟨j, o⟩ hi ⟨rfl, rfl⟩
            simp only
            have e1 := idx_getD (l := l) (i := i) 0 hi
            have hp := hpl (15 - (k : Int)) i
            have hat : at0 l (i : Int) = l.getD i 0 := by unfold at0; simp
            unfold r34_Best_l5
            by_cases e : l.getD i 0 = 15 - (k : Int)
            · refine ⟨_, oit (decide_eq_true (by omega)) (obi e1 (oit (decide_eq_true e) (obi (app_ok (by simp only [List.length_append, List.length_cons, List.length_nil]; omega) (by simp only [List.length_append, List.length_cons, List.length_nil]; omega)) (obi (inc_nat (by omega)) rfl)))), rfl, ?_⟩
              simp only
              rw [idxs_succ, List.filter_append, List.append_assoc]
              congr 2
              rw [List.filter_cons, if_pos (by rw [hat]; exact decide_eq_true e)]; rfl
            · refine ⟨_, oit (decide_eq_true (by omega)) (obi e1 (oif (decide_eq_false e) (obi (inc_nat (by omega)) rfl))), rfl, ?_⟩
              simp only
              rw [idxs_succ, List.filter_append]
              rw [List.filter_cons, if_neg (by rw [hat]; simpa using e)]; simp
          · rintro ⟨j, o⟩ ⟨rfl, rfl⟩
            exact oif (decide_eq_false (by simp)) rfl
        exact ⟨_, oit (decide_eq_true (by omega)) (obi h1 (obi (in64_ok (by omega)) rfl)), by simp only; omega, rfl⟩
      · rintro ⟨s, o⟩ ⟨rfl, rfl⟩
        exact oif (decide_eq_false (by simp only; omega)) rfl
theorem ints_eq {N : Nat} {a : List Int} (ha : a.length < N) (h2 : a.length ≤ 1000000) : humpgen_Ints N a a = some true := by
  refine oif (bnotIf (decide_eq_true rfl)) (obi (first_any a (fun _ => false) false (f := humpgen_Ints_l1 N a a) (fun i hi hp => by cases hp) (fun i hi _ => ?_) ?_ N ha) ?_)
  · exact oit (decide_eq_true (by omega)) (obi (idx_nat hi) (obi (idx_nat hi) (oif (bnotIf (decide_eq_true rfl)) (obi (inc_nat (by omega)) rfl))))
  · exact oif (decide_eq_false (by omega)) rfl
  · have : a.any (fun _ => false) = false := by rw [List.any_eq_false]; intro x _; simp
    rw [this]; rfl
theorem sets_eq {N : Nat} {a : List T_SetOut} (ha : a.length < N) (h2 : a.length ≤ 1000000) : yardgen_SameSetOuts N a a = some true := by
  refine oif (bnotIf (decide_eq_true rfl)) (obi (first_any a (fun _ => false) false (f := yardgen_SameSetOuts_l1 N a a) (fun i hi hp => by cases hp) (fun i hi _ => ?_) ?_ N ha) ?_)
  · exact oit (decide_eq_true (by omega)) (obi (idx_nat hi) (obi (idx_nat hi) (oif (bnotIf (decide_eq_true rfl)) (obi (inc_nat (by omega)) rfl))))
  · exact oif (decide_eq_false (by omega)) rfl
  · have : a.any (fun _ => false) = false := by rw [List.any_eq_false]; intro x _; simp
    rw [this]; rfl
theorem PL_len (l : List Int) (n : Int) : (PL l n).1.length ≤ 16 := by
  unfold PL
  split
  · simp
  · split
    · simp
    · cases okL l n with
      | false => simp
      | true => simp only [cond_true]; have := planL_len l n.toNat; omega
theorem bk_len (l : List Int) (k : Nat) : (bk l k).length ≤ k * l.length := by
  induction k with
  | zero => simp [bk]
  | succ k ih =>
    have : (places l (15 - k)).length ≤ l.length := Nat.le_trans (List.length_filter_le _ _) (by rw [idxs_len]; omega)
    simp only [bk, List.length_append, Nat.add_mul, Nat.one_mul]; omega
theorem BL_len (l : List Int) : (BL l).1.length ≤ 1536 := by
  unfold BL
  split
  · simp
  · cases okL l 16 with
    | false => simp
    | true =>
      simp only [cond_true]
      have := bk_len l 16
      have : 16 * l.length ≤ 16 * 96 := Nat.mul_le_mul (by omega) (by omega)
      unfold bestL; omega
theorem exact_eq {N : Nat} (hN : 2000 ≤ N) (l : List Int) (n : Int) : law34_exact N l n = some true := by
  have h1 := PL_len l n
  have h2 := BL_len l
  refine obi (Plan_eq hN l n) (obi (rPlan_eq hN l n) (obi (Groups_eq hN l) (obi (rGroups_eq hN l) (obi (Best_eq hN l) (obi (rBest_eq hN l) (obi (sets_eq (by omega) (by omega)) (obi (gO_T ?_ (ints_eq (by omega) (by omega))) ?_)))))))
  · exact band (band (band rfl (decide_eq_true rfl)) (decide_eq_true rfl)) (decide_eq_true rfl)
  · exact congrArg some (band (band (band (band (band rfl (decide_eq_true rfl)) (decide_eq_true rfl)) (decide_eq_true rfl)) rfl) (decide_eq_true rfl))
theorem sane_ok : law34_sane 2000 = some true := by decide +kernel
theorem train_ok {N : Nat} (hN : 2000 ≤ N) (t : List Int) {k : Int} (hk : 0 ≤ k) (hk2 : k ≤ 1000000) {n : Nat} (hn : n ≤ 100) :
    ∃ k' l, law34_train N t k n = some (k', l) ∧ k ≤ k' ∧ k' ≤ k + 200 ∧ l.length ≤ n ∧ ∀ x ∈ l, 0 ≤ x ∧ x < 5 := by
  obtain ⟨a, ha, a0, a1⟩ := next_ok N t (k := k) (n := 5) hk (by omega) (by omega) (by omega)
  obtain ⟨b, hb, b0, b1⟩ := next_ok N t (k := k + 1) (n := (n : Int) + 1) (by omega) (by omega) (by omega) (by omega)
  obtain ⟨r, hr, h1, h2, h3, h4⟩ := runN (f := fun s : Int × Int × List Int => law34_train_l1 N t (1 + a) s.1 s.2.1 s.2.2) b.toNat
    (fun i u => u.1 = b - i ∧ u.2.1 = k + 2 + i ∧ u.2.2.length = i ∧ ∀ x ∈ u.2.2, 0 ≤ x ∧ x < 5)
    (fun r => k ≤ r.1 ∧ r.1 ≤ k + 200 ∧ r.2.length ≤ n ∧ ∀ x ∈ r.2, 0 ≤ x ∧ x < 5) (by
      rintro i ⟨j, q, l⟩ hi ⟨rfl, rfl, hl, hx⟩
      simp only at hl hx ⊢
      obtain ⟨c, hc, c0, c1⟩ := next_ok N t (k := k + 2 + i) (n := 1 + a) (by omega) (by omega) (by omega) (by omega)
      refine .inl ⟨_, oit (decide_eq_true (by omega)) (obi hc (obi (app_ok (by simp only [List.length_cons, List.length_nil]; omega) (by simp only [List.length_cons, List.length_nil]; omega)) (obi (in64_ok (by omega)) rfl))), by simp only; omega, by simp only; omega, by simp only [List.length_append, List.length_cons, List.length_nil]; omega, fun x hx' => ?_⟩
      rcases List.mem_append.1 hx' with h | h
      · exact hx x h
      · simp at h; omega) (by
      rintro ⟨j, q, l⟩ ⟨rfl, rfl, hl, hx⟩
      simp only at hl hx ⊢
      exact ⟨_, oif (decide_eq_false (by omega)) rfl, by simp only; omega, by simp only; omega, by simp only; omega, hx⟩) N (by omega) (b, k + 2, []) ⟨by simp, by simp, rfl, fun x h => by simp at h⟩
  refine ⟨r.1, r.2, ?_, h1, h2, h3, h4⟩
  unfold law34_train
  have hb' : Maker_Next N t (k + 1) ((n : Int) + 1) = some (k + 2, b) := by rw [hb, show k + 1 + 1 = k + 2 by omega]
  exact obi ha (obi (in64_ok (by simp only; omega)) (obi (in64_ok (by omega)) (obi hb' (obi hr rfl))))
theorem SetoutExact_true (t l : List Int) (n : Int) : law34_SetoutExact 2000 t l n = some true := by
  have hN : 2000 ≤ 2000 := Nat.le_refl _
  have h1 : iterN (fun s : Int × Int => law34_SetoutExact_l1 2000 t n s.1 s.2) 2000 (0, 0) = some (Sum.inr ()) := by
    refine runN1 (f := fun s : Int × Int => law34_SetoutExact_l1 2000 t n s.1 s.2) 4 (fun i u => u.1 = i ∧ 0 ≤ u.2 ∧ u.2 ≤ 300 * i) _ ?_ ?_ 2000 (by omega) (0, 0) ⟨rfl, by simp, by simp⟩
    · rintro i ⟨j, k⟩ hi ⟨rfl, k0, k1⟩
      simp only at k0 k1 ⊢
      obtain ⟨k', x, hx, k2, k3, hlen, _⟩ := train_ok hN t (k := k) k0 (by omega) (n := 20) (by omega)
      have hj : ∃ k2 y, (bif decide ((i : Int) = 3) then (Option.bind (Maker_Pick 2000 t k' ([(-1), 15, 16])) fun r246 => Option.bind (app 8 x ([r246.2])) fun l255 => some (r246.1, l255)) else some (k', x)) = some (k2, y) ∧ 0 ≤ k2 ∧ k2 ≤ k + 201 := by
        by_cases e : i = 3
        · obtain ⟨p, hp, _⟩ := pick_ok 2000 t (k := k') (v := [(-1), 15, 16]) (by omega) (by omega) (by simp) (by simp)
          exact ⟨_, _, oit (decide_eq_true (by omega)) (obi hp (obi (app_ok (by simp only [List.length_cons, List.length_nil]; omega) (by simp only [List.length_cons, List.length_nil]; omega)) rfl)), by omega, by omega⟩
        · exact ⟨k', x, oif (decide_eq_false (by omega)) rfl, by omega, by omega⟩
      obtain ⟨k4, y, hy, k5, k6⟩ := hj
      obtain ⟨p, hp, _⟩ := pick_ok 2000 t (k := k4) (v := [0, 1, 4, 5, 16, 17, (-1)]) (by omega) (by omega) (by simp) (by simp)
      exact ⟨_, oit (decide_eq_true (by omega)) (obi hx (obi hy (obi hp (obi (exact_eq hN _ _) (obi (gO_T rfl (exact_eq hN _ _)) (oif rfl (obi (inc_nat (by omega)) rfl))))))), rfl, by simp only; omega, by simp only; omega⟩
    · rintro ⟨j, k⟩ ⟨rfl, _, _⟩
      exact oif (decide_eq_false (by simp)) rfl
  unfold law34_SetoutExact
  refine obi rfl (obi h1 ?_)
  by_cases h : 300 < (l.length : Int)
  · exact obi (gO_F (bnotIf (decide_eq_true h))) (obi (gO_F (bandF (bnotIf (decide_eq_true h)))) (congrArg some (borT (decide_eq_true h))))
  · exact obi (gO_T (bnotIt (decide_eq_false h)) (exact_eq hN _ _)) (obi (gO_T (band (bnotIt (decide_eq_false h)) rfl) sane_ok) (congrArg some (borT2 rfl)))
end Go.Gv
