/- Engines (chapter 39): witnesses, checks, and EngineExact. -/
import Derived.Test.YtodjacghadpbfaaPlb
namespace Go.Gv
/-- valid tasks: what both assignments answer -/
theorem assigns {N : Nat} (hN : 5000 ≤ N) {l : List T_Task} {T : Int} (v : Val l T) : ∃ (o : List Nat) (out : List Int) (m : Nat), IsO l o ∧ engine_order N l = some (o.map Int.ofNat) ∧ r39_order N l = some (o.map Int.ofNat) ∧ engine_Assign N l T = some (out, (m : Int), 0) ∧ r39_Assign N l T = some (out, (m : Int), 0) ∧ IsA l T out m := by
  obtain ⟨o, ho, h1, h2⟩ := orders hN v.len
  exact ⟨o, _, _, ho, h1, h2, assign_eq hN v ho h1, rassign_eq hN v ho h2, isA_of v ho⟩
theorem assign_bad {N : Nat} (hN : 5000 ≤ N) {l : List T_Task} {T : Int} (h : vE l T ≠ 0) : engine_Assign N l T = some ([], 0, vE l T) := obi (check_eq hN l T) (oit (bnotIt (decide_eq_false h)) rfl)
theorem rassign_bad {N : Nat} (hN : 5000 ≤ N) {l : List T_Task} {T : Int} (h : vE l T ≠ 0) : r39_Assign N l T = some ([], 0, vE l T) := obi (rcheck_eq hN l T) (oit (bnotIt (decide_eq_false h)) rfl)
/-! witnesses -/
def wL (l : List T_Task) (T t : Int) (k : Nat) : List Int := ((List.range k).filter (inn l T t)).map Int.ofNat
theorem wL_succ (l : List T_Task) (T t : Int) (k : Nat) : wL l T t (k + 1) = wL l T t k ++ (bif inn l T t k then [(k : Int)] else []) := by
  unfold wL
  rw [List.range_succ, List.filter_append, List.map_append]
  congr 1
  cases h : inn l T t k
  · rw [List.filter_cons, if_neg (by simp [h])]; rfl
  · rw [List.filter_cons, if_pos h]; rfl
theorem wL_len (l : List T_Task) (T t : Int) (k : Nat) : (wL l T t k).length ≤ k := by
  unfold wL; rw [List.length_map]
  exact Nat.le_trans (List.length_filter_le _ _) (by simp)
theorem wit4_eq {N : Nat} (hN : 5000 ≤ N) {l : List T_Task} {T : Int} (v : Val l T) (x : T_Task) : iterN (fun s : Int × List Int => engine_Witness_l4 N l T x s.1 s.2) N (0, []) = some (wL l T x.From l.length) := by
  have hl := v.len
  refine runN1 (f := fun s : Int × List Int => engine_Witness_l4 N l T x s.1 s.2) l.length (fun k u => u.1 = k ∧ u.2 = wL l T x.From k) _ ?_ ?_ N (by omega) (0, []) ⟨rfl, rfl⟩
  · rintro k ⟨j, o⟩ hk ⟨rfl, rfl⟩
    simp only
    have h1 := v.tk hk
    have h2 := v.t0
    have h3 := v.t1
    have h4 := wL_len l T x.From k
    unfold engine_Witness_l4
    by_cases c : inn l T x.From k = true
    · have c' := inn_iff.1 c
      refine ⟨_, oit (decide_eq_true (by omega)) (obi (idx_tk hk) (obi (gO_T (decide_eq_true c'.1) (in64_ok (by omega))) (oit (band (decide_eq_true c'.1) (decide_eq_true c'.2)) (obi (app_ok (by simp only [List.length_cons, List.length_nil]; omega) (by simp only [List.length_cons, List.length_nil]; omega)) (obi (inc_nat (by omega)) rfl))))), rfl, ?_⟩
      simp only
      rw [wL_succ, c]; rfl
    · have c2 : inn l T x.From k = false := by simpa using c
      by_cases d : (tk l k).From ≤ x.From
      · have d2 : ¬ x.From < (tk l k).To + T := fun h => c (inn_iff.2 ⟨d, h⟩)
        refine ⟨_, oit (decide_eq_true (by omega)) (obi (idx_tk hk) (obi (gO_T (decide_eq_true d) (in64_ok (by omega))) (oif (bandF2 (decide_eq_false d2)) (obi (inc_nat (by omega)) rfl)))), rfl, ?_⟩
        simp only
        rw [wL_succ, c2]; simp
      · refine ⟨_, oit (decide_eq_true (by omega)) (obi (idx_tk hk) (obi (gO_F (decide_eq_false d)) (oif (bandF (decide_eq_false d)) (obi (inc_nat (by omega)) rfl)))), rfl, ?_⟩
        simp only
        rw [wL_succ, c2]; simp
  · rintro ⟨j, o⟩ ⟨rfl, rfl⟩
    exact oif (decide_eq_false (by simp)) rfl
theorem rwit4_eq {N : Nat} (hN : 5000 ≤ N) {l : List T_Task} {T : Int} (v : Val l T) (x : T_Task) : iterN (fun s : Int × List Int => r39_Witness_l4 N l T x s.1 s.2) N (0, []) = some (wL l T x.From l.length) := by
  have hl := v.len
  refine runN1 (f := fun s : Int × List Int => r39_Witness_l4 N l T x s.1 s.2) l.length (fun k u => u.1 = k ∧ u.2 = wL l T x.From k) _ ?_ ?_ N (by omega) (0, []) ⟨rfl, rfl⟩
  · rintro k ⟨j, o⟩ hk ⟨rfl, rfl⟩
    simp only
    have h1 := v.tk hk
    have h2 := v.t0
    have h3 := v.t1
    have h4 := wL_len l T x.From k
    unfold r39_Witness_l4
    by_cases c : inn l T x.From k = true
    · have c' := inn_iff.1 c
      refine ⟨_, oit (decide_eq_true (by omega)) (obi (idx_tk hk) (obi (gO_T (decide_eq_true c'.1) (idx_tk hk)) (obi (gO_T (decide_eq_true c'.1) (in64_ok (by omega))) (oit (band (decide_eq_true c'.1) (decide_eq_true c'.2)) (obi (app_ok (by simp only [List.length_cons, List.length_nil]; omega) (by simp only [List.length_cons, List.length_nil]; omega)) (obi (inc_nat (by omega)) rfl)))))), rfl, ?_⟩
      simp only
      rw [wL_succ, c]; rfl
    · have c2 : inn l T x.From k = false := by simpa using c
      by_cases d : (tk l k).From ≤ x.From
      · have d2 : ¬ x.From < (tk l k).To + T := fun h => c (inn_iff.2 ⟨d, h⟩)
        refine ⟨_, oit (decide_eq_true (by omega)) (obi (idx_tk hk) (obi (gO_T (decide_eq_true d) (idx_tk hk)) (obi (gO_T (decide_eq_true d) (in64_ok (by omega))) (oif (bandF2 (decide_eq_false d2)) (obi (inc_nat (by omega)) rfl))))), rfl, ?_⟩
        simp only
        rw [wL_succ, c2]; simp
      · refine ⟨_, oit (decide_eq_true (by omega)) (obi (idx_tk hk) (obi (gO_F (decide_eq_false d)) (obi (gO_F (decide_eq_false d)) (oif (bandF (decide_eq_false d)) (obi (inc_nat (by omega)) rfl))))), rfl, ?_⟩
        simp only
        rw [wL_succ, c2]; simp
  · rintro ⟨j, o⟩ ⟨rfl, rfl⟩
    exact oif (decide_eq_false (by simp)) rfl
theorem wL_full (l : List T_Task) (T t : Int) : wL l T t l.length = (inL l T t).map Int.ofNat := rfl
theorem getD_at {o : List Nat} {q : Nat} (h : q < o.length) : o.getD q 0 = o[q] := by rw [List.getD_eq_getElem?_getD, List.getElem?_eq_getElem h]; rfl
theorem witnesses {N : Nat} (hN : 5000 ≤ N) {l : List T_Task} {T : Int} (v : Val l T) : ∃ (out : List Int) (m : Nat) (W : Int × List Int × Int), engine_Assign N l T = some (out, (m : Int), 0) ∧ r39_Assign N l T = some (out, (m : Int), 0) ∧ IsA l T out m ∧ engine_Witness N l T = some W ∧ r39_Witness N l T = some W ∧ W.2.2 = 0 ∧ W.2.1.length = m ∧ W.2.1.length ≤ 64 ∧ (m ≠ 0 → W.2.1 = wL l T W.1 l.length) := by
  obtain ⟨o, out, m, ho, h1, h2, h3, h4, hA⟩ := assigns hN v
  have hl := v.len
  have hol := ho.len
  have e : ∀ (q : Nat) (h : q < o.length), idx (o.map Int.ofNat) (q : Int) = some ((o[q] : Nat) : Int) := fun q h => by rw [oI_at h, getD_at h]
  obtain ⟨p, hp⟩ : ∃ p : Nat → Bool, p = fun j => decide (((wL l T (tk l j).From l.length).length : Int) = m) := ⟨_, rfl⟩
  have hw1 : iterN (fun s : Int => engine_Witness_l3 N l T (out, (m : Int), 0) (o.map Int.ofNat) s) N 0 = some ((o.findIdx? p).elim (.inr ()) fun q => .inl ((tk l (o.getD q 0)).From, wL l T (tk l (o.getD q 0)).From l.length, (0 : Int))) := by
    refine first_loop o p (fun q => ((tk l (o.getD q 0)).From, wL l T (tk l (o.getD q 0)).From l.length, (0 : Int))) (fun s : Int => engine_Witness_l3 N l T (out, (m : Int), 0) (o.map Int.ofNat) s) (fun q hq h => ?_) (fun q hq h => ?_) ?_ N (by omega)
    · have := ho.lt _ (List.getElem_mem hq)
      rw [hp] at h
      rw [getD_at hq]
      exact oit (decide_eq_true (by simp; omega)) (obi (e q hq) (obi (idx_tk this) (obi (wit4_eq hN v _) (oit h rfl))))
    · have := ho.lt _ (List.getElem_mem hq)
      rw [hp] at h
      exact oit (decide_eq_true (by simp; omega)) (obi (e q hq) (obi (idx_tk this) (obi (wit4_eq hN v _) (oif h (obi (inc_nat (by omega)) rfl)))))
    · exact oif (decide_eq_false (by simp)) rfl
  have hw2 : iterN (fun s : Int => r39_Witness_l3 N l T (out, (m : Int), 0) (o.map Int.ofNat) s) N 0 = some ((o.findIdx? p).elim (.inr ()) fun q => .inl ((tk l (o.getD q 0)).From, wL l T (tk l (o.getD q 0)).From l.length, (0 : Int))) := by
    refine first_loop o p (fun q => ((tk l (o.getD q 0)).From, wL l T (tk l (o.getD q 0)).From l.length, (0 : Int))) (fun s : Int => r39_Witness_l3 N l T (out, (m : Int), 0) (o.map Int.ofNat) s) (fun q hq h => ?_) (fun q hq h => ?_) ?_ N (by omega)
    · have := ho.lt _ (List.getElem_mem hq)
      rw [hp] at h
      rw [getD_at hq]
      exact oit (decide_eq_true (by simp; omega)) (obi (e q hq) (obi (idx_tk this) (obi (rwit4_eq hN v _) (oit h rfl))))
    · have := ho.lt _ (List.getElem_mem hq)
      rw [hp] at h
      exact oit (decide_eq_true (by simp; omega)) (obi (e q hq) (obi (idx_tk this) (obi (rwit4_eq hN v _) (oif h (obi (inc_nat (by omega)) rfl)))))
    · exact oif (decide_eq_false (by simp)) rfl
  by_cases hm : m = 0
  · have hl0 := hA.zero.1 hm
    have ho0 : o = [] := List.eq_nil_of_length_eq_zero (by rw [hol, hl0]; rfl)
    have hf : o.findIdx? p = none := by rw [ho0]; rfl
    rw [hf] at hw1
    refine ⟨out, m, (0, [], 0), h3, h4, hA, obi h3 (oif rfl (obi h1 (obi hw1 rfl))), obi h4 (oit (borT2 (decide_eq_true (by simp only; omega))) rfl), rfl, hm.symm, by simp, fun h => absurd hm h⟩
  · rcases hA.cl with h | ⟨i, hi, hc⟩
    · exact absurd h hm
    · have hex : ∃ q, o.findIdx? p = some q := by
        cases hf : o.findIdx? p with
        | some q => exact ⟨q, rfl⟩
        | none =>
          have := List.findIdx?_eq_none_iff.1 hf i (ho.all i hi)
          rw [hp] at this
          have h5 := of_decide_eq_false this
          rw [wL_full, List.length_map] at h5
          omega
      obtain ⟨q, hq⟩ := hex
      obtain ⟨hql, hqp, _⟩ := List.findIdx?_eq_some_iff_getElem.1 hq
      rw [hp] at hqp
      have hlen := of_decide_eq_true hqp
      rw [hq] at hw1 hw2
      rw [← getD_at hql] at hlen
      refine ⟨out, m, _, h3, h4, hA, obi h3 (oif rfl (obi h1 (obi hw1 rfl))), obi h4 (oif (borF rfl (decide_eq_false (by simp only; omega))) (obi h2 (obi hw2 rfl))), rfl, by simp only; omega, ?_, fun _ => rfl⟩
      have := wL_len l T (tk l (o.getD q 0)).From l.length
      simp only; omega
/-! checks -/
def hitC (l : List T_Task) (T : Int) (a : List Int) (i k : Nat) : Bool := decide (a.getD i 0 = a.getD k 0) && exc T (tk l i) (tk l k)
def badC (l : List T_Task) (T : Int) (a : List Int) (i : Nat) : Bool := decide (a.getD i 0 < 0) || (List.range i).any (hitC l T a i)
def chk (l : List T_Task) (T : Int) (a : List Int) : Bool := decide (a.length = l.length) && !((List.range l.length).any (badC l T a))
theorem any_range {n : Nat} {ρ : Type} (p : Nat → Bool) (c : ρ) (f : Int → Option (Int ⊕ (ρ ⊕ Unit))) (hT : ∀ i : Nat, i < n → p i = true → f (i : Int) = some (.inr (.inl c))) (hF : ∀ i : Nat, i < n → p i = false → f (i : Int) = some (.inl ((i + 1 : Nat) : Int)))
    (he : f (n : Int) = some (.inr (.inr ()))) (N : Nat) (hN : n < N) : iterN f N 0 = some (bif (List.range n).any p then .inl c else .inr ()) :=
  first_any (List.range n) p c f (fun i h hp => hT i (by simpa using h) (by simpa using hp)) (fun i h hp => hF i (by simpa using h) (by simpa using hp)) (by rw [List.length_range]; exact he) N (by rw [List.length_range]; exact hN)
theorem Check_eq {N : Nat} (hN : 5000 ≤ N) {l : List T_Task} {T : Int} (v : Val l T) (a : List Int) : engine_Check N l T a = some (chk l T a, 0) := by
  have hl := v.len
  have ht0 := v.t0
  have ht1 := v.t1
  unfold engine_Check chk
  refine obi (check_eq hN l T) ?_
  rw [vE_zero.2 v]
  refine oif rfl ?_
  by_cases hal : a.length = l.length
  · have h4 : ∀ i : Nat, i < l.length → iterN (fun s : Int => engine_Check_l4 N T a i (tk l i) (l.take i) s) N 0 = some (bif (List.range i).any (hitC l T a i) then .inl (false, 0) else .inr ()) := fun i hi => by
      have hlen : (l.take i).length = i := by simp; omega
      have ek : ∀ k : Nat, k < i → idx (l.take i) (k : Int) = some (tk l k) := fun k hk => idx_some_of (by
        rw [List.getElem?_take_of_lt hk]; unfold tk; rw [List.getD_eq_getElem?_getD, List.getElem?_eq_getElem (by omega)]; rfl)
      have go : ∀ (k : Nat) (hk : k < i) (R : Option ((Int) ⊕ ((Bool × Int) ⊕ Unit))), (bif hitC l T a i k then some (.inr (Sum.inl (false, 0))) else (Option.bind (in64 ((k : Int) + 1)) fun x567 => some (.inl x567))) = R → engine_Check_l4 N T a i (tk l i) (l.take i) k = R := fun k hk R h => by
        have v1 := v.tk hi
        have v2 := v.tk (show k < l.length by omega)
        refine oit (decide_eq_true (by omega)) (obi (ek k hk) (obi (idx_out (by omega)) (obi (idx_out (by omega)) ?_)))
        by_cases c1 : a.getD i 0 = a.getD k 0
        · refine obi (gO_T (decide_eq_true c1) (in64_ok (by omega))) ?_
          by_cases c2 : (tk l i).From < (tk l k).To + T
          · refine obi (gO_T (band (decide_eq_true c1) (decide_eq_true c2)) (in64_ok (by omega))) ?_
            unfold hitC exc at h
            rw [← Bool.and_assoc] at h
            exact h
          · have : hitC l T a i k = false := bandF2 (bandF (decide_eq_false c2))
            rw [this, cond_false] at h
            exact obi (gO_F (bandF2 (decide_eq_false c2))) (oif (bandF (bandF2 (decide_eq_false c2))) h)
        · have : hitC l T a i k = false := bandF (decide_eq_false c1)
          rw [this, cond_false] at h
          exact obi (gO_F (decide_eq_false c1)) (obi (gO_F (bandF (decide_eq_false c1))) (oif (bandF (bandF (decide_eq_false c1))) h))
      refine any_range _ _ _ (fun k hk hp => go k hk _ (oit hp rfl)) (fun k hk hp => go k hk _ (oif hp (obi (inc_nat (by omega)) rfl))) ?_ N (by omega)
      exact oif (decide_eq_false (by omega)) rfl
    have h3 : iterN (fun s : Int => engine_Check_l3 N l T a s) N 0 = some (bif (List.range l.length).any (badC l T a) then .inl (false, 0) else .inr ()) := by
      have go : ∀ (i : Nat) (hi : i < l.length) (R : Option ((Int) ⊕ ((Bool × Int) ⊕ Unit))), (bif badC l T a i then some (.inr (Sum.inl (false, 0))) else (Option.bind (in64 ((i : Int) + 1)) fun x567 => some (.inl x567))) = R → engine_Check_l3 N l T a i = R := fun i hi R h => by
        refine oit (decide_eq_true (by omega)) (obi (idx_tk hi) (obi (idx_out (by omega)) ?_))
        by_cases c1 : a.getD i 0 < 0
        · have : badC l T a i = true := borT (decide_eq_true c1)
          rw [this, cond_true] at h
          exact oit (decide_eq_true c1) h
        · refine oif (decide_eq_false c1) (obi (by have := slc_nat (l := l) (a := 0) (b := i) (by omega) (by omega); simpa using this) (obi (h4 i hi) ?_))
          cases hc : (List.range i).any (hitC l T a i) with
          | true =>
            have : badC l T a i = true := borT2 hc
            rw [this, cond_true] at h; exact h
          | false =>
            have : badC l T a i = false := borF (decide_eq_false c1) hc
            rw [this, cond_false] at h; exact h
      refine any_range _ _ _ (fun i hi hp => go i hi _ (oit hp rfl)) (fun i hi hp => go i hi _ (oif hp (obi (inc_nat (by omega)) rfl))) ?_ N (by omega)
      exact oif (decide_eq_false (by omega)) rfl
    refine oif (bnotIf (decide_eq_true (by omega))) (obi h3 ?_)
    rw [decide_eq_true hal]
    cases (List.range l.length).any (badC l T a) <;> rfl
  · rw [decide_eq_false hal]
    exact oit (bnotIt (decide_eq_false (by omega))) rfl
theorem rCheck_eq {N : Nat} (hN : 5000 ≤ N) {l : List T_Task} {T : Int} (v : Val l T) (a : List Int) : r39_Check N l T a = some (chk l T a, 0) := by
  have hl := v.len
  unfold r39_Check chk
  refine obi (rcheck_eq hN l T) ?_
  rw [vE_zero.2 v]
  refine oif rfl ?_
  by_cases hal : a.length = l.length
  · have h4 : ∀ i : Nat, i < l.length → iterN (fun s : Int => r39_Check_l4 N l T a i s) N 0 = some (bif (List.range i).any (hitC l T a i) then .inl (false, 0) else .inr ()) := fun i hi => by
      have go : ∀ (k : Nat) (hk : k < i) (R : Option ((Int) ⊕ ((Bool × Int) ⊕ Unit))), (bif hitC l T a i k then some (.inr (Sum.inl (false, 0))) else (Option.bind (in64 ((k : Int) + 1)) fun x567 => some (.inl x567))) = R → r39_Check_l4 N l T a i k = R := fun k hk R h => by
        refine oit (decide_eq_true (by omega)) (obi (idx_out (by omega)) (obi (idx_out (by omega)) ?_))
        by_cases c1 : a.getD k 0 = a.getD i 0
        · refine obi (gO_T (decide_eq_true c1) (idx_tk (by omega))) (obi (gO_T (decide_eq_true c1) (idx_tk hi)) (obi (gO_T (decide_eq_true c1) (exc_eq N v (by omega) hi)) ?_))
          have : hitC l T a i k = (decide (a.getD k 0 = a.getD i 0) && exc T (tk l k) (tk l i)) := by unfold hitC; rw [exc_symm, decide_eq_true c1, decide_eq_true c1.symm]
          rw [this] at h
          exact h
        · have : hitC l T a i k = false := bandF (decide_eq_false fun e => c1 e.symm)
          rw [this, cond_false] at h
          exact obi (gO_F (decide_eq_false c1)) (obi (gO_F (decide_eq_false c1)) (obi (gO_F (decide_eq_false c1)) (oif (bandF (decide_eq_false c1)) h)))
      refine any_range _ _ _ (fun k hk hp => go k hk _ (oit hp rfl)) (fun k hk hp => go k hk _ (oif hp (obi (inc_nat (by omega)) rfl))) ?_ N (by omega)
      exact oif (decide_eq_false (by omega)) rfl
    have h3 : iterN (fun s : Int => r39_Check_l3 N l T a s) N 0 = some (bif (List.range l.length).any (badC l T a) then .inl (false, 0) else .inr ()) := by
      have go : ∀ (i : Nat) (hi : i < l.length) (R : Option ((Int) ⊕ ((Bool × Int) ⊕ Unit))), (bif badC l T a i then some (.inr (Sum.inl (false, 0))) else (Option.bind (in64 ((i : Int) + 1)) fun x567 => some (.inl x567))) = R → r39_Check_l3 N l T a i = R := fun i hi R h => by
        refine oit (decide_eq_true (by omega)) (obi (idx_out (by omega)) ?_)
        by_cases c1 : a.getD i 0 < 0
        · have : badC l T a i = true := borT (decide_eq_true c1)
          rw [this, cond_true] at h
          exact oit (decide_eq_true c1) h
        · refine oif (decide_eq_false c1) (obi (h4 i hi) ?_)
          cases hc : (List.range i).any (hitC l T a i) with
          | true =>
            have : badC l T a i = true := borT2 hc
            rw [this, cond_true] at h; exact h
          | false =>
            have : badC l T a i = false := borF (decide_eq_false c1) hc
            rw [this, cond_false] at h; exact h
      refine any_range _ _ _ (fun i hi hp => go i hi _ (oit hp rfl)) (fun i hi hp => go i hi _ (oif hp (obi (inc_nat (by omega)) rfl))) ?_ N (by omega)
      exact oif (decide_eq_false (by omega)) rfl
    refine oif (bnotIf (decide_eq_true (by omega))) (obi h3 ?_)
    rw [decide_eq_true hal]
    cases (List.range l.length).any (badC l T a) <;> rfl
  · rw [decide_eq_false hal]
    exact oit (bnotIt (decide_eq_false (by omega))) rfl
theorem chk_iff {l : List T_Task} {T : Int} {a : List Int} : chk l T a = true ↔ a.length = l.length ∧ ∀ i, i < l.length → 0 ≤ a.getD i 0 ∧ ∀ k, k < i → a.getD i 0 = a.getD k 0 → exc T (tk l i) (tk l k) = false := by
  unfold chk
  rw [Bool.and_eq_true, decide_eq_true_eq, Bool.not_eq_true', List.any_eq_false]
  constructor
  · rintro ⟨h1, h2⟩
    refine ⟨h1, fun i hi => ?_⟩
    have h3 := h2 i (List.mem_range.2 hi)
    have h3 : badC l T a i = false := by simpa using h3
    have h4 := of_decide_eq_false (borl h3)
    refine ⟨by omega, fun k hk e => ?_⟩
    have h5 := List.any_eq_false.1 (borr h3) k (List.mem_range.2 hk)
    have h5 : hitC l T a i k = false := by simpa using h5
    unfold hitC at h5
    rw [decide_eq_true e] at h5
    simpa using h5
  · rintro ⟨h1, h2⟩
    refine ⟨h1, fun i hi => ?_⟩
    obtain ⟨h3, h4⟩ := h2 i (List.mem_range.1 hi)
    have : badC l T a i = false := borF (decide_eq_false (by omega)) (List.any_eq_false.2 fun k hk => by
      have hk := List.mem_range.1 hk
      have : hitC l T a i k = false := by
        by_cases e : a.getD i 0 = a.getD k 0
        · exact bandF2 (h4 k hk e)
        · exact bandF (decide_eq_false e)
      simp [this])
    simp [this]
theorem ints_eq {N : Nat} {a : List Int} (ha : a.length < N) (h2 : a.length ≤ 1000000) : humpgen_Ints N a a = some true := by
  refine oif (bnotIf (decide_eq_true rfl)) (obi (first_any a (fun _ => false) false (f := humpgen_Ints_l1 N a a) (fun i hi hp => by cases hp) (fun i hi _ => ?_) ?_ N ha) ?_)
  · exact oit (decide_eq_true (by omega)) (obi (idx_nat hi) (obi (idx_nat hi) (oif (bnotIf (decide_eq_true rfl)) (obi (inc_nat (by omega)) rfl))))
  · exact oif (decide_eq_false (by omega)) rfl
  · have : a.any (fun _ => false) = false := by rw [List.any_eq_false]; intro x _; simp
    rw [this]; rfl
theorem exact_eq {N : Nat} (hN : 5000 ≤ N) (l : List T_Task) (T : Int) (a : List Int) : law39_exact N l T a = some true := by
  have fin : ∀ (x : List Int × Int × Int) (W : Int × List Int × Int) (c : Bool × Int), x.1.length ≤ 64 → W.2.1.length ≤ 64 → engine_Assign N l T = some x → r39_Assign N l T = some x → engine_Witness N l T = some W → r39_Witness N l T = some W → engine_Check N l T a = some c → r39_Check N l T a = some c → law39_exact N l T a = some true := by
    intro x W c hx hW h1 h2 h3 h4 h5 h6
    have d : ((true && decide (x.2.1 = x.2.1)) && decide (x.2.2 = x.2.2) && decide (W.1 = W.1)) = true := band (band (band rfl (decide_eq_true rfl)) (decide_eq_true rfl)) (decide_eq_true rfl)
    refine obi h1 (obi h2 (obi h3 (obi h4 (obi h5 (obi h6 (obi (ints_eq (by omega) (by omega)) (obi (gO_T d (ints_eq (by omega) (by omega))) (congrArg some ?_))))))))
    exact band (band (band (band d rfl) (decide_eq_true rfl)) (by simp)) (decide_eq_true rfl)
  by_cases h : vE l T = 0
  · have v := vE_zero.1 h
    obtain ⟨out, m, W, h1, h2, hA, h3, h4, _, h5, h6, _⟩ := witnesses hN v
    have := hA.len
    have := v.len
    exact fin _ W _ (by simp only; omega) h6 h1 h2 h3 h4 (Check_eq hN v a) (rCheck_eq hN v a)
  · have n0 : (!decide (vE l T = 0)) = true := bnotIt (decide_eq_false h)
    exact fin _ (0, [], vE l T) (false, vE l T) (by simp) (by simp) (assign_bad hN h) (rassign_bad hN h) (obi (assign_bad hN h) (oit n0 rfl)) (obi (rassign_bad hN h) (oit (borT n0) rfl)) (obi (check_eq hN l T) (oit n0 rfl)) (obi (rcheck_eq hN l T) (oit n0 rfl))
theorem sane_ok : law39_sane 5000 = some true := by decide +kernel
theorem tasks_ok {N : Nat} (hN : 5000 ≤ N) (t : List Int) {k : Int} (hk : 0 ≤ k) (hk2 : k ≤ 1000000) {n : Nat} (hn : n ≤ 100) :
    ∃ k' l, law39_tasks N t k n = some (k', l) ∧ k ≤ k' ∧ k' ≤ k + 300 ∧ l.length ≤ n ∧ ∀ x ∈ l, 0 ≤ x.From ∧ x.From < 200 ∧ x.From < x.To ∧ x.To ≤ 300 := by
  obtain ⟨b, hb, b0, b1⟩ := next_ok N t (k := k) (n := (n : Int) + 1) (by omega) (by omega) (by omega) (by omega)
  obtain ⟨r, hr, h1, h2, h3, h4⟩ := runN (f := fun s : Int × Int × List T_Task => law39_tasks_l1 N t s.1 s.2.1 s.2.2) b.toNat
    (fun i u => u.1 = b - i ∧ u.2.1 = k + 1 + 2 * i ∧ u.2.2.length = i ∧ ∀ x ∈ u.2.2, 0 ≤ x.From ∧ x.From < 200 ∧ x.From < x.To ∧ x.To ≤ 300)
    (fun r => k ≤ r.1 ∧ r.1 ≤ k + 300 ∧ r.2.length ≤ n ∧ ∀ x ∈ r.2, 0 ≤ x.From ∧ x.From < 200 ∧ x.From < x.To ∧ x.To ≤ 300) (by
      rintro i ⟨j, q, l⟩ hi ⟨rfl, rfl, hl, hx⟩
      simp only at hl hx ⊢
      obtain ⟨c, hc, c0, c1⟩ := next_ok N t (k := k + 1 + 2 * i) (n := 200) (by omega) (by omega) (by omega) (by omega)
      obtain ⟨d, hd, d0, d1⟩ := next_ok N t (k := k + 1 + 2 * i + 1) (n := 60) (by omega) (by omega) (by omega) (by omega)
      refine .inl ⟨_, oit (decide_eq_true (by omega)) (obi hc (obi (in64_ok (by simp only; omega)) (obi hd (obi (in64_ok (by simp only; omega)) (obi (app_ok (by simp only [List.length_cons, List.length_nil]; omega) (by simp only [List.length_cons, List.length_nil]; omega)) (obi (in64_ok (by omega)) rfl)))))), by simp only; omega, by simp only; omega, by simp only [List.length_append, List.length_cons, List.length_nil]; omega, fun x hx' => ?_⟩
      rcases List.mem_append.1 hx' with h | h
      · exact hx x h
      · simp at h; rw [h]; simp only; omega) (by
      rintro ⟨j, q, l⟩ ⟨rfl, rfl, hl, hx⟩
      simp only at hl hx ⊢
      exact ⟨_, oif (decide_eq_false (by omega)) rfl, by simp only; omega, by simp only; omega, by simp only; omega, hx⟩) N (by omega) (b, k + 1, []) ⟨by simp, by simp, rfl, fun x h => by simp at h⟩
  refine ⟨r.1, r.2, ?_, h1, h2, h3, h4⟩
  unfold law39_tasks
  exact obi (in64_ok (by omega)) (obi hb (obi hr rfl))
theorem EngineExact_true (t : List Int) (l : List T_Task) (T : Int) (a : List Int) : law39_EngineExact 5000 t l T a = some true := by
  have hN : 5000 ≤ 5000 := Nat.le_refl _
  have rA : ∀ (x : List T_Task), ∃ y, r39_Assign 5000 x 5 = some y ∧ y.1.length ≤ 64 := fun x => by
    by_cases h : vE x 5 = 0
    · have v := vE_zero.1 h
      obtain ⟨o, out, m, _, _, _, _, h4, hA⟩ := assigns hN v
      have := hA.len
      have := v.len
      exact ⟨_, h4, by simp only; omega⟩
    · exact ⟨_, rassign_bad hN h, by simp⟩
  have h1 : iterN (fun s : Int × Int => law39_EngineExact_l1 5000 t T a s.1 s.2) 5000 (0, 0) = some (Sum.inr ()) := by
    refine runN1 (f := fun s : Int × Int => law39_EngineExact_l1 5000 t T a s.1 s.2) 4 (fun i u => u.1 = i ∧ 0 ≤ u.2 ∧ u.2 ≤ 400 * i) _ ?_ ?_ 5000 (by omega) (0, 0) ⟨rfl, by simp, by simp⟩
    · rintro i ⟨j, k⟩ hi ⟨rfl, k0, k1⟩
      simp only at k0 k1 ⊢
      obtain ⟨k', x, hx, k2, k3, hlen, _⟩ := tasks_ok hN t (k := k) k0 (by omega) (n := 12) (by omega)
      have hj : ∃ k2 y, (bif decide ((i : Int) = 3) then (Option.bind (Maker_Pick 5000 t k' ([(-1), 0, 5])) fun r433 => Option.bind (Maker_Pick 5000 t r433.1 ([0, 5, 10080, 10081])) fun r442 => Option.bind (app 16 x ([(T_Task.mk r433.2 r442.2)])) fun l451 => some (r442.1, l451)) else some (k', x)) = some (k2, y) ∧ 0 ≤ k2 ∧ k2 ≤ k + 302 := by
        by_cases e : i = 3
        · obtain ⟨p, hp, _⟩ := pick_ok 5000 t (k := k') (v := [(-1), 0, 5]) (by omega) (by omega) (by simp) (by simp)
          obtain ⟨p2, hp2, _⟩ := pick_ok 5000 t (k := k' + 1) (v := [0, 5, 10080, 10081]) (by omega) (by omega) (by simp) (by simp)
          exact ⟨_, _, oit (decide_eq_true (by omega)) (obi hp (obi hp2 (obi (app_ok (by simp only [List.length_cons, List.length_nil]; omega) (by simp only [List.length_cons, List.length_nil]; omega)) rfl))), by omega, by omega⟩
        · exact ⟨k', x, oif (decide_eq_false (by omega)) rfl, by omega, by omega⟩
      obtain ⟨k4, y, hy, k5, k6⟩ := hj
      obtain ⟨z, hz, hzl⟩ := rA y
      have hj2 : ∃ k7 b, (bif (decide (0 < (List.length z.1 : Int)) && decide (0 < (i : Int))) then (Option.bind (Maker_Next 5000 t k4 (List.length z.1 : Int)) fun r501 => Option.bind (Maker_Pick 5000 t r501.1 ([0, 1, (-1), 99])) fun r510 => Option.bind (idx z.1 r501.2) fun x516 => some (r510.1, (List.set z.1 (Int.toNat r501.2) r510.2))) else some (k4, z.1)) = some (k7, b) ∧ 0 ≤ k7 ∧ k7 ≤ k + 304 := by
        by_cases e : 0 < z.1.length ∧ 0 < i
        · obtain ⟨p, hp, p0, p1⟩ := next_ok 5000 t (k := k4) (n := (z.1.length : Int)) (by omega) (by omega) (by omega) (by omega)
          obtain ⟨p2, hp2, _⟩ := pick_ok 5000 t (k := k4 + 1) (v := [0, 1, (-1), 99]) (by omega) (by omega) (by simp) (by simp)
          obtain ⟨pn, rfl⟩ : ∃ pn : Nat, p = pn := ⟨p.toNat, by omega⟩
          exact ⟨_, _, oit (band (decide_eq_true (by omega)) (decide_eq_true (by omega))) (obi hp (obi hp2 (obi (idx_nat (by omega)) rfl))), by omega, by omega⟩
        · refine ⟨k4, z.1, oif ?_ rfl, by omega, by omega⟩
          by_cases e2 : 0 < z.1.length
          · exact bandF2 (decide_eq_false (by omega))
          · exact bandF (decide_eq_false (by omega))
      obtain ⟨k7, b, hb, k8, k9⟩ := hj2
      obtain ⟨p, hp, _⟩ := pick_ok 5000 t (k := k7) (v := [0, 5, 30, (-1), 10080, 10081]) (by omega) (by omega) (by simp) (by simp)
      have last : ∃ q, (gO ((!(!true)) && decide ((List.length a : Int) < 200)) (law39_exact 5000 y T a)) = some q ∧ ((!true) || (decide ((List.length a : Int) < 200) && (!q))) = false := by
        by_cases h : (a.length : Int) < 200
        · exact ⟨true, gO_T (band rfl (decide_eq_true h)) (exact_eq hN _ _ _), borF rfl (bandF2 rfl)⟩
        · exact ⟨default, gO_F (bandF2 (decide_eq_false h)), borF rfl (bandF (decide_eq_false h))⟩
      obtain ⟨q, hq, hq2⟩ := last
      exact ⟨_, oit (decide_eq_true (by omega)) (obi hx (obi hy (obi hz (obi hb (obi hp (obi (exact_eq hN _ _ _) (obi hq (oif hq2 (obi (inc_nat (by omega)) rfl))))))))), rfl, by simp only; omega, by simp only; omega⟩
    · rintro ⟨j, k⟩ ⟨rfl, _, _⟩
      exact oif (decide_eq_false (by simp)) rfl
  unfold law39_EngineExact
  refine obi rfl (obi h1 ?_)
  by_cases h : (decide (100 < (l.length : Int)) || decide (200 < (a.length : Int))) = true
  · exact obi (gO_F (bnotIf h)) (obi (gO_F (bandF (bnotIf h))) (congrArg some (borT h)))
  · have h' : (decide (100 < (l.length : Int)) || decide (200 < (a.length : Int))) = false := by simpa using h
    exact obi (gO_T (bnotIt h') (exact_eq hN _ _ _)) (obi (gO_T (band (bnotIt h') rfl) sane_ok) (congrArg some (borT2 rfl)))
end Go.Gv
