/- Throwing (chapter 24): the reference's check. -/
import Derived.Test.YtpelfidmcpcmjaaPla
namespace Go.Gv
theorem starts_eq {N : Nat} (hN : 2000 ≤ N) (st : List T_Throw) : r24_starts N st = some (okS st) := by
  unfold r24_starts okS
  by_cases h128 : 128 < st.length
  · rw [show decide (st.length ≤ 128) = false from decide_eq_false (by omega)]
    exact oit (decide_eq_true (by omega)) rfl
  rw [show decide (st.length ≤ 128) = true from decide_eq_true (by omega)]
  have l4 : ∀ i : Nat, i < st.length → iterN (fun s : Int => r24_starts_l4 N st i s) N 0 = some (bif dupS st i then .inl false else .inr ()) := fun i hi => by
    refine any_range _ _ _ (fun k hk hb => ?_) (fun k hk hb => ?_) ?_ N (by omega)
    · exact oit (decide_eq_true (by omega)) (obi (idx_sk (by omega)) (obi (idx_sk hi) (oit hb rfl)))
    · exact oit (decide_eq_true (by omega)) (obi (idx_sk (by omega)) (obi (idx_sk hi) (oif hb (obi (inc_nat (by omega)) rfl))))
    · exact oif (decide_eq_false (by omega)) rfl
  have go : ∀ (i : Nat) (h : i < st.length) (R : Option (Int ⊕ (Bool ⊕ Unit))), (bif badS st i then some (.inr (Sum.inl false)) else (Option.bind (in64 ((i : Int) + 1)) fun x => some (.inl x))) = R → r24_starts_l3 N st i = R := fun i hi R hR => by
    unfold r24_starts_l3
    refine oit (decide_eq_true (by omega)) (obi (idx_sk hi) ?_)
    cases c1 : decide ((sk st i).Element < 0) with
    | true =>
      have : badS st i = true := borT (borT c1)
      rw [this, cond_true] at hR
      exact obi (gO_F rfl) (obi (gO_F rfl) (oit rfl hR))
    | false =>
      refine obi (gO_T rfl (idx_sk hi)) ?_
      have rest : ∀ R' : Option (Int ⊕ (Bool ⊕ Unit)), (bif dupS st i then some (.inr (Sum.inl false)) else (Option.bind (in64 ((i : Int) + 1)) fun x => some (.inl x))) = R' → (Option.bind (iterN (fun s : Int => r24_starts_l4 N st i s) N 0) fun r302 =>
          match r302 with
          | .inl p329 => (some (.inr (Sum.inl p329)))
          | .inr _ => (Option.bind (in64 ((i : Int) + 1)) fun x335 => some (.inl x335))) = R' := fun R' h => by
        refine obi (l4 i hi) ?_
        cases hd : dupS st i with
        | true => rw [hd, cond_true] at h; exact h
        | false => rw [hd, cond_false] at h; exact h
      cases c2 : decide ((sk st i).Side = 1) with
      | true =>
        have hs : sdB (sk st i).Side = true := borT c2
        have : badS st i = dupS st i := by unfold badS; rw [c1, hs]; simp
        rw [this] at hR
        exact obi (gO_F rfl) (oif rfl (rest R hR))
      | false =>
        refine obi (gO_T rfl (idx_sk hi)) ?_
        cases c3 : decide ((sk st i).Side = 2) with
        | true =>
          have hs : sdB (sk st i).Side = true := borT2 c3
          have : badS st i = dupS st i := by unfold badS; rw [c1, hs]; simp
          rw [this] at hR
          exact oif rfl (rest R hR)
        | false =>
          have hs : sdB (sk st i).Side = false := borF c2 c3
          have : badS st i = true := borT2 (bnotIt hs)
          rw [this, cond_true] at hR
          exact oit rfl hR
  refine oif (decide_eq_false (by omega)) (obi (any_range (badS st) false (r24_starts_l3 N st) (fun i h hp => go i h _ (oit hp rfl)) (fun i h hp => go i h _ (oif hp (obi (inc_nat (by omega)) rfl))) (oif (decide_eq_false (by omega)) rfl) N (by omega)) ?_)
  cases (List.range st.length).any (badS st) <;> rfl
theorem rtimes_step {N : Nat} (r : List Int) (b : Bool) {i : Nat} (hi : i < r.length) (hl : r.length ≤ 17592186044416) : r24_check_l1 N r b i = some (.inl ((b && !badT r i), ((i + 1 : Nat) : Int))) := by
  unfold r24_check_l1
  refine oit (decide_eq_true (by omega)) ?_
  have inc : in64 ((i : Int) + 1) = some ((i + 1 : Nat) : Int) := in64_nat (by omega) (by omega)
  cases b with
  | false => exact obi (gO_F rfl) (obi (gO_F rfl) (obi (gO_F rfl) (obi (gO_F rfl) (obi (gO_F rfl) (obi inc rfl)))))
  | true =>
    refine obi (gO_T rfl (idx_rk hi)) ?_
    by_cases c1 : 0 ≤ rk r i
    · rw [decide_eq_true c1]
      refine obi (gO_T rfl (idx_rk hi)) ?_
      by_cases c2 : rk r i ≤ 1000000000
      · rw [decide_eq_true c2]
        by_cases c3 : i = 0
        · have z : decide ((i : Int) = 0) = true := decide_eq_true (by omega)
          have : badT r i = false := borF (borF (decide_eq_false (by omega)) (decide_eq_false (by omega))) (bandF (decide_eq_false (by omega)))
          rw [z, this]
          exact obi (gO_F rfl) (obi (gO_F rfl) (obi (gO_F rfl) (obi inc rfl)))
        · have z : decide ((i : Int) = 0) = false := decide_eq_false (by omega)
          rw [z]
          refine obi (gO_T rfl (idx_rk hi)) (obi (gO_T rfl (sub1 (by omega) (by omega))) (obi (gO_T rfl (idx_rk (by omega))) (obi inc ?_)))
          have : badT r i = decide (rk r i < rk r (i - 1)) := by
            unfold badT
            rw [show decide (rk r i < 0) = false from decide_eq_false (by omega), show decide (1000000000 < rk r i) = false from decide_eq_false (by omega), show decide (0 < i) = true from decide_eq_true (by omega)]; rfl
          rw [this]
          by_cases c4 : rk r i < rk r (i - 1)
          · rw [decide_eq_true c4, show decide (rk r (i - 1) ≤ rk r i) = false from decide_eq_false (by omega)]; rfl
          · rw [decide_eq_false c4, show decide (rk r (i - 1) ≤ rk r i) = true from decide_eq_true (by omega)]; rfl
      · have : badT r i = true := borT (borT2 (decide_eq_true (by omega)))
        rw [decide_eq_false c2, this]
        exact obi (gO_F rfl) (obi (gO_F rfl) (obi (gO_F rfl) (obi inc rfl)))
    · have : badT r i = true := borT (borT (decide_eq_true (by omega)))
      rw [decide_eq_false c1, this]
      exact obi (gO_F rfl) (obi (gO_F rfl) (obi (gO_F rfl) (obi (gO_F rfl) (obi inc rfl))))
theorem rtimes {N : Nat} (r : List Int) (b : Bool) (hN : r.length < N) (hl : r.length ≤ 17592186044416) : iterN (fun s : Bool × Int => r24_check_l1 N r s.1 s.2) N (b, 0) = some (b && okT r) := by
  refine runN1 (f := fun s : Bool × Int => r24_check_l1 N r s.1 s.2) r.length (fun i s => s.2 = i ∧ s.1 = (b && !(List.range i).any (badT r))) _ ?_ ?_ N hN (b, 0) ⟨rfl, by simp⟩
  · rintro i ⟨c, i'⟩ hi ⟨rfl, rfl⟩
    refine ⟨_, rtimes_step r _ hi hl, rfl, ?_⟩
    simp only
    rw [List.range_succ, List.any_append]
    simp [Bool.not_or, Bool.and_assoc]
  · rintro ⟨c, i'⟩ ⟨rfl, rfl⟩
    unfold okT r24_check_l1
    exact oif (decide_eq_false (by simp)) rfl
theorem rcheck_eq {N : Nat} (hN : 2000 ≤ N) (l : List (List T_Span)) (r : List Int) (th : Int) (st : List T_Throw) (hr : r.length < N) (hr2 : r.length ≤ 17592186044416) : r24_check N l r th st = some (ck24 l r th st) := by
  unfold r24_check ck24
  by_cases h0 : 96 < l.length
  · rw [if_pos h0]
    have : r23_Lists N l th = some 3 := by
      unfold r23_Lists
      exact oit (decide_eq_true (by omega)) rfl
    exact obi this rfl
  rw [if_neg h0]
  refine obi (rlists_all N (by omega) l (by omega) th) ?_
  cases hs : soundB l th with
  | false => exact oit rfl rfl
  | true =>
    refine oif rfl ?_
    by_cases hrl : r.length = l.length
    · rw [decide_eq_true hrl]
      have g : decide ((List.length r : Int) = (List.length l : Int)) = true := decide_eq_true (by omega)
      rw [g]
      refine obi (gO_T rfl (starts_eq hN st)) (obi (rtimes r _ hr hr2) ?_)
      cases okS st <;> cases okT r <;> rfl
    · rw [decide_eq_false hrl]
      have g : decide ((List.length r : Int) = (List.length l : Int)) = false := decide_eq_false (by omega)
      rw [g]
      exact obi (gO_F rfl) (obi (rtimes r _ hr hr2) rfl)
end Go.Gv
