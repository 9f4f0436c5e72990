/- Setting out (chapter 34): what the plans, the groups and the best order are. -/
import Derived.Test.YtpljjjcfinpgeaaPm
namespace Go.Gv
def okL (l : List Int) (n : Int) : Bool := !(l.any fun x => decide (x < 0) || decide (n ≤ x))
theorem okL_iff {l : List Int} {n : Int} : okL l n = true ↔ ∀ x ∈ l, 0 ≤ x ∧ x < n := by
  unfold okL
  rw [Bool.not_eq_true', List.any_eq_false]
  constructor
  · intro h x hx
    have := h x hx
    simp at this; omega
  · intro h x hx
    have := h x hx
    simp; omega
theorem check_eq {N : Nat} (hN : 2000 ≤ N) (l : List Int) (n : Int) : setout_check N l n = some (if 96 < l.length then 3 else bif okL l n then 0 else 2) := by
  unfold setout_check
  by_cases h : 96 < l.length
  · rw [if_pos h]; exact oit (decide_eq_true (by omega)) rfl
  · rw [if_neg h]
    refine oif (decide_eq_false (by omega)) (obi (first_any l (fun x => decide (x < 0) || decide (n ≤ x)) 2 (f := setout_check_l1 N l n) (fun i hi hp => ?_) (fun i hi hp => ?_) ?_ N (by omega)) ?_)
    · exact oit (decide_eq_true (by omega)) (obi (idx_nat hi) (oit hp rfl))
    · exact oit (decide_eq_true (by omega)) (obi (idx_nat hi) (oif hp (obi (inc_nat (by omega)) rfl)))
    · exact oif (decide_eq_false (by omega)) rfl
    · unfold okL
      cases (l.any fun x => decide (x < 0) || decide (n ≤ x)) <;> rfl
theorem inside_eq {N : Nat} (hN : 2000 ≤ N) {l : List Int} (hl : l.length ≤ 96) (n : Int) : r34_inside N l n = some (okL l n) := by
  refine obi (first_any l (fun x => decide (x < 0) || decide (n ≤ x)) false (f := r34_inside_l1 N l n) (fun i hi hp => ?_) (fun i hi hp => ?_) ?_ N (by omega)) ?_
  · by_cases h0 : l[i] < 0
    · exact oit (decide_eq_true (by omega)) (obi (idx_nat hi) (obi (gO_F (bnotIf (decide_eq_true h0))) (oit (borT (decide_eq_true h0)) rfl)))
    · exact oit (decide_eq_true (by omega)) (obi (idx_nat hi) (obi (gO_T (bnotIt (decide_eq_false h0)) (idx_nat hi)) (oit hp rfl)))
  · have h0 : ¬ l[i] < 0 := of_decide_eq_false (borl hp)
    exact oit (decide_eq_true (by omega)) (obi (idx_nat hi) (obi (gO_T (bnotIt (decide_eq_false h0)) (idx_nat hi)) (oif hp (obi (inc_nat (by omega)) rfl))))
  · exact oif (decide_eq_false (by omega)) rfl
  · unfold okL
    cases (l.any fun x => decide (x < 0) || decide (n ≤ x)) <;> rfl
/-- groups of a stop; 'run': a wagon of the stop is the last one that stands there still -/
def gr (s : Int) : Bool → List Int → Nat
  | _, [] => 0
  | run, x :: t => if x = s then (bif run then 0 else 1) + gr s true t else if s < x then gr s false t else gr s run t
theorem gr_cons (s : Int) (run : Bool) (x : Int) (t : List Int) : gr s run (x :: t) = if x = s then (bif run then 0 else 1) + gr s true t else if s < x then gr s false t else gr s run t := rfl
theorem at_eq {N : Nat} (hN : 2000 ≤ N) {l : List Int} (hl : l.length ≤ 96) (s : Int) : r34_At N l s = some ((l.count s : Int), (gr s false l : Int)) := by
  refine obi (runN1 (f := fun u : Int × Int × Bool × Int => r34_At_l1 N l s u.1 u.2.1 u.2.2.1 u.2.2.2) l.length
    (fun i u => u.2.2.2 = i ∧ (∃ c : Nat, u.1 = c ∧ c + (l.drop i).count s = l.count s ∧ c ≤ i) ∧ ∃ k : Nat, u.2.1 = k ∧ k ≤ i ∧ k + gr s u.2.2.1 (l.drop i) = gr s false l) ((l.count s : Int), (gr s false l : Int)) ?_ ?_ N (by omega) (0, 0, false, 0) ?_) rfl
  · rintro i ⟨w, g, run, j⟩ hi ⟨rfl, ⟨c, rfl, hc, hci⟩, k, rfl, hki, hk⟩
    simp only at *
    rw [drop_cons hi] at hc hk
    rw [List.count_cons] at hc
    rw [gr_cons] at hk
    unfold r34_At_l1
    by_cases e : l[i] = s
    · rw [if_pos e] at hk
      rw [e] at hc
      simp only [beq_self_eq_true, if_true] at hc
      cases run with
      | false =>
        exact ⟨_, oit (decide_eq_true (by omega)) (obi (idx_nat hi) (oit (decide_eq_true e) (obi (inc_nat (n := c) (by omega)) (oit rfl (obi (inc_nat (n := k) (by omega)) (obi (inc_nat (by omega)) rfl)))))), rfl, ⟨c + 1, rfl, by omega, by omega⟩, k + 1, rfl, by omega, by simp only [cond_true, cond_false] at hk ⊢; omega⟩
      | true =>
        exact ⟨_, oit (decide_eq_true (by omega)) (obi (idx_nat hi) (oit (decide_eq_true e) (obi (inc_nat (n := c) (by omega)) (oif rfl (obi (inc_nat (by omega)) rfl))))), rfl, ⟨c + 1, rfl, by omega, by omega⟩, k, rfl, by omega, by simp only [cond_true, cond_false] at hk ⊢; omega⟩
    · rw [if_neg e] at hk
      have hb : (l[i] == s) = false := by simpa using e
      rw [hb] at hc
      simp only [Bool.false_eq_true, if_false] at hc
      by_cases h2 : s < l[i]
      · rw [if_pos h2] at hk
        exact ⟨_, oit (decide_eq_true (by omega)) (obi (idx_nat hi) (oif (decide_eq_false e) (obi (idx_nat hi) (oit (decide_eq_true h2) (obi (inc_nat (by omega)) rfl))))), rfl, ⟨c, rfl, by omega, by omega⟩, k, rfl, by omega, hk⟩
      · rw [if_neg h2] at hk
        exact ⟨_, oit (decide_eq_true (by omega)) (obi (idx_nat hi) (oif (decide_eq_false e) (obi (idx_nat hi) (oif (decide_eq_false h2) (obi (inc_nat (by omega)) rfl))))), rfl, ⟨c, rfl, by omega, by omega⟩, k, rfl, by omega, hk⟩
  · rintro ⟨w, g, run, j⟩ ⟨rfl, ⟨c, rfl, hc, _⟩, k, rfl, _, hk⟩
    simp only at *
    rw [List.drop_length] at hc hk
    have h1 : c = l.count s := by simpa using hc
    have h2 : k = gr s false l := by simpa [gr] using hk
    rw [← h1, ← h2]
    exact oif (decide_eq_false (by omega)) rfl
  · exact ⟨rfl, ⟨0, rfl, by simp, by omega⟩, 0, rfl, by omega, by simp⟩
theorem gr_filter (s : Int) : ∀ (l : List Int) (run : Bool), gr s run (l.filter fun x => decide (s ≤ x)) = gr s run l
  | [], _ => rfl
  | x :: t, run => by
    by_cases h : s ≤ x
    · rw [List.filter_cons, if_pos (decide_eq_true h)]
      simp only [gr, gr_filter s t]
    · rw [List.filter_cons, if_neg (by simpa using h), gr_filter s t]
      simp only [gr]
      rw [if_neg (by omega), if_neg (by omega)]
theorem count_filter_le (s : Int) (l : List Int) : (l.filter fun x => decide (s ≤ x)).count s = l.count s := by
  rw [List.count_filter]; exact decide_eq_true (Int.le_refl s)
/-- one stop of the plan -/
theorem stop_eq {N : Nat} (hN : 2000 ≤ N) {f : List Int} (hl : f.length ≤ 96) {s : Int} (hs : ∀ x ∈ f, s ≤ x) :
    iterN (fun u : Int × Int × Int × List Int => setout_plan_l5 N s f u.1 u.2.1 u.2.2.1 u.2.2.2) N (0, 0, 0, []) = some ((f.count s : Int), (gr s false f : Int), f.filter fun x => decide (s + 1 ≤ x)) := by
  refine runN1 (f := fun u : Int × Int × Int × List Int => setout_plan_l5 N s f u.1 u.2.1 u.2.2.1 u.2.2.2) f.length
    (fun i u => u.1 = i ∧ (∃ c : Nat, u.2.1 = c ∧ c + (f.drop i).count s = f.count s ∧ c ≤ i) ∧ (∃ (k : Nat) (run : Bool), u.2.2.1 = k ∧ k ≤ i ∧ (run = true ↔ 0 < i ∧ f[i - 1]? = some s) ∧ k + gr s run (f.drop i) = gr s false f) ∧ u.2.2.2 = (f.take i).filter fun x => decide (s + 1 ≤ x)) _ ?_ ?_ N (by omega) (0, 0, 0, []) ?_
  · rintro i ⟨j, w, g, rest⟩ hi ⟨rfl, ⟨c, rfl, hc, hci⟩, ⟨k, run, rfl, hki, hrun, hk⟩, rfl⟩
    simp only at *
    rw [drop_cons hi] at hc hk
    rw [List.count_cons] at hc
    rw [gr_cons] at hk
    have hsi := hs f[i] (List.getElem_mem hi)
    have hgi : f[i + 1 - 1]? = some f[i] := by rw [Nat.add_sub_cancel]; exact List.getElem?_eq_getElem hi
    have hlen : ((f.take i).filter fun x => decide (s + 1 ≤ x)).length ≤ i := Nat.le_trans (List.length_filter_le _ _) (by simp; omega)
    unfold setout_plan_l5
    by_cases e : f[i] = s
    · rw [if_pos e] at hk
      have hc' : c + ((f.drop (i + 1)).count s + 1) = f.count s := by rw [e] at hc; simpa using hc
      have hrest : (f.take (i + 1)).filter (fun x => decide (s + 1 ≤ x)) = (f.take i).filter fun x => decide (s + 1 ≤ x) := by
        rw [take_snoc hi, List.filter_append, List.filter_cons, if_neg (by simp; omega)]; simp
      have hn : (!decide (f[i] = s)) = false := bnotIf (decide_eq_true e)
      have hrun' : (true = true ↔ 0 < i + 1 ∧ f[i + 1 - 1]? = some s) := ⟨fun _ => ⟨by omega, by rw [hgi, e]⟩, fun _ => rfl⟩
      by_cases h0 : i = 0
      · have hr : run = false := by
          rw [Bool.eq_false_iff]; intro h; exact absurd (hrun.1 h).1 (by omega)
        rw [hr] at hk
        have d0 : decide ((i : Int) = 0) = true := decide_eq_true (by omega)
        refine ⟨_, oit (decide_eq_true (by omega)) (obi (idx_nat hi) (oif hn (obi (inc_nat (n := c) (by omega)) (obi (gO_F (bnotIf d0)) (obi (gO_F (bnotIf d0)) (oit (borT d0) (obi (inc_nat (n := k) (by omega)) (obi (inc_nat (by omega)) rfl)))))))), rfl, ⟨c + 1, rfl, by omega, by omega⟩, ⟨k + 1, true, rfl, by omega, hrun', by simp only [cond_true, cond_false] at hk ⊢; omega⟩, hrest.symm⟩
      · have d0 : decide ((i : Int) = 0) = false := decide_eq_false (by omega)
        have ei : in64 ((i : Int) - 1) = some ((i - 1 : Nat) : Int) := in64_nat (by omega) (by omega)
        have e1 : idx f ((i - 1 : Nat) : Int) = some f[i - 1] := idx_nat (by omega)
        have e2 : f[i - 1]? = some f[i - 1] := List.getElem?_eq_getElem (by omega)
        by_cases h3 : f[i - 1] = s
        · have hr : run = true := hrun.2 ⟨by omega, by rw [e2, h3]⟩
          rw [hr] at hk
          refine ⟨_, oit (decide_eq_true (by omega)) (obi (idx_nat hi) (oif hn (obi (inc_nat (n := c) (by omega)) (obi (gO_T (bnotIt d0) ei) (obi (gO_T (bnotIt d0) e1) (oif (borF d0 (bnotIf (decide_eq_true h3))) (obi (inc_nat (by omega)) rfl))))))), rfl, ⟨c + 1, rfl, by omega, by omega⟩, ⟨k, true, rfl, by omega, hrun', by simp only [cond_true, cond_false] at hk ⊢; omega⟩, hrest.symm⟩
        · have hr : run = false := by
            rw [Bool.eq_false_iff]; intro h
            have := (hrun.1 h).2
            rw [e2] at this; exact h3 (Option.some.inj this)
          rw [hr] at hk
          refine ⟨_, oit (decide_eq_true (by omega)) (obi (idx_nat hi) (oif hn (obi (inc_nat (n := c) (by omega)) (obi (gO_T (bnotIt d0) ei) (obi (gO_T (bnotIt d0) e1) (oit (borT2 (bnotIt (decide_eq_false h3))) (obi (inc_nat (n := k) (by omega)) (obi (inc_nat (by omega)) rfl)))))))), rfl, ⟨c + 1, rfl, by omega, by omega⟩, ⟨k + 1, true, rfl, by omega, hrun', by simp only [cond_true, cond_false] at hk ⊢; omega⟩, hrest.symm⟩
    · rw [if_neg e, if_pos (by omega)] at hk
      have hb : (f[i] == s) = false := by simpa using e
      rw [hb] at hc
      simp only [Bool.false_eq_true, if_false] at hc
      refine ⟨_, oit (decide_eq_true (by omega)) (obi (idx_nat hi) (oit (bnotIt (decide_eq_false e)) (obi (app_ok (by simp only [List.length_cons, List.length_nil]; omega) (by simp only [List.length_cons, List.length_nil]; omega)) (obi (inc_nat (by omega)) rfl)))), rfl, ⟨c, rfl, by omega, by omega⟩, ⟨k, false, rfl, by omega, ⟨fun h => (by cases h), fun h => by rw [hgi] at h; exact absurd (Option.some.inj h.2) e⟩, hk⟩, ?_⟩
      rw [take_snoc hi, List.filter_append, List.filter_cons, if_pos (by simp; omega)]; rfl
  · rintro ⟨j, w, g, rest⟩ ⟨rfl, ⟨c, rfl, hc, _⟩, ⟨k, run, rfl, _, _, hk⟩, rfl⟩
    simp only at *
    rw [List.drop_length] at hc hk
    have h1 : c = f.count s := by simpa using hc
    have h2 : k = gr s false f := by simpa [gr] using hk
    rw [← h1, ← h2, List.take_length]
    exact oif (decide_eq_false (by omega)) rfl
  · exact ⟨rfl, ⟨0, rfl, by simp, by omega⟩, ⟨0, false, rfl, by omega, by simp, by simp⟩, by simp⟩
/-- the plan's row of a stop -/
def rowL (l : List Int) (s : Nat) : List T_SetOut := if 0 < l.count (s : Int) then [⟨s, l.count (s : Int), gr s false l⟩] else []
def planL (l : List Int) (n : Nat) : List T_SetOut := (List.range n).flatMap (rowL l)
theorem planL_succ (l : List Int) (n : Nat) : planL l (n + 1) = planL l n ++ rowL l n := by
  unfold planL; rw [List.range_succ, List.flatMap_append]; simp
theorem planL_len (l : List Int) : ∀ n, (planL l n).length ≤ n
  | 0 => by simp [planL]
  | n + 1 => by
    rw [planL_succ, List.length_append]
    have := planL_len l n
    have : (rowL l n).length ≤ 1 := by unfold rowL; split <;> simp
    omega
theorem plan_eq {N : Nat} (hN : 2000 ≤ N) {l : List Int} (hl : l.length ≤ 96) {n : Nat} (hn : n ≤ 16) (h0 : ∀ x ∈ l, 0 ≤ x) : setout_plan N l n = some (planL l n) := by
  refine obi (runN1 (f := fun u : Int × List T_SetOut × List Int => setout_plan_l4 N n u.1 u.2.1 u.2.2) n
    (fun i u => u.1 = i ∧ u.2.1 = planL l i ∧ u.2.2 = l.filter fun x => decide ((i : Int) ≤ x)) (planL l n) ?_ ?_ N (by omega) (0, [], l) ?_) rfl
  · rintro s ⟨j, out, tr⟩ hs ⟨rfl, rfl, rfl⟩
    simp only
    have hst := stop_eq hN (f := l.filter fun x => decide ((s : Int) ≤ x)) (Nat.le_trans (List.length_filter_le _ _) hl) (s := (s : Int)) (fun x hx => of_decide_eq_true (List.mem_filter.1 hx).2)
    rw [count_filter_le, gr_filter] at hst
    have hf : ((l.filter fun x => decide ((s : Int) ≤ x)).filter fun x => decide ((s : Int) + 1 ≤ x)) = l.filter fun x => decide (((s + 1 : Nat) : Int) ≤ x) := by
      rw [List.filter_filter]
      congr 1; funext x
      by_cases h : ((s + 1 : Nat) : Int) ≤ x
      · simp only [decide_eq_true h]; exact band (decide_eq_true (by omega)) (decide_eq_true (by omega))
      · rw [decide_eq_false h]; exact bandF (decide_eq_false (by omega))
    rw [hf] at hst
    have hp := planL_len l s
    unfold setout_plan_l4
    by_cases hc : 0 < l.count (s : Int)
    · refine ⟨_, oit (decide_eq_true (by omega)) (obi hst (oit (decide_eq_true (by simp only; omega)) (obi (app_ok (by simp only [List.length_cons, List.length_nil]; omega) (by simp only [List.length_cons, List.length_nil]; omega)) (obi (inc_nat (by omega)) rfl)))), rfl, ?_, rfl⟩
      simp only
      rw [planL_succ]; unfold rowL; rw [if_pos hc]
    · refine ⟨_, oit (decide_eq_true (by omega)) (obi hst (oif (decide_eq_false (by simp only; omega)) (obi (inc_nat (by omega)) rfl))), rfl, ?_, rfl⟩
      simp only
      rw [planL_succ]; unfold rowL; rw [if_neg hc, List.append_nil]
  · rintro ⟨j, out, tr⟩ ⟨rfl, rfl, rfl⟩
    exact oif (decide_eq_false (by simp)) rfl
  · refine ⟨rfl, rfl, ?_⟩
    simp only
    exact (List.filter_eq_self.2 fun x hx => decide_eq_true (by have := h0 x hx; omega)).symm
theorem rplan_loop {N : Nat} (hN : 2000 ≤ N) {l : List Int} (hl : l.length ≤ 96) {n : Nat} (hn : n ≤ 16) : iterN (fun s : Int × List T_SetOut => r34_Plan_l1 N l n s.1 s.2) N (0, []) = some (planL l n) := by
  refine runN1 (f := fun s : Int × List T_SetOut => r34_Plan_l1 N l n s.1 s.2) n (fun i u => u.1 = i ∧ u.2 = planL l i) (planL l n) ?_ ?_ N (by omega) (0, []) ⟨rfl, rfl⟩
  · rintro s ⟨j, out⟩ hs ⟨rfl, rfl⟩
    simp only
    have hp := planL_len l s
    unfold r34_Plan_l1
    by_cases hc : 0 < l.count (s : Int)
    · refine ⟨_, oit (decide_eq_true (by omega)) (obi (at_eq hN hl s) (oit (decide_eq_true (by simp only; omega)) (obi (app_ok (by simp only [List.length_cons, List.length_nil]; omega) (by simp only [List.length_cons, List.length_nil]; omega)) (obi (inc_nat (by omega)) rfl)))), rfl, ?_⟩
      simp only
      rw [planL_succ]; unfold rowL; rw [if_pos hc]
    · refine ⟨_, oit (decide_eq_true (by omega)) (obi (at_eq hN hl s) (oif (decide_eq_false (by simp only; omega)) (obi (inc_nat (by omega)) rfl))), rfl, ?_⟩
      simp only
      rw [planL_succ]; unfold rowL; rw [if_neg hc, List.append_nil]
  · rintro ⟨j, out⟩ ⟨rfl, rfl⟩
    exact oif (decide_eq_false (by simp)) rfl
def PL (l : List Int) (n : Int) : List T_SetOut × Int := if n < 0 ∨ 16 < n then ([], 2) else if 96 < l.length then ([], 3) else bif okL l n then (planL l n.toNat, 0) else ([], 2)
theorem Plan_eq {N : Nat} (hN : 2000 ≤ N) (l : List Int) (n : Int) : setout_Plan N l n = some (PL l n) := by
  unfold setout_Plan PL
  by_cases h : n < 0 ∨ 16 < n
  · rw [if_pos h]
    refine oit ?_ rfl
    rcases h with h | h
    · exact borT (decide_eq_true h)
    · exact borT2 (decide_eq_true h)
  · rw [if_neg h]
    refine oif (borF (decide_eq_false (by omega)) (decide_eq_false (by omega))) (obi (check_eq hN l n) ?_)
    by_cases h2 : 96 < l.length
    · rw [if_pos h2, if_pos h2]; rfl
    · rw [if_neg h2, if_neg h2]
      cases hk : okL l n with
      | false => rfl
      | true =>
        refine oif rfl (obi ?_ rfl)
        obtain ⟨m, rfl⟩ : ∃ m : Nat, n = m := ⟨n.toNat, by omega⟩
        exact plan_eq hN (by omega) (by omega) (fun x hx => (okL_iff.1 hk x hx).1)
theorem rPlan_eq {N : Nat} (hN : 2000 ≤ N) (l : List Int) (n : Int) : r34_Plan N l n = some (PL l n) := by
  unfold r34_Plan PL
  by_cases h : n < 0 ∨ 16 < n
  · rw [if_pos h]
    refine oit ?_ rfl
    rcases h with h | h
    · exact borT (decide_eq_true h)
    · exact borT2 (decide_eq_true h)
  · rw [if_neg h]
    refine oif (borF (decide_eq_false (by omega)) (decide_eq_false (by omega))) ?_
    by_cases h2 : 96 < l.length
    · rw [if_pos h2]; exact oit (decide_eq_true (by omega)) rfl
    · rw [if_neg h2]
      refine oif (decide_eq_false (by omega)) (obi (inside_eq hN (by omega) n) ?_)
      cases hk : okL l n with
      | false => rfl
      | true =>
        refine oif rfl (obi ?_ rfl)
        obtain ⟨m, rfl⟩ : ∃ m : Nat, n = m := ⟨n.toNat, by omega⟩
        exact rplan_loop hN (by omega) (by omega)
/-! groups -/
def sumG (l : List Int) : Nat → Nat
  | 0 => 0
  | n + 1 => sumG l n + gr n false l
theorem gr_le (s : Int) : ∀ (l : List Int) (run : Bool), gr s run l ≤ l.count s
  | [], _ => by simp [gr]
  | x :: t, run => by
    have h1 := gr_le s t
    simp only [gr, List.count_cons]
    by_cases e : x = s
    · rw [if_pos e]
      have := h1 true
      have : (bif run then 0 else 1) ≤ 1 := by cases run <;> decide
      simp [e]; omega
    · rw [if_neg e]
      have h2 := h1 false
      have h3 := h1 run
      split <;> omega
theorem gr_len (s : Int) (l : List Int) (run : Bool) : gr s run l ≤ l.length := Nat.le_trans (gr_le s l run) List.count_le_length
theorem gr_zero {s : Int} {l : List Int} (h : l.count s = 0) (run : Bool) : gr s run l = 0 := by have := gr_le s l run; omega
theorem sumG_le (l : List Int) : ∀ n, sumG l n ≤ n * l.length
  | 0 => by simp [sumG]
  | n + 1 => by have := sumG_le l n; have := gr_len n l false; simp only [sumG, Nat.add_mul, Nat.one_mul]; omega
theorem sumG_rows (l : List Int) : ∀ n, ((planL l n).map (·.Groups)).sum = (sumG l n : Int)
  | 0 => rfl
  | n + 1 => by
    rw [planL_succ, List.map_append, List.sum_append, sumG_rows l n]
    unfold rowL
    by_cases h : 0 < l.count (n : Int)
    · rw [if_pos h]; simp [sumG]
    · rw [if_neg h]; simp [sumG, gr_zero (Nat.eq_zero_of_not_pos h)]
def GL (l : List Int) : Int × Int := if 96 < l.length then (0, 3) else bif okL l 16 then ((sumG l 16 : Int), 0) else (0, 2)
theorem row_of {l : List Int} {n : Nat} {x : T_SetOut} (h : x ∈ planL l n) : ∃ s, s < n ∧ 0 < l.count (s : Int) ∧ x = ⟨s, l.count (s : Int), gr s false l⟩ := by
  obtain ⟨s, hs, hx⟩ := List.mem_flatMap.1 h
  unfold rowL at hx
  split at hx
  · rename_i hc
    simp at hx
    exact ⟨s, List.mem_range.1 hs, hc, hx⟩
  · simp at hx
theorem sum_le {l : List Int} {b : Int} (h : ∀ x ∈ l, 0 ≤ x ∧ x ≤ b) : 0 ≤ l.sum ∧ l.sum ≤ b * l.length := by
  induction l with
  | nil => simp
  | cons x t ih =>
    have h1 := ih fun y hy => h y (List.mem_cons_of_mem _ hy)
    have h2 := h x List.mem_cons_self
    rw [List.sum_cons, List.length_cons]
    have : b * ((t.length + 1 : Nat) : Int) = b * t.length + b := by rw [Int.natCast_add, Int.mul_add]; simp
    omega
theorem Groups_eq {N : Nat} (hN : 2000 ≤ N) (l : List Int) : setout_Groups N l = some (GL l) := by
  unfold setout_Groups GL
  refine obi (check_eq hN l 16) ?_
  by_cases h2 : 96 < l.length
  · rw [if_pos h2, if_pos h2]; rfl
  · rw [if_neg h2, if_neg h2]
    cases hk : okL l 16 with
    | false => rfl
    | true =>
      have hp := planL_len l 16
      refine oif rfl (obi (plan_eq (n := 16) hN (by omega) (by omega) (fun x hx => (okL_iff.1 hk x hx).1)) (obi (x := (sumG l 16 : Int)) ?_ rfl))
      rw [← sumG_rows]
      refine runN1 (f := fun s : Int × Int => setout_Groups_l1 N (planL l 16) s.1 s.2) (planL l 16).length (fun i u => u.2 = i ∧ u.1 = (((planL l 16).take i).map (·.Groups)).sum) _ ?_ ?_ N (by omega) (0, 0) ⟨rfl, by simp⟩
      · rintro i ⟨a, j⟩ hi ⟨rfl, rfl⟩
        simp only
        have hrow : ∀ x ∈ (planL l 16), 0 ≤ x.Groups ∧ x.Groups ≤ 96 := fun x hx => by
          obtain ⟨s, _, _, rfl⟩ := row_of hx
          have := gr_len s l false
          simp only; omega
        have hb := sum_le (l := ((planL l 16).take i).map (·.Groups)) (b := 96) (fun y hy => by
          obtain ⟨x, hx, rfl⟩ := List.mem_map.1 hy
          exact hrow x (List.mem_of_mem_take hx))
        have hb2 := hrow _ (List.getElem_mem hi)
        have hlen : (((planL l 16).take i).map (·.Groups)).length ≤ 16 := by simp; omega
        refine ⟨_, oit (decide_eq_true (by omega)) (obi (idx_nat hi) (obi (in64_ok (by omega)) (obi (inc_nat (by omega)) rfl))), rfl, ?_⟩
        simp only
        rw [take_snoc hi, List.map_append, List.sum_append]; simp
      · rintro ⟨a, j⟩ ⟨rfl, rfl⟩
        simp only
        rw [List.take_length]
        exact oif (decide_eq_false (by omega)) rfl
theorem rcheck_eq {N : Nat} (hN : 2000 ≤ N) (l : List Int) : r34_check N l = some (if 96 < l.length then 3 else bif okL l 16 then 0 else 2) := by
  unfold r34_check
  by_cases h : 96 < l.length
  · rw [if_pos h]; exact oit (decide_eq_true (by omega)) rfl
  · rw [if_neg h]
    refine oif (decide_eq_false (by omega)) (obi (inside_eq hN (by omega) 16) ?_)
    cases okL l 16 <;> rfl
theorem rGroups_eq {N : Nat} (hN : 2000 ≤ N) (l : List Int) : r34_Groups N l = some (GL l) := by
  unfold r34_Groups GL
  refine obi (rcheck_eq hN l) ?_
  by_cases h2 : 96 < l.length
  · rw [if_pos h2, if_pos h2]; rfl
  · rw [if_neg h2, if_neg h2]
    cases hk : okL l 16 with
    | false => rfl
    | true =>
      refine oif rfl (obi (x := (sumG l 16 : Int)) ?_ rfl)
      refine runN1 (f := fun s : Int × Int => r34_Groups_l1 N l s.1 s.2) 16 (fun i u => u.2 = i ∧ u.1 = (sumG l i : Int)) _ ?_ ?_ N (by omega) (0, 0) ⟨rfl, rfl⟩
      · rintro i ⟨a, j⟩ hi ⟨rfl, rfl⟩
        simp only
        have h1 := sumG_le l i
        have h3 : i * l.length ≤ 16 * 96 := Nat.mul_le_mul (by omega) (by omega)
        have := gr_len i l false
        exact ⟨_, oit (decide_eq_true (by omega)) (obi (at_eq hN (by omega) i) (obi (in64_nat (n := sumG l (i + 1)) (by simp only [sumG]; omega) (by simp only [sumG]; omega)) (obi (inc_nat (by omega)) rfl))), rfl, rfl⟩
      · rintro ⟨a, j⟩ ⟨rfl, rfl⟩
        exact oif (decide_eq_false (by simp)) rfl
end Go.Gv
