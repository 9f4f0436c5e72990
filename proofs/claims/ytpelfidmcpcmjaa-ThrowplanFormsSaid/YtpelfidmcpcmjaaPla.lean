/- Throwing (chapter 24): the checks. -/
import Derived.Test.YtpelfidmcpcmjaaPg
namespace Go.Gv
theorem any_range {n : Nat} {ρ : Type} (p : Nat → Bool) (c : ρ) (f : Int → Option (Int ⊕ (ρ ⊕ Unit))) (hT : ∀ i : Nat, i < n → p i = true → f (i : Int) = some (.inr (.inl c))) (hF : ∀ i : Nat, i < n → p i = false → f (i : Int) = some (.inl ((i + 1 : Nat) : Int)))
    (he : f (n : Int) = some (.inr (.inr ()))) (N : Nat) (hN : n < N) : iterN f N 0 = some (bif (List.range n).any p then .inl c else .inr ()) :=
  first_any (List.range n) p c f (fun i h hp => hT i (by simpa using h) (by simpa using hp)) (fun i h hp => hF i (by simpa using h) (by simpa using hp)) (by rw [List.length_range]; exact he) N (by rw [List.length_range]; exact hN)
def inT (t : Int) : Bool := decide (0 ≤ t) && decide (t ≤ 1000000000)
theorem inT_iff {t : Int} : inT t = true ↔ 0 ≤ t ∧ t ≤ 1000000000 := by simp [inT]

theorem sound_two (N : Nat) (hN : 200 ≤ N) (a b : List T_Span) (th : Int) : separation_sound N [a, b] th = some ((goodB a && goodB b) && inT th) := by
  have h := first_any [a, b] (fun x => !goodB x) false (fun s => separation_sound_l1 N [a, b] s) (fun i h hp => by
    unfold separation_sound_l1
    exact oit (decide_eq_true (by omega)) (obi (idx_nat h) (obi (svalid_eq N hN _) (oit hp rfl)))) (fun i h hp => by
    unfold separation_sound_l1
    have : i < 2 := h
    exact oit (decide_eq_true (by omega)) (obi (idx_nat h) (obi (svalid_eq N hN _) (oif hp (obi (inc_nat (by omega)) rfl))))) (by
    unfold separation_sound_l1
    exact oif (decide_eq_false (by simp)) rfl) N (by simp; omega)
  unfold separation_sound
  refine obi h ?_
  have e : ([a, b].any fun x => !goodB x) = ((!goodB a) || (!goodB b)) := by simp
  rw [e]
  cases goodB a <;> cases goodB b <;> rfl

theorem gap_nil (N : Nat) (hN : 200 ≤ N) (a : List T_Span) (hl : a.length ≤ 128) (th : Int) : separation_gap N a [] th = some (0, 0) := by
  obtain ⟨q, hq, rfl⟩ := iterN_run (f := fun s : Int × Int => separation_gap_l3 N a [] th s.1 s.2) (I := fun s => ∃ i : Nat, s = (0, (i : Int)) ∧ i ≤ a.length) (Q := fun q => q = .inr 0) (fun s => a.length - s.2.toNat) (by
    rintro s ⟨i, rfl, hi⟩
    simp only
    unfold separation_gap_l3
    by_cases h : i < a.length
    · have hin : iterN (fun s : Int × Int => separation_gap_l4 N [] th a[i] s.1 s.2) N (0, 0) = some (.inr 0) := by
        obtain ⟨M, rfl⟩ : ∃ M, N = M + 1 := ⟨N - 1, by omega⟩
        simp only [iterN]
        have : separation_gap_l4 (M + 1) [] th a[i] 0 0 = some (.inr (.inr 0)) := by
          unfold separation_gap_l4
          exact oif (decide_eq_false (by simp)) rfl
        rw [this]
      exact .inl ⟨(0, ((i + 1 : Nat) : Int)), oit (decide_eq_true (by omega)) (obi (idx_nat h) (obi hin (obi (inc_nat (by omega)) rfl))), ⟨i + 1, rfl, h⟩, by simp only; omega⟩
    · exact .inr ⟨_, oif (decide_eq_false (by omega)) rfl, rfl⟩) N (0, 0) ⟨0, rfl, Nat.zero_le _⟩ (by simp only; omega)
  unfold separation_gap
  exact obi hq rfl
theorem any_not_all {α : Type} (l : List α) (p : α → Bool) : l.any (fun x => !p x) = !l.all p := by
  induction l with
  | nil => rfl
  | cons x l ih => simp [ih, Bool.not_and]
def soundB (l : List (List T_Span)) (th : Int) : Bool := l.all goodB && inT th
theorem sound_all (N : Nat) (hN : 200 ≤ N) (l : List (List T_Span)) (hl : l.length ≤ 150) (th : Int) : separation_sound N l th = some (soundB l th) := by
  have h := first_any l (fun x => !goodB x) false (fun s => separation_sound_l1 N l s) (fun i h hp => by
    unfold separation_sound_l1
    exact oit (decide_eq_true (by omega)) (obi (idx_nat h) (obi (svalid_eq N hN _) (oit hp rfl)))) (fun i h hp => by
    unfold separation_sound_l1
    exact oit (decide_eq_true (by omega)) (obi (idx_nat h) (obi (svalid_eq N hN _) (oif hp (obi (inc_nat (by omega)) rfl))))) (by
    unfold separation_sound_l1
    exact oif (decide_eq_false (by omega)) rfl) N (by omega)
  rw [any_not_all] at h
  unfold separation_sound soundB
  cases hb : l.all goodB with
  | true => rw [hb] at h; exact obi h rfl
  | false => rw [hb] at h; exact obi h rfl
theorem rlists_all (N : Nat) (hN : 200 ≤ N) (l : List (List T_Span)) (hl : l.length ≤ 96) (th : Int) : r23_Lists N l th = some (bif soundB l th then 0 else 1) := by
  obtain ⟨q, hq, rfl⟩ := iterN_run (f := fun s : Bool × Int => r23_Lists_l1 N l s.1 s.2) (I := fun s => ∃ i : Nat, s = (inT th && (l.take i).all goodB, (i : Int)) ∧ i ≤ l.length) (Q := fun q => q = (inT th && l.all goodB)) (fun s => l.length - s.2.toNat) (by
    rintro s ⟨i, rfl, hi⟩
    simp only
    unfold r23_Lists_l1
    by_cases h : i < l.length
    · have htk : l.take (i + 1) = l.take i ++ [l[i]] := List.take_succ_eq_append_getElem h
      have hall : (l.take (i + 1)).all goodB = ((l.take i).all goodB && goodB l[i]) := by rw [htk, List.all_append]; simp only [List.all_cons, List.all_nil, Bool.and_true]
      cases hb : (inT th && (l.take i).all goodB) with
      | true =>
        refine .inl ⟨(goodB l[i], ((i + 1 : Nat) : Int)), oit (decide_eq_true (by omega)) (obi (gO_T rfl (idx_nat h)) (obi (gO_T rfl (rvalid_eq N hN _)) (obi (inc_nat (by omega)) rfl))), ⟨i + 1, ?_, h⟩, by simp only; omega⟩
        rw [hall, ← Bool.and_assoc, hb]; rfl
      | false =>
        refine .inl ⟨(false, ((i + 1 : Nat) : Int)), oit (decide_eq_true (by omega)) (obi (gO_F rfl) (obi (gO_F rfl) (obi (inc_nat (by omega)) rfl))), ⟨i + 1, ?_, h⟩, by simp only; omega⟩
        rw [hall, ← Bool.and_assoc, hb]; rfl
    · have : i = l.length := by omega
      subst this
      exact .inr ⟨_, oif (decide_eq_false (by omega)) rfl, by rw [List.take_of_length_le (Nat.le_refl _)]⟩) N (inT th, 0) ⟨0, by simp, Nat.zero_le _⟩ (by simp only; omega)
  unfold r23_Lists soundB
  refine oif (decide_eq_false (by omega)) (obi hq ?_)
  rw [Bool.and_comm]
  cases (l.all goodB && inT th) <;> rfl

theorem Gap_nil (N : Nat) (hN : 200 ≤ N) (a : List T_Span) (th : Int) : separation_Gap N a [] th = some (0, bif goodB a && inT th then 0 else 1) := by
  have hn : goodB [] = true := goodB_T good_nil
  unfold separation_Gap
  refine obi (sound_two N hN a [] th) ?_
  rw [hn, Bool.and_true]
  cases h : (goodB a && inT th) with
  | false => exact oit rfl rfl
  | true =>
    have g := goodB_iff.1 (Bool.and_eq_true_iff.1 h).1
    exact oif rfl (obi (gap_nil N hN a g.len th) rfl)
/-! times and sides at the beginning -/
def rk (r : List Int) (i : Nat) : Int := r.getD i 0
theorem idx_rk {r : List Int} {i : Nat} (h : i < r.length) : idx r (i : Int) = some (rk r i) := idx_getD _ h
def badT (r : List Int) (i : Nat) : Bool := (decide (rk r i < 0) || decide (1000000000 < rk r i)) || (decide (0 < i) && decide (rk r i < rk r (i - 1)))
def okT (r : List Int) : Bool := !(List.range r.length).any (badT r)
def sk (st : List T_Throw) (i : Nat) : T_Throw := st.getD i default
theorem idx_sk {st : List T_Throw} {i : Nat} (h : i < st.length) : idx st (i : Int) = some (sk st i) := idx_getD _ h
def dupS (st : List T_Throw) (i : Nat) : Bool := (List.range i).any fun j => decide ((sk st j).Element = (sk st i).Element)
def sdB (x : Int) : Bool := decide (x = 1) || decide (x = 2)
def badS (st : List T_Throw) (i : Nat) : Bool := (decide ((sk st i).Element < 0) || dupS st i) || !sdB (sk st i).Side
def okS (st : List T_Throw) : Bool := decide (st.length ≤ 128) && !(List.range st.length).any (badS st)
def ck24 (l : List (List T_Span)) (r : List Int) (th : Int) (st : List T_Throw) : Int := if 96 < l.length then 3 else bif (soundB l th && decide (r.length = l.length)) && (okT r && okS st) then 0 else 1
theorem sub1 {i : Nat} (h : 0 < i) (h2 : i ≤ 17592186044416) : in64 ((i : Int) - 1) = some ((i - 1 : Nat) : Int) := in64_nat (by omega) (by omega)
theorem check_eq {N : Nat} (hN : 2000 ≤ N) (l : List (List T_Span)) (r : List Int) (th : Int) (st : List T_Throw) : throwplan_check N l r th st = some (ck24 l r th st) := by
  unfold throwplan_check ck24
  by_cases h0 : 96 < l.length
  · rw [if_pos h0]; exact oit (decide_eq_true (by omega)) rfl
  rw [if_neg h0]
  refine oif (decide_eq_false (by omega)) (obi (first_any l (fun a => !(goodB a && inT th)) 1 (f := throwplan_check_l1 N l th) (fun i hi hp => ?_) (fun i hi hp => ?_) ?_ N (by omega)) ?_)
  · have hp : (goodB l[i] && inT th) = false := bnott hp
    refine oit (decide_eq_true (by omega)) (obi (idx_nat hi) (obi (Gap_nil N (by omega) _ th) ?_))
    rw [hp]; rfl
  · have hp : (goodB l[i] && inT th) = true := bnotf hp
    refine oit (decide_eq_true (by omega)) (obi (idx_nat hi) (obi (Gap_nil N (by omega) _ th) ?_))
    rw [hp]
    exact oif rfl (obi (inc_nat (by omega)) rfl)
  · exact oif (decide_eq_false (by omega)) rfl
  cases ha : l.any (fun a => !(goodB a && inT th)) with
  | true =>
    have : soundB l th = false := by
      obtain ⟨a, h1, h2⟩ := List.any_eq_true.1 ha
      unfold soundB
      cases hl : l.all goodB with
      | false => rfl
      | true =>
        have := List.all_eq_true.1 hl a h1
        rw [this] at h2
        simpa using h2
    rw [this]; rfl
  | false =>
  have hall : ∀ a ∈ l, (goodB a && inT th) = true := fun a h => by
    have := List.any_eq_false.1 ha a h
    simpa using this
  cases hi : inT th with
  | false =>
    have c1 : ((decide (th < 0) || decide (1000000000 < th)) || (!decide ((List.length r : Int) = (List.length l : Int)))) = true := borT (by
      unfold inT at hi
      rw [Bool.and_eq_false_iff, decide_eq_false_iff_not, decide_eq_false_iff_not] at hi
      rcases hi with h | h
      · exact borT (decide_eq_true (by omega))
      · exact borT2 (decide_eq_true (by omega)))
    have : soundB l th = false := by unfold soundB; rw [hi, Bool.and_false]
    rw [this]
    exact oit (borT c1) rfl
  | true =>
  have hth := inT_iff.1 hi
  have hs : soundB l th = true := by
    unfold soundB
    rw [hi, Bool.and_true, List.all_eq_true]
    exact fun a h => (Bool.and_eq_true_iff.1 (hall a h)).1
  rw [hs]
  by_cases hrl : ¬ r.length = l.length
  · rw [decide_eq_false hrl]
    exact oit (borT (borT2 (bnotIt (decide_eq_false (by omega))))) rfl
  have hrl := Classical.not_not.1 hrl
  rw [decide_eq_true hrl]
  by_cases h128 : 128 < st.length
  · have : okS st = false := by unfold okS; rw [decide_eq_false (by omega)]; rfl
    rw [this]
    refine oit (borT2 (decide_eq_true (by omega))) ?_
    cases okT r <;> rfl
  have okS_eq : okS st = !(List.range st.length).any (badS st) := by unfold okS; rw [decide_eq_true (by omega)]; rfl
  refine oif (borF (borF (borF (decide_eq_false (by omega)) (decide_eq_false (by omega))) (bnotIf (decide_eq_true (by omega)))) (decide_eq_false (by omega))) ?_
  have go : ∀ (i : Nat) (h : i < r.length) (R : Option (Int ⊕ (Int ⊕ Unit))), (bif badT r i then some (.inr (Sum.inl 1)) else (Option.bind (in64 ((i : Int) + 1)) fun x => some (.inl x))) = R → throwplan_check_l2 N r i = R := fun i h R hR => by
    unfold throwplan_check_l2
    refine oit (decide_eq_true (by omega)) (obi (idx_rk h) ?_)
    cases c1 : (decide (rk r i < 0) || decide (1000000000 < rk r i)) with
    | true =>
      have : badT r i = true := borT c1
      rw [this, cond_true] at hR
      exact obi (gO_F (bandF (bnotIf rfl))) (obi (gO_F (bandF (bnotIf rfl))) (oit (borT rfl) hR))
    | false =>
      by_cases hi0 : 0 < i
      · have g : ((!false) && decide (0 < (i : Int))) = true := decide_eq_true (by omega)
        refine obi (gO_T g (sub1 hi0 (by omega))) (obi (gO_T g (idx_rk (by omega))) ?_)
        have : badT r i = (decide (0 < (i : Int)) && decide (rk r i < rk r (i - 1))) := by
          unfold badT
          rw [c1, decide_eq_true hi0, decide_eq_true (show (0 : Int) < (i : Int) by omega)]; rfl
        rw [this] at hR
        exact hR
      · have z : decide (0 < (i : Int)) = false := decide_eq_false (by omega)
        have : badT r i = false := borF c1 (bandF (decide_eq_false hi0))
        rw [this, cond_false] at hR
        exact obi (gO_F (bandF2 z)) (obi (gO_F (bandF2 z)) (oif (borF rfl (bandF z)) hR))
  refine obi (any_range (badT r) 1 (throwplan_check_l2 N r) (fun i h hp => go i h _ (oit hp rfl)) (fun i h hp => go i h _ (oif hp (obi (inc_nat (by omega)) rfl))) (oif (decide_eq_false (by omega)) rfl) N (by omega)) ?_
  cases hT : (List.range r.length).any (badT r) with
  | true =>
    have : okT r = false := by unfold okT; rw [hT]; rfl
    rw [this]; rfl
  | false =>
  have hokT : okT r = true := by unfold okT; rw [hT]; rfl
  rw [hokT]
  -- the sides at the beginning
  have dup : ∀ (m : List (Int × Bool)) (i : Nat), i < st.length → (∀ e, mget m e = if (List.range i).any (fun j => decide ((sk st j).Element = e)) then some true else none) → Option.getD (mget m (sk st i).Element) false = dupS st i := fun m i hi hm => by
    rw [hm]
    unfold dupS
    cases (List.range i).any (fun j => decide ((sk st j).Element = (sk st i).Element)) <;> rfl
  have sides : ∃ q, iterN (fun s : Int × List (Int × Bool) => throwplan_check_l3 N st s.1 s.2) N (0, []) = some q ∧ q = bif (List.range st.length).any (badS st) then .inl 1 else .inr () := by
    refine runN (f := fun s : Int × List (Int × Bool) => throwplan_check_l3 N st s.1 s.2) st.length (fun i s => s.1 = i ∧ (∀ e, mget s.2 e = if (List.range i).any (fun j => decide ((sk st j).Element = e)) then some true else none) ∧ (List.range i).any (badS st) = false) _ ?_ ?_ N (by omega) (0, []) ⟨rfl, fun e => rfl, rfl⟩
    · rintro i ⟨i', m⟩ hi ⟨rfl, hm, hb⟩
      simp only at hm ⊢
      unfold throwplan_check_l3
      have hd := dup m i hi hm
      cases c1 : (decide ((sk st i).Element < 0) || dupS st i) with
      | true =>
        have hbad : badS st i = true := borT c1
        refine .inr ⟨.inl 1, oit (decide_eq_true (by omega)) (obi (idx_sk hi) ?_), ?_⟩
        · rw [hd, c1]
          exact obi (gO_F (bnotIf rfl)) (oit (borT rfl) rfl)
        · rw [List.any_eq_true.2 ⟨i, List.mem_range.2 hi, hbad⟩]; rfl
      | false =>
        have hl : throwplan_lies N (sk st i).Side = some (sdB (sk st i).Side) := rfl
        cases c2 : sdB (sk st i).Side with
        | false =>
          have hbad : badS st i = true := borT2 (bnotIt c2)
          rw [c2] at hl
          refine .inr ⟨.inl 1, oit (decide_eq_true (by omega)) (obi (idx_sk hi) ?_), ?_⟩
          · rw [hd, c1]
            exact obi (gO_T (bnotIt rfl) hl) (oit (borT2 rfl) rfl)
          · rw [List.any_eq_true.2 ⟨i, List.mem_range.2 hi, hbad⟩]; rfl
        | true =>
          have hbad : badS st i = false := borF c1 (bnotIf c2)
          rw [c2] at hl
          refine .inl ⟨(((i + 1 : Nat) : Int), mset m (sk st i).Element true), oit (decide_eq_true (by omega)) (obi (idx_sk hi) ?_), rfl, fun e => ?_, ?_⟩
          · rw [hd, c1]
            exact obi (gO_T (bnotIt rfl) hl) (oif (borF rfl rfl) (obi (inc_nat (by omega)) rfl))
          · simp only
            rw [mget_mset, hm, List.range_succ, List.any_append]
            by_cases e1 : (sk st i).Element = e
            · simp [e1]
            · simp [e1]
          · rw [List.range_succ, List.any_append, hb]; simp [hbad]
    · rintro ⟨i', m⟩ ⟨rfl, hm, hb⟩
      exact ⟨_, oif (decide_eq_false (by simp)) rfl, by rw [hb]; rfl⟩
  obtain ⟨q, hq, rfl⟩ := sides
  refine obi hq ?_
  rw [okS_eq]
  cases (List.range st.length).any (badS st) <;> rfl
end Go.Gv
