/- Crews (chapter 40): checks of covers. -/
import Derived.Test.YthoabchofjcigaaPle
namespace Go.Gv
def nk (l : List Int) (i : Nat) : Int := l.getD i 0
theorem idx_nk {l : List Int} {i : Nat} (h : i < l.length) : idx l (i : Int) = some (nk l i) := idx_getD _ h
def badA (l : List Int) (n : Int) (i : Nat) : Bool := (decide (nk l i < 0) || decide (n ≤ nk l i)) || (decide (0 < i) && decide (nk l i ≤ nk l (i - 1)))
def ascB (l : List Int) (n : Int) : Bool := !(List.range l.length).any (badA l n)
theorem asc_eq {N : Nat} (hN : 2000 ≤ N) {l : List Int} (hl : l.length ≤ 200) (n : Int) : r40_ascending N l n = some (ascB l n) := by
  have go : ∀ (i : Nat) (hi : i < l.length) (R : Option ((Int) ⊕ (Bool ⊕ Unit))), (bif badA l n i then some (.inr (Sum.inl false)) else (Option.bind (in64 ((i : Int) + 1)) fun x => some (.inl x))) = R → r40_ascending_l1 N l n i = R := fun i hi R h => by
    have e1 := idx_nk hi
    unfold r40_ascending_l1
    refine oit (decide_eq_true (by omega)) (obi e1 ?_)
    by_cases c1 : nk l i < 0
    · have b1 : badA l n i = true := borT (borT (decide_eq_true c1))
      rw [b1, cond_true] at h
      have g : ∀ b, (!(decide (nk l i < 0) || b)) = false := fun b => bnotIf (borT (decide_eq_true c1))
      exact obi (gO_F (bnotIf (decide_eq_true c1))) (obi (gO_F (bandF (g _))) (obi (gO_F (bandF (g _))) (obi (gO_F (bandF (g _))) (oit (borT (borT (decide_eq_true c1))) h))))
    · refine obi (gO_T (bnotIt (decide_eq_false c1)) e1) ?_
      by_cases c2 : n ≤ nk l i
      · have b1 : badA l n i = true := borT (borT2 (decide_eq_true c2))
        rw [b1, cond_true] at h
        have g : (!(decide (nk l i < 0) || decide (n ≤ nk l i))) = false := bnotIf (borT2 (decide_eq_true c2))
        exact obi (gO_F (bandF g)) (obi (gO_F (bandF g)) (obi (gO_F (bandF g)) (oit (borT (borT2 (decide_eq_true c2))) h)))
      · have g : (!(decide (nk l i < 0) || decide (n ≤ nk l i))) = true := bnotIt (borF (decide_eq_false c1) (decide_eq_false c2))
        by_cases h0 : 0 < i
        · have z : decide (0 < (i : Int)) = true := decide_eq_true (by omega)
          have hb : badA l n i = ((decide (nk l i < 0) || decide (n ≤ nk l i)) || (decide (0 < (i : Int)) && decide (nk l i ≤ nk l (i - 1)))) := by unfold badA; rw [z, decide_eq_true h0]
          rw [hb] at h
          exact obi (gO_T (band g z) e1) (obi (gO_T (band g z) (in64_nat (n := i - 1) (by omega) (by omega))) (obi (gO_T (band g z) (idx_nk (by omega))) h))
        · have z : decide (0 < (i : Int)) = false := decide_eq_false (by omega)
          have hb : badA l n i = false := borF (borF (decide_eq_false c1) (decide_eq_false c2)) (bandF (decide_eq_false h0))
          rw [hb, cond_false] at h
          exact obi (gO_F (bandF2 z)) (obi (gO_F (bandF2 z)) (obi (gO_F (bandF2 z)) (oif (borF (borF (decide_eq_false c1) (decide_eq_false c2)) (bandF z)) h)))
  unfold r40_ascending ascB
  refine obi (any_range (n := l.length) (badA l n) false (fun s : Int => r40_ascending_l1 N l n s) (fun i hi hb => go i hi _ (oit hb rfl)) (fun i hi hb => go i hi _ (oif hb (obi (inc_nat (by omega)) rfl))) ?_ N (by omega)) ?_
  · exact oif (decide_eq_false (by omega)) rfl
  · cases (List.range l.length).any (badA l n) <;> rfl
def hasB (l : List Int) (x : Int) : Bool := l.any fun y => decide (y = x)
theorem has_eq {N : Nat} (hN : 2000 ≤ N) {l : List Int} (hl : l.length ≤ 200) (x : Int) : r40_has N l x = some (hasB l x) := by
  refine obi (first_any l (fun y => decide (y = x)) true (f := r40_has_l1 N l x) (fun i hi hp => ?_) (fun i hi hp => ?_) ?_ N (by omega)) ?_
  · exact oit (decide_eq_true (by omega)) (obi (idx_nat hi) (oit hp rfl))
  · exact oit (decide_eq_true (by omega)) (obi (idx_nat hi) (oif hp (obi (inc_nat (by omega)) rfl)))
  · exact oif (decide_eq_false (by omega)) rfl
  · unfold hasB
    cases (l.any fun y => decide (y = x)) <;> rfl
/-- the set of an ascending list -/
theorem set_eq {N : Nat} (hN : 2000 ≤ N) {l : List Int} (hl : l.length ≤ 200) {n : Nat} (hn : n ≤ 100) : ∃ a, crew_set N l n = some (a, ascB l n) ∧ (ascB l n = true → a.length = n ∧ ∀ k : Nat, k < n → a.getD k false = hasB l (k : Int)) := by
  obtain ⟨r, hr, hQ⟩ := runN (f := fun s : Int × List Bool => crew_set_l1 N l n s.1 s.2) l.length
    (fun i u => u.1 = i ∧ u.2.length = n ∧ (∀ k : Nat, k < i → badA l n k = false) ∧ ∀ k : Nat, k < n → u.2.getD k false = hasB (l.take i) (k : Int))
    (fun r => (r = .inl ([], false) ∧ ascB l n = false) ∨ ∃ a : List Bool, r = .inr a ∧ ascB l n = true ∧ a.length = n ∧ ∀ k : Nat, k < n → a.getD k false = hasB l (k : Int)) (by
    rintro i ⟨i', us⟩ hi ⟨rfl, hul, hall, hus⟩
    simp only at hul hus ⊢
    have e1 := idx_nk hi
    have bad : badA l n i = true → ascB l n = false := fun h => by
      unfold ascB
      have : (List.range l.length).any (badA l n) = true := List.any_eq_true.2 ⟨i, List.mem_range.2 hi, h⟩
      rw [this]; rfl
    unfold crew_set_l1
    cases c1 : (decide (nk l i < 0) || decide ((n : Int) ≤ nk l i)) with
    | true =>
      exact .inr ⟨_, oit (decide_eq_true (by omega)) (obi e1 (obi (gO_F (bandF (bnotIf c1))) (obi (gO_F (bandF (bnotIf c1))) (oit (borT c1) rfl)))), .inl ⟨rfl, bad (borT c1)⟩⟩
    | false =>
      have h1 := of_decide_eq_false (borl c1)
      have h2 := of_decide_eq_false (borr c1)
      obtain ⟨x, hx⟩ : ∃ x : Nat, nk l i = x := ⟨(nk l i).toNat, by omega⟩
      have fin : ∀ B : Bool, B = (decide (0 < i) && decide (nk l i ≤ nk l (i - 1))) → (∃ s', (bif ((decide (nk l i < 0) || decide ((n : Int) ≤ nk l i)) || B) then some (.inr (Sum.inl ([], false))) else (Option.bind (idx us (nk l i)) fun x131 => Option.bind (in64 ((i : Int) + 1)) fun x136 => some (.inl (x136, (List.set us (Int.toNat (nk l i)) true))))) = (some (.inl s') : Option ((Int × List Bool) ⊕ ((List Bool × Bool) ⊕ (List Bool)))) ∧ (s'.1 = ((i + 1 : Nat) : Int) ∧ s'.2.length = n ∧ (∀ k : Nat, k < i + 1 → badA l n k = false) ∧ ∀ k : Nat, k < n → s'.2.getD k false = hasB (l.take (i + 1)) (k : Int))) ∨
          (∃ r, (bif ((decide (nk l i < 0) || decide ((n : Int) ≤ nk l i)) || B) then some (.inr (Sum.inl ([], false))) else (Option.bind (idx us (nk l i)) fun x131 => Option.bind (in64 ((i : Int) + 1)) fun x136 => some (.inl (x136, (List.set us (Int.toNat (nk l i)) true))))) = (some (.inr r) : Option ((Int × List Bool) ⊕ ((List Bool × Bool) ⊕ (List Bool)))) ∧ ((r = .inl ([], false) ∧ ascB l n = false) ∨ ∃ a : List Bool, r = .inr a ∧ ascB l n = true ∧ a.length = n ∧ ∀ k : Nat, k < n → a.getD k false = hasB l (k : Int))) := fun B hB => by
        cases hb : B with
        | true =>
          have : badA l n i = true := borT2 (by rw [← hB, hb])
          exact .inr ⟨_, oit (borT2 rfl) rfl, .inl ⟨rfl, bad this⟩⟩
        | false =>
          have hbad : badA l n i = false := borF c1 (by rw [← hB, hb])
          have e2 : idx us (nk l i) = some (us.getD x false) := by rw [hx]; exact idx_getD _ (by omega)
          refine .inl ⟨_, oif (borF c1 rfl) (obi e2 (obi (inc_nat (by omega)) rfl)), rfl, by simp [hul], fun k hk => ?_, fun k hk => ?_⟩
          · by_cases e : k = i
            · subst e; exact hbad
            · exact hall k (by omega)
          · simp only
            have el : l[i] = nk l i := by unfold nk; rw [List.getD_eq_getElem?_getD, List.getElem?_eq_getElem hi]; rfl
            have hh : hasB (l.take (i + 1)) (k : Int) = (hasB (l.take i) (k : Int) || decide (nk l i = (k : Int))) := by
              unfold hasB
              rw [take_snoc hi, List.any_append, el]; simp
            rw [hx, Int.toNat_natCast, getD_setB (by omega), hh, hx]
            by_cases e : k = x
            · rw [if_pos e, decide_eq_true (by omega)]; simp
            · rw [if_neg e, decide_eq_false (by omega), hus k hk]; simp
      by_cases h0 : 0 < i
      · have z : decide (0 < (i : Int)) = true := decide_eq_true (by omega)
        have g : ((!(decide (nk l i < 0) || decide ((n : Int) ≤ nk l i))) && decide (0 < (i : Int))) = true := band (bnotIt c1) z
        have ea : in64 ((i : Int) - 1) = some ((i - 1 : Nat) : Int) := in64_nat (by omega) (by omega)
        have eb : idx l ((i - 1 : Nat) : Int) = some (nk l (i - 1)) := idx_nk (by omega)
        rcases fin (decide (0 < (i : Int)) && decide (nk l i ≤ nk l (i - 1))) (by rw [z, decide_eq_true h0]) with ⟨s', q1, q2⟩ | ⟨r, q1, q2⟩
        · exact .inl ⟨s', oit (decide_eq_true (by omega)) (obi e1 (obi (gO_T g ea) (obi (gO_T g eb) q1))), q2⟩
        · exact .inr ⟨r, oit (decide_eq_true (by omega)) (obi e1 (obi (gO_T g ea) (obi (gO_T g eb) q1))), q2⟩
      · have z : decide (0 < (i : Int)) = false := decide_eq_false (by omega)
        rcases fin (decide (0 < (i : Int)) && decide (nk l i ≤ (default : Int))) (by rw [z, decide_eq_false h0]; rfl) with ⟨s', q1, q2⟩ | ⟨r, q1, q2⟩
        · exact .inl ⟨s', oit (decide_eq_true (by omega)) (obi e1 (obi (gO_F (bandF2 z)) (obi (gO_F (bandF2 z)) q1))), q2⟩
        · exact .inr ⟨r, oit (decide_eq_true (by omega)) (obi e1 (obi (gO_F (bandF2 z)) (obi (gO_F (bandF2 z)) q1))), q2⟩) (by
    rintro ⟨i', us⟩ ⟨rfl, hul, hall, hus⟩
    simp only at hul hus
    rw [List.take_length] at hus
    refine ⟨.inr us, oif (decide_eq_false (by simp)) rfl, .inr ⟨us, rfl, ?_, hul, hus⟩⟩
    unfold ascB
    have : (List.range l.length).any (badA l n) = false := List.any_eq_false.2 fun k hk => by rw [hall k (List.mem_range.1 hk)]; decide
    rw [this]; rfl) N (by omega) (0, List.replicate n false) ⟨rfl, by simp, fun k h => absurd h (Nat.not_lt_zero _), fun k _ => by simp only; rw [getD_repB]; rfl⟩
  rcases hQ with ⟨rfl, h⟩ | ⟨a, rfl, h, h1, h2⟩
  · exact ⟨[], obi (mk1 hn) (obi hr (by rw [h])), fun q => by rw [h] at q; cases q⟩
  · exact ⟨a, obi (mk1 hn) (obi hr (by rw [h])), fun _ => ⟨h1, h2⟩⟩
def hitV (d : List T_Task) (c : List T_Crew) (u w : List Int) (i k : Nat) : Bool := (ft d c i k && !hasB u (i : Int)) && !hasB w (k : Int)
def covB (d : List T_Task) (c : List T_Crew) (u w : List Int) : Bool := !(List.range d.length).any fun i => (List.range c.length).any (hitV d c u w i)
theorem Covers_eq {N : Nat} (hN : 2000 ≤ N) {d : List T_Task} {c : List T_Crew} (v : Val d c) {u w : List Int} (hu : u.length ≤ 200) (hw : w.length ≤ 200) : r40_Covers N d c u w = some ((ascB u d.length && ascB w c.length) && covB d c u w) := by
  have hdl := v.dl
  have hcl := v.cl
  have h4 : ∀ i : Nat, i < d.length → iterN (fun s : Int => r40_Covers_l4 N d c u w i s) N 0 = some (bif (List.range c.length).any (hitV d c u w i) then .inl false else .inr ()) := fun i hi => by
    have go : ∀ (k : Nat) (hk : k < c.length) (R : Option ((Int) ⊕ (Bool ⊕ Unit))), (bif hitV d c u w i k then some (.inr (Sum.inl false)) else (Option.bind (in64 ((k : Int) + 1)) fun x => some (.inl x))) = R → r40_Covers_l4 N d c u w i k = R := fun k hk R h => by
      unfold r40_Covers_l4
      refine oit (decide_eq_true (by omega)) (obi (idx_dk hi) (obi (idx_ck hk) (obi (rfits_eq N (ck c k) (v.small hi)) ?_)))
      cases hf : fitB (dk d i) (ck c k) with
      | false =>
        have hb : hitV d c u w i k = false := bandF (bandF hf)
        rw [hb, cond_false] at h
        exact obi (gO_F rfl) (obi (gO_F rfl) (oif rfl h))
      | true =>
        refine obi (gO_T rfl (has_eq hN hu _)) ?_
        cases h1 : hasB u (i : Int) with
        | true =>
          have hb : hitV d c u w i k = false := bandF (bandF2 (bnotIf h1))
          rw [hb, cond_false] at h
          exact obi (gO_F rfl) (oif rfl h)
        | false =>
          refine obi (gO_T rfl (has_eq hN hw _)) ?_
          have hb : hitV d c u w i k = !hasB w (k : Int) := by unfold hitV ft; rw [hf, h1]; simp
          rw [hb] at h
          exact h
    refine any_range _ _ _ (fun k hk hp => go k hk _ (oit hp rfl)) (fun k hk hp => go k hk _ (oif hp (obi (inc_nat (by omega)) rfl))) ?_ N (by omega)
    exact oif (decide_eq_false (by omega)) rfl
  unfold r40_Covers
  refine obi (asc_eq hN hu _) ?_
  cases a1 : ascB u d.length with
  | false => exact obi (gO_F rfl) rfl
  | true =>
    refine obi (gO_T rfl (asc_eq hN hw _)) ?_
    cases a2 : ascB w c.length with
    | false => rfl
    | true =>
      refine oif rfl (obi (any_range (n := d.length) (fun i => (List.range c.length).any (hitV d c u w i)) false (fun s : Int => r40_Covers_l3 N d c u w s) (fun i hi hp => ?_) (fun i hi hp => ?_) ?_ N (by omega)) ?_)
      · have := h4 i hi
        rw [hp, cond_true] at this
        exact oit (decide_eq_true (by omega)) (obi this rfl)
      · have := h4 i hi
        rw [hp, cond_false] at this
        exact oit (decide_eq_true (by omega)) (obi this (obi (inc_nat (by omega)) rfl))
      · exact oif (decide_eq_false (by omega)) rfl
      · unfold covB
        cases ((List.range d.length).any fun i => (List.range c.length).any (hitV d c u w i)) <;> rfl
/-- what both checks answer -/
def chkB (d : List T_Task) (c : List T_Crew) (p : List T_Pair) (u w : List Int) : Bool := ((matB d c p) && ((ascB u d.length && ascB w c.length) && covB d c u w)) && decide (p.length = u.length + w.length)
theorem Check_eq {N : Nat} (hN : 2000 ≤ N) {d : List T_Task} {c : List T_Crew} (v : Val d c) {p : List T_Pair} {u w : List Int} (hp : p.length ≤ 200) (hu : u.length ≤ 200) (hw : w.length ≤ 200) : crew_Check N d c p u w = some (chkB d c p u w, 0) := by
  have hdl := v.dl
  have hcl := v.cl
  obtain ⟨a, ha, ha2⟩ := set_eq hN hu (n := d.length) (by omega)
  obtain ⟨b, hb, hb2⟩ := set_eq hN hw (n := c.length) (by omega)
  unfold crew_Check chkB
  refine obi (check_eq hN d c) ?_
  rw [vC_zero.2 v]
  refine oif rfl (obi ha (obi hb ?_))
  cases a1 : ascB u d.length with
  | false => exact obi (gO_F rfl) (obi (gO_F rfl) (by simp))
  | true =>
    cases a2 : ascB w c.length with
    | false => exact obi (gO_F rfl) (obi (gO_F rfl) (by simp))
    | true =>
      obtain ⟨al, ag⟩ := ha2 a1
      obtain ⟨bl, bg⟩ := hb2 a2
      refine obi (gO_T rfl (in64_nat (n := u.length + w.length) (by omega) (by omega))) ?_
      by_cases hlen : p.length = u.length + w.length
      · have g : (!(((!true) || (!true)) || (!decide ((p.length : Int) = ((u.length + w.length : Nat) : Int))))) = true := bnotIt (borF rfl (bnotIf (decide_eq_true (by omega))))
        refine obi (gO_T g (crewMatching_eq hN v hp)) ?_
        cases hm : matB d c p with
        | false => exact oit (borT2 rfl) (by simp)
        | true =>
          refine oif (borF (borF rfl (bnotIf (decide_eq_true (by omega)))) rfl) ?_
          have h4 : ∀ i : Nat, i < d.length → iterN (fun s : Int => crew_Check_l4 N c (a, true) (b, true) i (dk d i) s) N 0 = some (bif (List.range c.length).any (hitV d c u w i) then .inl (false, 0) else .inr ()) := fun i hi => by
            have go : ∀ (k : Nat) (hk : k < c.length) (R : Option ((Int) ⊕ ((Bool × Int) ⊕ Unit))), (bif hitV d c u w i k then some (.inr (Sum.inl (false, 0))) else (Option.bind (in64 ((k : Int) + 1)) fun x => some (.inl x))) = R → crew_Check_l4 N c (a, true) (b, true) i (dk d i) k = R := fun k hk R h => by
              have ea : idx a (i : Int) = some (a.getD i false) := idx_getD _ (by omega)
              have eb : idx b (k : Int) = some (b.getD k false) := idx_getD _ (by omega)
              rw [ag i hi] at ea
              rw [bg k hk] at eb
              unfold crew_Check_l4
              refine oit (decide_eq_true (by omega)) (obi (idx_ck hk) (obi (fits_eq N (ck c k) (v.small hi)) ?_))
              cases hf : fitB (dk d i) (ck c k) with
              | false =>
                have hb : hitV d c u w i k = false := bandF (bandF hf)
                rw [hb, cond_false] at h
                exact obi (gO_F rfl) (obi (gO_F rfl) (oif rfl h))
              | true =>
                refine obi (gO_T rfl ea) ?_
                cases h1 : hasB u (i : Int) with
                | true =>
                  have hb : hitV d c u w i k = false := bandF (bandF2 (bnotIf h1))
                  rw [hb, cond_false] at h
                  exact obi (gO_F rfl) (oif rfl h)
                | false =>
                  refine obi (gO_T rfl eb) ?_
                  have hb : hitV d c u w i k = !hasB w (k : Int) := by unfold hitV ft; rw [hf, h1]; simp
                  rw [hb] at h
                  exact h
            refine any_range _ _ _ (fun k hk hp => go k hk _ (oit hp rfl)) (fun k hk hp => go k hk _ (oif hp (obi (inc_nat (by omega)) rfl))) ?_ N (by omega)
            exact oif (decide_eq_false (by omega)) rfl
          refine obi (any_range (n := d.length) (fun i => (List.range c.length).any (hitV d c u w i)) (false, 0) (fun s : Int => crew_Check_l3 N d c (a, true) (b, true) s) (fun i hi hp => ?_) (fun i hi hp => ?_) ?_ N (by omega)) ?_
          · have := h4 i hi
            rw [hp, cond_true] at this
            exact oit (decide_eq_true (by omega)) (obi (idx_dk hi) (obi this rfl))
          · have := h4 i hi
            rw [hp, cond_false] at this
            exact oit (decide_eq_true (by omega)) (obi (idx_dk hi) (obi this (obi (inc_nat (by omega)) rfl)))
          · exact oif (decide_eq_false (by omega)) rfl
          · unfold covB
            rw [decide_eq_true hlen]
            cases ((List.range d.length).any fun i => (List.range c.length).any (hitV d c u w i)) <;> rfl
      · have g : (!(((!true) || (!true)) || (!decide ((p.length : Int) = ((u.length + w.length : Nat) : Int))))) = false := bnotIf (borT2 (bnotIt (decide_eq_false (by omega))))
        refine obi (gO_F g) (oit (borT (borT2 (bnotIt (decide_eq_false (by omega))))) ?_)
        rw [decide_eq_false hlen]; simp
theorem rValid_eq {N : Nat} (hN : 2000 ≤ N) (d : List T_Task) (c : List T_Crew) : r40_Valid N d c = some (vC d c) := by
  unfold r40_Valid vC
  by_cases h : 64 < d.length ∨ 32 < c.length
  · rw [if_pos h]
    refine oit ?_ rfl
    rcases h with h | h
    · exact borT (decide_eq_true (by omega))
    · exact borT2 (decide_eq_true (by omega))
  · rw [if_neg h]
    have same : ∀ x : T_Task, ((decide (x.From < 0) || decide (x.To ≤ x.From)) || decide (10080 < x.To)) = badD x := fun x => by
      unfold badD
      rw [Bool.eq_iff_iff]
      simp only [Bool.or_eq_true, decide_eq_true_eq, Bool.not_eq_true', Bool.and_eq_false_iff, decide_eq_false_iff_not]
      omega
    have sameW : ∀ x : T_Crew, ((((decide (x.From < 0) || decide (x.To ≤ x.From)) || decide (10080 < x.To)) || decide (x.Most < 1)) || decide (10080 < x.Most)) = badW x := fun x => by
      unfold badW
      rw [Bool.eq_iff_iff]
      simp only [Bool.or_eq_true, decide_eq_true_eq, Bool.not_eq_true', Bool.and_eq_false_iff, decide_eq_false_iff_not]
      omega
    refine oif (borF (decide_eq_false (by omega)) (decide_eq_false (by omega))) (obi (first_any d badD 1 (f := r40_Valid_l1 N d) (fun i hi hp => ?_) (fun i hi hp => ?_) ?_ N (by omega)) ?_)
    · exact oit (decide_eq_true (by omega)) (obi (idx_nat hi) (oit ((same _).trans hp) rfl))
    · exact oit (decide_eq_true (by omega)) (obi (idx_nat hi) (oif ((same _).trans hp) (obi (inc_nat (by omega)) rfl)))
    · exact oif (decide_eq_false (by omega)) rfl
    · cases d.any badD with
      | true => rfl
      | false =>
        refine obi (first_any c badW 1 (f := r40_Valid_l2 N c) (fun i hi hp => ?_) (fun i hi hp => ?_) ?_ N (by omega)) ?_
        · exact oit (decide_eq_true (by omega)) (obi (idx_nat hi) (oit ((sameW _).trans hp) rfl))
        · exact oit (decide_eq_true (by omega)) (obi (idx_nat hi) (oif ((sameW _).trans hp) (obi (inc_nat (by omega)) rfl)))
        · exact oif (decide_eq_false (by omega)) rfl
        · cases c.any badW <;> rfl
theorem rCheck_eq {N : Nat} (hN : 2000 ≤ N) {d : List T_Task} {c : List T_Crew} (v : Val d c) {p : List T_Pair} {u w : List Int} (hp : p.length ≤ 200) (hu : u.length ≤ 200) (hw : w.length ≤ 200) : r40_Check N d c p u w = some (chkB d c p u w, 0) := by
  unfold r40_Check chkB
  refine obi (rValid_eq hN d c) ?_
  rw [vC_zero.2 v]
  refine oif rfl (obi (rMatching_eq hN v hp) ?_)
  cases hm : matB d c p with
  | false => exact obi (gO_F rfl) (obi (gO_F rfl) rfl)
  | true =>
    refine obi (gO_T rfl (Covers_eq hN v hu hw)) ?_
    cases hc : ((ascB u d.length && ascB w c.length) && covB d c u w) with
    | false => exact obi (gO_F rfl) rfl
    | true =>
      refine obi (gO_T rfl (in64_nat (n := u.length + w.length) (by omega) (by omega))) ?_
      congr 3
      exact decide_eq_decide.2 (by omega)
end Go.Gv
