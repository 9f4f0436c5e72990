/- Crews (chapter 40): checks of matchings, CrewMost and CrewGrows. -/
import Derived.Test.YthoabchofjcigaaPlb
namespace Go.Gv
def pk (p : List T_Pair) (i : Nat) : T_Pair := p.getD i default
theorem idx_pk {l : List T_Pair} {i : Nat} (h : i < l.length) : idx l (i : Int) = some (pk l i) := idx_getD _ h
theorem pk_eq {l : List T_Pair} {i : Nat} (h : i < l.length) : pk l i = l[i] := by unfold pk; rw [List.getD_eq_getElem?_getD, List.getElem?_eq_getElem h]; rfl
def outR (d : List T_Task) (c : List T_Crew) (x : T_Pair) : Bool := ((decide (x.Duty < 0) || decide ((List.length d : Int) ≤ x.Duty)) || decide (x.Crew < 0)) || decide ((List.length c : Int) ≤ x.Crew)
theorem outR_f {d : List T_Task} {c : List T_Crew} {x : T_Pair} (h : outR d c x = false) : ∃ i k : Nat, x = ⟨(i : Int), (k : Int)⟩ ∧ i < d.length ∧ k < c.length := by
  have h1 := of_decide_eq_false (borl (borl (borl h)))
  have h2 := of_decide_eq_false (borr (borl (borl h)))
  have h3 := of_decide_eq_false (borr (borl h))
  have h4 := of_decide_eq_false (borr h)
  obtain ⟨a, b⟩ := x
  simp only at h1 h2 h3 h4
  refine ⟨a.toNat, b.toNat, ?_, by omega, by omega⟩
  congr 1 <;> omega
theorem outR_nat {d : List T_Task} {c : List T_Crew} {i k : Nat} (hi : i < d.length) (hk : k < c.length) : outR d c ⟨(i : Int), (k : Int)⟩ = false :=
  borF (borF (borF (decide_eq_false (by simp only; omega)) (decide_eq_false (by simp only; omega))) (decide_eq_false (by simp only; omega))) (decide_eq_false (by simp only; omega))
def badX (d : List T_Task) (c : List T_Crew) (x : T_Pair) : Bool := outR d c x || !ft d c x.Duty.toNat x.Crew.toNat
def badO (p : List T_Pair) (i : Nat) : Bool := decide (0 < i) && decide ((pk p i).Duty ≤ (pk p (i - 1)).Duty)
def badU (p : List T_Pair) (i : Nat) : Bool := (List.range i).any fun k => decide ((pk p k).Crew = (pk p i).Crew)
def badM (d : List T_Task) (c : List T_Crew) (p : List T_Pair) (i : Nat) : Bool := (badX d c (pk p i) || badO p i) || badU p i
def matB (d : List T_Task) (c : List T_Crew) (p : List T_Pair) : Bool := !(List.range p.length).any (badM d c p)
theorem any_range {n : Nat} {ρ : Type} (p : Nat → Bool) (c : ρ) (f : Int → Option (Int ⊕ (ρ ⊕ Unit))) (hT : ∀ i : Nat, i < n → p i = true → f (i : Int) = some (.inr (.inl c))) (hF : ∀ i : Nat, i < n → p i = false → f (i : Int) = some (.inl ((i + 1 : Nat) : Int)))
    (he : f (n : Int) = some (.inr (.inr ()))) (N : Nat) (hN : n < N) : iterN f N 0 = some (bif (List.range n).any p then .inl c else .inr ()) :=
  first_any (List.range n) p c f (fun i h hp => hT i (by simpa using h) (by simpa using hp)) (fun i h hp => hF i (by simpa using h) (by simpa using hp)) (by rw [List.length_range]; exact he) N (by rw [List.length_range]; exact hN)
theorem rMatching_eq {N : Nat} (hN : 2000 ≤ N) {d : List T_Task} {c : List T_Crew} (v : Val d c) {p : List T_Pair} (hp : p.length ≤ 200) : r40_Matching N d c p = some (matB d c p) := by
  have h4 : ∀ i : Nat, i < p.length → iterN (fun s : Int => r40_Matching_l4 N p i (pk p i) s) N 0 = some (bif badU p i then .inl false else .inr ()) := fun i hi => by
    refine any_range _ _ _ (fun k hk hb => ?_) (fun k hk hb => ?_) ?_ N (by omega)
    · exact oit (decide_eq_true (by omega)) (obi (idx_pk (by omega)) (oit hb rfl))
    · exact oit (decide_eq_true (by omega)) (obi (idx_pk (by omega)) (oif hb (obi (inc_nat (by omega)) rfl)))
    · exact oif (decide_eq_false (by omega)) rfl
  have go : ∀ (i : Nat) (hi : i < p.length) (R : Option ((Int) ⊕ (Bool ⊕ Unit))), (bif badM d c p i then some (.inr (Sum.inl false)) else (Option.bind (in64 ((i : Int) + 1)) fun x => some (.inl x))) = R → r40_Matching_l3 N d c p i = R := fun i hi R h => by
    have e1 := idx_pk hi
    unfold r40_Matching_l3
    refine oit (decide_eq_true (by omega)) (obi e1 ?_)
    cases ho : outR d c (pk p i) with
    | true =>
      have hb : badM d c p i = true := borT (borT (borT ho))
      rw [hb, cond_true] at h
      have g1 : ∀ b, (!(outR d c (pk p i) || b)) = false := fun b => bnotIf (borT ho)
      exact obi (gO_F (bnotIf ho)) (obi (gO_F (bnotIf ho)) (obi (gO_F (bnotIf ho)) (obi (gO_F (bandF (g1 _))) (obi (gO_F (bandF (g1 _))) (oit (borT (borT ho)) h)))))
    | false =>
      obtain ⟨a, b, hab, ha, hb⟩ := outR_f ho
      have e2 : idx d (pk p i).Duty = some (dk d a) := by rw [hab]; exact idx_dk ha
      have e3 : idx c (pk p i).Crew = some (ck c b) := by rw [hab]; exact idx_ck hb
      have e4 := rfits_eq N (ck c b) (v.small ha)
      have hx : badX d c (pk p i) = !ft d c a b := by unfold badX; rw [ho, hab]; simp
      refine obi (gO_T (bnotIt ho) e2) (obi (gO_T (bnotIt ho) e3) (obi (gO_T (bnotIt ho) e4) ?_))
      cases hf : ft d c a b with
      | false =>
        have hf' : fitB (dk d a) (ck c b) = false := hf
        rw [hf'] 
        have hb : badM d c p i = true := borT (borT (by rw [hx, hf]; rfl))
        rw [hb, cond_true] at h
        have g1 : (!(outR d c (pk p i) || !false)) = false := bnotIf (borT2 rfl)
        exact obi (gO_F (bandF g1)) (obi (gO_F (bandF g1)) (oit (borT (borT2 rfl)) h))
      | true =>
        have hf' : fitB (dk d a) (ck c b) = true := hf
        rw [hf']
        have g1 : (!(outR d c (pk p i) || !true)) = true := bnotIt (borF ho rfl)
        have hx0 : badX d c (pk p i) = false := by rw [hx, hf]; rfl
        have hxx : (outR d c (pk p i) || !true) = false := borF ho rfl
        have rest : ∀ B : Bool, B = badO p i → (bif ((outR d c (pk p i) || !true) || B) then some (.inr (Sum.inl false)) else (Option.bind (iterN (fun s : Int => r40_Matching_l4 N p i (pk p i) s) N 0) fun r609 => match r609 with | .inl p633 => (some (.inr (Sum.inl p633))) | .inr p636 => (Option.bind (in64 ((i : Int) + 1)) fun x639 => some (.inl x639)))) = R := fun B hB => by
          subst hB
          cases hO : badO p i with
          | true =>
            have hb : badM d c p i = true := borT (borT2 hO)
            rw [hb, cond_true] at h
            exact oit (borT2 rfl) h
          | false =>
            refine oif (borF hxx rfl) (obi (h4 i hi) ?_)
            cases hU : badU p i with
            | true =>
              have hb : badM d c p i = true := borT2 hU
              rw [hb, cond_true] at h; exact h
            | false =>
              have hb : badM d c p i = false := borF (borF hx0 hO) hU
              rw [hb, cond_false] at h; exact h
        by_cases h0 : 0 < i
        · have z : decide (0 < (i : Int)) = true := decide_eq_true (by omega)
          refine obi (gO_T (band g1 z) (in64_nat (n := i - 1) (by omega) (by omega))) (obi (gO_T (band g1 z) (idx_pk (by omega))) (rest _ ?_))
          unfold badO
          rw [z, decide_eq_true h0]
        · have z : decide (0 < (i : Int)) = false := decide_eq_false (by omega)
          refine obi (gO_F (bandF2 z)) (obi (gO_F (bandF2 z)) (rest _ ?_))
          unfold badO
          rw [z, decide_eq_false h0]; rfl
  unfold r40_Matching matB
  refine obi (any_range (n := p.length) (badM d c p) false (fun s : Int => r40_Matching_l3 N d c p s) (fun i hi hb => go i hi _ (oit hb rfl)) (fun i hi hb => go i hi _ (oif hb (obi (inc_nat (by omega)) rfl))) ?_ N (by omega)) ?_
  · exact oif (decide_eq_false (by omega)) rfl
  · cases (List.range p.length).any (badM d c p) <;> rfl
theorem crewMatching_eq {N : Nat} (hN : 2000 ≤ N) {d : List T_Task} {c : List T_Crew} (v : Val d c) {p : List T_Pair} (hp : p.length ≤ 200) : crew_matching N d c p = some (matB d c p) := by
  have hcl := v.cl
  obtain ⟨r, hr, hQ⟩ := runN (f := fun s : Int × List Bool => crew_matching_l1 N d c p s.1 s.2) p.length
    (fun i u => u.1 = i ∧ u.2.length = c.length ∧ (∀ k : Nat, k < i → badM d c p k = false) ∧ ∀ k : Nat, k < c.length → (u.2.getD k false = true ↔ ∃ j, j < i ∧ (pk p j).Crew = (k : Int)))
    (fun r => r = bif (List.range p.length).any (badM d c p) then .inl false else .inr ()) (by
    rintro i ⟨i', us⟩ hi ⟨rfl, hul, hall, hus⟩
    simp only at hul hus ⊢
    have e1 := idx_pk hi
    have bad : badM d c p i = true → (Sum.inl false : Bool ⊕ Unit) = bif (List.range p.length).any (badM d c p) then .inl false else .inr () := fun h => by
      have : (List.range p.length).any (badM d c p) = true := List.any_eq_true.2 ⟨i, List.mem_range.2 hi, h⟩
      rw [this]; rfl
    unfold crew_matching_l1
    cases ho : outR d c (pk p i) with
    | true =>
      have hb : badM d c p i = true := borT (borT (borT ho))
      have g1 : ∀ b, (!(outR d c (pk p i) || b)) = false := fun b => bnotIf (borT ho)
      have g2 : ∀ b b2, (!((outR d c (pk p i) || b) || b2)) = false := fun b b2 => bnotIf (borT (borT ho))
      exact .inr ⟨_, oit (decide_eq_true (by omega)) (obi e1 (obi (gO_F (bnotIf ho)) (obi (gO_F (bandF (g1 _))) (obi (gO_F (bandF (g1 _))) (obi (gO_F (g2 _ _)) (obi (gO_F (g2 _ _)) (obi (gO_F (g2 _ _)) (oit (borT (borT (borT ho))) rfl)))))))), bad hb⟩
    | false =>
      obtain ⟨a, b, hab, ha, hb⟩ := outR_f ho
      have e2 : idx d (pk p i).Duty = some (dk d a) := by rw [hab]; exact idx_dk ha
      have e3 : idx c (pk p i).Crew = some (ck c b) := by rw [hab]; exact idx_ck hb
      have e4 := fits_eq N (ck c b) (v.small ha)
      have e5 : idx us (pk p i).Crew = some (us.getD b false) := by rw [hab]; exact idx_getD _ (by omega)
      have hx : badX d c (pk p i) = !ft d c a b := by unfold badX; rw [ho, hab]; simp
      have hU : us.getD b false = badU p i := by
        have h1 := hus b hb
        have h2 : badU p i = true ↔ ∃ j, j < i ∧ (pk p j).Crew = (b : Int) := by
          unfold badU
          rw [List.any_eq_true]
          constructor
          · rintro ⟨j, hj, he⟩
            exact ⟨j, List.mem_range.1 hj, by rw [of_decide_eq_true he, hab]⟩
          · rintro ⟨j, hj, he⟩
            exact ⟨j, List.mem_range.2 hj, decide_eq_true (by rw [he, hab])⟩
        cases q1 : us.getD b false with
        | true => exact (h2.2 (h1.1 q1)).symm
        | false =>
          cases q2 : badU p i with
          | true => have := h1.2 (h2.1 q2); rw [q1] at this; cases this
          | false => rfl
      cases hu : us.getD b false with
      | true =>
        rw [hu] at e5 hU
        have hb : badM d c p i = true := borT2 hU.symm
        have g1 : (!(outR d c (pk p i) || true)) = false := bnotIf (borT2 rfl)
        have g2 : ∀ b2, (!((outR d c (pk p i) || true) || b2)) = false := fun b2 => bnotIf (borT (borT2 rfl))
        exact .inr ⟨_, oit (decide_eq_true (by omega)) (obi e1 (obi (gO_T (bnotIt ho) e5) (obi (gO_F (bandF g1)) (obi (gO_F (bandF g1)) (obi (gO_F (g2 _)) (obi (gO_F (g2 _)) (obi (gO_F (g2 _)) (oit (borT (borT (borT2 rfl))) rfl)))))))), bad hb⟩
      | false =>
        rw [hu] at e5 hU
        have g1 : (!(outR d c (pk p i) || false)) = true := bnotIt (borF ho rfl)
        have tail : ∀ B : Bool, B = badO p i → (∃ s', (Option.bind (gO (!((outR d c (pk p i) || false) || B)) (idx d (pk p i).Duty)) fun x273 => Option.bind (gO (!((outR d c (pk p i) || false) || B)) (idx c (pk p i).Crew)) fun x281 => Option.bind (gO (!((outR d c (pk p i) || false) || B)) (crew_Fits N x273 x281)) fun r290 => bif (((outR d c (pk p i) || false) || B) || (!r290)) then some (.inr (Sum.inl false)) else (Option.bind (idx us (pk p i).Crew) fun x300 => Option.bind (in64 ((i : Int) + 1)) fun x305 => some (.inl (x305, (List.set us (Int.toNat (pk p i).Crew) true))))) = (some (.inl s') : Option ((Int × List Bool) ⊕ (Bool ⊕ Unit))) ∧ (s'.1 = ((i + 1 : Nat) : Int) ∧ s'.2.length = c.length ∧ (∀ k : Nat, k < i + 1 → badM d c p k = false) ∧ ∀ k : Nat, k < c.length → (s'.2.getD k false = true ↔ ∃ j, j < i + 1 ∧ (pk p j).Crew = (k : Int)))) ∨
          (∃ r, (Option.bind (gO (!((outR d c (pk p i) || false) || B)) (idx d (pk p i).Duty)) fun x273 => Option.bind (gO (!((outR d c (pk p i) || false) || B)) (idx c (pk p i).Crew)) fun x281 => Option.bind (gO (!((outR d c (pk p i) || false) || B)) (crew_Fits N x273 x281)) fun r290 => bif (((outR d c (pk p i) || false) || B) || (!r290)) then some (.inr (Sum.inl false)) else (Option.bind (idx us (pk p i).Crew) fun x300 => Option.bind (in64 ((i : Int) + 1)) fun x305 => some (.inl (x305, (List.set us (Int.toNat (pk p i).Crew) true))))) = (some (.inr r) : Option ((Int × List Bool) ⊕ (Bool ⊕ Unit))) ∧ r = bif (List.range p.length).any (badM d c p) then .inl false else .inr ()) := fun B hB => by
          subst hB
          cases hO : badO p i with
          | true =>
            have hb : badM d c p i = true := borT (borT2 hO)
            have g2 : (!((outR d c (pk p i) || false) || true)) = false := bnotIf (borT2 rfl)
            exact .inr ⟨_, obi (gO_F g2) (obi (gO_F g2) (obi (gO_F g2) (oit (borT (borT2 rfl)) rfl))), bad hb⟩
          | false =>
            have g2 : (!((outR d c (pk p i) || false) || false)) = true := bnotIt (borF (borF ho rfl) rfl)
            cases hf : ft d c a b with
            | false =>
              have hf' : fitB (dk d a) (ck c b) = false := hf
              rw [hf'] at e4
              have hb : badM d c p i = true := borT (borT (by rw [hx, hf]; rfl))
              exact .inr ⟨_, obi (gO_T g2 e2) (obi (gO_T g2 e3) (obi (gO_T g2 e4) (oit (borT2 rfl) rfl))), bad hb⟩
            | true =>
              have hf' : fitB (dk d a) (ck c b) = true := hf
              rw [hf'] at e4
              have hb0 : badM d c p i = false := borF (borF (by rw [hx, hf]; rfl) hO) hU.symm
              refine .inl ⟨_, obi (gO_T g2 e2) (obi (gO_T g2 e3) (obi (gO_T g2 e4) (oif (borF (borF (borF ho rfl) rfl) rfl) (obi e5 (obi (inc_nat (by omega)) rfl))))), rfl, by simp [hul], fun k hk => ?_, fun k hk => ?_⟩
              · by_cases e : k = i
                · subst e; exact hb0
                · exact hall k (by omega)
              · simp only
                have hc : (pk p i).Crew = (b : Int) := by rw [hab]
                rw [hc, Int.toNat_natCast, getD_setB (by omega)]
                by_cases e : k = b
                · rw [if_pos e]; exact ⟨fun _ => ⟨i, by omega, by rw [hc, e]⟩, fun _ => rfl⟩
                · rw [if_neg e, hus k hk]
                  constructor
                  · rintro ⟨j, h1, h2⟩; exact ⟨j, by omega, h2⟩
                  · rintro ⟨j, h1, h2⟩
                    refine ⟨j, ?_, h2⟩
                    by_cases e2 : j = i
                    · subst e2; rw [hc] at h2; omega
                    · omega
        by_cases h0 : 0 < i
        · have z : decide (0 < (i : Int)) = true := decide_eq_true (by omega)
          have em : in64 ((i : Int) - 1) = some ((i - 1 : Nat) : Int) := in64_nat (by omega) (by omega)
          have ep : idx p ((i - 1 : Nat) : Int) = some (pk p (i - 1)) := idx_pk (by omega)
          have hB : (decide (0 < (i : Int)) && decide ((pk p i).Duty ≤ (pk p (i - 1)).Duty)) = badO p i := by unfold badO; rw [z, decide_eq_true h0]
          rcases tail _ hB with ⟨s', h1, h2⟩ | ⟨r, h1, h2⟩
          · exact .inl ⟨s', oit (decide_eq_true (by omega)) (obi e1 (obi (gO_T (bnotIt ho) e5) (obi (gO_T (band g1 z) em) (obi (gO_T (band g1 z) ep) h1)))), h2⟩
          · exact .inr ⟨r, oit (decide_eq_true (by omega)) (obi e1 (obi (gO_T (bnotIt ho) e5) (obi (gO_T (band g1 z) em) (obi (gO_T (band g1 z) ep) h1)))), h2⟩
        · have z : decide (0 < (i : Int)) = false := decide_eq_false (by omega)
          have hB : (decide (0 < (i : Int)) && decide ((pk p i).Duty ≤ (default : T_Pair).Duty)) = badO p i := by unfold badO; rw [z, decide_eq_false h0]; rfl
          rcases tail _ hB with ⟨s', h1, h2⟩ | ⟨r, h1, h2⟩
          · exact .inl ⟨s', oit (decide_eq_true (by omega)) (obi e1 (obi (gO_T (bnotIt ho) e5) (obi (gO_F (bandF2 z)) (obi (gO_F (bandF2 z)) h1)))), h2⟩
          · exact .inr ⟨r, oit (decide_eq_true (by omega)) (obi e1 (obi (gO_T (bnotIt ho) e5) (obi (gO_F (bandF2 z)) (obi (gO_F (bandF2 z)) h1)))), h2⟩) (by
    rintro ⟨i', us⟩ ⟨rfl, _, hall, _⟩
    refine ⟨.inr (), oif (decide_eq_false (by simp)) rfl, ?_⟩
    have : (List.range p.length).any (badM d c p) = false := List.any_eq_false.2 fun k hk => by rw [hall k (List.mem_range.1 hk)]; decide
    rw [this]; rfl) N (by omega) (0, List.replicate c.length false) ⟨rfl, by simp, fun k h => absurd h (Nat.not_lt_zero _), fun k _ => ⟨fun h => (by rw [getD_repB] at h; cases h), fun ⟨j, h, _⟩ => absurd h (Nat.not_lt_zero _)⟩⟩
  unfold crew_matching matB
  refine obi (mk1 (by omega)) (obi hr ?_)
  rw [hQ]
  cases (List.range p.length).any (badM d c p) <;> rfl
theorem matB_iff {d : List T_Task} {c : List T_Crew} {p : List T_Pair} : matB d c p = true ↔ (∀ i, i < p.length → badX d c (pk p i) = false) ∧ (∀ i, i < p.length → 0 < i → (pk p (i - 1)).Duty < (pk p i).Duty) ∧ ∀ k i, k < i → i < p.length → (pk p k).Crew ≠ (pk p i).Crew := by
  unfold matB
  rw [Bool.not_eq_true', List.any_eq_false]
  constructor
  · intro h
    have h' : ∀ i, i < p.length → badM d c p i = false := fun i hi => by have := h i (List.mem_range.2 hi); simpa using this
    refine ⟨fun i hi => borl (borl (h' i hi)), fun i hi h0 => ?_, fun k i hk hi e => ?_⟩
    · have := borr (borl (h' i hi))
      unfold badO at this
      rw [decide_eq_true h0] at this
      have := of_decide_eq_false (by simpa using this : decide ((pk p i).Duty ≤ (pk p (i - 1)).Duty) = false)
      omega
    · have := borr (h' i hi)
      have := List.any_eq_false.1 this k (List.mem_range.2 hk)
      rw [decide_eq_true e] at this
      exact this rfl
  · rintro ⟨h1, h2, h3⟩ i hi
    have hi := List.mem_range.1 hi
    have : badM d c p i = false := borF (borF (h1 i hi) (by
      unfold badO
      by_cases h0 : 0 < i
      · exact bandF2 (decide_eq_false (by have := h2 i hi h0; omega))
      · exact bandF (decide_eq_false h0))) (List.any_eq_false.2 fun k hk => by rw [decide_eq_false (h3 k i (List.mem_range.1 hk) hi)]; decide)
    rw [this]; decide
theorem matB_isM {d : List T_Task} {c : List T_Crew} {p : List T_Pair} (h : matB d c p = true) : IsM d c p := by
  obtain ⟨h1, h2, h3⟩ := matB_iff.1 h
  have h4 : ∀ i j, i < j → j < p.length → (pk p i).Duty < (pk p j).Duty := by
    intro i j hij
    induction j with
    | zero => omega
    | succ j ih =>
      intro hj
      have := h2 (j + 1) hj (by omega)
      rw [Nat.add_sub_cancel] at this
      by_cases e : i = j
      · subst e; exact this
      · have := ih (by omega) (by omega); omega
  refine ⟨fun x hx => ?_, List.pairwise_iff_getElem.2 fun i j hi hj hij e => ?_, List.pairwise_iff_getElem.2 fun i j hi hj hij e => ?_⟩
  · obtain ⟨i, hi, rfl⟩ := List.getElem_of_mem hx
    have := h1 i hi
    rw [pk_eq hi] at this
    obtain ⟨a, b, hab, ha, hb⟩ := outR_f (borl this)
    have hf := borr this
    rw [hab] at hf
    exact ⟨a, b, hab, ha, hb, by simpa using hf⟩
  · have := h4 i j hij hj
    rw [pk_eq hi, pk_eq hj, e] at this
    omega
  · have := h3 i j hij hj
    rw [pk_eq hi, pk_eq hj] at this
    exact this e
theorem isM_matB {d : List T_Task} {c : List T_Crew} {p : List T_Pair} (h : IsM d c p) (ha : p.Pairwise fun x y => x.Duty < y.Duty) : matB d c p = true := by
  refine matB_iff.2 ⟨fun i hi => ?_, fun i hi h0 => ?_, fun k i hk hi => ?_⟩
  · rw [pk_eq hi]
    obtain ⟨a, b, e, h1, h2, h3⟩ := h.ok _ (List.getElem_mem hi)
    rw [e]
    exact borF (outR_nat h1 h2) (by simpa using h3)
  · rw [pk_eq hi, pk_eq (show i - 1 < p.length by omega)]
    exact List.pairwise_iff_getElem.1 ha (i - 1) i (by omega) hi (by omega)
  · rw [pk_eq hi, pk_eq (show k < p.length by omega)]
    exact List.pairwise_iff_getElem.1 h.cr k i (by omega) hi hk
theorem sane_ok : law40_sane 2000 = some true := by decide +kernel
end Go.Gv
