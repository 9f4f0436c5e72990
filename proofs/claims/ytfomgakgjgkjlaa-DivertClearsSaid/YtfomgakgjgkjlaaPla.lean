/- Diverting: what the functions and the reference compute. -/
import Derived.Test.YtfomgakgjgkjlaaPs
namespace Go.Gv

def inT (t : Int) : Bool := decide (0 ≤ t) && decide (t ≤ 1000000000)
theorem inT_iff {t : Int} : inT t = true ↔ 0 ≤ t ∧ t ≤ 1000000000 := by simp [inT]

theorem sound_two (N : Nat) (hN : 200 ≤ N) (a b : List T_Span) (th : Int) : separation_sound N [a, b] th = some ((goodB a && goodB b) && inT th) := by
  have h := first_any [a, b] (fun x => !goodB x) false (fun s => separation_sound_l1 N [a, b] s) (fun i h hp => by
    unfold separation_sound_l1
    exact oit (decide_eq_true (by omega)) (obi (idx_nat h) (obi (svalid_eq N hN _) (oit hp rfl)))) (fun i h hp => by
    unfold separation_sound_l1
    have : i < 2 := h
    exact oit (decide_eq_true (by omega)) (obi (idx_nat h) (obi (svalid_eq N hN _) (oif hp (obi (inc_nat (by omega)) rfl))))) (by
    unfold separation_sound_l1
    exact oif (decide_eq_false (by simp)) rfl) N (by simp; omega)
  unfold separation_sound
  refine obi h ?_
  have e : ([a, b].any fun x => !goodB x) = ((!goodB a) || (!goodB b)) := by simp
  rw [e]
  cases goodB a <;> cases goodB b <;> rfl

theorem gap_nil (N : Nat) (hN : 200 ≤ N) (a : List T_Span) (hl : a.length ≤ 128) (th : Int) : separation_gap N a [] th = some (0, 0) := by
  obtain ⟨q, hq, rfl⟩ := iterN_run (f := fun s : Int × Int => separation_gap_l3 N a [] th s.1 s.2) (I := fun s => ∃ i : Nat, s = (0, (i : Int)) ∧ i ≤ a.length) (Q := fun q => q = .inr 0) (fun s => a.length - s.2.toNat) (by
    rintro s ⟨i, rfl, hi⟩
    simp only
    unfold separation_gap_l3
    by_cases h : i < a.length
    · have hin : iterN (fun s : Int × Int => separation_gap_l4 N [] th a[i] s.1 s.2) N (0, 0) = some (.inr 0) := by
        obtain ⟨M, rfl⟩ : ∃ M, N = M + 1 := ⟨N - 1, by omega⟩
        simp only [iterN]
        have : separation_gap_l4 (M + 1) [] th a[i] 0 0 = some (.inr (.inr 0)) := by
          unfold separation_gap_l4
          exact oif (decide_eq_false (by simp)) rfl
        rw [this]
      exact .inl ⟨(0, ((i + 1 : Nat) : Int)), oit (decide_eq_true (by omega)) (obi (idx_nat h) (obi hin (obi (inc_nat (by omega)) rfl))), ⟨i + 1, rfl, h⟩, by simp only; omega⟩
    · exact .inr ⟨_, oif (decide_eq_false (by omega)) rfl, rfl⟩) N (0, 0) ⟨0, rfl, Nat.zero_le _⟩ (by simp only; omega)
  unfold separation_gap
  exact obi hq rfl
theorem dvalid_eq (N : Nat) (hN : 200 ≤ N) (a : List T_Span) : divert_valid N a = some (goodB a) := by
  unfold divert_valid separation_Gap
  cases h : goodB a with
  | false => exact obi (obi (sound_two N hN a [] 0) (oit (by rw [h]; rfl) rfl)) rfl
  | true =>
    have g := goodB_iff.1 h
    have hn : goodB [] = true := goodB_T good_nil
    exact obi (obi (sound_two N hN a [] 0) (oif (by rw [h, hn]; rfl) (obi (gap_nil N hN a g.len 0) rfl))) rfl

theorem dready_eq (N : Nat) (s t : T_Span) (th : Int) (h : -1000000000000 ≤ s.To + th ∧ s.To + th ≤ 1000000000000) : divert_ready N s t th = some (ready s t th) := by
  unfold divert_ready ready apart
  cases ((!decide (s.Side = 0)) && (!decide (t.Side = 0))) && (!decide (s.Side = t.Side)) with
  | true => exact obi (in64_ok (by omega)) rfl
  | false => rfl

def hits (s t : T_Span) (th : Int) : Bool := decide (s.Element = t.Element) && decide (t.From < ready s t th)
def hit (a : List T_Span) (th : Int) (t : T_Span) : Bool := a.any fun s => hits s t th
def cfl (a b : List T_Span) (th : Int) : Option Nat := b.findIdx? (hit a th)
def cfv (a b : List T_Span) (th : Int) : Int := (cfl a b th).elim (-1) fun i => (i : Int)

theorem dconflict_eq (N : Nat) (hN : 200 ≤ N) {a b : List T_Span} (ga : Good a) (gb : Good b) {th : Int} (ht : inT th = true) : divert_conflict N a b th = some (cfv a b th) := by
  have htt := inT_iff.1 ht
  have hla := ga.len
  have hlb := gb.len
  have inner : ∀ (i : Nat) (t : T_Span), iterN (fun s : Int => divert_conflict_l4 N a th (i : Int) t s) N 0 = some (bif hit a th t then .inl (i : Int) else .inr ()) := fun i t => by
    refine first_any a (fun s => hits s t th) (i : Int) _ (fun j h hp => ?_) (fun j h hp => ?_) ?_ N (by omega)
    · have hb := ga.at j h
      have h1 := bandl hp
      unfold divert_conflict_l4
      exact oit (decide_eq_true (by omega)) (obi (idx_nat h) (obi (gO_T h1 (dready_eq N _ _ _ (by omega))) (oit hp rfl)))
    · have hb := ga.at j h
      unfold divert_conflict_l4
      refine oit (decide_eq_true (by omega)) (obi (idx_nat h) ?_)
      by_cases h1 : decide (a[j].Element = t.Element) = true
      · exact obi (gO_T h1 (dready_eq N _ _ _ (by omega))) (oif hp (obi (inc_nat (by omega)) rfl))
      · exact obi (gO_F (by simpa using h1)) (oif (bandF (by simpa using h1)) (obi (inc_nat (by omega)) rfl))
    · unfold divert_conflict_l4
      exact oif (decide_eq_false (by omega)) rfl
  have h := first_loop b (hit a th) (fun i => (i : Int)) (fun s => divert_conflict_l3 N a b th s) (fun i h hp => by
    have := inner i b[i]
    rw [hp] at this
    unfold divert_conflict_l3
    exact oit (decide_eq_true (by omega)) (obi (idx_nat h) (obi this rfl))) (fun i h hp => by
    have := inner i b[i]
    rw [hp] at this
    unfold divert_conflict_l3
    exact oit (decide_eq_true (by omega)) (obi (idx_nat h) (obi this (obi (inc_nat (by omega)) rfl)))) (by
    unfold divert_conflict_l3
    exact oif (decide_eq_false (by omega)) rfl) N (by omega)
  unfold divert_conflict cfv cfl
  refine obi h ?_
  cases b.findIdx? (hit a th) with
  | none => rfl
  | some i => rfl

theorem hit_find {a : List T_Span} (ga : Good a) (th : Int) (t : T_Span) : (∃ (j : Nat) (h : j < a.length), findE a t.Element = j ∧ hit a th t = decide (t.From < ready a[j] t th)) ∨ (findE a t.Element = -1 ∧ hit a th t = false) := by
  rcases find_cases ga t.Element with ⟨j, hj, h1, h2, h3⟩ | ⟨h1, h2⟩
  · refine .inl ⟨j, hj, h1, ?_⟩
    rw [Bool.eq_iff_iff]
    unfold hit hits
    rw [List.any_eq_true]
    constructor
    · rintro ⟨s, hs, hp⟩
      have := h3 s hs (of_decide_eq_true (bandl hp))
      subst this
      exact bandr hp
    · intro hp
      exact ⟨_, List.getElem_mem hj, band (decide_eq_true h2) hp⟩
  · refine .inr ⟨h1, ?_⟩
    rw [Bool.eq_false_iff]
    intro hp
    obtain ⟨s, hs, hp⟩ := List.any_eq_true.1 hp
    exact h2 s hs (of_decide_eq_true (bandl hp))

theorem rconflict_eq (N : Nat) (hN : 200 ≤ N) {a b : List T_Span} (ga : Good a) (gb : Good b) {th : Int} (ht : inT th = true) : r31_conflict N a b th = some (cfv a b th) := by
  have htt := inT_iff.1 ht
  have hla := ga.len
  have hlb := gb.len
  have h := first_loop b (hit a th) (fun i => (i : Int)) (fun s => r31_conflict_l1 N a b th s) (fun i h hp => by
    unfold r31_conflict_l1
    refine oit (decide_eq_true (by omega)) (obi (idx_nat h) (obi (find_eq N a (by omega) (by omega) _) ?_))
    rcases hit_find ga th b[i] with ⟨j, hj, e, e2⟩ | ⟨_, e2⟩
    · have hb := ga.at j hj
      rw [hp] at e2
      rw [e]
      have h0 : decide (0 ≤ (j : Int)) = true := decide_eq_true (by omega)
      exact obi (gO_T h0 (idx_nat hj)) (obi (gO_T h0 (idx_nat h)) (obi (gO_T h0 (idx_nat h)) (obi (gO_T h0 (after_eq N _ _ _ (by omega))) (oit (band h0 e2.symm) rfl))))
    · rw [hp] at e2; cases e2) (fun i h hp => by
    unfold r31_conflict_l1
    refine oit (decide_eq_true (by omega)) (obi (idx_nat h) (obi (find_eq N a (by omega) (by omega) _) ?_))
    rcases hit_find ga th b[i] with ⟨j, hj, e, e2⟩ | ⟨e, e2⟩
    · have hb := ga.at j hj
      rw [hp] at e2
      rw [e]
      have h0 : decide (0 ≤ (j : Int)) = true := decide_eq_true (by omega)
      exact obi (gO_T h0 (idx_nat hj)) (obi (gO_T h0 (idx_nat h)) (obi (gO_T h0 (idx_nat h)) (obi (gO_T h0 (after_eq N _ _ _ (by omega))) (oif (bandF2 e2.symm) (obi (inc_nat (by omega)) rfl)))))
    · rw [e]
      have h0 : decide (0 ≤ (-1 : Int)) = false := by decide
      exact obi (gO_F h0) (obi (gO_F h0) (obi (gO_F h0) (obi (gO_F h0) (oif (bandF h0) (obi (inc_nat (by omega)) rfl)))))) (by
    unfold r31_conflict_l1
    exact oif (decide_eq_false (by omega)) rfl) N (by omega)
  unfold r31_conflict cfv cfl
  refine obi h ?_
  cases b.findIdx? (hit a th) with
  | none => rfl
  | some i => rfl

def vld (a b : List T_Span) (th now : Int) : Bool := (goodB a && goodB b) && (inT th && inT now)
theorem rcheck_eq (N : Nat) (hN : 200 ≤ N) (a b : List T_Span) (th now : Int) : r31_check N a b th now = some (vld a b th now) := by
  unfold r31_check
  refine obi (rvalid_eq N hN a) ?_
  cases ha : goodB a with
  | false => exact obi (gO_F rfl) (by simp [vld, ha])
  | true => exact obi (gO_T rfl (rvalid_eq N hN b)) (by simp [vld, ha, inT, Bool.and_assoc])

theorem dConflict_eq (N : Nat) (hN : 200 ≤ N) (a b : List T_Span) (th : Int) : divert_Conflict N a b th = some (bif vld a b th 0 then (cfv a b th, 0) else (0, 1)) := by
  unfold divert_Conflict
  refine obi (dvalid_eq N hN a) ?_
  cases ha : goodB a with
  | false => exact obi (gO_F rfl) (obi (gO_F rfl) (oit rfl (by simp [vld, ha])))
  | true =>
    refine obi (gO_T rfl (dvalid_eq N hN b)) ?_
    cases hb : goodB b with
    | false => exact obi (gO_F rfl) (oit rfl (by simp [vld, hb]))
    | true =>
      refine obi (gO_T rfl (show divert_in N th = some (inT th) from rfl)) ?_
      have h0 : inT 0 = true := by decide
      cases ht : inT th with
      | false => exact oit rfl (by simp [vld, ht])
      | true => exact oif rfl (obi (dconflict_eq N hN (goodB_iff.1 ha) (goodB_iff.1 hb) ht) (by simp [vld, ha, hb, ht, h0]))
theorem rConflict_eq (N : Nat) (hN : 200 ≤ N) (a b : List T_Span) (th : Int) : r31_Conflict N a b th = some (bif vld a b th 0 then (cfv a b th, 0) else (0, 1)) := by
  unfold r31_Conflict
  refine obi (rcheck_eq N hN a b th 0) ?_
  cases h : vld a b th 0 with
  | false => exact oit rfl rfl
  | true =>
    have h' := h
    simp only [vld, Bool.and_eq_true] at h'
    exact oif rfl (obi (rconflict_eq N hN (goodB_iff.1 h'.1.1) (goodB_iff.1 h'.1.2) h'.2.1) rfl)

/-! the place -/
def thr (a : List T_Span) (th now : Int) (t : T_Span) : Bool := ((!decide (t.Side = 0)) && decide (now + th ≤ t.From)) && a.all fun s => (!decide (s.Element = t.Element)) || decide (s.To + th ≤ t.From)
theorem thrown_eq (N : Nat) (hN : 200 ≤ N) {a : List T_Span} (ga : Good a) (t : T_Span) {th now : Int} (ht : inT th = true) (hn : inT now = true) : divert_thrown N a t th now = some (thr a th now t) := by
  have htt := inT_iff.1 ht
  have hnn := inT_iff.1 hn
  have hla := ga.len
  have h := first_any a (fun s => decide (s.Element = t.Element) && decide (t.From < s.To + th)) false (fun s => divert_thrown_l1 N a t th s) (fun i h hp => by
    have hb := ga.at i h
    unfold divert_thrown_l1
    exact oit (decide_eq_true (by omega)) (obi (idx_nat h) (obi (gO_T (bandl hp) (in64_ok (by omega))) (oit hp rfl)))) (fun i h hp => by
    have hb := ga.at i h
    unfold divert_thrown_l1
    refine oit (decide_eq_true (by omega)) (obi (idx_nat h) ?_)
    by_cases h1 : decide (a[i].Element = t.Element) = true
    · exact obi (gO_T h1 (in64_ok (by omega))) (oif hp (obi (inc_nat (by omega)) rfl))
    · exact obi (gO_F (by simpa using h1)) (oif (bandF (by simpa using h1)) (obi (inc_nat (by omega)) rfl))) (by
    unfold divert_thrown_l1
    exact oif (decide_eq_false (by omega)) rfl) N (by omega)
  have e : (a.all fun s => (!decide (s.Element = t.Element)) || decide (s.To + th ≤ t.From)) = !a.any (fun s => decide (s.Element = t.Element) && decide (t.From < s.To + th)) := by
    rw [List.not_any_eq_all_not]
    congr 1
    funext s
    rw [Bool.not_and]
    congr 1
    rw [← decide_not]
    congr 1
    exact propext (by omega)
  unfold divert_thrown thr
  rw [e]
  by_cases hs : t.Side = 0
  · exact obi (gO_F (by simp [hs])) (oit (by simp [hs]) (by simp [hs]))
  · refine obi (gO_T (by simp [hs]) (in64_ok (by omega))) ?_
    by_cases hf : t.From < now + th
    · exact oit (by simp [hf]) (by simp [show ¬ now + th ≤ t.From by omega])
    · refine oif (by simp [hs, hf]) (obi h ?_)
      cases a.any (fun s => decide (s.Element = t.Element) && decide (t.From < s.To + th)) with
      | true => simp
      | false => simp [hs, show now + th ≤ t.From by omega]

def thrI (a b : List T_Span) (th now : Int) (i : Nat) : Bool := (b[i]?).elim false (thr a th now)
theorem thrI_at {a b : List T_Span} {th now : Int} {i : Nat} (h : i < b.length) : thrI a b th now i = thr a th now b[i] := by simp [thrI, h]
def chv (a b : List T_Span) (th now : Int) : Int × Int :=
  (cfl a b th).elim (0, 16) fun c => (lastI (thrI a b th now) c).elim (0, 15) fun i => ((i : Int), 0)

theorem cfl_lt {a b : List T_Span} {th : Int} {c : Nat} (h : cfl a b th = some c) : c < b.length := (List.findIdx?_eq_some_iff_getElem.1 h).1

theorem dChoose_eq (N : Nat) (hN : 200 ≤ N) (a b : List T_Span) (th now : Int) : divert_Choose N a b th now = some (bif vld a b th now then chv a b th now else (0, 1)) := by
  unfold divert_Choose
  refine obi (dvalid_eq N hN a) ?_
  cases ha : goodB a with
  | false => exact obi (gO_F rfl) (obi (gO_F rfl) (obi (gO_F rfl) (oit rfl (by simp [vld, ha]))))
  | true =>
    refine obi (gO_T rfl (dvalid_eq N hN b)) ?_
    cases hb : goodB b with
    | false => exact obi (gO_F rfl) (obi (gO_F rfl) (oit rfl (by simp [vld, hb])))
    | true =>
      refine obi (gO_T rfl (show divert_in N th = some (inT th) from rfl)) ?_
      cases ht : inT th with
      | false => exact obi (gO_F rfl) (oit rfl (by simp [vld, ht]))
      | true =>
        refine obi (gO_T rfl (show divert_in N now = some (inT now) from rfl)) ?_
        cases hn : inT now with
        | false => exact oit rfl (by simp [vld, hn])
        | true =>
          have ga := goodB_iff.1 ha
          have gb := goodB_iff.1 hb
          have hlb := gb.len
          have hv : vld a b th now = true := by simp [vld, ha, hb, ht, hn]
          rw [hv]
          refine oif rfl (obi (dconflict_eq N hN ga gb ht) ?_)
          unfold cfv chv
          cases hc : cfl a b th with
          | none => exact oit rfl rfl
          | some c =>
            have hcl := cfl_lt hc
            have h := last_loop (thrI a b th now) (fun i => ((i : Int), (0 : Int))) (fun s => divert_Choose_l1 N a b th now s) c (fun i hi hp => by
              rw [thrI_at (by omega)] at hp
              unfold divert_Choose_l1
              exact oit (decide_eq_true (by omega)) (obi (idx_nat (by omega)) (obi (thrown_eq N hN ga _ ht hn) (oit hp rfl)))) (fun i hi hp => by
              rw [thrI_at (by omega)] at hp
              unfold divert_Choose_l1
              exact oit (decide_eq_true (by omega)) (obi (idx_nat (by omega)) (obi (thrown_eq N hN ga _ ht hn) (oif hp (obi (in64_ok (by omega)) rfl))))) (by
              unfold divert_Choose_l1
              exact oif (by decide) rfl) N (by omega)
            refine oif (decide_eq_false (by simp only [Option.elim_some]; omega)) (obi (in64_ok (by simp only [Option.elim_some]; omega)) (obi h ?_))
            simp only [Option.elim_some, cond_true]
            cases lastI (thrI a b th now) c with
            | none => rfl
            | some i => rfl

/-- The reference's test at one place. -/
theorem rthr {a : List T_Span} (ga : Good a) (t : T_Span) (th now : Int) : (∃ (j : Nat) (h : j < a.length), findE a t.Element = j ∧ thr a th now t = (((!decide (t.Side = 0)) && decide (now + th ≤ t.From)) && decide (a[j].To + th ≤ t.From))) ∨ (findE a t.Element = -1 ∧ thr a th now t = ((!decide (t.Side = 0)) && decide (now + th ≤ t.From))) := by
  rcases find_cases ga t.Element with ⟨j, hj, h1, h2, h3⟩ | ⟨h1, h2⟩
  · refine .inl ⟨j, hj, h1, ?_⟩
    unfold thr
    congr 1
    rw [Bool.eq_iff_iff, List.all_eq_true]
    constructor
    · intro h
      have := h _ (List.getElem_mem hj)
      simpa [h2] using this
    · intro h s hs
      by_cases e : s.Element = t.Element
      · have := h3 s hs e
        subst this
        rw [h]; simp
      · simp [e]
  · refine .inr ⟨h1, ?_⟩
    unfold thr
    have : (a.all fun s => (!decide (s.Element = t.Element)) || decide (s.To + th ≤ t.From)) = true := by
      rw [List.all_eq_true]
      intro s hs
      simp [h2 s hs]
    rw [this, Bool.and_true]

theorem rChoose_eq (N : Nat) (hN : 200 ≤ N) (a b : List T_Span) (th now : Int) : r31_Choose N a b th now = some (bif vld a b th now then chv a b th now else (0, 1)) := by
  unfold r31_Choose
  refine obi (rcheck_eq N hN a b th now) ?_
  cases hv : vld a b th now with
  | false => exact oit rfl rfl
  | true =>
    have h' := hv
    simp only [vld, Bool.and_eq_true] at h'
    obtain ⟨⟨ha, hb⟩, ht, hn⟩ := h'
    have ga := goodB_iff.1 ha
    have gb := goodB_iff.1 hb
    have hla := ga.len
    have hlb := gb.len
    have htt := inT_iff.1 ht
    have hnn := inT_iff.1 hn
    refine oif rfl (obi (rconflict_eq N hN ga gb ht) ?_)
    unfold cfv chv
    cases hc : cfl a b th with
    | none => exact oit rfl rfl
    | some c =>
      have hcl := cfl_lt hc
      have hstep : ∀ i : Nat, i < c → r31_Choose_l1 N a b th now (i : Int) = bif thrI a b th now i then some (.inr (.inl ((i : Int), 0))) else some (.inl ((i : Int) - 1)) := fun i hi => by
        have hib : i < b.length := by omega
        rw [thrI_at hib]
        have hin : in64 ((i : Int) - 1) = some ((i : Int) - 1) := in64_ok (by omega)
        unfold r31_Choose_l1
        refine oit (decide_eq_true (by omega)) (obi (idx_nat hib) (obi (find_eq N a (by omega) (by omega) _) (obi (idx_nat hib) ?_)))
        by_cases hs : b[i].Side = 0
        · have e1 : thr a th now b[i] = false := by simp [thr, hs]
          have e0 : (!decide (b[i].Side = 0)) = false := by simp [hs]
          rw [e1]
          exact obi (gO_F e0) (obi (gO_F e0) (obi (gO_F (bandF (bandF e0))) (obi (gO_F (bandF (bandF e0))) (obi (gO_F (bandF (bandF e0))) (oif (bandF (bandF e0)) (obi hin rfl))))))
        · have e0 : (!decide (b[i].Side = 0)) = true := by simp [hs]
          refine obi (gO_T e0 (in64_ok (by omega))) (obi (gO_T e0 (idx_nat hib)) ?_)
          by_cases hf : now + th ≤ b[i].From
          · have ef : decide (now + th ≤ b[i].From) = true := decide_eq_true hf
            rcases rthr ga b[i] th now with ⟨j, hj, e, e2⟩ | ⟨e, e2⟩
            · have hbj := ga.at j hj
              rw [e, e2]
              have en : (!decide ((j : Int) < 0)) = true := by simp
              have eb : (((!decide (b[i].Side = 0)) && decide (now + th ≤ b[i].From)) && (!decide ((j : Int) < 0))) = true := band (band e0 ef) en
              refine obi (gO_T eb (idx_nat hj)) (obi (gO_T eb (in64_ok (by omega))) (obi (gO_T eb (idx_nat hib)) ?_))
              by_cases hq : a[j].To + th ≤ b[i].From
              · have eq : decide (a[j].To + th ≤ b[i].From) = true := decide_eq_true hq
                rw [band (band e0 ef) eq]
                exact oit (band (band e0 ef) (borT2 eq)) rfl
              · have eq : decide (a[j].To + th ≤ b[i].From) = false := decide_eq_false hq
                rw [bandF2 eq]
                exact oif (bandF2 (borF (by simp) eq)) (obi hin rfl)
            · rw [e, e2, band e0 ef]
              have en : (!decide ((-1 : Int) < 0)) = false := by decide
              exact obi (gO_F (bandF2 en)) (obi (gO_F (bandF2 en)) (obi (gO_F (bandF2 en)) (oit (band rfl (borT (by decide))) rfl)))
          · have ef : decide (now + th ≤ b[i].From) = false := decide_eq_false hf
            have e1 : thr a th now b[i] = false := by unfold thr; exact bandF (bandF2 ef)
            rw [e1]
            exact obi (gO_F (bandF (bandF2 ef))) (obi (gO_F (bandF (bandF2 ef))) (obi (gO_F (bandF (bandF2 ef))) (oif (bandF (bandF2 ef)) (obi hin rfl))))
      have h := last_loop (thrI a b th now) (fun i => ((i : Int), (0 : Int))) (fun s => r31_Choose_l1 N a b th now s) c (fun i hi hp => by
        rw [hstep i hi, hp]; rfl) (fun i hi hp => by
        rw [hstep i hi, hp]; rfl) (by
        unfold r31_Choose_l1
        exact oif (by decide) rfl) N (by omega)
      refine oif (decide_eq_false (by simp only [Option.elim_some]; omega)) (obi (in64_ok (by simp only [Option.elim_some]; omega)) (obi h ?_))
      simp only [Option.elim_some, cond_true]
      cases lastI (thrI a b th now) c with
      | none => rfl
      | some i => rfl

/-! diverted spans -/
def flip (s : T_Span) : T_Span := T_Span.mk s.Element (3 - s.Side) s.From s.To
theorem diverted_spec (N : Nat) (hN : 200 ≤ N) (b : List T_Span) (i : Int) : ∃ r, divert_Diverted N b i = some r ∧ r31_Diverted N b i = some r ∧ r.1.length ≤ 128 ∧
    ∀ (k : Nat) (_ : Good b) (h : k < b.length), i = k → b[k].Side ≠ 0 → r = ((b.take (k + 1)).set k (flip b[k]), 0) := by
  unfold divert_Diverted r31_Diverted
  cases hb : goodB b with
  | false => exact ⟨([], 1), obi (dvalid_eq N hN b) (oit (by rw [hb]; rfl) rfl), obi (rvalid_eq N hN b) (oit (by rw [hb]; rfl) rfl), by simp, fun k g => by rw [goodB_T g] at hb; cases hb⟩
  | true =>
    have g := goodB_iff.1 hb
    have hlb := g.len
    by_cases hr : 0 ≤ i ∧ i < b.length
    · obtain ⟨k, rfl⟩ : ∃ k : Nat, i = k := ⟨i.toNat, by omega⟩
      have hk : k < b.length := by omega
      have hg := g.at k hk
      have ec : (decide ((k : Int) < 0) || decide ((b.length : Int) ≤ (k : Int))) = false := borF (decide_eq_false (by omega)) (decide_eq_false (by omega))
      have hs : slc b 0 ((k + 1 : Nat) : Int) = some (b.take (k + 1)) := by
        have := slc_nat (l := b) (a := 0) (b := k + 1) (by omega) (by omega)
        rw [List.drop_zero] at this; exact this
      have htl : (b.take (k + 1)).length = k + 1 := by simp; omega
      have hx : idx (b.take (k + 1)) (k : Int) = some b[k] := by
        rw [idx_nat (by omega), List.getElem_take]
      have hap : app 32 [] (b.take (k + 1)) = some (b.take (k + 1)) := by rw [app_ok (by simp; omega) (by simp; omega), List.nil_append]
      by_cases h0 : b[k].Side = 0
      · exact ⟨([], 16), obi (dvalid_eq N hN b) (oif (by rw [hb]; rfl) (oif ec (obi (inc_nat (by omega)) (obi hs (obi hap (obi hx (oif (decide_eq_false (by omega)) (oif (decide_eq_false (by omega)) rfl)))))))),
          obi (rvalid_eq N hN b) (oif (by rw [hb]; rfl) (oif ec (obi (idx_nat hk) (oit (decide_eq_true h0) rfl)))), by simp, fun k' _ _ e hne => by
            have : k = k' := by omega
            subst this; exact absurd h0 hne⟩
      · refine ⟨((b.take (k + 1)).set k (flip b[k]), 0), obi (dvalid_eq N hN b) (oif (by rw [hb]; rfl) (oif ec (obi (inc_nat (by omega)) (obi hs (obi hap (obi hx ?_)))))),
          obi (rvalid_eq N hN b) (oif (by rw [hb]; rfl) (oif ec (obi (idx_nat hk) (oif (decide_eq_false h0) (obi (inc_nat (by omega)) (obi hs (obi hap (obi (idx_nat hk) (obi (in64_ok (by omega)) (obi hx rfl)))))))))), by simp; omega, fun k' _ _ e hne => by
            have : k = k' := by omega
            subst this; rfl⟩
        by_cases h1 : b[k].Side = 1
        · refine oit (decide_eq_true h1) (obi hx ?_)
          rw [Int.toNat_natCast]
          unfold flip
          rw [h1]; rfl
        · have h2 : b[k].Side = 2 := by omega
          refine oif (decide_eq_false h1) (oit (decide_eq_true h2) (obi hx ?_))
          rw [Int.toNat_natCast]
          unfold flip
          rw [h2]; rfl
    · have ec : (decide (i < 0) || decide ((b.length : Int) ≤ i)) = true := by
        simp only [Bool.or_eq_true, decide_eq_true_eq]; omega
      exact ⟨([], 2), obi (dvalid_eq N hN b) (oif (by rw [hb]; rfl) (oit ec rfl)), obi (rvalid_eq N hN b) (oif (by rw [hb]; rfl) (oit ec rfl)), by simp, fun k _ _ e _ => by omega⟩

theorem spans_eq (N : Nat) (l : List T_Span) (h : l.length < N) (h2 : l.length ≤ 1000000) : yardgen_SameSpans N l l = some true := by
  obtain ⟨q, hq, rfl⟩ := iterN_run (f := fun s : Int => yardgen_SameSpans_l1 N l l s) (I := fun s => ∃ i : Nat, s = i ∧ i ≤ l.length) (Q := fun q => q = .inr ()) (fun s => l.length - s.toNat) (by
    rintro s ⟨i, rfl, hi⟩
    unfold yardgen_SameSpans_l1
    by_cases h : i < l.length
    · exact .inl ⟨((i + 1 : Nat) : Int), oit (decide_eq_true (by omega)) (obi (idx_nat h) (obi (idx_nat h) (oif (by simp) (obi (inc_nat (by omega)) rfl)))), ⟨i + 1, rfl, h⟩, by omega⟩
    · exact .inr ⟨_, oif (decide_eq_false (by omega)) rfl, rfl⟩) N 0 ⟨0, rfl, Nat.zero_le _⟩ (by simp; omega)
  unfold yardgen_SameSpans
  exact oif (by simp) (obi hq rfl)

theorem exact_ok (a b : List T_Span) (th now i : Int) : law31_exact 200 a b th now i = some true := by
  obtain ⟨r, h1, h2, h3, _⟩ := diverted_spec 200 (by omega) b i
  unfold law31_exact
  refine obi (dConflict_eq 200 (by omega) a b th) (obi (rConflict_eq 200 (by omega) a b th) (obi (dChoose_eq 200 (by omega) a b th now) (obi (rChoose_eq 200 (by omega) a b th now) (obi h1 (obi h2 (obi (gO_T (by simp) (spans_eq 200 r.1 (by omega) (by omega))) ?_))))))
  simp
theorem sane_ok : law31_sane 200 = some true := by decide +kernel
end Go.Gv
