/- Crews (chapter 40): the search for a crew, and the matching. -/
import Derived.Test.YthoabchofjcigaaPy
namespace Go.Gv
def dk (l : List T_Task) (i : Nat) : T_Task := l.getD i default
def ck (l : List T_Crew) (i : Nat) : T_Crew := l.getD i default
theorem idx_dk {l : List T_Task} {i : Nat} (h : i < l.length) : idx l (i : Int) = some (dk l i) := idx_getD _ h
theorem idx_ck {l : List T_Crew} {i : Nat} (h : i < l.length) : idx l (i : Int) = some (ck l i) := idx_getD _ h
def fitB (t : T_Task) (c : T_Crew) : Bool := (decide (c.From ≤ t.From) && decide (t.To ≤ c.To)) && decide (t.To - t.From ≤ c.Most)
theorem fits_eq (N : Nat) {t : T_Task} (c : T_Crew) (h : -1000000 ≤ t.From ∧ t.From ≤ 1000000 ∧ -1000000 ≤ t.To ∧ t.To ≤ 1000000) : crew_Fits N t c = some (fitB t c) := by
  unfold crew_Fits fitB
  cases hg : decide (c.From ≤ t.From) && decide (t.To ≤ c.To) with
  | true => exact obi (gO_T rfl (in64_ok (by omega))) rfl
  | false => exact obi (gO_F rfl) rfl
theorem rfits_eq (N : Nat) {t : T_Task} (c : T_Crew) (h : -1000000 ≤ t.From ∧ t.From ≤ 1000000 ∧ -1000000 ≤ t.To ∧ t.To ≤ 1000000) : r40_Fits N t c = some (fitB t c) := fits_eq N c h
/-- valid duties and crews -/
def badD (x : T_Task) : Bool := !((decide (0 ≤ x.From) && decide (x.From < x.To)) && decide (x.To ≤ 10080))
def badW (x : T_Crew) : Bool := ((!((decide (0 ≤ x.From) && decide (x.From < x.To)) && decide (x.To ≤ 10080))) || decide (x.Most < 1)) || decide (10080 < x.Most)
def vC (d : List T_Task) (c : List T_Crew) : Int := if 64 < d.length ∨ 32 < c.length then 3 else bif d.any badD then 1 else bif c.any badW then 1 else 0
theorem check_eq {N : Nat} (hN : 2000 ≤ N) (d : List T_Task) (c : List T_Crew) : crew_check N d c = some (vC d c) := by
  unfold crew_check vC
  by_cases h : 64 < d.length ∨ 32 < c.length
  · rw [if_pos h]
    refine oit ?_ rfl
    rcases h with h | h
    · exact borT (decide_eq_true (by omega))
    · exact borT2 (decide_eq_true (by omega))
  · rw [if_neg h]
    refine oif (borF (decide_eq_false (by omega)) (decide_eq_false (by omega))) (obi (first_any d badD 1 (f := crew_check_l1 N d) (fun i hi hp => ?_) (fun i hi hp => ?_) ?_ N (by omega)) ?_)
    · exact oit (decide_eq_true (by omega)) (obi (idx_nat hi) (obi rfl (oit hp rfl)))
    · exact oit (decide_eq_true (by omega)) (obi (idx_nat hi) (obi rfl (oif hp (obi (inc_nat (by omega)) rfl))))
    · exact oif (decide_eq_false (by omega)) rfl
    · cases d.any badD with
      | true => rfl
      | false =>
        refine obi (first_any c badW 1 (f := crew_check_l2 N c) (fun i hi hp => ?_) (fun i hi hp => ?_) ?_ N (by omega)) ?_
        · exact oit (decide_eq_true (by omega)) (obi (idx_nat hi) (obi rfl (oit hp rfl)))
        · exact oit (decide_eq_true (by omega)) (obi (idx_nat hi) (obi rfl (oif hp (obi (inc_nat (by omega)) rfl))))
        · exact oif (decide_eq_false (by omega)) rfl
        · cases c.any badW <;> rfl
structure Val (d : List T_Task) (c : List T_Crew) : Prop where
  dl : d.length ≤ 64
  cl : c.length ≤ 32
  ok : ∀ x ∈ d, 0 ≤ x.From ∧ x.From < x.To ∧ x.To ≤ 10080
  okc : ∀ x ∈ c, (0 ≤ x.From ∧ x.From < x.To ∧ x.To ≤ 10080) ∧ 1 ≤ x.Most ∧ x.Most ≤ 10080
theorem vC_zero {d : List T_Task} {c : List T_Crew} : vC d c = 0 ↔ Val d c := by
  unfold vC
  by_cases h : 64 < d.length ∨ 32 < c.length
  · rw [if_pos h]; exact ⟨fun e => by omega, fun v => by have := v.dl; have := v.cl; omega⟩
  · rw [if_neg h]
    cases hd : d.any badD with
    | true =>
      refine ⟨fun e => by simp at e, fun v => ?_⟩
      obtain ⟨x, hx, hp⟩ := List.any_eq_true.1 hd
      have := v.ok x hx
      unfold badD at hp
      simp at hp; omega
    | false =>
      cases hc : c.any badW with
      | true =>
        refine ⟨fun e => by simp at e, fun v => ?_⟩
        obtain ⟨x, hx, hp⟩ := List.any_eq_true.1 hc
        have := v.okc x hx
        unfold badW at hp
        simp at hp; omega
      | false =>
        refine ⟨fun _ => ⟨by omega, by omega, fun x hx => ?_, fun x hx => ?_⟩, fun _ => rfl⟩
        · have := List.any_eq_false.1 hd x hx
          unfold badD at this
          simp at this; omega
        · have := List.any_eq_false.1 hc x hx
          unfold badW at this
          simp at this; omega
theorem Val.small {d : List T_Task} {c : List T_Crew} (v : Val d c) {i : Nat} (h : i < d.length) : -1000000 ≤ (dk d i).From ∧ (dk d i).From ≤ 1000000 ∧ -1000000 ≤ (dk d i).To ∧ (dk d i).To ≤ 1000000 := by
  have : dk d i ∈ d := by unfold dk; rw [List.getD_eq_getElem?_getD, List.getElem?_eq_getElem h]; exact List.getElem_mem h
  have := v.ok _ this
  omega
/-- duty i fits crew k -/
def ft (d : List T_Task) (c : List T_Crew) (i k : Nat) : Bool := fitB (dk d i) (ck c k)
theorem getD_setI {l : List Int} {i k : Nat} {v : Int} (h : i < l.length) : (l.set i v).getD k 0 = if k = i then v else l.getD k 0 := by
  rw [List.getD_eq_getElem?_getD, List.getD_eq_getElem?_getD, List.getElem?_set]
  by_cases e : k = i
  · subst e; simp [h]
  · simp [e, Ne.symm e]
theorem getD_setB {l : List Bool} {i k : Nat} {v : Bool} (h : i < l.length) : (l.set i v).getD k false = if k = i then v else l.getD k false := by
  rw [List.getD_eq_getElem?_getD, List.getD_eq_getElem?_getD, List.getElem?_set]
  by_cases e : k = i
  · subst e; simp [h]
  · simp [e, Ne.symm e]
/-- does: the duty of each crew; of: the crew of each duty. All is in order, but for crew x. -/
structure Cons (d : List T_Task) (c : List T_Crew) (does of : List Int) (x : Int) : Prop where
  dl : does.length = c.length
  ol : of.length = d.length
  lo : ∀ k, k < c.length → does.getD k 0 = -1 ∨ ∃ i : Nat, does.getD k 0 = (i : Int) ∧ i < d.length
  on : ∀ i, i < d.length → of.getD i 0 = -1 ∨ ∃ k : Nat, of.getD i 0 = (k : Int) ∧ k < c.length ∧ does.getD k 0 = (i : Int)
  one : ∀ k i : Nat, k < c.length → i < d.length → (k : Int) ≠ x → does.getD k 0 = (i : Int) → of.getD i 0 = (k : Int) ∧ ft d c i k = true
/-- a closed pair of sets of duties and crews -/
def Clo (d : List T_Task) (c : List T_Crew) (does : List Int) (X Y : Nat → Bool) : Prop :=
  (∀ i k, i < d.length → k < c.length → X i = true → ft d c i k = true → Y k = true) ∧ ∀ k, k < c.length → Y k = true → ∃ i : Nat, does.getD k 0 = (i : Int) ∧ i < d.length ∧ X i = true
def unseen (s : List Bool) : Nat := s.count false
theorem unseen_set {s : List Bool} {k : Nat} (hk : k < s.length) (h : s.getD k false = false) : unseen (s.set k true) + 1 = unseen s := by
  unfold unseen
  have e : s[k] = false := by rw [List.getD_eq_getElem?_getD, List.getElem?_eq_getElem hk] at h; exact h
  have h0 : 0 < s.count false := List.count_pos_iff.2 (by rw [← e]; exact List.getElem_mem hk)
  rw [List.count_set hk, e]
  simp
  omega
/-- what the search of a crew for duty i answers -/
structure Found (d : List T_Task) (c : List T_Crew) (seen : List Bool) (does of : List Int) (i : Nat) (seen' : List Bool) (does' of' : List Int) (b : Bool) : Prop where
  sl : seen'.length = seen.length
  grow : ∀ k, seen.getD k false = true → seen'.getD k false = true
  le : unseen seen' ≤ unseen seen
  yes : b = true → Cons d c does' of' (of.getD i 0) ∧ (∃ k : Nat, k < c.length ∧ seen.getD k false = false ∧ of'.getD i 0 = (k : Int)) ∧ (∀ k, seen.getD k false = true → does'.getD k 0 = does.getD k 0) ∧
    (∀ j, j < d.length → (of'.getD j 0 = -1 ↔ of.getD j 0 = -1 ∧ j ≠ i)) ∧ ∀ X Y, Clo d c does X Y → X i = false ∧ ∀ k, k < c.length → Y k = true → does'.getD k 0 = does.getD k 0
  no : b = false → does' = does ∧ of' = of ∧ (∀ k, k < c.length → ft d c i k = true → seen'.getD k false = true) ∧
    ∀ k, k < c.length → seen'.getD k false = true → seen.getD k false = false → ∃ j : Nat, does.getD k 0 = (j : Int) ∧ j < d.length ∧ ∀ k2, k2 < c.length → ft d c j k2 = true → seen'.getD k2 false = true
theorem set_out {d : List T_Task} {c : List T_Crew} {does of : List Int} {x : Int} {i k : Nat} (h : Cons d c does of x) (hi : i < d.length) (hk : k < c.length) (y : Int) (hf : ft d c i k = true)
    (hx : x = -1 ∨ x = (k : Int)) (hy : ∀ k' : Nat, k' < c.length → (k' : Int) ≠ y → k' ≠ k → does.getD k' 0 ≠ (i : Int)) (hz : ∀ j : Nat, j < d.length → j ≠ i → of.getD j 0 ≠ (k : Int)) : Cons d c (does.set k (i : Int)) (of.set i (k : Int)) y := by
  refine ⟨by simp [h.dl], by simp [h.ol], fun k' hk' => ?_, fun j hj => ?_, fun k' j hk' hj hne he => ?_⟩
  · rw [getD_setI (by rw [h.dl]; exact hk)]
    by_cases e : k' = k
    · rw [if_pos e]; exact .inr ⟨i, rfl, hi⟩
    · rw [if_neg e]; exact h.lo k' hk'
  · rw [getD_setI (by rw [h.ol]; exact hi)]
    by_cases e : j = i
    · rw [if_pos e]; exact .inr ⟨k, rfl, hk, by rw [getD_setI (by rw [h.dl]; exact hk), if_pos rfl, e]⟩
    · rw [if_neg e]
      rcases h.on j hj with q | ⟨k', q1, q2, q3⟩
      · exact .inl q
      · refine .inr ⟨k', q1, q2, ?_⟩
        rw [getD_setI (by rw [h.dl]; exact hk), if_neg, q3]
        intro e2; exact hz j hj e (by rw [q1, e2])
  · rw [getD_setI (by rw [h.dl]; exact hk)] at he
    rw [getD_setI (by rw [h.ol]; exact hi)]
    by_cases e : k' = k
    · rw [if_pos e] at he
      have : j = i := by omega
      rw [if_pos this, e, this]; exact ⟨rfl, hf⟩
    · rw [if_neg e] at he
      have hji : j ≠ i := fun q => hy k' hk' hne e (by rw [he, q])
      rw [if_neg hji]
      exact h.one k' j hk' hj (by rcases hx with q | q <;> omega) he
theorem find_ok {N : Nat} (hN : 2000 ≤ N) {d : List T_Task} {c : List T_Crew} (v : Val d c) : ∀ (M : Nat) (seen : List Bool) (does of : List Int) (i : Nat), unseen seen < M → seen.length = c.length → Cons d c does of (-1) → i < d.length → (∀ k : Nat, of.getD i 0 = (k : Int) → seen.getD k false = true) →
    ∃ seen' does' of' b, crew_match_1_r N M i c seen d does of = some (seen', does', of', b) ∧ Found d c seen does of i seen' does' of' b := by
  intro M
  induction M with
  | zero => intro seen does of i h; omega
  | succ M ih =>
  intro seen does of i hM hsl hcon hi hfree
  have hdl := v.dl
  have hcl := v.cl
  obtain ⟨r, hr, hQ⟩ := runN (f := fun s : Int × List Bool × List Int × List Int => crew_match_1_l1 N (crew_match_1_r N M) i c d s.1 s.2.1 s.2.2.1 s.2.2.2) c.length
    (fun q s => s.1 = q ∧ s.2.2.1 = does ∧ s.2.2.2 = of ∧ s.2.1.length = seen.length ∧ (∀ k, seen.getD k false = true → s.2.1.getD k false = true) ∧ unseen s.2.1 ≤ unseen seen ∧ (∀ k, k < q → ft d c i k = true → s.2.1.getD k false = true) ∧
      ∀ k, k < c.length → s.2.1.getD k false = true → seen.getD k false = false → ∃ j : Nat, does.getD k 0 = (j : Int) ∧ j < d.length ∧ ∀ k2, k2 < c.length → ft d c j k2 = true → s.2.1.getD k2 false = true)
    (fun r => ∃ seen' does' of' b, (r = .inl (seen', does', of', b) ∨ r = .inr (seen', does', of') ∧ b = false) ∧ Found d c seen does of i seen' does' of' b) (by
    rintro k ⟨k', sn, does', of'⟩ hk ⟨rfl, rfl, rfl, hl, hgr, hle, hft, hcl2⟩
    simp only at hl hgr hle hft hcl2 ⊢
    unfold crew_match_1_l1
    have e1 := idx_ck hk
    have e2 : idx sn (k : Int) = some (sn.getD k false) := idx_getD _ (by omega)
    have e3 := idx_dk hi
    have e4 := fits_eq N (ck c k) (v.small hi)
    have e5 : idx does' (k : Int) = some (does'.getD k 0) := idx_getD _ (by rw [hcon.dl]; exact hk)
    have t0 : decide ((k : Int) < (List.length c : Int)) = true := decide_eq_true (by omega)
    have skip : (sn.getD k false = true ∨ ft d c i k = false) → ∃ s', crew_match_1_l1 N (crew_match_1_r N M) i c d k sn does' of' = some (.inl s') ∧ s' = (((k + 1 : Nat) : Int), sn, does', of') := fun h => by
      refine ⟨_, ?_, rfl⟩
      unfold crew_match_1_l1
      cases hs : sn.getD k false with
      | true =>
        rw [hs] at e2
        exact oit t0 (obi e1 (obi e2 (obi (gO_F rfl) (obi (gO_F rfl) (oit rfl (obi (inc_nat (by omega)) rfl))))))
      | false =>
        rw [hs] at e2
        have hf : fitB (dk d i) (ck c k) = false := by
          rcases h with h | h
          · rw [hs] at h; cases h
          · exact h
        rw [hf] at e4
        exact oit t0 (obi e1 (obi e2 (obi (gO_T rfl e3) (obi (gO_T rfl e4) (oit rfl (obi (inc_nat (by omega)) rfl))))))
    cases hs : sn.getD k false with
    | true =>
      left
      obtain ⟨s', h1, rfl⟩ := skip (.inl hs)
      refine ⟨_, h1, rfl, rfl, rfl, hl, hgr, hle, fun q hq hf => ?_, hcl2⟩
      by_cases e : q = k
      · subst e; exact hs
      · exact hft q (by omega) hf
    | false =>
    cases hf : ft d c i k with
    | false =>
      left
      obtain ⟨s', h1, rfl⟩ := skip (.inr hf)
      refine ⟨_, h1, rfl, rfl, rfl, hl, hgr, hle, fun q hq hf' => ?_, hcl2⟩
      by_cases e : q = k
      · subst e; rw [hf] at hf'; cases hf'
      · exact hft q (by omega) hf'
    | true =>
    have hf' : fitB (dk d i) (ck c k) = true := hf
    rw [hs] at e2
    rw [hf'] at e4
    have hseenk : seen.getD k false = false := by
      cases h : seen.getD k false with
      | false => rfl
      | true => have := hgr k h; rw [hs] at this; cases this
    have hus := unseen_set (s := sn) (k := k) (by omega) hs
    have gs : ∀ q, (sn.set k true).getD q false = if q = k then true else sn.getD q false := fun q => getD_setB (by omega)
    have sgrow : ∀ q, seen.getD q false = true → (sn.set k true).getD q false = true := fun q hq => by
      rw [gs]; split
      · rfl
      · exact hgr q hq
    have e6 : idx of' (i : Int) = some (of'.getD i 0) := idx_getD _ (by rw [hcon.ol]; exact hi)
    rcases hcon.lo k hk with hneg | ⟨j, hj, hjd⟩
    · -- a free crew
      right
      rw [hneg] at e5
      have hset : Cons d c (does'.set k (i : Int)) (of'.set i (k : Int)) (of'.getD i 0) := set_out hcon hi hk _ hf (.inl rfl) (fun k2 h2 hne hk2 he => hne (hcon.one k2 i h2 hi (by omega) he).1.symm) (fun j hj hji he => by
        rcases hcon.on j hj with q | ⟨k2, q1, q2, q3⟩
        · rw [he] at q; omega
        · have : k2 = k := by rw [he] at q1; omega
          subst this; rw [hneg] at q3; omega)
      refine ⟨_, oit t0 (obi e1 (obi e2 (obi (gO_T rfl e3) (obi (gO_T rfl e4) (oif rfl (obi e2 (obi e5 (obi (gO_F rfl) (oif rfl (oit rfl (obi e6 (obi e5 rfl)))))))))))), sn.set k true, does'.set k (i : Int), of'.set i (k : Int), true, .inl rfl, by simp [hl], sgrow, by omega, fun _ => ⟨hset, ⟨k, hk, hseenk, by rw [getD_setI (by rw [hcon.ol]; exact hi), if_pos rfl]⟩, fun q hq => ?_, fun q hq => ?_, fun X Y hXY => ⟨?_, fun q hq hY => ?_⟩⟩, fun h => by cases h⟩
      · rw [getD_setI (by rw [hcon.dl]; exact hk), if_neg]; intro e; rw [e, hseenk] at hq; cases hq
      · rw [getD_setI (by rw [hcon.ol]; exact hi)]
        by_cases e : q = i
        · rw [if_pos e]; exact ⟨fun h => by omega, fun h => absurd e h.2⟩
        · rw [if_neg e]; exact ⟨fun h => ⟨h, e⟩, fun h => h.1⟩
      · cases hX : X i with
        | false => rfl
        | true =>
          have hY := hXY.1 i k hi hk hX hf
          obtain ⟨j, h1, _⟩ := hXY.2 k hk hY
          rw [hneg] at h1; omega
      · rw [getD_setI (by rw [hcon.dl]; exact hk), if_neg]
        intro e; rw [e] at hY
        obtain ⟨j, h1, _⟩ := hXY.2 k hk hY
        rw [hneg] at h1; omega
    · -- its duty looks for another crew
      rw [hj] at e5
      have hofj := (hcon.one k j hk hjd (by omega) hj).1
      obtain ⟨seen2, does2, of2, b, hrec, hF⟩ := ih (sn.set k true) does' of' j (by omega) (by simp; omega) hcon hjd (fun q hq => by
        have : q = k := by rw [hofj] at hq; omega
        rw [gs, if_pos this])
      obtain ⟨f1, f2, f3, f4, f5⟩ := hF
      have hlen2 : seen2.length = seen.length := by rw [f1]; simp [hl]
      have gr2 : ∀ q, seen.getD q false = true → seen2.getD q false = true := fun q hq => f2 q (sgrow q hq)
      have n0 : decide (((j : Nat) : Int) < 0) = false := decide_eq_false (by omega)
      cases b with
      | true =>
        right
        obtain ⟨hc2, ⟨ks, hks1, hks2, hks3⟩, hsame, hof, hXY⟩ := f4 rfl
        rw [hofj] at hc2
        have hne : i ≠ j := fun e => by
          subst e
          have := hfree k hofj
          rw [hseenk] at this; cases this
        have e7 : idx of2 (i : Int) = some (of2.getD i 0) := idx_getD _ (by rw [hc2.ol]; exact hi)
        have e8 : idx does2 (k : Int) = some (does2.getD k 0) := idx_getD _ (by rw [hc2.dl]; exact hk)
        have hdk2 : does2.getD k 0 = (j : Int) := by rw [hsame k (by rw [gs, if_pos rfl]), hj]
        have hksk : ks ≠ k := fun e => by rw [gs, if_pos e] at hks2; cases hks2
        have hset : Cons d c (does2.set k (i : Int)) (of2.set i (k : Int)) (of'.getD i 0) := by
          refine set_out hc2 hi hk _ hf (.inr rfl) (fun k2 h2 hne2 hk2 he => ?_) (fun q hq hqi he => ?_)
          · have h3 := (hc2.one k2 i h2 hi (by omega) he).1
            rcases hcon.on i hi with q | ⟨k0, q1, q2, q3⟩
            · have := (hof i hi).2 ⟨q, hne⟩
              rw [h3] at this; omega
            · have hk0 := hfree k0 q1
              have hk0k : k0 ≠ k := fun e => by rw [e, hseenk] at hk0; cases hk0
              have h4 := hsame k0 (sgrow k0 hk0)
              rw [q3] at h4
              have h5 := (hc2.one k0 i q2 hi (by omega) h4).1
              rw [h3] at h5
              rw [q1] at hne2; omega
          · rcases hc2.on q hq with h | ⟨k2, h1, h2, h3⟩
            · rw [he] at h; omega
            · have : k2 = k := by rw [he] at h1; omega
              subst this
              have hqj : q = j := by rw [hdk2] at h3; omega
              rw [hqj, hks3] at he; omega
        refine ⟨_, oit t0 (obi e1 (obi e2 (obi (gO_T rfl e3) (obi (gO_T rfl e4) (oif rfl (obi e2 (obi e5 (obi (gO_T (bnotIt n0) e5) (oit (bnotIt n0) (obi hrec (oit (borT2 rfl) (obi e7 (obi e8 rfl))))))))))))), seen2, does2.set k (i : Int), of2.set i (k : Int), true, .inl rfl, hlen2, gr2, by omega, fun _ => ⟨hset, ⟨k, hk, hseenk, by rw [getD_setI (by rw [hc2.ol]; exact hi), if_pos rfl]⟩, fun q hq => ?_, fun q hq => ?_, fun X Y hXY2 => ⟨?_, fun q hq hY => ?_⟩⟩, fun h => by cases h⟩
        · rw [getD_setI (by rw [hc2.dl]; exact hk), if_neg]
          · exact hsame q (sgrow q hq)
          · intro e; rw [e, hseenk] at hq; cases hq
        · rw [getD_setI (by rw [hc2.ol]; exact hi)]
          by_cases e : q = i
          · rw [if_pos e]; exact ⟨fun h => by omega, fun h => absurd e h.2⟩
          · rw [if_neg e, hof q hq]
            refine ⟨fun h => ⟨h.1, e⟩, fun h => ⟨h.1, fun e2 => ?_⟩⟩
            rw [e2, hofj] at h; omega
        · obtain ⟨hX, _⟩ := hXY X Y hXY2
          cases hXi : X i with
          | false => rfl
          | true =>
            have hY := hXY2.1 i k hi hk hXi hf
            obtain ⟨j2, h1, _, h3⟩ := hXY2.2 k hk hY
            have : j2 = j := by rw [hj] at h1; omega
            rw [this, hX] at h3; cases h3
        · obtain ⟨hX, hY2⟩ := hXY X Y hXY2
          rw [getD_setI (by rw [hc2.dl]; exact hk), if_neg]
          · exact hY2 q hq hY
          · intro e; rw [e] at hY
            obtain ⟨j2, h1, _, h3⟩ := hXY2.2 k hk hY
            have : j2 = j := by rw [hj] at h1; omega
            rw [this, hX] at h3; cases h3
      | false =>
        left
        obtain ⟨hd2, ho2, hjf, hjc⟩ := f5 rfl
        rw [hd2, ho2] at hrec
        refine ⟨(((k + 1 : Nat) : Int), seen2, does', of'), oit t0 (obi e1 (obi e2 (obi (gO_T rfl e3) (obi (gO_T rfl e4) (oif rfl (obi e2 (obi e5 (obi (gO_T (bnotIt n0) e5) (oit (bnotIt n0) (obi hrec (oif (borF n0 rfl) (obi (inc_nat (by omega)) rfl)))))))))))), rfl, rfl, rfl, hlen2, gr2, by simp only; omega, fun q hq hf2 => ?_, fun q hq hs2 hs0 => ?_⟩
        · by_cases e : q = k
          · subst e; exact f2 q (by rw [gs, if_pos rfl])
          · exact f2 q (by rw [gs, if_neg e]; exact hft q (by omega) hf2)
        · by_cases h1 : (sn.set k true).getD q false = true
          · rw [gs] at h1
            by_cases e : q = k
            · subst e; exact ⟨j, hj, hjd, hjf⟩
            · rw [if_neg e] at h1
              obtain ⟨j2, a1, a2, a3⟩ := hcl2 q hq h1 hs0
              exact ⟨j2, a1, a2, fun k2 hk2 hf2 => f2 k2 (by
                rw [gs]; split
                · rfl
                · exact a3 k2 hk2 hf2)⟩
          · exact hjc q hq hs2 (by simpa using h1)) (by
    rintro ⟨k', sn, does', of'⟩ ⟨rfl, rfl, rfl, hl, hgr, hle, hft, hcl2⟩
    exact ⟨.inr (sn, does', of'), oif (decide_eq_false (by simp)) rfl, sn, does', of', false, .inr ⟨rfl, rfl⟩, hl, hgr, hle, fun h => (by cases h), fun _ => ⟨rfl, rfl, fun k hk hf => hft k hk hf, hcl2⟩⟩) N (by omega) (0, seen, does, of) ⟨rfl, rfl, rfl, rfl, fun _ h => h, Nat.le_refl _, fun k h => absurd h (Nat.not_lt_zero _), fun k _ h1 h2 => by rw [h1] at h2; cases h2⟩
  obtain ⟨seen', does', of', b, h1, h2⟩ := hQ
  rcases h1 with rfl | ⟨rfl, rfl⟩
  · exact ⟨seen', does', of', b, obi hr rfl, h2⟩
  · exact ⟨seen', does', of', false, obi hr rfl, h2⟩
end Go.Gv
