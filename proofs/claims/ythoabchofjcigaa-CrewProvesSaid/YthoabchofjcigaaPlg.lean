/- Crews (chapter 40): the reference's search; CrewProves. -/
import Derived.Test.YthoabchofjcigaaPlf
namespace Go.Gv
theorem rplace_ok {N : Nat} (hN : 2000 ≤ N) {d : List T_Task} {c : List T_Crew} (v : Val d c) : ∀ (M : Nat) (seen : List Bool) (does of : List Int) (i : Nat), unseen seen < M → seen.length = c.length → Cons d c does of (-1) → i < d.length → (∀ k : Nat, of.getD i 0 = (k : Int) → seen.getD k false = true) →
    ∃ seen' does' of' b, search_place_r N M d c does seen i = some (does', seen', b) ∧ Found d c seen does of i seen' does' of' b := by
  intro M
  induction M with
  | zero => intro seen does of i h; omega
  | succ M ih =>
  intro seen does of i hM hsl hcon hi hfree
  have hdl := v.dl
  have hcl := v.cl
  obtain ⟨r, hr, hQ⟩ := runN (f := fun s : Int × List Int × List Bool => search_place_l1 N (search_place_r N M) d c i s.1 s.2.1 s.2.2) c.length
    (fun q s => s.1 = q ∧ s.2.1 = does ∧ s.2.2.length = seen.length ∧ (∀ k, seen.getD k false = true → s.2.2.getD k false = true) ∧ unseen s.2.2 ≤ unseen seen ∧ (∀ k, k < q → ft d c i k = true → s.2.2.getD k false = true) ∧
      ∀ k, k < c.length → s.2.2.getD k false = true → seen.getD k false = false → ∃ j : Nat, does.getD k 0 = (j : Int) ∧ j < d.length ∧ ∀ k2, k2 < c.length → ft d c j k2 = true → s.2.2.getD k2 false = true)
    (fun r => ∃ seen' does' of' b, (r = .inl (does', seen', b) ∨ r = .inr (does', seen') ∧ b = false) ∧ Found d c seen does of i seen' does' of' b) (by
    rintro k ⟨k', does', sn⟩ hk ⟨rfl, rfl, hl, hgr, hle, hft, hcl2⟩
    simp only at hl hgr hle hft hcl2 ⊢
    unfold search_place_l1
    have e1 := idx_ck hk
    have e2 : idx sn (k : Int) = some (sn.getD k false) := idx_getD _ (by omega)
    have e3 := idx_dk hi
    have e4 := rfits_eq N (ck c k) (v.small hi)
    have e5 : idx does' (k : Int) = some (does'.getD k 0) := idx_getD _ (by rw [hcon.dl]; exact hk)
    have t0 : decide ((k : Int) < (List.length c : Int)) = true := decide_eq_true (by omega)
    have skip : (sn.getD k false = true ∨ ft d c i k = false) → ∃ s', search_place_l1 N (search_place_r N M) d c i k does' sn = some (.inl s') ∧ s' = (((k + 1 : Nat) : Int), does', sn) := fun h => by
      refine ⟨_, ?_, rfl⟩
      unfold search_place_l1
      cases hs : sn.getD k false with
      | true =>
        rw [hs] at e2
        exact oit t0 (obi e2 (obi (gO_F rfl) (obi (gO_F rfl) (obi (gO_F rfl) (oit rfl (obi (inc_nat (by omega)) rfl))))))
      | false =>
        rw [hs] at e2
        have hf : fitB (dk d i) (ck c k) = false := by
          rcases h with h | h
          · rw [hs] at h; cases h
          · exact h
        rw [hf] at e4
        exact oit t0 (obi e2 (obi (gO_T rfl e3) (obi (gO_T rfl e1) (obi (gO_T rfl e4) (oit rfl (obi (inc_nat (by omega)) rfl))))))
    cases hs : sn.getD k false with
    | true =>
      left
      obtain ⟨s', h1, rfl⟩ := skip (.inl hs)
      refine ⟨_, h1, rfl, rfl, hl, hgr, hle, fun q hq hf => ?_, hcl2⟩
      by_cases e : q = k
      · subst e; exact hs
      · exact hft q (by omega) hf
    | false =>
    cases hf : ft d c i k with
    | false =>
      left
      obtain ⟨s', h1, rfl⟩ := skip (.inr hf)
      refine ⟨_, h1, rfl, rfl, hl, hgr, hle, fun q hq hf' => ?_, hcl2⟩
      by_cases e : q = k
      · subst e; rw [hf] at hf'; cases hf'
      · exact hft q (by omega) hf'
    | true =>
    have hf' : fitB (dk d i) (ck c k) = true := hf
    rw [hs] at e2
    rw [hf'] at e4
    have hseenk : seen.getD k false = false := by
      cases h : seen.getD k false with
      | false => rfl
      | true => have := hgr k h; rw [hs] at this; cases this
    have hus := unseen_set (s := sn) (k := k) (by omega) hs
    have gs : ∀ q, (sn.set k true).getD q false = if q = k then true else sn.getD q false := fun q => getD_setB (by omega)
    have sgrow : ∀ q, seen.getD q false = true → (sn.set k true).getD q false = true := fun q hq => by
      rw [gs]; split
      · rfl
      · exact hgr q hq
    have e6 : idx of (i : Int) = some (of.getD i 0) := idx_getD _ (by rw [hcon.ol]; exact hi)
    rcases hcon.lo k hk with hneg | ⟨j, hj, hjd⟩
    · -- a free crew
      right
      rw [hneg] at e5
      have hset : Cons d c (does'.set k (i : Int)) (of.set i (k : Int)) (of.getD i 0) := set_out hcon hi hk _ hf (.inl rfl) (fun k2 h2 hne hk2 he => hne (hcon.one k2 i h2 hi (by omega) he).1.symm) (fun j hj hji he => by
        rcases hcon.on j hj with q | ⟨k2, q1, q2, q3⟩
        · rw [he] at q; omega
        · have : k2 = k := by rw [he] at q1; omega
          subst this; rw [hneg] at q3; omega)
      refine ⟨_, oit t0 (obi e2 (obi (gO_T rfl e3) (obi (gO_T rfl e1) (obi (gO_T rfl e4) (oif rfl (obi e2 (obi e5 (obi (gO_F rfl) (oif rfl (oit rfl (obi e5 rfl))))))))))), sn.set k true, does'.set k (i : Int), of.set i (k : Int), true, .inl rfl, by simp [hl], sgrow, by omega, fun _ => ⟨hset, ⟨k, hk, hseenk, by rw [getD_setI (by rw [hcon.ol]; exact hi), if_pos rfl]⟩, fun q hq => ?_, fun q hq => ?_, fun X Y hXY => ⟨?_, fun q hq hY => ?_⟩⟩, fun h => by cases h⟩
      · rw [getD_setI (by rw [hcon.dl]; exact hk), if_neg]; intro e; rw [e, hseenk] at hq; cases hq
      · rw [getD_setI (by rw [hcon.ol]; exact hi)]
        by_cases e : q = i
        · rw [if_pos e]; exact ⟨fun h => by omega, fun h => absurd e h.2⟩
        · rw [if_neg e]; exact ⟨fun h => ⟨h, e⟩, fun h => h.1⟩
      · cases hX : X i with
        | false => rfl
        | true =>
          have hY := hXY.1 i k hi hk hX hf
          obtain ⟨j, h1, _⟩ := hXY.2 k hk hY
          rw [hneg] at h1; omega
      · rw [getD_setI (by rw [hcon.dl]; exact hk), if_neg]
        intro e; rw [e] at hY
        obtain ⟨j, h1, _⟩ := hXY.2 k hk hY
        rw [hneg] at h1; omega
    · -- its duty looks for another crew
      rw [hj] at e5
      have hofj := (hcon.one k j hk hjd (by omega) hj).1
      obtain ⟨seen2, does2, of2, b, hrec, hF⟩ := ih (sn.set k true) does' of j (by omega) (by simp; omega) hcon hjd (fun q hq => by
        have : q = k := by rw [hofj] at hq; omega
        rw [gs, if_pos this])
      obtain ⟨f1, f2, f3, f4, f5⟩ := hF
      have hlen2 : seen2.length = seen.length := by rw [f1]; simp [hl]
      have gr2 : ∀ q, seen.getD q false = true → seen2.getD q false = true := fun q hq => f2 q (sgrow q hq)
      have n0 : decide (((j : Nat) : Int) < 0) = false := decide_eq_false (by omega)
      cases b with
      | true =>
        right
        obtain ⟨hc2, ⟨ks, hks1, hks2, hks3⟩, hsame, hof, hXY⟩ := f4 rfl
        rw [hofj] at hc2
        have hne : i ≠ j := fun e => by
          subst e
          have := hfree k hofj
          rw [hseenk] at this; cases this
        have e7 : idx of2 (i : Int) = some (of2.getD i 0) := idx_getD _ (by rw [hc2.ol]; exact hi)
        have e8 : idx does2 (k : Int) = some (does2.getD k 0) := idx_getD _ (by rw [hc2.dl]; exact hk)
        have hdk2 : does2.getD k 0 = (j : Int) := by rw [hsame k (by rw [gs, if_pos rfl]), hj]
        have hksk : ks ≠ k := fun e => by rw [gs, if_pos e] at hks2; cases hks2
        have hset : Cons d c (does2.set k (i : Int)) (of2.set i (k : Int)) (of.getD i 0) := by
          refine set_out hc2 hi hk _ hf (.inr rfl) (fun k2 h2 hne2 hk2 he => ?_) (fun q hq hqi he => ?_)
          · have h3 := (hc2.one k2 i h2 hi (by omega) he).1
            rcases hcon.on i hi with q | ⟨k0, q1, q2, q3⟩
            · have := (hof i hi).2 ⟨q, hne⟩
              rw [h3] at this; omega
            · have hk0 := hfree k0 q1
              have hk0k : k0 ≠ k := fun e => by rw [e, hseenk] at hk0; cases hk0
              have h4 := hsame k0 (sgrow k0 hk0)
              rw [q3] at h4
              have h5 := (hc2.one k0 i q2 hi (by omega) h4).1
              rw [h3] at h5
              rw [q1] at hne2; omega
          · rcases hc2.on q hq with h | ⟨k2, h1, h2, h3⟩
            · rw [he] at h; omega
            · have : k2 = k := by rw [he] at h1; omega
              subst this
              have hqj : q = j := by rw [hdk2] at h3; omega
              rw [hqj, hks3] at he; omega
        refine ⟨_, oit t0 (obi e2 (obi (gO_T rfl e3) (obi (gO_T rfl e1) (obi (gO_T rfl e4) (oif rfl (obi e2 (obi e5 (obi (gO_T (bnotIt n0) e5) (oit (bnotIt n0) (obi hrec (oit (borT2 rfl) (obi e8 rfl)))))))))))), seen2, does2.set k (i : Int), of2.set i (k : Int), true, .inl rfl, hlen2, gr2, by omega, fun _ => ⟨hset, ⟨k, hk, hseenk, by rw [getD_setI (by rw [hc2.ol]; exact hi), if_pos rfl]⟩, fun q hq => ?_, fun q hq => ?_, fun X Y hXY2 => ⟨?_, fun q hq hY => ?_⟩⟩, fun h => by cases h⟩
        · rw [getD_setI (by rw [hc2.dl]; exact hk), if_neg]
          · exact hsame q (sgrow q hq)
          · intro e; rw [e, hseenk] at hq; cases hq
        · rw [getD_setI (by rw [hc2.ol]; exact hi)]
          by_cases e : q = i
          · rw [if_pos e]; exact ⟨fun h => by omega, fun h => absurd e h.2⟩
          · rw [if_neg e, hof q hq]
            refine ⟨fun h => ⟨h.1, e⟩, fun h => ⟨h.1, fun e2 => ?_⟩⟩
            rw [e2, hofj] at h; omega
        · obtain ⟨hX, _⟩ := hXY X Y hXY2
          cases hXi : X i with
          | false => rfl
          | true =>
            have hY := hXY2.1 i k hi hk hXi hf
            obtain ⟨j2, h1, _, h3⟩ := hXY2.2 k hk hY
            have : j2 = j := by rw [hj] at h1; omega
            rw [this, hX] at h3; cases h3
        · obtain ⟨hX, hY2⟩ := hXY X Y hXY2
          rw [getD_setI (by rw [hc2.dl]; exact hk), if_neg]
          · exact hY2 q hq hY
          · intro e; rw [e] at hY
            obtain ⟨j2, h1, _, h3⟩ := hXY2.2 k hk hY
            have : j2 = j := by rw [hj] at h1; omega
            rw [this, hX] at h3; cases h3
      | false =>
        left
        obtain ⟨hd2, ho2, hjf, hjc⟩ := f5 rfl
        rw [hd2] at hrec
        refine ⟨(((k + 1 : Nat) : Int), does', seen2), oit t0 (obi e2 (obi (gO_T rfl e3) (obi (gO_T rfl e1) (obi (gO_T rfl e4) (oif rfl (obi e2 (obi e5 (obi (gO_T (bnotIt n0) e5) (oit (bnotIt n0) (obi hrec (oif (borF n0 rfl) (obi (inc_nat (by omega)) rfl)))))))))))), rfl, rfl, hlen2, gr2, by simp only; omega, fun q hq hf2 => ?_, fun q hq hs2 hs0 => ?_⟩
        · by_cases e : q = k
          · subst e; exact f2 q (by rw [gs, if_pos rfl])
          · exact f2 q (by rw [gs, if_neg e]; exact hft q (by omega) hf2)
        · by_cases h1 : (sn.set k true).getD q false = true
          · rw [gs] at h1
            by_cases e : q = k
            · subst e; exact ⟨j, hj, hjd, hjf⟩
            · rw [if_neg e] at h1
              obtain ⟨j2, a1, a2, a3⟩ := hcl2 q hq h1 hs0
              exact ⟨j2, a1, a2, fun k2 hk2 hf2 => f2 k2 (by
                rw [gs]; split
                · rfl
                · exact a3 k2 hk2 hf2)⟩
          · exact hjc q hq hs2 (by simpa using h1)) (by
    rintro ⟨k', does', sn⟩ ⟨rfl, rfl, hl, hgr, hle, hft, hcl2⟩
    exact ⟨.inr (does', sn), oif (decide_eq_false (by simp)) rfl, sn, does', of, false, .inr ⟨rfl, rfl⟩, hl, hgr, hle, fun h => (by cases h), fun _ => ⟨rfl, rfl, fun k hk hf => hft k hk hf, hcl2⟩⟩) N (by omega) (0, does, seen) ⟨rfl, rfl, rfl, fun _ h => h, Nat.le_refl _, fun k h => absurd h (Nat.not_lt_zero _), fun k _ h1 h2 => by rw [h1] at h2; cases h2⟩
  obtain ⟨seen', does', of', b, h1, h2⟩ := hQ
  rcases h1 with rfl | ⟨rfl, rfl⟩
  · exact ⟨seen', does', of', b, obi hr rfl, h2⟩
  · exact ⟨seen', does', of', false, obi hr rfl, h2⟩
/-- the reference finds as many pairs -/
theorem Most_eq {N : Nat} (hN : 2000 ≤ N) {d : List T_Task} {c : List T_Crew} (v : Val d c) {does of : List Int} (hmat : Mat d c d.length does of) : r40_Most N d c = some (mcount of d.length : Int) := by
  have hdl := v.dl
  have hcl := v.cl
  have l1 : iterN (fun s : Int × List Int => r40_Most_l1 N c s.1 s.2) N (0, []) = some (List.replicate c.length (-1)) := by
    refine runN1 (f := fun s : Int × List Int => r40_Most_l1 N c s.1 s.2) c.length (fun i u => u.1 = i ∧ u.2 = List.replicate i (-1)) _ ?_ ?_ N (by omega) (0, []) ⟨rfl, rfl⟩
    · rintro i ⟨i', l⟩ hi ⟨rfl, rfl⟩
      exact ⟨_, oit (decide_eq_true (by simp only; omega)) (obi (app_ok (by simp only [List.length_replicate, List.length_cons, List.length_nil]; omega) (by simp only [List.length_replicate, List.length_cons, List.length_nil]; omega)) (obi (inc_nat (by omega)) rfl)), rfl, by simp only; rw [List.replicate_succ']⟩
    · rintro ⟨i', l⟩ ⟨rfl, rfl⟩
      exact oif (decide_eq_false (by simp)) rfl
  obtain ⟨r, hr, does2, of2, rfl, hm2⟩ := runN (f := fun s : Int × Int × List Int × List Bool => r40_Most_l2 N d c s.1 s.2.1 s.2.2.1 s.2.2.2) d.length
    (fun n s => s.2.1 = n ∧ ∃ of2, Mat d c n s.2.2.1 of2 ∧ s.1 = (mcount of2 d.length : Int)) (fun r => ∃ does2 of2, r = (mcount of2 d.length : Int) ∧ Mat d c d.length does2 of2) (by
    rintro n ⟨cnt, n', does2, sn⟩ hn ⟨rfl, of2, hm, rfl⟩
    simp only at hm ⊢
    left
    obtain ⟨seen', does', of', b, h1, h2⟩ := rplace_ok hN v N (List.replicate c.length false) does2 of2 n (by rw [unseen_rep]; omega) (by simp) hm.con hn (fun k hk => by rw [hm.rest n hn (Nat.le_refl _)] at hk; omega)
    obtain ⟨h3, h4⟩ := mat_step hm hn h2
    have hb := mcount_le of2 d.length
    unfold r40_Most_l2
    cases b with
    | true => exact ⟨_, oit (decide_eq_true (by omega)) (obi (mk1 (by omega)) (obi h1 (oit rfl (obi (inc_nat (by omega)) (obi (inc_nat (by omega)) rfl))))), rfl, of', h3, by simp only; rw [h4]; rfl⟩
    | false => exact ⟨_, oit (decide_eq_true (by omega)) (obi (mk1 (by omega)) (obi h1 (oif rfl (obi (inc_nat (by omega)) rfl)))), rfl, of', h3, by simp only; rw [h4]; rfl⟩) (by
    rintro ⟨cnt, n', does2, sn⟩ ⟨rfl, of2, hm, rfl⟩
    exact ⟨_, oif (decide_eq_false (by simp)) rfl, does2, of2, rfl, hm⟩) N (by omega) (0, 0, List.replicate c.length (-1), []) ⟨rfl, List.replicate d.length (-1), mat_zero d c, by
      have : mcount (List.replicate d.length (-1)) d.length = 0 := by
        unfold mcount
        rw [List.length_eq_zero_iff, List.filter_eq_nil_iff]
        intro i hi h
        have hi := List.mem_range.1 hi
        have := of_decide_eq_true h
        rw [getD_rep hi] at this; omega
      rw [this]; rfl⟩
  have e1 := hmat.most hm2.isM
  have e2 := hm2.most hmat.isM
  rw [pr_len] at e1 e2
  unfold r40_Most
  refine obi l1 (obi hr ?_)
  rw [show mcount of2 d.length = mcount of d.length by omega]
theorem iL_mem {n : Nat} {p : Nat → Bool} {x : Int} : x ∈ iL n p ↔ ∃ i : Nat, x = (i : Int) ∧ i < n ∧ p i = true := by
  unfold iL
  rw [List.mem_map]
  constructor
  · rintro ⟨i, hi, rfl⟩
    obtain ⟨a, b⟩ := List.mem_filter.1 hi
    exact ⟨i, rfl, List.mem_range.1 a, b⟩
  · rintro ⟨i, rfl, a, b⟩
    exact ⟨i, List.mem_filter.2 ⟨List.mem_range.2 a, b⟩, rfl⟩
theorem iL_asc (n : Nat) (p : Nat → Bool) : (iL n p).Pairwise (· < ·) := by
  unfold iL
  rw [List.pairwise_map]
  exact (List.pairwise_lt_range.filter _).imp fun h => by
    show ((_ : Nat) : Int) < ((_ : Nat) : Int)
    omega
theorem iL_ascB (n : Nat) (p : Nat → Bool) : ascB (iL n p) n = true := by
  unfold ascB
  have : (List.range (iL n p).length).any (badA (iL n p) n) = false := List.any_eq_false.2 fun i hi => by
    have hi := List.mem_range.1 hi
    have e : nk (iL n p) i = (iL n p)[i] := by unfold nk; rw [List.getD_eq_getElem?_getD, List.getElem?_eq_getElem hi]; rfl
    obtain ⟨a, h1, h2, _⟩ := iL_mem.1 (List.getElem_mem hi)
    have : badA (iL n p) n i = false := borF (borF (decide_eq_false (by rw [e]; omega)) (decide_eq_false (by rw [e]; omega))) (by
      by_cases h0 : 0 < i
      · have e2 : nk (iL n p) (i - 1) = (iL n p)[i - 1] := by unfold nk; rw [List.getD_eq_getElem?_getD, List.getElem?_eq_getElem (by omega)]; rfl
        have := List.pairwise_iff_getElem.1 (iL_asc n p) (i - 1) i (by omega) hi (by omega)
        exact bandF2 (decide_eq_false (by rw [e, e2]; omega))
      · exact bandF (decide_eq_false h0))
    rw [this]; decide
  rw [this]; rfl
theorem iL_has {n : Nat} {p : Nat → Bool} {i : Nat} (h : i < n) : hasB (iL n p) (i : Int) = p i := by
  cases hp : p i with
  | true => exact List.any_eq_true.2 ⟨(i : Int), iL_mem.2 ⟨i, rfl, h, hp⟩, decide_eq_true rfl⟩
  | false =>
    unfold hasB
    rw [List.any_eq_false]
    intro x hx he
    obtain ⟨j, rfl, _, hj⟩ := iL_mem.1 hx
    have : j = i := by have := of_decide_eq_true he; omega
    rw [this, hp] at hj; cases hj
theorem Cov.covB {d : List T_Task} {c : List T_Crew} {does of : List Int} {F B : List Bool} (h : Cov d c does of F B) : covB d c (iL d.length fun i => !F.getD i false) (iL c.length fun k => B.getD k false) = true := by
  unfold Gv.covB
  have : ((List.range d.length).any fun i => (List.range c.length).any (hitV d c (iL d.length fun i => !F.getD i false) (iL c.length fun k => B.getD k false) i)) = false := List.any_eq_false.2 fun i hi => by
    have hi := List.mem_range.1 hi
    have : (List.range c.length).any (hitV d c (iL d.length fun i => !F.getD i false) (iL c.length fun k => B.getD k false) i) = false := List.any_eq_false.2 fun k hk => by
      have hk := List.mem_range.1 hk
      unfold hitV
      rw [iL_has hi, iL_has hk]
      cases hf : ft d c i k with
      | false => simp
      | true =>
        cases hF : F.getD i false with
        | false => simp
        | true => rw [h.c1 i k hi hk hF hf]; simp
    rw [this]; decide
  rw [this]; rfl
theorem pr_asc (of : List Int) (n : Nat) : (pr of n).Pairwise fun x y => x.Duty < y.Duty := by
  unfold pr
  rw [List.pairwise_map]
  exact (List.pairwise_lt_range.filter _).imp fun h => by
    show ((_ : Nat) : Int) < ((_ : Nat) : Int)
    omega
theorem CrewProves_true (t : List Int) : law40_CrewProves 2000 t = some true := by
  have hN : 2000 ≤ 2000 := Nat.le_refl _
  obtain ⟨k0, d, c, hm, hk0, hk1, hmade⟩ := made_ok hN t (k := 0) (by omega) (by omega) (n := 14) (m := 9) (by omega) (by omega)
  have v := hmade.val (by omega) (by omega)
  have hdl := hmade.dl
  have hcl := hmade.cl
  obtain ⟨does, of, hma, hmat, hA⟩ := assigns hN v
  obtain ⟨F, B, hC, hcov⟩ := cover_ok hN v hma hmat
  obtain ⟨u, hu⟩ : ∃ u, u = iL d.length fun i => !F.getD i false := ⟨_, rfl⟩
  obtain ⟨w, hw⟩ : ∃ w, w = iL c.length fun k => B.getD k false := ⟨_, rfl⟩
  have hul : u.length ≤ d.length := by rw [hu]; exact iL_len _ _
  have hwl : w.length ≤ c.length := by rw [hw]; exact iL_len _ _
  have hpl : (pr of d.length).length = u.length + w.length := by rw [pr_len, hu, hw]; exact hcov.count hmat.con
  have hmB := isM_matB hmat.isM (pr_asc of d.length)
  have hcv : ((ascB u d.length && ascB w c.length) && covB d c u w) = true := by rw [hu, hw]; exact band (band (iL_ascB _ _) (iL_ascB _ _)) hcov.covB
  have hchk : chkB d c (pr of d.length) u w = true := band (band hmB hcv) (decide_eq_true hpl)
  have e1 := Check_eq hN v (p := pr of d.length) (u := u) (w := w) (by omega) (by omega) (by omega)
  rw [hchk] at e1
  have e2 := rMatching_eq hN v (p := pr of d.length) (by omega)
  rw [hmB] at e2
  have e3 := Covers_eq hN v (u := u) (w := w) (by omega) (by omega)
  rw [hcv] at e3
  have e4 := Most_eq hN v hmat
  rw [← pr_len] at e4
  rw [← hu, ← hw] at hC
  have g0 : (((decide ((0 : Int) = 0) && decide ((0 : Int) = 0)) && decide ((0 : Int) = 0)) && true) = true := rfl
  have hs : in64 ((List.length u : Int) + (List.length w : Int)) = some ((u.length + w.length : Nat) : Int) := in64_nat (by omega) (by omega)
  have g1 : ((((((decide ((0 : Int) = 0) && decide ((0 : Int) = 0)) && decide ((0 : Int) = 0)) && true) && true) && true) && decide ((List.length (pr of d.length) : Int) = ((u.length + w.length : Nat) : Int))) = true := band rfl (decide_eq_true (by omega))
  have g2 := band g1 (decide_eq_true (rfl : (List.length (pr of d.length) : Int) = (List.length (pr of d.length) : Int)))
  unfold law40_CrewProves
  exact obi rfl (obi hm (obi hA (obi hC (obi e1 (obi (gO_T g0 e2) (obi (gO_T rfl e3) (obi (gO_T rfl hs) (obi (gO_T g1 e4) (obi (gO_T g2 sane_ok) (congrArg some (band g2 rfl)))))))))))
end Go.Gv
