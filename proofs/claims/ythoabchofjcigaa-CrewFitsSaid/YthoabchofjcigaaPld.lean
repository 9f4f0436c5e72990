/- Crews (chapter 40): CrewMost and CrewGrows. -/
import Derived.Test.YthoabchofjcigaaPlc
namespace Go.Gv
/-- what 'made' makes -/
structure Made (d : List T_Task) (c : List T_Crew) (n m : Nat) : Prop where
  dl : d.length ≤ n
  cl : c.length ≤ m
  ok : ∀ x ∈ d, 0 ≤ x.From ∧ x.From < x.To ∧ x.To ≤ 200
  okc : ∀ x ∈ c, (0 ≤ x.From ∧ x.From < x.To ∧ x.To ≤ 200) ∧ 1 ≤ x.Most ∧ x.Most ≤ 200
theorem Made.val {d : List T_Task} {c : List T_Crew} {n m : Nat} (h : Made d c n m) (hn : n ≤ 64) (hm : m ≤ 32) : Val d c :=
  ⟨by have := h.dl; omega, by have := h.cl; omega, fun x hx => by have := h.ok x hx; omega, fun x hx => by have := h.okc x hx; omega⟩
theorem made_ok {N : Nat} (hN : 2000 ≤ N) (t : List Int) {k : Int} (hk : 0 ≤ k) (hk2 : k ≤ 1000000) {n m : Nat} (hn : n ≤ 60) (hm : m ≤ 30) :
    ∃ k' d c, law40_made N t k n m = some (k', d, c) ∧ k ≤ k' ∧ k' ≤ k + 400 ∧ Made d c n m := by
  obtain ⟨b, hb, b0, b1⟩ := next_ok N t (k := k) (n := (n : Int) + 1) (by omega) (by omega) (by omega) (by omega)
  obtain ⟨⟨k1, d⟩, hr, h1, h2, h3, h4⟩ := runN (f := fun s : Int × Int × List T_Task => law40_made_l1 N t s.1 s.2.1 s.2.2) b.toNat
    (fun i u => u.1 = b - i ∧ u.2.1 = k + 1 + 2 * i ∧ u.2.2.length = i ∧ ∀ x ∈ u.2.2, 0 ≤ x.From ∧ x.From < x.To ∧ x.To ≤ 200)
    (fun r => k ≤ r.1 ∧ r.1 ≤ k + 130 ∧ r.2.length ≤ n ∧ ∀ x ∈ r.2, 0 ≤ x.From ∧ x.From < x.To ∧ x.To ≤ 200) (by
      rintro i ⟨j, q, l⟩ hi ⟨rfl, rfl, hl, hx⟩
      simp only at hl hx ⊢
      obtain ⟨c, hc, c0, c1⟩ := next_ok N t (k := k + 1 + 2 * i) (n := 100) (by omega) (by omega) (by omega) (by omega)
      obtain ⟨e, he, e0, e1⟩ := next_ok N t (k := k + 1 + 2 * i + 1) (n := 40) (by omega) (by omega) (by omega) (by omega)
      refine .inl ⟨_, oit (decide_eq_true (by omega)) (obi hc (obi (in64_ok (by simp only; omega)) (obi he (obi (in64_ok (by simp only; omega)) (obi (app_ok (by simp only [List.length_cons, List.length_nil]; omega) (by simp only [List.length_cons, List.length_nil]; omega)) (obi (in64_ok (by omega)) rfl)))))), by simp only; omega, by simp only; omega, by simp only [List.length_append, List.length_cons, List.length_nil]; omega, fun x hx' => ?_⟩
      rcases List.mem_append.1 hx' with h | h
      · exact hx x h
      · simp at h; rw [h]; simp only; omega) (by
      rintro ⟨j, q, l⟩ ⟨rfl, rfl, hl, hx⟩
      simp only at hl hx ⊢
      exact ⟨(_, _), oif (decide_eq_false (by omega)) rfl, by simp only; omega, by simp only; omega, by simp only; omega, hx⟩) N (by omega) (b, k + 1, []) ⟨by simp, by simp, rfl, fun x h => by simp at h⟩
  simp only at h1 h2 h3 h4
  obtain ⟨b', hb', b0', b1'⟩ := next_ok N t (k := k1) (n := (m : Int) + 1) (by omega) (by omega) (by omega) (by omega)
  obtain ⟨⟨k2, c⟩, hr', g1, g2, g3, g4⟩ := runN (f := fun s : Int × Int × List T_Crew => law40_made_l2 N t s.1 s.2.1 s.2.2) b'.toNat
    (fun i u => u.1 = b' - i ∧ u.2.1 = k1 + 1 + 3 * i ∧ u.2.2.length = i ∧ ∀ x ∈ u.2.2, (0 ≤ x.From ∧ x.From < x.To ∧ x.To ≤ 200) ∧ 1 ≤ x.Most ∧ x.Most ≤ 200)
    (fun r => k1 ≤ r.1 ∧ r.1 ≤ k1 + 130 ∧ r.2.length ≤ m ∧ ∀ x ∈ r.2, (0 ≤ x.From ∧ x.From < x.To ∧ x.To ≤ 200) ∧ 1 ≤ x.Most ∧ x.Most ≤ 200) (by
      rintro i ⟨j, q, l⟩ hi ⟨rfl, rfl, hl, hx⟩
      simp only at hl hx ⊢
      obtain ⟨c, hc, c0, c1⟩ := next_ok N t (k := k1 + 1 + 3 * i) (n := 80) (by omega) (by omega) (by omega) (by omega)
      obtain ⟨e, he, e0, e1⟩ := next_ok N t (k := k1 + 1 + 3 * i + 1) (n := 60) (by omega) (by omega) (by omega) (by omega)
      obtain ⟨p, hp, pm⟩ := pick_ok N t (k := k1 + 1 + 3 * i + 1 + 1) (v := [5, 20, 60]) (by omega) (by omega) (by simp) (by simp)
      have pm : p = 5 ∨ p = 20 ∨ p = 60 := by simpa using pm
      refine .inl ⟨_, oit (decide_eq_true (by omega)) (obi hc (obi (in64_ok (by simp only; omega)) (obi he (obi (in64_ok (by simp only; omega)) (obi hp (obi (app_ok (by simp only [List.length_cons, List.length_nil]; omega) (by simp only [List.length_cons, List.length_nil]; omega)) (obi (in64_ok (by omega)) rfl))))))), by simp only; omega, by simp only; omega, by simp only [List.length_append, List.length_cons, List.length_nil]; omega, fun x hx' => ?_⟩
      rcases List.mem_append.1 hx' with h | h
      · exact hx x h
      · simp at h; rw [h]; simp only; omega) (by
      rintro ⟨j, q, l⟩ ⟨rfl, rfl, hl, hx⟩
      simp only at hl hx ⊢
      exact ⟨(_, _), oif (decide_eq_false (by omega)) rfl, by simp only; omega, by simp only; omega, by simp only; omega, hx⟩) N (by omega) (b', k1 + 1, []) ⟨by simp, by simp, rfl, fun x h => by simp at h⟩
  simp only at g1 g2 g3 g4
  refine ⟨k2, d, c, ?_, by omega, by omega, h3, g3, h4, g4⟩
  unfold law40_made
  exact obi (in64_ok (by omega)) (obi hb (obi hr (obi (in64_ok (by omega)) (obi hb' (obi hr' rfl)))))
theorem CrewMost_true (t : List Int) : law40_CrewMost 2000 t = some true := by
  have hN : 2000 ≤ 2000 := Nat.le_refl _
  obtain ⟨k0, d, c, hm, hk0, hk1, hmade⟩ := made_ok hN t (k := 0) (by omega) (by omega) (n := 10) (m := 7) (by omega) (by omega)
  have v := hmade.val (by omega) (by omega)
  have hdl := hmade.dl
  have hcl := hmade.cl
  obtain ⟨does, of, _, hmat, hA⟩ := assigns hN v
  -- a matching that was made at random
  have h15 : ∀ k : Int, 0 ≤ k → k ≤ 100000 → ∃ k' q, iterN (fun s : Int × Int × List Bool × List T_Pair => law40_CrewMost_l15 2000 t (k0, d, c) s.1 s.2.1 s.2.2.1 s.2.2.2) 2000 (0, k, List.replicate c.length false, []) = some (k', q) ∧ k ≤ k' ∧ k' ≤ k + 100 ∧ q.length ≤ 10 ∧ IsM d c q ∧ q.Pairwise fun x y => x.Duty < y.Duty := fun k hk hk2 => by
    obtain ⟨⟨k', q⟩, hr, h1, h2, h3, h4, h5⟩ := runN (f := fun s : Int × Int × List Bool × List T_Pair => law40_CrewMost_l15 2000 t (k0, d, c) s.1 s.2.1 s.2.2.1 s.2.2.2) d.length
      (fun i u => u.1 = i ∧ k ≤ u.2.1 ∧ u.2.1 ≤ k + 3 * i ∧ u.2.2.1.length = c.length ∧ u.2.2.2.length ≤ i ∧ IsM d c u.2.2.2 ∧ (u.2.2.2.Pairwise fun x y => x.Duty < y.Duty) ∧ (∀ x ∈ u.2.2.2, x.Duty < i) ∧ ∀ x ∈ u.2.2.2, u.2.2.1.getD x.Crew.toNat false = true)
      (fun r => k ≤ r.1 ∧ r.1 ≤ k + 100 ∧ r.2.length ≤ 10 ∧ IsM d c r.2 ∧ r.2.Pairwise fun x y => x.Duty < y.Duty) (by
      rintro i ⟨i', kk, us, q⟩ hi ⟨rfl, hk3, hk4, hul, hql, hM, hasc, hlt, hus⟩
      simp only at hk3 hk4 hul hql hM hasc hlt hus ⊢
      left
      obtain ⟨⟨k2, us2, q2⟩, hr, g1, g2, g3, g4, g5, g6, g7, g8⟩ := runN (f := fun s : Int × Int => law40_CrewMost_l16 2000 t (k0, d, c) i us q s.1 s.2) 3
        (fun j u => u.1 = j ∧ kk ≤ u.2 ∧ u.2 ≤ kk + j)
        (fun r => kk ≤ r.1 ∧ r.1 ≤ kk + 3 ∧ r.2.1.length = c.length ∧ r.2.2.length ≤ i + 1 ∧ IsM d c r.2.2 ∧ (r.2.2.Pairwise fun x y => x.Duty < y.Duty) ∧ (∀ x ∈ r.2.2, x.Duty < (i : Int) + 1) ∧ ∀ x ∈ r.2.2, r.2.1.getD x.Crew.toNat false = true) (by
        rintro j ⟨j', k3⟩ hj ⟨rfl, hk5, hk6⟩
        simp only at hk5 hk6 ⊢
        unfold law40_CrewMost_l16
        by_cases hc : 0 < c.length
        · obtain ⟨m, hm, m0, m1⟩ := next_ok 2000 t (k := k3) (n := (c.length : Int)) (by omega) (by omega) (by omega) (by omega)
          obtain ⟨b, rfl⟩ : ∃ b : Nat, m = b := ⟨m.toNat, by omega⟩
          have hb : b < c.length := by omega
          have e1 : idx us (b : Int) = some (us.getD b false) := idx_getD _ (by omega)
          have e2 := idx_dk hi
          have e3 := idx_ck hb
          have e4 := rfits_eq 2000 (ck c b) (v.small hi)
          have t0 : (decide ((j : Int) < 3) && decide (0 < (List.length c : Int))) = true := band (decide_eq_true (by omega)) (decide_eq_true (by omega))
          cases hu : us.getD b false with
          | true =>
            rw [hu] at e1
            exact .inl ⟨_, oit t0 (obi hm (obi e1 (obi (gO_F rfl) (obi (gO_F rfl) (obi (gO_F rfl) (oif rfl (obi (inc_nat (by omega)) rfl))))))), rfl, by simp only; omega, by simp only; omega⟩
          | false =>
            rw [hu] at e1
            cases hf : ft d c i b with
            | false =>
              have hf' : fitB (dk d i) (ck c b) = false := hf
              rw [hf'] at e4
              exact .inl ⟨_, oit t0 (obi hm (obi e1 (obi (gO_T rfl e2) (obi (gO_T rfl e3) (obi (gO_T rfl e4) (oif rfl (obi (inc_nat (by omega)) rfl))))))), rfl, by simp only; omega, by simp only; omega⟩
            | true =>
              have hf' : fitB (dk d i) (ck c b) = true := hf
              rw [hf'] at e4
              refine .inr ⟨_, oit t0 (obi hm (obi e1 (obi (gO_T rfl e2) (obi (gO_T rfl e3) (obi (gO_T rfl e4) (oit rfl (obi (app_ok (by simp only [List.length_cons, List.length_nil]; omega) (by simp only [List.length_cons, List.length_nil]; omega)) (obi e1 rfl)))))))), by simp only; omega, by simp only; omega, by simp [hul], by simp; omega, ⟨fun x hx => ?_, ?_, ?_⟩, ?_, fun x hx => ?_, fun x hx => ?_⟩
              · rcases List.mem_append.1 hx with h | h
                · exact hM.ok x h
                · simp at h; exact ⟨i, b, h, hi, hb, hf⟩
              · refine List.pairwise_append.2 ⟨hM.du, by simp, fun x hx y hy => ?_⟩
                simp at hy; rw [hy]
                have := hlt x hx
                simp only; omega
              · refine List.pairwise_append.2 ⟨hM.cr, by simp, fun x hx y hy e => ?_⟩
                simp at hy; rw [hy] at e
                have h1 := hus x hx
                simp only at e
                rw [e, Int.toNat_natCast, hu] at h1; cases h1
              · refine List.pairwise_append.2 ⟨hasc, by simp, fun x hx y hy => ?_⟩
                simp at hy; rw [hy]
                exact hlt x hx
              · rcases List.mem_append.1 hx with h | h
                · have := hlt x h; omega
                · simp at h; rw [h]; simp only; omega
              · simp only [Int.toNat_natCast]
                rw [getD_setB (by omega)]
                rcases List.mem_append.1 hx with h | h
                · split
                  · rfl
                  · exact hus x h
                · simp at h; rw [h]; simp
        · have t0 : (decide ((j : Int) < 3) && decide (0 < (List.length c : Int))) = false := bandF2 (decide_eq_false (by omega))
          exact .inr ⟨_, oif t0 rfl, by simp only; omega, by simp only; omega, hul, by simp only; omega, hM, hasc, fun x hx => (by have := hlt x hx; omega), hus⟩) (by
        rintro ⟨j', k3⟩ ⟨rfl, hk5, hk6⟩
        exact ⟨_, oif (bandF rfl) rfl, by simp only at *; omega, by simp only at *; omega, hul, by simp only; omega, hM, hasc, fun x hx => (by have := hlt x hx; omega), hus⟩) 2000 (by omega) (0, kk) ⟨rfl, Int.le_refl _, by simp⟩
      simp only at g1 g2 g3 g4 g5 g6 g7 g8
      exact ⟨_, oit (decide_eq_true (by simp only; omega)) (obi hr (obi (inc_nat (by omega)) rfl)), rfl, by simp only; omega, by simp only; omega, g3, g4, g5, g6, fun x hx => (by have := g7 x hx; show x.Duty < ((i + 1 : Nat) : Int); omega), g8⟩) (by
      rintro ⟨i', kk, us, q⟩ ⟨rfl, h1, h2, _, h3, h4, h5, _⟩
      simp only at h1 h2 h3 h4 h5
      exact ⟨(kk, q), oif (decide_eq_false (by simp)) rfl, by simp only; omega, by simp only; omega, by simp only; omega, h4, h5⟩) 2000 (by omega) (0, k, List.replicate c.length false, []) ⟨rfl, Int.le_refl _, by simp, by simp, by simp, ⟨fun x h => (by simp at h), List.Pairwise.nil, List.Pairwise.nil⟩, List.Pairwise.nil, fun x h => (by simp at h), fun x h => by simp at h⟩
    exact ⟨k', q, hr, h1, h2, h3, h4, h5⟩
  have h11 : iterN (fun s : Int × Int => law40_CrewMost_l11 2000 t (k0, d, c) (pr of d.length, 0) s.1 s.2) 2000 (0, k0) = some (.inr ()) := by
    refine runN1 (f := fun s : Int × Int => law40_CrewMost_l11 2000 t (k0, d, c) (pr of d.length, 0) s.1 s.2) 4 (fun i u => u.1 = i ∧ 0 ≤ u.2 ∧ u.2 ≤ k0 + 100 * i) _ ?_ ?_ 2000 (by omega) _ ⟨rfl, by simp only; omega, by simp⟩
    · rintro i ⟨i', k⟩ hi ⟨rfl, h0, h1⟩
      simp only at h0 h1 ⊢
      obtain ⟨k', q, hr, q1, q2, q3, q4, q5⟩ := h15 k h0 (by omega)
      have hmB := rMatching_eq hN v (p := q) (by omega)
      rw [isM_matB q4 q5] at hmB
      have hle := hmat.most q4
      rw [← pr_len] at hle
      exact ⟨_, oit (decide_eq_true (by omega)) (obi (mk1 (by simp only; omega)) (obi hr (obi hmB (oif (borF rfl (decide_eq_false (by simp only; omega))) (obi (inc_nat (by omega)) rfl))))), rfl, by simp only; omega, by simp only; omega⟩
    · rintro ⟨i', k⟩ ⟨rfl, _⟩
      exact oif (decide_eq_false (by simp)) rfl
  unfold law40_CrewMost
  exact obi rfl (obi hm (obi hA (oif rfl (obi h11 (obi sane_ok rfl)))))
/-! growing -/
theorem drop_crew (w : Int) : ∀ {q : List T_Pair}, (q.Pairwise fun x y => x.Crew ≠ y.Crew) → q.length ≤ (q.filter fun x => !decide (x.Crew = w)).length + 1
  | [], _ => by simp
  | a :: t, h => by
    obtain ⟨h1, h2⟩ := List.pairwise_cons.1 h
    by_cases e : a.Crew = w
    · have : t.filter (fun x => !decide (x.Crew = w)) = t := List.filter_eq_self.2 fun x hx => by
        have := h1 x hx
        rw [decide_eq_false]; rfl
        intro e2; exact this (by rw [e, e2])
      rw [List.filter_cons, if_neg (by simp [e]), this]; simp
    · have := drop_crew w h2
      rw [List.filter_cons, if_pos (by simp [e])]
      simp only [List.length_cons]; omega
theorem IsM.filter {d : List T_Task} {c c' : List T_Crew} {q : List T_Pair} (h : IsM d c' q) (w : Nat) (hlen : ∀ k, k < c'.length → k ≠ w → k < c.length) (hf : ∀ i k, k ≠ w → k < c.length → ft d c' i k = true → ft d c i k = true) : IsM d c (q.filter fun x => !decide (x.Crew = (w : Int))) := by
  refine ⟨fun x hx => ?_, h.du.filter _, h.cr.filter _⟩
  obtain ⟨h1, h2⟩ := List.mem_filter.1 hx
  obtain ⟨i, k, rfl, hi, hk, hfit⟩ := h.ok x h1
  have hkw : k ≠ w := fun e => by subst e; simp at h2
  exact ⟨i, k, rfl, hi, hlen k hk hkw, hf i k hkw (hlen k hk hkw) hfit⟩
theorem CrewGrows_true (t : List Int) (i0 : Int) : law40_CrewGrows 2000 t i0 = some true := by
  have hN : 2000 ≤ 2000 := Nat.le_refl _
  obtain ⟨k0, d, c, hm, hk0, hk1, hmade⟩ := made_ok hN t (k := 0) (by omega) (by omega) (n := 12) (m := 8) (by omega) (by omega)
  have v := hmade.val (by omega) (by omega)
  have hdl := hmade.dl
  have hcl := hmade.cl
  obtain ⟨does, of, _, hmat, hA⟩ := assigns hN v
  obtain ⟨a, ha, a0, a1⟩ := next_ok 2000 t (k := k0) (n := 50) (by omega) (by omega) (by omega) (by omega)
  obtain ⟨b, hb, b0, b1⟩ := next_ok 2000 t (k := k0 + 1) (n := 90) (by omega) (by omega) (by omega) (by omega)
  obtain ⟨p, hp, pm⟩ := pick_ok 2000 t (k := k0 + 1 + 1) (v := [5, 90]) (by omega) (by omega) (by simp) (by simp)
  have pm : p = 5 ∨ p = 90 := by simpa using pm
  obtain ⟨x, hx⟩ : ∃ x, x = T_Crew.mk a (60 + b) p := ⟨_, rfl⟩
  have v2 : Val d (c ++ [x]) := ⟨by omega, by simp; omega, v.ok, fun y hy => by
    rcases List.mem_append.1 hy with h | h
    · exact v.okc y h
    · simp at h; rw [h, hx]; simp only; omega⟩
  obtain ⟨does2, of2, _, hmat2, hA2⟩ := assigns hN v2
  have ckm : ∀ k, k < c.length → ck (c ++ [x]) k = ck c k := fun k hk => by
    unfold ck; rw [List.getD_eq_getElem?_getD, List.getD_eq_getElem?_getD, List.getElem?_append_left hk]
  have q1 : mcount of d.length ≤ mcount of2 d.length := by
    rw [← pr_len]
    refine hmat2.most ⟨fun y hy => ?_, hmat.isM.du, hmat.isM.cr⟩
    obtain ⟨i, k, e, hi, hk, hf⟩ := hmat.isM.ok y hy
    exact ⟨i, k, e, hi, by simp; omega, by unfold ft at hf ⊢; rw [ckm k hk]; exact hf⟩
  have q2 : mcount of2 d.length ≤ mcount of d.length + 1 := by
    have h1 := drop_crew (c.length : Int) hmat2.isM.cr
    have h2 := hmat.most (hmat2.isM.filter (c := c) c.length (fun k hk hne => by simp at hk; omega) fun i k _ hk hf => by unfold ft at hf ⊢; rw [ckm k hk] at hf; exact hf)
    rw [pr_len] at h1
    omega
  -- a longer shift
  obtain ⟨wide, hw, hwl, hww⟩ : ∃ wide, (bif decide (0 < (List.length c : Int)) then (Option.bind (yardgen_Place 2000 i0 (List.length c : Int)) fun r156 => Option.bind (idx c r156) fun x162 => Option.bind (quo64 x162.From 2) fun x196 => Option.bind (Maker_Next 2000 t (k0 + 1 + 1 + 1) 50) fun r199 => Option.bind (in64 (x162.To + r199.2)) fun x205 => Option.bind (Maker_Next 2000 t r199.1 50) fun r208 => Option.bind (in64 (x162.Most + r208.2)) fun x214 => some (List.set (List.set (List.set c (Int.toNat r156) (T_Crew.mk x196 x162.To x162.Most)) (Int.toNat r156) (T_Crew.mk ((T_Crew.mk x196 x162.To x162.Most).From) x205 ((T_Crew.mk x196 x162.To x162.Most).Most))) (Int.toNat r156) (T_Crew.mk ((T_Crew.mk ((T_Crew.mk x196 x162.To x162.Most).From) x205 ((T_Crew.mk x196 x162.To x162.Most).Most)).From) ((T_Crew.mk ((T_Crew.mk x196 x162.To x162.Most).From) x205 ((T_Crew.mk x196 x162.To x162.Most).Most)).To) x214))) else some c) = some wide ∧ wide.length = c.length ∧
      ∃ w : Nat, Val d wide ∧ (∀ k, k < c.length → k ≠ w → ck wide k = ck c k) ∧ (∀ k, k < c.length → (ck wide k).From ≤ (ck c k).From ∧ (ck c k).To ≤ (ck wide k).To ∧ (ck c k).Most ≤ (ck wide k).Most) := by
    by_cases hc : 0 < c.length
    · obtain ⟨w0, hw0, w1, w2⟩ := place_ok 2000 i0 (n := (c.length : Int)) (by omega) (by omega)
      obtain ⟨w, rfl⟩ : ∃ w : Nat, w0 = w := ⟨w0.toNat, by omega⟩
      have hwl : w < c.length := by omega
      have e1 := idx_ck hwl
      have hmem : ck c w ∈ c := by unfold ck; rw [List.getD_eq_getElem?_getD, List.getElem?_eq_getElem hwl]; exact List.getElem_mem _
      have ok := hmade.okc _ hmem
      obtain ⟨y, hy⟩ : ∃ y, y = ck c w := ⟨_, rfl⟩
      rw [← hy] at e1 ok
      have hq : Int.tdiv y.From 2 = y.From / 2 := Int.tdiv_eq_ediv_of_nonneg (by omega)
      have e2 : quo64 y.From 2 = some (y.From / 2) := by rw [quo64_ok (by omega) (by rw [hq]; omega), hq]
      obtain ⟨f, hf, f0, f1⟩ := next_ok 2000 t (k := k0 + 1 + 1 + 1) (n := 50) (by omega) (by omega) (by omega) (by omega)
      obtain ⟨g, hg, g0, g1⟩ := next_ok 2000 t (k := k0 + 1 + 1 + 1 + 1) (n := 50) (by omega) (by omega) (by omega) (by omega)
      have hset : ∀ u1 u2 u3 : T_Crew, ((c.set w u1).set w u2).set w u3 = c.set w u3 := fun u1 u2 u3 => by simp
      refine ⟨c.set w (T_Crew.mk (y.From / 2) (y.To + f) (y.Most + g)), oit (decide_eq_true (by omega)) (obi hw0 (obi e1 (obi e2 (obi hf (obi (in64_ok (by simp only; omega)) (obi hg (obi (in64_ok (by simp only; omega)) (congrArg some ?_)))))))), by simp, w, ⟨by omega, by simp; omega, v.ok, fun z hz => ?_⟩, fun k hk hne => ?_, fun k hk => ?_⟩
      · simp only [Int.toNat_natCast]; exact hset _ _ _
      · rcases List.mem_or_eq_of_mem_set hz with h | h
        · exact v.okc z h
        · rw [h]; simp only; omega
      · unfold ck; rw [List.getD_eq_getElem?_getD, List.getD_eq_getElem?_getD, List.getElem?_set, if_neg (Ne.symm hne)]
      · by_cases e : k = w
        · subst e
          have : ck (c.set k (T_Crew.mk (y.From / 2) (y.To + f) (y.Most + g))) k = T_Crew.mk (y.From / 2) (y.To + f) (y.Most + g) := by
            unfold ck; rw [List.getD_eq_getElem?_getD, List.getElem?_set, if_pos rfl, if_pos hk]; rfl
          rw [this, ← hy]
          simp only; omega
        · have : ck (c.set w (T_Crew.mk (y.From / 2) (y.To + f) (y.Most + g))) k = ck c k := by
            unfold ck; rw [List.getD_eq_getElem?_getD, List.getD_eq_getElem?_getD, List.getElem?_set, if_neg (Ne.symm e)]
          rw [this]; omega
    · exact ⟨c, oif (decide_eq_false (by omega)) rfl, rfl, 0, v, fun k hk => absurd hk (by omega), fun k hk => absurd hk (by omega)⟩
  obtain ⟨w, v3, hsame, hgrow⟩ := hww
  obtain ⟨does3, of3, _, hmat3, hA3⟩ := assigns hN v3
  have q3 : mcount of d.length ≤ mcount of3 d.length := by
    rw [← pr_len]
    refine hmat3.most ⟨fun y hy => ?_, hmat.isM.du, hmat.isM.cr⟩
    obtain ⟨i, k, e, hi, hk, hf⟩ := hmat.isM.ok y hy
    refine ⟨i, k, e, hi, by omega, ?_⟩
    have := hgrow k hk
    unfold ft fitB at hf ⊢
    simp only [Bool.and_eq_true, decide_eq_true_eq] at hf ⊢
    omega
  have q4 : mcount of3 d.length ≤ mcount of d.length + 1 := by
    have h1 := drop_crew (w : Int) hmat3.isM.cr
    have h2 := hmat.most (hmat3.isM.filter (c := c) w (fun k hk hne => by omega) fun i k hne hk hf => by unfold ft at hf ⊢; rw [hsame k hk hne] at hf; exact hf)
    rw [pr_len] at h1
    omega
  rw [← pr_len, ← pr_len] at q1 q2 q3 q4
  have hple := pr_len of d.length
  have hple2 := mcount_le of d.length
  have g1 : (((decide ((0 : Int) = 0) && decide ((0 : Int) = 0)) && decide ((0 : Int) = 0)) && decide ((List.length (pr of d.length) : Int) ≤ (List.length (pr of2 d.length) : Int))) = true := band rfl (decide_eq_true (by omega))
  have g2 : (((((decide ((0 : Int) = 0) && decide ((0 : Int) = 0)) && decide ((0 : Int) = 0)) && decide ((List.length (pr of d.length) : Int) ≤ (List.length (pr of2 d.length) : Int))) && decide ((List.length (pr of2 d.length) : Int) ≤ ((List.length (pr of d.length) + 1 : Nat) : Int))) && decide ((List.length (pr of d.length) : Int) ≤ (List.length (pr of3 d.length) : Int))) = true := band (band g1 (decide_eq_true (by omega))) (decide_eq_true (by omega))
  have g3 := band g2 (decide_eq_true (show (List.length (pr of3 d.length) : Int) ≤ ((List.length (pr of d.length) + 1 : Nat) : Int) by omega))
  have hi1 : in64 ((List.length (pr of d.length) : Int) + 1) = some ((List.length (pr of d.length) + 1 : Nat) : Int) := inc_nat (by omega)
  unfold law40_CrewGrows
  refine obi rfl (obi hm (obi hA (obi (app_ok (by simp only [List.length_nil]; omega) (by simp only [List.length_nil]; omega)) (obi ha (obi hb (obi (in64_ok (by simp only; omega)) (obi hp (obi (app_ok (by simp only [List.length_append, List.length_cons, List.length_nil]; omega) (by simp only [List.length_append, List.length_cons, List.length_nil]; omega)) ?_))))))))
  rw [List.nil_append]
  refine obi (by rw [← hx]; exact hA2) (obi (app_ok (by simp only [List.length_nil]; omega) (by simp only [List.length_nil]; omega)) ?_)
  rw [List.nil_append]
  exact obi hw (obi hA3 (obi (gO_T g1 hi1) (obi (gO_T g2 hi1) (obi (gO_T g3 sane_ok) (congrArg some (band g3 rfl))))))
end Go.Gv
