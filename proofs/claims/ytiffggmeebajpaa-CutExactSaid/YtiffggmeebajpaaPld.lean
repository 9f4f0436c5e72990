/- CutParts, CutFewest, CutWitness and CutJoins, in plain words. -/
import Derived.Test.YtiffggmeebajpaaPlc
namespace Go.Gv

theorem parts_loop (l : List Int) {k0 : Int} {ps : List T_Pushed} {r : T_CutRules} (g : good ps r) (h0 : 0 ≤ k0) (h1 : k0 ≤ 10000) :
    iterN (fun s : Int × Int => law18_CutParts_l1 200 l (k0, ps, r) s.1 s.2) 200 (0, k0) = some (.inr ()) := by
  have hlen := g.len
  obtain ⟨q, hq, rfl⟩ := iterN_run (f := fun s : Int × Int => law18_CutParts_l1 200 l (k0, ps, r) s.1 s.2) (I := fun s => 0 ≤ s.1 ∧ s.1 ≤ 6 ∧ 0 ≤ s.2 ∧ s.2 ≤ 10000 + 4 * s.1) (Q := fun q => q = .inr ()) (fun s => (6 - s.1).toNat) (by
    rintro ⟨i, k⟩ ⟨i0, i1, k1, k2⟩
    simp only at i0 i1 k1 k2
    unfold law18_CutParts_l1
    by_cases h : i < 6
    · obtain ⟨a, ha, a1, a2⟩ := next_ok 200 l (k := k) (n := (ps.length : Int) + 1) (by omega) (by omega) (by omega) (by omega)
      obtain ⟨b, hb, b1, b2⟩ := from_ok 200 l (k := k + 1) (a := a) (b := ps.length) (by omega) (by omega) (by omega) (by omega) (by omega)
      obtain ⟨c, hc, c1, c2⟩ := from_ok 200 l (k := k + 1 + 1) (a := a) (b := b) (by omega) (by omega) (by omega) (by omega) (by omega)
      obtain ⟨d, hd, d1, d2⟩ := from_ok 200 l (k := k + 1 + 1 + 1) (a := c) (b := b) (by omega) (by omega) (by omega) (by omega) (by omega)
      obtain ⟨a, rfl⟩ : ∃ n : Nat, a = n := ⟨a.toNat, by omega⟩
      obtain ⟨b, rfl⟩ : ∃ n : Nat, b = n := ⟨b.toNat, by omega⟩
      obtain ⟨c, rfl⟩ : ∃ n : Nat, c = n := ⟨c.toNat, by omega⟩
      obtain ⟨d, rfl⟩ : ∃ n : Nat, d = n := ⟨d.toNat, by omega⟩
      obtain ⟨v, hv, v1⟩ := perm_spec 200 g (by omega) (a := a) (b := b) (by omega) (by omega)
      obtain ⟨w, hw, w1⟩ := perm_spec 200 g (by omega) (a := c) (b := d) (by omega) (by omega)
      refine .inl ⟨(i + 1, k + 1 + 1 + 1 + 1), oit (decide_eq_true h) (obi (in64_ok (by simp only; omega)) (obi ha (obi hb (obi hc (obi hd (obi hv (obi hw (oif ?_ (obi (in64_ok (by omega)) rfl))))))))), ⟨by simp only; omega, by simp only; omega, by simp only; omega, by simp only; omega⟩, by simp only; omega⟩
      have f1 : ((v && decide ((c : Int) < d)) && !w) = false := by
        rw [Bool.eq_false_iff]
        intro h
        simp only [Bool.and_eq_true, decide_eq_true_eq, Bool.not_eq_true'] at h
        have := w1.2 (may_part g (v1.1 h.1.1) (by omega) (by omega) (by omega))
        rw [h.2] at this; cases this
      have f2 : (decide ((c : Int) = d) && w) = false := by
        rw [Bool.eq_false_iff]
        intro h
        simp only [Bool.and_eq_true, decide_eq_true_eq] at h
        have := (w1.1 h.2).lt
        omega
      exact borF (borF (by simp) f1) f2
    · exact .inr ⟨_, oif (decide_eq_false h) rfl, rfl⟩) 200 (0, k0) ⟨by simp, by simp, by simpa using h0, by simpa using h1⟩ (by simp)
  exact hq

theorem CutParts_true (l : List Int) : law18_CutParts 200 l = some true := by
  obtain ⟨k, ps, r, h, h0, h1, g⟩ := pushed_ok l 14 (by omega)
  unfold law18_CutParts
  exact obi (x := 0) rfl (obi h (obi (parts_loop l g h0 h1) (obi sane_ok rfl)))

theorem fewest_inner (l : List Int) {k0 : Int} {ps : List T_Pushed} {r : T_CutRules} (g : good ps r) {a : Nat} (ha : a < ps.length) {k : Int} (h0 : 0 ≤ k) (h1 : k ≤ 100000000) :
    ∃ (b : Nat) (k' : Int), iterN (fun s : Int × Int => law18_CutFewest_l5 200 l (k0, ps, r) a s.1 s.2) 200 ((a : Int) + 1, k) = some (.inr ((b : Int), k')) ∧ may ps r a b ∧ 0 ≤ k' ∧ k' ≤ k + (b : Int) - a := by
  have hlen := g.len
  obtain ⟨q, hq, b, k', rfl, hQ⟩ := iterN_run (f := fun s : Int × Int => law18_CutFewest_l5 200 l (k0, ps, r) a s.1 s.2)
    (I := fun s => ∃ (b : Nat) (k' : Int), s = ((b : Int), k') ∧ may ps r a b ∧ 0 ≤ k' ∧ k' ≤ k + (b : Int) - a - 1)
    (Q := fun q => ∃ (b : Nat) (k' : Int), q = .inr ((b : Int), k') ∧ may ps r a b ∧ 0 ≤ k' ∧ k' ≤ k + (b : Int) - a) (fun s => (ps.length - s.1).toNat) (by
    rintro s ⟨b, k', rfl, hm, k1, k2⟩
    have hb := hm.le
    have hab := hm.lt
    unfold law18_CutFewest_l5
    by_cases h : b < ps.length
    · obtain ⟨x, hx, x1, x2⟩ := next_ok 200 l (k := k') (n := 3) (by omega) (by omega) (by omega) (by omega)
      have hd : decide ((b : Int) < ps.length) = true := decide_eq_true (by omega)
      simp only [hd, gD, cond_true, Bool.true_and]
      by_cases hx0 : 0 < x
      · obtain ⟨v, hv, v1⟩ := perm_spec 200 g (by omega) (a := a) (b := b + 1) (by omega) (by omega)
        cases v with
        | true => exact .inl ⟨(((b + 1 : Nat) : Int), k' + 1), obi hx (oit (decide_eq_true hx0) (obi (in64_ok (by omega)) (obi hv (oif (by simp) (oif (by simp) (obi (in64_ok (by omega)) rfl)))))), ⟨b + 1, k' + 1, rfl, v1.1 rfl, by omega, by omega⟩, by simp only; omega⟩
        | false => exact .inr ⟨_, obi hx (oit (decide_eq_true hx0) (obi (in64_ok (by omega)) (obi hv (oif (by simp) (oit (by simp) rfl))))), b, k' + 1, rfl, hm, by omega, by omega⟩
      · exact .inr ⟨_, obi hx (oif (decide_eq_false hx0) rfl), b, k' + 1, rfl, hm, by omega, by omega⟩
    · have hd : decide ((b : Int) < ps.length) = false := decide_eq_false (by omega)
      simp only [hd, gD, cond_false, Bool.false_and]
      exact .inr ⟨_, obi rfl rfl, b, k', rfl, hm, by omega, by omega⟩) 200 ((a : Int) + 1, k) ⟨a + 1, k, by simp, may_one g ha, by omega, by omega⟩ (by simp only; omega)
  exact ⟨b, k', hq, hQ⟩

theorem fewest_loop (l : List Int) {k0 : Int} {ps : List T_Pushed} {r : T_CutRules} (g : good ps r) (h0 : 0 ≤ k0) (h1 : k0 ≤ 10000) :
    ∃ cs, iterN (fun s : Int × Int × List T_Cut => law18_CutFewest_l4 200 l (k0, ps, r) s.1 s.2.1 s.2.2) 200 (0, k0, []) = some (.inr cs) ∧ Part ps r 0 cs ps.length := by
  have hlen := g.len
  obtain ⟨q, hq, cs, rfl, hQ⟩ := iterN_run (f := fun s : Int × Int × List T_Cut => law18_CutFewest_l4 200 l (k0, ps, r) s.1 s.2.1 s.2.2)
    (I := fun s => ∃ (b : Nat) (k' : Int) (cs : List T_Cut), s = ((b : Int), k', cs) ∧ b ≤ ps.length ∧ Part ps r 0 cs b ∧ 0 ≤ k' ∧ k' ≤ 10000 + b)
    (Q := fun q => ∃ cs, q = .inr cs ∧ Part ps r 0 cs ps.length) (fun s => (ps.length - s.1).toNat) (by
    rintro s ⟨a, k, cs, rfl, ha, hp, k1, k2⟩
    unfold law18_CutFewest_l4
    by_cases h : a < ps.length
    · obtain ⟨b, k', hi, hm, k1', k2'⟩ := fewest_inner l (k0 := k0) g h (k := k) (by omega) (by omega)
      have hl := hp.le
      have hb := hm.le
      have hab := hm.lt
      refine .inl ⟨((b : Int), k', cs ++ [cutOf ps a b]), oit (decide_eq_true (by simp only; omega)) (obi (in64_ok (by omega)) (obi hi (obi (idx_nat h) (obi (idx_nat h) (obi (app_ok ?_ ?_) ?_))))), ⟨b, k', _, rfl, hb, hp.append ⟨b, rfl, hm, rfl⟩, by omega, by omega⟩, by simp only; omega⟩
      · simp; omega
      · simp; omega
      · simp [cutOf, List.getElem?_eq_getElem h]
    · have : a = ps.length := by omega
      subst this
      exact .inr ⟨_, oif (decide_eq_false (by simp)) rfl, cs, rfl, hp⟩) 200 (0, k0, []) ⟨0, k0, [], rfl, Nat.zero_le _, rfl, h0, by omega⟩ (by simp only; omega)
  exact ⟨cs, hq, hQ⟩

theorem CutFewest_true (l : List Int) : law18_CutFewest 200 l = some true := by
  obtain ⟨k, ps, r, h, h0, h1, g⟩ := pushed_ok l 16 (by omega)
  obtain ⟨cs, hf, hg⟩ := form_greedy 200 g (by omega)
  obtain ⟨cs', hl, hp⟩ := fewest_loop l g h0 h1
  have hle := greedy_fewest g (Nat.le_refl 0) hg hp
  have hd : decide ((cs.length : Int) ≤ cs'.length) = true := decide_eq_true (by omega)
  unfold law18_CutFewest
  refine obi (x := 0) rfl (obi h (obi hf (obi hl (obi (check_spec 200 g (by omega) hp) (obi (x := true) ?_ ?_)))))
  · rw [hd, sane_ok]; rfl
  · rw [hd]; rfl

theorem witness_spec {l : List T_Pushed} {r : T_CutRules} {cs : List T_Cut} (hlen : cs.length ≤ 96) (hf : cut_Form 200 l r = some (cs, 0)) : cut_Witness 200 l r = some (cs.map (·.From), 0) := by
  obtain ⟨q, hq, rfl⟩ := iterN_run (f := fun s : Int × List Int => cut_Witness_l1 200 (cs, 0) s.1 s.2) (I := fun s => ∃ i : Nat, s = ((i : Int), (cs.map (·.From)).take i) ∧ i ≤ cs.length) (Q := fun q => q = cs.map (·.From)) (fun s => cs.length - s.1.toNat) (by
    rintro s ⟨i, rfl, hi⟩
    unfold cut_Witness_l1
    by_cases h : i < cs.length
    · refine .inl ⟨(((i + 1 : Nat) : Int), (cs.map (·.From)).take (i + 1)), oit (decide_eq_true (by simp only; omega)) (obi (idx_nat h) (obi (x := (cs.map (·.From)).take (i + 1)) ?_ (obi (in64_ok (by omega)) rfl))), ⟨i + 1, rfl, h⟩, by simp only; omega⟩
      rw [app_ok (by simp; omega) (by simp; omega), List.take_succ_eq_append_getElem (by simpa using h)]
      simp
    · have : i = cs.length := by omega
      subst this
      exact .inr ⟨_, oif (decide_eq_false (by simp)) rfl, List.take_of_length_le (by simp)⟩) 200 (0, []) ⟨0, by simp, Nat.zero_le _⟩ (by simp; omega)
  unfold cut_Witness
  exact obi hf (oif (by simp) (obi hq rfl))

theorem witness_loop {k : Int} {l : List T_Pushed} {r : T_CutRules} {cs : List T_Cut} (g : good l r) (hg : Greedy l r 0 cs l.length) :
    iterN (fun s : Int => law18_CutWitness_l1 200 (k, l, r) (cs, 0) (cs.map (·.From), 0) s) 200 0 = some (.inr ()) := by
  have hlen := g.len
  have hcs := hg.part.le
  obtain ⟨q, hq, rfl⟩ := iterN_run (f := fun s : Int => law18_CutWitness_l1 200 (k, l, r) (cs, 0) (cs.map (·.From), 0) s) (I := fun s => ∃ i : Nat, s = i ∧ i ≤ cs.length) (Q := fun q => q = .inr ()) (fun s => cs.length - s.toNat) (by
    rintro s ⟨i, rfl, hi⟩
    unfold law18_CutWitness_l1
    by_cases h : i < cs.length
    · have hm : i < (cs.map (·.From)).length := by simpa using h
      have e1 : (cs.map (·.From))[i] = cs[i].From := by simp
      have e3 : in64 ((i : Int) + 1) = some ((i + 1 : Nat) : Int) := by rw [in64_ok (by omega)]; simp
      refine .inl ⟨((i + 1 : Nat) : Int), oit (decide_eq_true (by simp; omega)) (obi (idx_nat hm) (obi (idx_nat h) (oif (by simp) (obi e3 ?_)))), ⟨i + 1, rfl, h⟩, by omega⟩
      rw [e3]
      by_cases h2 : i + 1 < cs.length
      · have hm2 : i + 1 < (cs.map (·.From)).length := by simpa using h2
        obtain ⟨a, ha, _, _⟩ := hg.drop i (Nat.le_of_lt h)
        rw [List.drop_eq_getElem_cons h, List.drop_eq_getElem_cons h2] at ha
        obtain ⟨b, c1, m1, x1, c, c2, m2, _, _⟩ := ha
        have d1 := m1.lt
        have d2 := m2.lt
        have d3 := m2.le
        obtain ⟨v, hv, v1⟩ := perm_spec 200 g (by omega) (a := a) (b := b + 1) (by omega) (by omega)
        have hv0 : v = false := by
          cases v with
          | false => rfl
          | true => exact absurd (v1.1 rfl) (x1 (by omega))
        subst hv0
        have f1 : (cs.map (·.From))[i] = (a : Int) := by rw [e1, c1]; rfl
        have f2 : (cs.map (·.From))[i + 1] = (b : Int) := by rw [List.getElem_map, c2]; rfl
        refine oit (decide_eq_true (by simp; omega)) (obi (x := (a : Int)) (by rw [idx_nat hm, f1]) (obi rfl (obi (x := (b : Int)) (by rw [idx_nat hm2, f2]) (obi (x := ((b + 1 : Nat) : Int)) (by rw [in64_ok (by omega)]; simp) (obi hv (oif (by simp) (obi rfl rfl)))))))
      · exact oif (decide_eq_false (by simp; omega)) (obi rfl rfl)
    · exact .inr ⟨_, oif (decide_eq_false (by simp; omega)) rfl, rfl⟩) 200 0 ⟨0, rfl, Nat.zero_le _⟩ (by simp; omega)
  exact hq

theorem CutWitness_true (l : List Int) : law18_CutWitness 200 l = some true := by
  obtain ⟨k, ps, r, h, h0, h1, g⟩ := pushed_ok l 16 (by omega)
  obtain ⟨cs, hf, hg⟩ := form_greedy 200 g (by omega)
  have hlen := g.len
  have hcs := hg.part.le
  unfold law18_CutWitness
  refine obi (x := 0) rfl (obi h (obi hf (obi (witness_spec (by omega) hf) (obi (check_spec 200 g (by omega) hg.part) (oif (by simp) (obi (witness_loop g hg) (obi sane_ok rfl)))))))

/-! joining -/
theorem cuts_eq (N : Nat) (cs : List T_Cut) (h : cs.length < N) (h2 : cs.length ≤ 1000) : humpgen_Cuts N cs cs = some true := by
  obtain ⟨q, hq, rfl⟩ := iterN_run (f := fun s : Int => humpgen_Cuts_l1 N cs cs s) (I := fun s => ∃ i : Nat, s = i ∧ i ≤ cs.length) (Q := fun q => q = .inr ()) (fun s => cs.length - s.toNat) (by
    rintro s ⟨i, rfl, hi⟩
    unfold humpgen_Cuts_l1
    by_cases h : i < cs.length
    · exact .inl ⟨((i + 1 : Nat) : Int), oit (decide_eq_true (by omega)) (obi (idx_nat h) (obi (idx_nat h) (oif (by simp) (obi (in64_ok (by omega)) rfl)))), ⟨i + 1, rfl, h⟩, by omega⟩
    · exact .inr ⟨_, oif (decide_eq_false (by omega)) rfl, rfl⟩) N 0 ⟨0, rfl, Nat.zero_le _⟩ (by simp; omega)
  unfold humpgen_Cuts
  exact oif (by simp) (obi hq rfl)

theorem good_take {l : List T_Pushed} {r : T_CutRules} (g : good l r) (f : Nat) : good (l.take f) r :=
  ⟨g.R, by have := g.len; simp; omega, fun j h => by rw [List.getElem_take]; exact g.W j _⟩
theorem good_drop {l : List T_Pushed} {r : T_CutRules} (g : good l r) (f : Nat) : good (l.drop f) r :=
  ⟨g.R, by have := g.len; simp; omega, fun j h => by rw [List.getElem_drop]; exact g.W _ _⟩

theorem SA_take (l : List T_Pushed) {f k : Nat} (h : k ≤ f) : SA (l.take f) k = SA l k := by unfold SA; rw [List.take_take, Nat.min_eq_left h]
theorem SL_take (l : List T_Pushed) {f k : Nat} (h : k ≤ f) : SL (l.take f) k = SL l k := by unfold SL; rw [List.take_take, Nat.min_eq_left h]
theorem SA_drop (l : List T_Pushed) {f k : Nat} (h : f + k ≤ l.length) : SA (l.drop f) k = SA l (f + k) - SA l f := by
  induction k with
  | zero => simp [SA]
  | succ k ih => rw [SA_succ _ k (by simp; omega), ih (by omega), ← Nat.add_assoc, SA_succ l (f + k) (by omega), List.getElem_drop]; omega
theorem SL_drop (l : List T_Pushed) {f k : Nat} (h : f + k ≤ l.length) : SL (l.drop f) k = SL l (f + k) - SL l f := by
  induction k with
  | zero => simp [SL]
  | succ k ih => rw [SL_succ _ k (by simp; omega), ih (by omega), ← Nat.add_assoc, SL_succ l (f + k) (by omega), List.getElem_drop]; omega

theorem may_take {l : List T_Pushed} {r : T_CutRules} {f a b : Nat} (hb : b ≤ f) (hf : f ≤ l.length) : may (l.take f) r a b ↔ may l r a b := by
  constructor
  · intro h
    have hlt := h.lt
    refine ⟨hlt, by omega, fun j hj h1 h2 => ?_, fun j hj h1 h2 hg => ?_, h.wagons, ?_, ?_⟩
    · have := h.track j (by simp; omega) h1 h2
      simpa only [List.getElem_take] using this
    · exact h.gentle j (by simp; omega) h1 h2 (by rw [List.getElem_take]; exact hg)
    · have := h.axles; rwa [SA_take l hb, SA_take l (by omega)] at this
    · have := h.length; rwa [SL_take l hb, SL_take l (by omega)] at this
  · intro h
    have hlt := h.lt
    refine ⟨hlt, by simp; omega, fun j hj h1 h2 => ?_, fun j hj h1 h2 hg => ?_, h.wagons, ?_, ?_⟩
    · simp only [List.getElem_take]; exact h.track j (by simp at hj; omega) h1 h2
    · rw [List.getElem_take] at hg
      exact h.gentle j (by simp at hj; omega) h1 h2 hg
    · rw [SA_take l hb, SA_take l (by omega)]; exact h.axles
    · rw [SL_take l hb, SL_take l (by omega)]; exact h.length

theorem may_drop {l : List T_Pushed} {r : T_CutRules} {f a b : Nat} (hb : f + b ≤ l.length) : may (l.drop f) r a b ↔ may l r (f + a) (f + b) := by
  constructor
  · intro h
    have hlt := h.lt
    refine ⟨by omega, hb, fun j hj h1 h2 => ?_, fun j hj h1 h2 hg => ?_, ?_, ?_, ?_⟩
    · have := h.track (j - f) (by simp; omega) (by omega) (by omega)
      simp only [List.getElem_drop] at this
      rw [← this]; congr 2; omega
    · have := h.gentle (j - f) (by simp; omega) (by omega) (by omega) (by rw [List.getElem_drop, ← hg]; congr 2; omega)
      omega
    · have := h.wagons; omega
    · have := h.axles; rw [SA_drop l hb, SA_drop l (by omega)] at this; omega
    · have := h.length; rw [SL_drop l hb, SL_drop l (by omega)] at this; omega
  · intro h
    have hlt := h.lt
    refine ⟨by omega, by simp; omega, fun j hj h1 h2 => ?_, fun j hj h1 h2 hg => ?_, ?_, ?_, ?_⟩
    · simp only [List.getElem_drop]; exact h.track (f + j) (by simp at hj; omega) (by omega) (by omega)
    · rw [List.getElem_drop] at hg
      have := h.gentle (f + j) (by simp at hj; omega) (by omega) (by omega) hg
      omega
    · have := h.wagons; omega
    · have := h.axles; rw [SA_drop l hb, SA_drop l (by omega)]; omega
    · have := h.length; rw [SL_drop l hb, SL_drop l (by omega)]; omega

theorem cutOf_take {l : List T_Pushed} {f a b : Nat} (h : a < f) : cutOf (l.take f) a b = cutOf l a b := by
  unfold cutOf; rw [List.getElem?_take_of_lt h]
def shift (f : Int) (c : T_Cut) : T_Cut := ⟨c.From + f, c.To + f, c.Track, c.Engine⟩
theorem cutOf_drop {l : List T_Pushed} {f a b : Nat} : shift f (cutOf (l.drop f) a b) = cutOf l (f + a) (f + b) := by
  unfold cutOf shift; rw [List.getElem?_drop]; simp; omega

theorem greedy_take {l : List T_Pushed} {r : T_CutRules} {f : Nat} (hf : f ≤ l.length) : ∀ {cs : List T_Cut} {a : Nat}, Greedy l r a cs f → Greedy (l.take f) r a cs f
  | [], _, h => h
  | _ :: _, a, ⟨b, h1, h2, h3, h4⟩ => by
    have := h4.part.le
    have := h2.lt
    refine ⟨b, by rw [h1, cutOf_take (by omega)], (may_take (by omega) hf).2 h2, fun k hm => ?_, greedy_take hf h4⟩
    have k2 : b < f := by simp at k; omega
    exact h3 (by omega) ((may_take (by omega) hf).1 hm)
theorem greedy_drop {l : List T_Pushed} {r : T_CutRules} {f : Nat} : ∀ {cs : List T_Cut} {a e : Nat}, f + e ≤ l.length → Greedy (l.drop f) r a cs e → Greedy l r (f + a) (cs.map (shift f)) (f + e)
  | [], _, _, _, h => by cases h; rfl
  | _ :: _, a, e, he, ⟨b, h1, h2, h3, h4⟩ => by
    have := h4.part.le
    refine ⟨f + b, by rw [h1, cutOf_drop], (may_drop (by omega)).1 h2, fun k hm => ?_, greedy_drop he h4⟩
    exact h3 (by simp; omega) ((may_drop (by omega)).2 hm)

theorem join_loop (x : T_Cut) (e : Int) (cs : List T_Cut) (hl : cs.length ≤ 96) (hx : 0 ≤ x.From ∧ x.From ≤ 100000) (hc : ∀ c ∈ cs, (0 ≤ c.From ∧ c.From ≤ 100000) ∧ (0 ≤ c.To ∧ c.To ≤ 100000)) :
    iterN (fun s : Int × List T_Cut => law18_CutJoins_l1 200 x (cs, e) s.1 s.2) 200 (0, cs) = some (cs.map (shift x.From)) := by
  obtain ⟨q, hq, rfl⟩ := iterN_run (f := fun s : Int × List T_Cut => law18_CutJoins_l1 200 x (cs, e) s.1 s.2)
    (I := fun s => ∃ i : Nat, s = ((i : Int), (cs.take i).map (shift x.From) ++ cs.drop i) ∧ i ≤ cs.length) (Q := fun q => q = cs.map (shift x.From)) (fun s => cs.length - s.1.toNat) (by
    rintro s ⟨i, rfl, hi⟩
    unfold law18_CutJoins_l1
    by_cases h : i < cs.length
    · have hpl : ((cs.take i).map (shift x.From)).length = i := by simp; omega
      have hL : ((cs.take i).map (shift x.From) ++ cs.drop i).length = cs.length := by simp; omega
      have g0 : ((cs.take i).map (shift x.From) ++ cs.drop i)[i]? = some cs[i] := by
        rw [List.getElem?_append_right (by omega), hpl, Nat.sub_self, List.getElem?_drop, Nat.add_zero, List.getElem?_eq_getElem h]
      obtain ⟨h1, h2⟩ := hc cs[i] (List.getElem_mem h)
      have i0 : idx ((cs.take i).map (shift x.From) ++ cs.drop i) (i : Int) = some cs[i] := by
        unfold idx; rw [if_pos (by omega), Int.toNat_natCast, g0]
      have i1 : ∀ v : T_Cut, idx (List.set ((cs.take i).map (shift x.From) ++ cs.drop i) (Int.toNat (i : Int)) v) (i : Int) = some v := fun v => by
        unfold idx; rw [if_pos (by omega), Int.toNat_natCast, List.getElem?_set_self (by omega)]
      refine .inl ⟨(((i + 1 : Nat) : Int), (cs.take (i + 1)).map (shift x.From) ++ cs.drop (i + 1)), oit (decide_eq_true (by simp only; omega)) (obi i0 (obi (in64_ok (by omega)) (obi i0 (obi (i1 _) (obi (in64_ok (by simp only; omega)) (obi (i1 _) (obi (in64_ok (by omega)) ?_))))))), ⟨i + 1, rfl, h⟩, by simp only; omega⟩
      rw [List.set_set, Int.toNat_natCast]
      congr 3
      rw [List.set_append_right _ _ (by omega), hpl, Nat.sub_self, List.drop_eq_getElem_cons h, List.set_cons_zero, List.take_succ_eq_append_getElem h, List.map_append, List.append_assoc]
      rfl
    · have : i = cs.length := by omega
      subst this
      exact .inr ⟨_, oif (decide_eq_false (by simp)) rfl, by simp⟩) 200 (0, cs) ⟨0, by simp, Nat.zero_le _⟩ (by simp; omega)
  exact hq

theorem greedy_bounds {l : List T_Pushed} {r : T_CutRules} : ∀ {cs : List T_Cut} {a e : Nat}, Greedy l r a cs e → ∀ c ∈ cs, (0 ≤ c.From ∧ c.From ≤ e) ∧ (0 ≤ c.To ∧ c.To ≤ e)
  | [], _, _, _ => by simp
  | c :: cs, a, e, ⟨b, h1, h2, h3, h4⟩ => by
    intro d hd
    have := h4.part.le
    have := h2.lt
    rcases List.mem_cons.1 hd with h | h
    · rw [h, h1]; simp only [cutOf]; omega
    · exact greedy_bounds h4 d h

theorem CutJoins_true (l : List Int) : law18_CutJoins 200 l = some true := by
  obtain ⟨k, ps, r, h, h0, h1, g⟩ := pushed_ok l 16 (by omega)
  obtain ⟨cs, hf, hg⟩ := form_greedy 200 g (by omega)
  have hlen := g.len
  have hcs := hg.part.le
  unfold law18_CutJoins
  refine obi (x := 0) rfl (obi h (obi hf (oif (by simp) ?_)))
  by_cases hz : cs.length = 0
  · have : cs = [] := List.length_eq_zero_iff.1 hz
    subst this
    have hps : ps.length = 0 := hg.symm
    refine oit (by simp) ?_
    simp [hps, gO, sane_ok]
  · obtain ⟨x, hx, x1, x2⟩ := next_ok 200 l (k := k) (n := cs.length) (by omega) (by omega) (by omega) (by omega)
    obtain ⟨i, rfl⟩ : ∃ i : Nat, x = i := ⟨x.toNat, by omega⟩
    have hi : i < cs.length := by omega
    obtain ⟨f, hd, hfi, ht⟩ := hg.drop i (Nat.le_of_lt hi)
    have hd0 := hd
    rw [List.drop_eq_getElem_cons hi] at hd0
    obtain ⟨b, c1, m1, _, _⟩ := hd0
    have hfl : f < ps.length := by have := m1.lt; have := m1.le; omega
    have hFrom : cs[i].From = (f : Int) := by rw [c1]; rfl
    obtain ⟨ca, hca, ga⟩ := form_greedy 200 (good_take g f) (by omega)
    obtain ⟨cb, hcb, gb⟩ := form_greedy 200 (good_drop g f) (by omega)
    have ea : ca = cs.take i := by
      have e : (ps.take f).length = f := by simp; omega
      rw [e] at ga
      exact greedy_unique (good_take g f) (by omega) ga (greedy_take (by omega) ht)
    have gb' := greedy_drop (by simp; omega) gb
    have eb : cb.map (shift f) = cs.drop i := by
      have e : f + (ps.drop f).length = ps.length := by simp; omega
      rw [e, Nat.add_zero] at gb'
      exact greedy_unique g (Nat.le_refl _) gb' hd
    have lb := gb.part.le
    have la := ga.part.le
    simp only [List.length_drop, List.length_take] at la lb
    have hs1 : slc ps 0 (f : Int) = some (ps.take f) := by unfold slc; rw [if_pos (by omega)]; simp
    have hs2 : slc ps (f : Int) (ps.length : Int) = some (ps.drop f) := by unfold slc; rw [if_pos (by omega)]; simp
    refine oif (decide_eq_false (by simp only; omega)) (obi hx (obi (idx_nat hi) ?_))
    rw [hFrom]
    refine oif (by simp; omega) (obi hs1 (obi hca (obi hs2 (obi hcb (obi (join_loop cs[i] 0 cb (by omega) (by omega) fun c hc => ?_) ?_)))))
    · have := greedy_bounds gb c hc
      simp only [List.length_drop] at this
      omega
    · rw [hFrom, eb, ea]
      have eq : cs.take i ++ cs.drop i = cs := List.take_append_drop i cs
      refine oit (by simp) (obi (app_ok (by simp; omega) (by simp; omega)) (obi (app_ok (by simp; omega) (by simp; omega)) (obi (x := true) ?_ ?_)))
      · rw [List.nil_append, eq]
        exact cuts_eq 200 cs (by omega) (by omega)
      · simp [gO, sane_ok]
end Go.Gv
