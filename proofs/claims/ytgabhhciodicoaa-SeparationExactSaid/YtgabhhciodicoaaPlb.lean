/- Separation: the laws on times of release. -/
import Derived.Test.YtgabhhciodicoaaPla
namespace Go.Gv

theorem nope_loop {α ρ : Type} (l : List α) (c : ρ) (f : Int → Option (Int ⊕ (ρ ⊕ Unit))) (hF : ∀ (i : Nat) (_ : i < l.length), f (i : Int) = some (.inl ((i + 1 : Nat) : Int))) (he : f (l.length : Int) = some (.inr (.inr ()))) (N : Nat) (hN : l.length < N) : iterN f N 0 = some (.inr ()) := by
  have h := first_any l (fun _ => false) c f (fun _ _ hp => by cases hp) (fun i h _ => hF i h) he N hN
  rw [h]
  have : l.any (fun _ => false) = false := by simp
  rw [this]; rfl

theorem IsRel.apart {l : List (List T_Span)} {th : Int} {R : List Int} (f : Fine l) (h : IsRel l th R) : apartQ l th R := fun k hk => by
  have hm := h.max k hk
  have hl := h.le k hk
  have := f.len
  have := h.len
  exact ⟨⟨hm.pos, by omega⟩, fun j hj => hm.most _ ⟨j, by omega, hj, rfl⟩⟩
theorem IsRel.least {l : List (List T_Span)} {th : Int} {R q : List Int} (h : IsRel l th R) (hq : q.length = l.length) (ha : apartQ l th q) : ∀ (k : Nat) (h1 : k < R.length) (h2 : k < q.length), R[k] ≤ q[k] := by
  intro k
  induction k using Nat.strongRecOn with
  | _ k ih =>
    intro h1 h2
    rcases (h.max k h1).one with e | ⟨j, hj, hjk, e⟩
    · have := (ha k h2).1; omega
    · have h3 := ih j hjk hj (by omega)
      have h4 := (ha k h2).2 j hjk
      omega
theorem IsRel.bd {l : List (List T_Span)} {th : Int} {R : List Int} (f : Fine l) (h : IsRel l th R) (k : Nat) (hk : k < R.length) : 0 ≤ R[k] ∧ R[k] ≤ 1030000 := by
  have hm := (h.max k hk).pos
  have hl := h.le k hk
  have := f.len
  have := h.len
  exact ⟨hm, by omega⟩

/-! SeparationLeast -/
theorem least_in (more : List Int) (i : Nat) (hi : i ≤ 20) {n : Nat} (hin : i < n) {q : List Int} (hq : q.length = n) (hb : ∀ (m : Nat) (h : m < q.length), 0 ≤ q[m] ∧ q[m] ≤ 2000000 ∧ (i ≤ m → q[m] ≤ 1030000)) :
    ∃ q', iterN (fun s : Int × List Int => law23_SeparationLeast_l4 200 more (i : Int) s.1 s.2) 200 (0, q) = some q' ∧ q'.length = n ∧ (∀ (m : Nat) (h : m < q'.length), m ≠ i → 0 ≤ q'[m] ∧ q'[m] ≤ 2000000 ∧ (i ≤ m → q'[m] ≤ 1030000)) ∧ ∀ (h : i < q'.length), -12000 ≤ q'[i] ∧ q'[i] ≤ 1050000 := by
  obtain ⟨q', hq', h1, h2, h3⟩ := iterN_run (f := fun s : Int × List Int => law23_SeparationLeast_l4 200 more (i : Int) s.1 s.2)
    (I := fun s => ∃ j : Nat, s.1 = j ∧ j ≤ 8 ∧ s.2.length = n ∧ (∀ (m : Nat) (h : m < s.2.length), m ≠ i → 0 ≤ s.2[m] ∧ s.2[m] ≤ 2000000 ∧ (i ≤ m → s.2[m] ≤ 1030000)) ∧ ∀ (h : i < s.2.length), -1500 * (j : Int) ≤ s.2[i] ∧ s.2[i] ≤ 1030000 + 2500 * (j : Int))
    (Q := fun q' => q'.length = n ∧ (∀ (m : Nat) (h : m < q'.length), m ≠ i → 0 ≤ q'[m] ∧ q'[m] ≤ 2000000 ∧ (i ≤ m → q'[m] ≤ 1030000)) ∧ ∀ (h : i < q'.length), -12000 ≤ q'[i] ∧ q'[i] ≤ 1050000) (fun s => 8 - s.1.toNat) (by
    rintro ⟨j', p⟩ ⟨j, rfl, hj, hp, h1, h2⟩
    simp only at hp h1 h2 ⊢
    unfold law23_SeparationLeast_l4
    by_cases h : j < more.length ∧ j < 8
    · have hc : (decide ((j : Int) < (more.length : Int)) && decide ((j : Int) < 8)) = true := band (decide_eq_true (by omega)) (decide_eq_true (by omega))
      by_cases he : Int.tmod ((i : Int) + (j : Int)) 3 = 0
      · obtain ⟨x, hx, x0, x1⟩ := place_ok 200 (more[j]'h.1) (n := 4000) (by omega) (by omega)
        have hip : i < p.length := by omega
        have h2' := h2 hip
        refine .inl ⟨(((j + 1 : Nat) : Int), p.set i (p[i] + (x - 1500))), oit hc (obi (in64_ok (by omega)) (oit (decide_eq_true he) (obi (idx_nat hip) (obi (idx_nat h.1) (obi hx (obi (in64_ok (by omega)) (obi (in64_ok (by omega)) (obi (idx_nat hip) (obi (inc_nat (by omega)) (by rw [Int.toNat_natCast])))))))))), ⟨j + 1, rfl, by omega, by simp [hp], fun m hm hmi => ?_, fun hm => ?_⟩, by simp only; omega⟩
        · simp only [List.getElem_set, if_neg (show ¬ i = m by omega)]
          exact h1 m (by simpa using hm) hmi
        · simp only [List.getElem_set_self]
          omega
      · exact .inl ⟨(((j + 1 : Nat) : Int), p), oit hc (obi (in64_ok (by omega)) (oif (decide_eq_false he) (obi (inc_nat (by omega)) rfl))), ⟨j + 1, rfl, by omega, hp, h1, fun hm => by have := h2 hm; simp only; omega⟩, by simp only; omega⟩
    · refine .inr ⟨_, oif ?_ rfl, hp, h1, fun hm => by have := h2 hm; omega⟩
      rw [Bool.eq_false_iff]
      intro hc
      simp only [Bool.and_eq_true, decide_eq_true_eq] at hc
      omega) 200 (0, q) ⟨0, rfl, by omega, hq, fun m hm _ => hb m hm, fun hm => by have := hb i hm; have := this.2.2 (Nat.le_refl _); simp only; omega⟩ (by simp)
  exact ⟨q', hq', h1, h2, h3⟩
theorem least_out (more : List Int) {n : Nat} (hn : n ≤ 20) {q : List Int} (hq : q.length = n) (hb : ∀ (m : Nat) (h : m < q.length), 0 ≤ q[m] ∧ q[m] ≤ 1030000) :
    ∃ q', iterN (fun s : Int × List Int => law23_SeparationLeast_l3 200 more s.1 s.2) 200 (0, q) = some q' ∧ q'.length = n ∧ ∀ (m : Nat) (h : m < q'.length), 0 ≤ q'[m] ∧ q'[m] ≤ 2000000 := by
  obtain ⟨q', hq', h1, h2⟩ := iterN_run (f := fun s : Int × List Int => law23_SeparationLeast_l3 200 more s.1 s.2)
    (I := fun s => ∃ i : Nat, s.1 = i ∧ i ≤ n ∧ s.2.length = n ∧ ∀ (m : Nat) (h : m < s.2.length), 0 ≤ s.2[m] ∧ s.2[m] ≤ 2000000 ∧ (i ≤ m → s.2[m] ≤ 1030000))
    (Q := fun q' => q'.length = n ∧ ∀ (m : Nat) (h : m < q'.length), 0 ≤ q'[m] ∧ q'[m] ≤ 2000000) (fun s => n - s.1.toNat) (by
    rintro ⟨i', p⟩ ⟨i, rfl, hi, hp, hall⟩
    simp only at hp hall ⊢
    unfold law23_SeparationLeast_l3
    by_cases h : i < n
    · obtain ⟨p', hp', e1, e2, e3⟩ := least_in more i (by omega) h hp hall
      have hip : i < p'.length := by omega
      have e3' := e3 hip
      refine .inl ⟨(((i + 1 : Nat) : Int), p'.set i (max 0 p'[i])), oit (decide_eq_true (by omega)) (obi hp' (obi (idx_nat hip) (obi (idx_nat hip) (obi (inc_nat (by omega)) (by rw [Int.toNat_natCast]))))), ⟨i + 1, rfl, h, by simp [e1], fun m hm => ?_⟩, by simp only; omega⟩
      rw [List.getElem_set]
      split
      · omega
      · have := e2 m (by simpa using hm) (by omega)
        exact ⟨this.1, this.2.1, fun hh => this.2.2 (by omega)⟩
    · refine .inr ⟨_, oif (decide_eq_false (by omega)) rfl, hp, fun m hm => ⟨(hall m hm).1, (hall m hm).2.1⟩⟩) 200 (0, q) ⟨0, rfl, by omega, hq, fun m hm => by have := hb m hm; simp only at this ⊢; exact ⟨this.1, by omega, fun _ => this.2⟩⟩ (by simp only; omega)
  exact ⟨q', hq', h1, h2⟩

theorem SeparationLeast_true (t : List Int) (more : List Int) : law23_SeparationLeast 200 t more = some true := by
  obtain ⟨k, l, hl, k0, k1, hl8, f⟩ := lists_ok t 8 (by omega)
  obtain ⟨th, hth, thm⟩ := pick_ok 200 t (k := k) (v := [0, 800, 2500]) (by omega) (by omega) (by simp) (by simp)
  have ht := thr3 thm
  obtain ⟨R, _, hR, hrel⟩ := released_eq f (th := th) (by omega) (by omega)
  have hlen := hrel.len
  obtain ⟨v, hv, v1⟩ := check_spec f (th := th) (by omega) (by omega) hlen fun x hx => by
    obtain ⟨j, hj, rfl⟩ := List.getElem_of_mem hx
    have := hrel.bd f j hj; omega
  have hvT := v1.2 (hrel.apart f)
  subst hvT
  obtain ⟨q, hq, q1, q2⟩ := least_out more (n := l.length) (by omega) hlen fun m hm => hrel.bd f m hm
  obtain ⟨u, hu, u1⟩ := check_spec f (th := th) (by omega) (by omega) q1 fun x hx => by
    obtain ⟨j, hj, rfl⟩ := List.getElem_of_mem hx
    have := q2 j hj; omega
  have h5 : iterN (fun s : Int => law23_SeparationLeast_l5 200 (R, 0) q (u, 0) s) 200 0 = some (.inr ()) := by
    refine nope_loop q false _ (fun i hi => ?_) ?_ 200 (by omega)
    · unfold law23_SeparationLeast_l5
      refine oit (decide_eq_true (by omega)) ?_
      cases hu' : u with
      | false => exact obi (gO_F rfl) (obi (gO_F rfl) (oif rfl (obi (inc_nat (by omega)) rfl)))
      | true =>
        have := hrel.least q1 (u1.1 hu') i (by omega) hi
        exact obi (gO_T rfl (idx_nat hi)) (obi (gO_T rfl (idx_nat (by simp only; omega))) (oif (borF rfl (bandF2 (decide_eq_false (by simp only; omega)))) (obi (inc_nat (by omega)) rfl)))
    · unfold law23_SeparationLeast_l5
      exact oif (decide_eq_false (by omega)) rfl
  unfold law23_SeparationLeast
  refine obi rfl (obi hl (obi hth (obi hR (obi hv (oif ?_ (obi (app_ok (by simp; omega) (by simp; omega)) (obi (by rw [List.nil_append]; exact hq) (obi hu (obi h5 ?_)))))))))
  · exact borF (borF (borF rfl rfl) rfl) (by simp [hlen])
  · exact obi sane_ok rfl

/-! SeparationTight -/
theorem Fine.take {l : List (List T_Span)} (f : Fine l) (k : Nat) : Fine (l.take k) :=
  ⟨by have := f.len; simp; omega, fun a ha => f.good a (List.mem_of_mem_take ha), fun a ha => f.to a (List.mem_of_mem_take ha)⟩
theorem lg_take {l : List (List T_Span)} {th : Int} {n j k : Nat} (hj : j < n) (hk : k < n) : lg (l.take n) th j k = lg l th j k := by
  unfold lg
  rw [List.getElem?_take, List.getElem?_take, if_pos hj, if_pos hk]
theorem SeparationTight_true (t : List Int) (k0' : Int) : law23_SeparationTight 200 t k0' = some true := by
  obtain ⟨k, l, hl, k0, k1, hl8, f⟩ := lists_ok t 8 (by omega)
  obtain ⟨th, hth, thm⟩ := pick_ok 200 t (k := k) (v := [0, 800, 2500]) (by omega) (by omega) (by simp) (by simp)
  have ht := thr3 thm
  obtain ⟨R, _, hR, hrel⟩ := released_eq f (th := th) (by omega) (by omega)
  have hlen := hrel.len
  unfold law23_SeparationTight
  refine obi rfl (obi hl (obi hth (obi hR (oif (borF rfl (by simp [hlen])) ?_))))
  by_cases hz : R.length = 0
  · exact oit (decide_eq_true (by simp only; omega)) (obi sane_ok rfl)
  refine oif (decide_eq_false (by simp only; omega)) ?_
  obtain ⟨m, hm, m0, m1⟩ := place_ok 200 k0' (n := (R.length : Int)) (by omega) (by omega)
  obtain ⟨m, rfl⟩ : ∃ j : Nat, m = j := ⟨m.toNat, by omega⟩
  have hmR : m < R.length := by omega
  have hbd := hrel.bd f m hmR
  refine obi hm (obi (idx_nat hmR) ?_)
  by_cases hr : R[m] = 0
  · exact oit (decide_eq_true hr) (obi sane_ok rfl)
  refine oif (decide_eq_false hr) ?_
  have hs1 : slc R 0 ((m + 1 : Nat) : Int) = some (R.take (m + 1)) := by
    have := slc_nat (l := R) (a := 0) (b := m + 1) (by omega) (by omega)
    rw [List.drop_zero] at this; exact this
  have hs2 : slc l 0 ((m + 1 : Nat) : Int) = some (l.take (m + 1)) := by
    have := slc_nat (l := l) (a := 0) (b := m + 1) (by omega) (by omega)
    rw [List.drop_zero] at this; exact this
  have htl : (R.take (m + 1)).length = m + 1 := by simp; omega
  have hx : idx (R.take (m + 1)) (m : Int) = some R[m] := by rw [idx_nat (by omega), List.getElem_take]
  obtain ⟨q, hq⟩ : ∃ q, q = (R.take (m + 1)).set m (R[m] - 1) := ⟨_, rfl⟩
  have hql : q.length = (l.take (m + 1)).length := by rw [hq]; simp; omega
  have hqg : ∀ (j : Nat) (h : j < q.length), q[j] = if m = j then R[m] - 1 else R[j]'(by simp at hql; omega) := fun j h => by
    subst hq
    simp only [List.getElem_set, List.getElem_take]
  obtain ⟨v, hv, v1⟩ := check_spec (f.take (m + 1)) (th := th) (by omega) (by omega) hql fun x hx' => by
    obtain ⟨j, hj, rfl⟩ := List.getElem_of_mem hx'
    rw [hqg j hj]
    have hjR : j < R.length := by simp at hql; omega
    have := hrel.bd f j hjR
    split <;> omega
  have hvF : v = false := by
    rw [Bool.eq_false_iff]
    intro hvT
    have ha := v1.1 hvT
    rcases (hrel.max m hmR).one with e | ⟨j, hj, hjm, e⟩
    · exact hr e
    · have hmq : m < q.length := by rw [hql]; simp; omega
      have := (ha m hmq).2 j hjm
      rw [hqg m hmq, hqg j (by omega), if_pos rfl, if_neg (by omega), lg_take (by omega) (by omega)] at this
      omega
  subst hvF
  refine obi (inc_nat (by omega)) (obi hs1 (obi (x := R.take (m + 1)) (by rw [app_ok (by simp; omega) (by simp; omega), List.nil_append]) (obi hx (obi (in64_ok (by omega)) (obi hx (obi (inc_nat (by omega)) (obi hs2 (obi (by rw [Int.toNat_natCast, ← hq]; exact hv) (obi (gO_T rfl sane_ok) rfl)))))))))

/-! SeparationKeeps -/
structure Inside (b a : List T_Span) : Prop where
  len : b.length = a.length
  at_ : ∀ (i : Nat) (h : i < b.length) (h2 : i < a.length), (b[i].Element = a[i].Element ∧ b[i].Side = a[i].Side) ∧ a[i].From ≤ b[i].From ∧ b[i].From < b[i].To ∧ b[i].To ≤ a[i].To
theorem within_ok (t : List Int) {k : Int} (h0 : 0 ≤ k) (h1 : k ≤ 1000000) {a : List T_Span} (ga : Good a) : ∃ k' b, yardgen_Within 200 t k a = some (k', b) ∧ k ≤ k' ∧ k' ≤ k + 300 ∧ Inside b a := by
  have hla := ga.len
  obtain ⟨q, hq, q1, q2, q3⟩ := iterN_run (f := fun s : Int × Int × List T_Span => yardgen_Within_l1 200 t a s.1 s.2.1 s.2.2)
    (I := fun s => ∃ i : Nat, s.1 = i ∧ i ≤ a.length ∧ (k ≤ s.2.1 ∧ s.2.1 ≤ k + 2 * i) ∧ s.2.2.length = i ∧ ∀ (j : Nat) (h : j < s.2.2.length) (h2 : j < a.length), (s.2.2[j].Element = a[j].Element ∧ s.2.2[j].Side = a[j].Side) ∧ a[j].From ≤ s.2.2[j].From ∧ s.2.2[j].From < s.2.2[j].To ∧ s.2.2[j].To ≤ a[j].To)
    (Q := fun q => k ≤ q.1 ∧ q.1 ≤ k + 300 ∧ Inside q.2 a) (fun s => a.length - s.1.toNat) (by
    rintro ⟨i', m, b⟩ ⟨i, rfl, hi, ⟨m0, m1⟩, hb, hall⟩
    simp only at m0 m1 hb hall ⊢
    unfold yardgen_Within_l1
    by_cases h : i < a.length
    · have hg := ga.at i h
      obtain ⟨x, hx, x0, x1⟩ := next_ok 200 t (k := m) (n := a[i].To - a[i].From) (by omega) (by omega) (by omega) (by omega)
      obtain ⟨y, hy, y0, y1⟩ := next_ok 200 t (k := m + 1) (n := a[i].To - (a[i].From + x)) (by omega) (by omega) (by omega) (by omega)
      refine .inl ⟨(((i + 1 : Nat) : Int), m + 1 + 1, b ++ [T_Span.mk a[i].Element a[i].Side (a[i].From + x) (a[i].From + x + 1 + y)]), oit (decide_eq_true (by omega)) (obi (idx_nat h) (obi (in64_ok (by omega)) (obi hx (obi (in64_ok (by simp only; omega)) (obi (in64_ok (by simp only; omega)) (obi (in64_ok (by simp only; omega)) (obi hy (obi (in64_ok (by simp only; omega)) (obi (app_ok (by simp; omega) (by simp; omega)) (obi (inc_nat (by omega)) rfl)))))))))), ⟨i + 1, rfl, h, ⟨by simp only; omega, by simp only; omega⟩, by simp [hb], fun j hj hj2 => ?_⟩, by simp only; omega⟩
      by_cases e : j < b.length
      · simp only [List.getElem_append_left e]
        exact hall j e hj2
      · have hji : j = i := by simp at hj; omega
        subst hji
        have hbj : b.length = j := hb
        have e2 : (b ++ [T_Span.mk a[j].Element a[j].Side (a[j].From + x) (a[j].From + x + 1 + y)])[j] = T_Span.mk a[j].Element a[j].Side (a[j].From + x) (a[j].From + x + 1 + y) := by
          rw [List.getElem_append_right (by omega)]
          simp
        have key : ∀ s : T_Span, s = T_Span.mk a[j].Element a[j].Side (a[j].From + x) (a[j].From + x + 1 + y) → (s.Element = a[j].Element ∧ s.Side = a[j].Side) ∧ a[j].From ≤ s.From ∧ s.From < s.To ∧ s.To ≤ a[j].To := fun s hs => by
          subst hs
          exact ⟨⟨rfl, rfl⟩, by simp only; omega, by simp only; omega, by simp only; omega⟩
        exact key _ e2
    · exact .inr ⟨_, oif (decide_eq_false (by omega)) rfl, by simp only; omega, by simp only; omega, ⟨by simp only; omega, hall⟩⟩) 200 (0, k, []) ⟨0, rfl, Nat.zero_le _, ⟨by simp, by simp⟩, rfl, fun j h => by simp at h⟩ (by simp only; omega)
  refine ⟨q.1, q.2, ?_, q1, q2, q3⟩
  unfold yardgen_Within
  exact obi hq rfl

theorem real_ok (t : List Int) {k : Int} (r8k : Int) (h0 : 0 ≤ k) (h1 : k ≤ 10000) {l : List (List T_Span)} (f : Fine l) : ∃ re, iterN (fun s : Int × Int × List (List T_Span) => law23_SeparationKeeps_l1 200 t (r8k, l) s.1 s.2.1 s.2.2) 200 (0, k, []) = some re ∧ re.length = l.length ∧ ∀ (i : Nat) (h : i < re.length) (h2 : i < l.length), Inside re[i] l[i] := by
  have hl := f.len
  obtain ⟨q, hq, q1, q2⟩ := iterN_run (f := fun s : Int × Int × List (List T_Span) => law23_SeparationKeeps_l1 200 t (r8k, l) s.1 s.2.1 s.2.2)
    (I := fun s => ∃ i : Nat, s.1 = i ∧ i ≤ l.length ∧ (0 ≤ s.2.1 ∧ s.2.1 ≤ 10000 + 300 * i) ∧ s.2.2.length = i ∧ ∀ (j : Nat) (h : j < s.2.2.length) (h2 : j < l.length), Inside s.2.2[j] l[j])
    (Q := fun q => q.length = l.length ∧ ∀ (i : Nat) (h : i < q.length) (h2 : i < l.length), Inside q[i] l[i]) (fun s => l.length - s.1.toNat) (by
    rintro ⟨i', m, b⟩ ⟨i, rfl, hi, ⟨m0, m1⟩, hb, hall⟩
    simp only at m0 m1 hb hall ⊢
    unfold law23_SeparationKeeps_l1
    by_cases h : i < l.length
    · obtain ⟨k2, a, ha, a0, a1, hin⟩ := within_ok t m0 (by omega) (f.good _ (List.getElem_mem h))
      refine .inl ⟨(((i + 1 : Nat) : Int), k2, b ++ [a]), oit (decide_eq_true (by simp only; omega)) (obi (idx_nat h) (obi ha (obi (app_ok (by simp; omega) (by simp; omega)) (obi (inc_nat (by omega)) rfl)))), ⟨i + 1, rfl, h, ⟨by simp only; omega, by simp only; omega⟩, by simp [hb], fun j hj hj2 => ?_⟩, by simp only; omega⟩
      by_cases e : j < b.length
      · simp only [List.getElem_append_left e]
        exact hall j e hj2
      · have hji : j = i := by simp at hj; omega
        subst hji
        have hbj : b.length = j := hb
        have e2 : (b ++ [a])[j] = a := by
          rw [List.getElem_append_right (by omega)]
          simp
        simp only [e2]
        exact hin
    · have : i = l.length := by omega
      subst this
      exact .inr ⟨_, oif (decide_eq_false (by simp only; omega)) rfl, hb, hall⟩) 200 (0, k, []) ⟨0, rfl, Nat.zero_le _, ⟨by simp only; omega, by simp only; omega⟩, rfl, fun j h => by simp at h⟩ (by simp only; omega)
  exact ⟨q, hq, q1, q2⟩

theorem find_any (l : List T_Span) (e : Int) : (∃ (j : Nat) (h : j < l.length), findE l e = j ∧ l[j].Element = e) ∨ findE l e = -1 := by
  unfold findE
  cases h : l.findIdx? fun s => decide (s.Element = e) with
  | none => exact .inr rfl
  | some j =>
    obtain ⟨hj, hp, _⟩ := List.findIdx?_eq_some_iff_getElem.1 h
    exact .inl ⟨j, hj, rfl, of_decide_eq_true hp⟩

theorem keeps_in {l re : List (List T_Span)} (f : Fine l) {th : Int} (h0 : 0 ≤ th) (h1 : th ≤ 2500) {R : List Int} (hrel : IsRel l th R) (hre : re.length = l.length) (hin : ∀ (i : Nat) (h : i < re.length) (h2 : i < l.length), Inside re[i] l[i]) (kk : Int) {k j : Nat} (hk : k < l.length) (hj : j < k) :
    iterN (fun s : Int => law23_SeparationKeeps_l14 200 (kk, th) (R, 0) re (k : Int) (j : Int) s) 200 0 = some (.inr ()) := by
  have hRl := hrel.len
  have hkr : k < re.length := by omega
  have hjr : j < re.length := by omega
  have ik := hin k hkr hk
  have ij := hin j hjr (by omega)
  have gk := f.good _ (List.getElem_mem hk)
  have gj := f.good _ (List.getElem_mem (show j < l.length by omega))
  have hlk := gk.len
  have hlj := gj.len
  have hRk := hrel.bd f k (by omega)
  have hRj := hrel.bd f j (by omega)
  refine nope_loop re[k] false _ (fun i hi => ?_) ?_ 200 (by rw [ik.len]; omega)
  · have hil : i < l[k].length := by rw [← ik.len]; exact hi
    obtain ⟨⟨ie, is⟩, i1, i2, i3⟩ := ik.at_ i hi hil
    have gi := gk.at i hil
    unfold law23_SeparationKeeps_l14
    refine obi (idx_nat hkr) (oit (decide_eq_true (by omega)) (obi (idx_nat hkr) (obi (idx_nat hi) (obi (idx_nat hjr) (obi (find_eq 200 re[j] (by rw [ij.len]; omega) (by rw [ij.len]; omega) _) ?_)))))
    rcases find_any re[j] re[k][i].Element with ⟨n, hn, e, en⟩ | e
    · have hnl : n < l[j].length := by rw [← ij.len]; exact hn
      obtain ⟨⟨je, js⟩, j1, j2, j3⟩ := ij.at_ n hn hnl
      have gn := gj.at n hnl
      have hz : decide (0 ≤ (n : Int)) = true := decide_eq_true (by omega)
      have hr1 := ready_le re[j][n] re[k][i] h0
      have hto := f.to _ (List.getElem_mem (show j < l.length by omega)) _ (List.getElem_mem hnl)
      have hto2 := f.to _ (List.getElem_mem hk) _ (List.getElem_mem hil)
      -- what is planned is apart
      have hg := (fgap gj gk (f.slow (List.getElem_mem (show j < l.length by omega))) h0 (show th ≤ 1000000000 by omega)).2
      have hm := hg.most _ (List.getElem_mem hnl) _ (List.getElem_mem hil) (by omega)
      have hR := (hrel.apart f k (by omega)).2 j hj
      rw [lg_eq (by omega) hk] at hR
      have hap : apart re[j][n] re[k][i] = apart l[j][n] l[k][i] := by unfold apart; rw [js, is]
      have hle : ready re[j][n] re[k][i] th ≤ ready l[j][n] l[k][i] th := by
        unfold ready
        rw [hap]
        cases apart l[j][n] l[k][i] <;> simp <;> omega
      rw [e]
      exact obi (gO_T hz (idx_nat (by simp only; omega))) (obi (gO_T hz (idx_nat hjr)) (obi (gO_T hz (idx_nat hn)) (obi (gO_T hz (idx_nat (by simp only; omega))) (obi (gO_T hz (in64_ok (by simp only; omega))) (obi (gO_T hz (after_eq 200 _ _ _ (by simp only; omega))) (obi (gO_T hz (in64_ok (by simp only; omega))) (oif (bandF2 (decide_eq_false (by simp only; omega))) (obi (inc_nat (by rw [ik.len] at hi; omega)) rfl))))))))
    · have hz : decide (0 ≤ (-1 : Int)) = false := by decide
      rw [e]
      exact obi (gO_F hz) (obi (gO_F hz) (obi (gO_F hz) (obi (gO_F hz) (obi (gO_F hz) (obi (gO_F hz) (obi (gO_F hz) (oif (bandF hz) (obi (inc_nat (by rw [ik.len] at hi; omega)) rfl))))))))
  · unfold law23_SeparationKeeps_l14
    exact obi (idx_nat hkr) (oif (decide_eq_false (by omega)) rfl)

theorem SeparationKeeps_true (t : List Int) : law23_SeparationKeeps 200 t = some true := by
  obtain ⟨k, l, hl, k0, k1, hl7, f⟩ := lists_ok t 7 (by omega)
  obtain ⟨th, hth, thm⟩ := pick_ok 200 t (k := k) (v := [0, 800, 2500]) (by omega) (by omega) (by simp) (by simp)
  have ht := thr3 thm
  obtain ⟨R, _, hR, hrel⟩ := released_eq f (th := th) (by omega) (by omega)
  have hlen := hrel.len
  obtain ⟨re, hre, re1, re2⟩ := real_ok t (k := k + 1) k (by omega) (by omega) f
  have mid : ∀ (m : Nat) (hm : m < l.length), iterN (fun s : Int => law23_SeparationKeeps_l13 200 (k + 1, th) (R, 0) re (m : Int) s) 200 0 = some (.inr ()) := fun m hm => by
    refine nope_loop (List.range m) false _ (fun j hj => ?_) ?_ 200 (by simp; omega)
    · have hjm : j < m := by simpa using hj
      unfold law23_SeparationKeeps_l13
      exact oit (decide_eq_true (by omega)) (obi (keeps_in f ht.1 ht.2 hrel re1 re2 (k + 1) hm hjm) (obi (inc_nat (by omega)) rfl))
    · unfold law23_SeparationKeeps_l13
      exact oif (decide_eq_false (by simp)) rfl
  have out : iterN (fun s : Int => law23_SeparationKeeps_l10 200 (k, l) (k + 1, th) (R, 0) re s) 200 0 = some (.inr ()) := by
    refine nope_loop l false _ (fun j hj => ?_) ?_ 200 (by omega)
    · unfold law23_SeparationKeeps_l10
      exact oit (decide_eq_true (by simp only; omega)) (obi (mid j hj) (obi (inc_nat (by omega)) rfl))
    · unfold law23_SeparationKeeps_l10
      exact oif (decide_eq_false (by simp)) rfl
  unfold law23_SeparationKeeps
  refine obi rfl (obi hl (obi hth (obi hR (oif (borF rfl (by simp [hlen])) (obi hre (obi out ?_))))))
  exact obi sane_ok rfl
end Go.Gv
