/- Crews (chapter 40): a greatest matching; the reference finds as many pairs. -/
import Derived.Test.YthoabchofjcigaaPla
namespace Go.Gv
/-- the matching behind the duties below n, and why none of the others can be done -/
structure Mat (d : List T_Task) (c : List T_Crew) (n : Nat) (does of : List Int) : Prop where
  con : Cons d c does of (-1)
  rest : ∀ i, i < d.length → n ≤ i → of.getD i 0 = -1
  clo : ∃ X Y : Nat → Bool, Clo d c does X Y ∧ ∀ i, i < n → i < d.length → of.getD i 0 = -1 → X i = true
def mcount (of : List Int) (n : Nat) : Nat := ((List.range n).filter fun i => decide (0 ≤ of.getD i 0)).length
theorem getD_rep {n k : Nat} {x : Int} (h : k < n) : (List.replicate n x).getD k 0 = x := by
  rw [List.getD_eq_getElem?_getD, List.getElem?_replicate, if_pos h]; rfl
theorem getD_repB {n k : Nat} : (List.replicate n false).getD k false = false := by
  rw [List.getD_eq_getElem?_getD, List.getElem?_replicate]; split <;> rfl
theorem unseen_rep (n : Nat) : unseen (List.replicate n false) = n := by unfold unseen; simp
theorem mat_zero (d : List T_Task) (c : List T_Crew) : Mat d c 0 (List.replicate c.length (-1)) (List.replicate d.length (-1)) :=
  ⟨⟨by simp, by simp, fun k hk => .inl (getD_rep hk), fun i hi => .inl (getD_rep hi), fun k i hk hi _ h => by rw [getD_rep hk] at h; omega⟩, fun i hi _ => getD_rep hi, fun _ => false, fun _ => false, ⟨fun i k _ _ h => (by cases h), fun k _ h => (by cases h)⟩, fun i h => absurd h (Nat.not_lt_zero _)⟩
/-- one duty more -/
theorem mat_step {d : List T_Task} {c : List T_Crew} {n : Nat} {does of does' of' : List Int} {seen' : List Bool} {b : Bool} (h : Mat d c n does of) (hn : n < d.length) (hF : Found d c (List.replicate c.length false) does of n seen' does' of' b) :
    Mat d c (n + 1) does' of' ∧ mcount of' d.length = mcount of d.length + (bif b then 1 else 0) := by
  obtain ⟨h1, h2, X, Y, hXY, hX⟩ := h
  have hfree := h2 n hn (Nat.le_refl _)
  cases b with
  | true =>
    obtain ⟨y1, ⟨k, hk, _, hok⟩, y3, y4, y5⟩ := hF.yes rfl
    rw [hfree] at y1
    refine ⟨⟨y1, fun i hi hni => (y4 i hi).2 ⟨h2 i hi (by omega), by omega⟩, X, Y, ⟨hXY.1, fun q hq hY => ?_⟩, fun i hi hil h => ?_⟩, ?_⟩
    · obtain ⟨j, a1, a2, a3⟩ := hXY.2 q hq hY
      exact ⟨j, by rw [(y5 X Y hXY).2 q hq hY, a1], a2, a3⟩
    · obtain ⟨a1, a2⟩ := (y4 i hil).1 h
      exact hX i (by omega) hil a1
    · unfold mcount
      have e : ((List.range d.length).filter fun i => decide (0 ≤ of'.getD i 0)).Perm (n :: (List.range d.length).filter fun i => decide (0 ≤ of.getD i 0)) := by
        rw [List.perm_iff_count]
        intro i
        have nd1 : ((List.range d.length).filter fun i => decide (0 ≤ of'.getD i 0)).Nodup := List.Nodup.sublist List.filter_sublist List.nodup_range
        have nd2 : (n :: (List.range d.length).filter fun i => decide (0 ≤ of.getD i 0)).Nodup := List.nodup_cons.2 ⟨fun h => by
          have := of_decide_eq_true (List.mem_filter.1 h).2
          rw [hfree] at this; omega, List.Nodup.sublist List.filter_sublist List.nodup_range⟩
        rw [nd1.count, nd2.count]
        have : i ∈ ((List.range d.length).filter fun i => decide (0 ≤ of'.getD i 0)) ↔ i ∈ (n :: (List.range d.length).filter fun i => decide (0 ≤ of.getD i 0)) := by
          rw [List.mem_cons, List.mem_filter, List.mem_filter, List.mem_range, decide_eq_true_eq, decide_eq_true_eq]
          constructor
          · rintro ⟨a1, a2⟩
            by_cases e : i = n
            · exact .inl e
            · refine .inr ⟨a1, ?_⟩
              rcases h1.on i a1 with q | ⟨k2, q, _⟩
              · have := (y4 i a1).2 ⟨q, e⟩; omega
              · omega
          · rintro (rfl | ⟨a1, a2⟩)
            · exact ⟨hn, by omega⟩
            · refine ⟨a1, ?_⟩
              rcases y1.on i a1 with q | ⟨k2, q, _⟩
              · have := ((y4 i a1).1 q).1; omega
              · omega
        by_cases hm : i ∈ ((List.range d.length).filter fun i => decide (0 ≤ of'.getD i 0))
        · rw [if_pos hm, if_pos (this.1 hm)]
        · rw [if_neg hm, if_neg fun q => hm (this.2 q)]
      have := e.length_eq
      simpa using this
  | false =>
    obtain ⟨hd2, ho2, n3, n4⟩ := hF.no rfl
    rw [hd2, ho2]
    refine ⟨⟨h1, fun i hi hni => h2 i hi (by omega), fun i => X i || decide (i = n) || ((List.range c.length).any fun k => seen'.getD k false && decide (does.getD k 0 = (i : Int))), fun k => Y k || seen'.getD k false, ⟨fun i k hi hk hx hf => ?_, fun k hk hy => ?_⟩, fun i hi hil h => ?_⟩, by simp⟩
    · rcases Bool.or_eq_true_iff.1 hx with hx | hx
      · rcases Bool.or_eq_true_iff.1 hx with hx | hx
        · exact borT (hXY.1 i k hi hk hx hf)
        · have e := of_decide_eq_true hx
          subst e
          exact borT2 (n3 k hk hf)
      · obtain ⟨q, hq, hp⟩ := List.any_eq_true.1 hx
        have hq := List.mem_range.1 hq
        obtain ⟨j, a1, a2, a3⟩ := n4 q hq (bandl hp) getD_repB
        have : j = i := by have := of_decide_eq_true (bandr hp); omega
        subst this
        exact borT2 (a3 k hk hf)
    · rcases Bool.or_eq_true_iff.1 hy with hy | hy
      · obtain ⟨j, a1, a2, a3⟩ := hXY.2 k hk hy
        exact ⟨j, a1, a2, borT (borT a3)⟩
      · obtain ⟨j, a1, a2, a3⟩ := n4 k hk hy getD_repB
        exact ⟨j, a1, a2, borT2 (List.any_eq_true.2 ⟨k, List.mem_range.2 hk, band hy (decide_eq_true a1)⟩)⟩
    · by_cases e : i = n
      · exact borT (borT2 (decide_eq_true e))
      · exact borT (borT (hX i (by omega) hil h))
theorem fill_ok {N : Nat} (hN : 2000 ≤ N) (j : List Int × List Int) (h : j.2.length ≤ 100) : iterN (fun s : Int × List Int => crew_match_l1 N j s.1 s.2) N (0, j.2) = some (List.replicate j.2.length (-1)) := by
  refine runN1 (f := fun s : Int × List Int => crew_match_l1 N j s.1 s.2) j.2.length (fun i u => u.1 = i ∧ u.2.length = j.2.length ∧ ∀ k : Nat, k < i → u.2[k]? = some (-1)) _ ?_ ?_ N (by omega) (0, j.2) ⟨rfl, rfl, fun k h => absurd h (Nat.not_lt_zero _)⟩
  · rintro i ⟨i', l⟩ hi ⟨rfl, hl, hk⟩
    simp only at hl hk ⊢
    refine ⟨(((i + 1 : Nat) : Int), l.set i (-1)), oit (decide_eq_true (by omega)) (obi (idx_nat (by omega)) (obi (inc_nat (by omega)) rfl)), rfl, by simp [hl], fun k hk2 => ?_⟩
    rw [List.getElem?_set]
    by_cases e : i = k
    · rw [if_pos e, if_pos (by omega)]
    · rw [if_neg e]; exact hk k (by omega)
  · rintro ⟨i', l⟩ ⟨rfl, hl, hk⟩
    simp only at hl hk ⊢
    refine oif (decide_eq_false (by omega)) ?_
    congr 2
    apply List.ext_getElem?
    intro k
    by_cases e : k < j.2.length
    · rw [hk k e, List.getElem?_replicate, if_pos e]
    · rw [List.getElem?_eq_none (by omega), List.getElem?_eq_none (by simp; omega)]
theorem fill2_ok {N : Nat} (hN : 2000 ≤ N) (j : List Int × List Int) (h : j.1.length ≤ 100) : iterN (fun s : Int × List Int => crew_match_l2 N j s.1 s.2) N (0, j.1) = some (List.replicate j.1.length (-1)) := fill_ok hN (j.2, j.1) h
theorem mk8 {n : Nat} (h : n ≤ 100) : mkL 8 (n : Int) (0 : Int) = some (List.replicate n 0) := by
  unfold mkL; rw [if_pos (by omega)]; simp
theorem mk1 {n : Nat} (h : n ≤ 100) : mkL 1 (n : Int) false = some (List.replicate n false) := by
  unfold mkL; rw [if_pos (by omega)]; simp
/-- the matching, and the search that it was made by, duty by duty -/
theorem match_ok {N : Nat} (hN : 2000 ≤ N) {d : List T_Task} {c : List T_Crew} (v : Val d c) : ∃ does of, crew_match N d c = some (of, does) ∧ Mat d c d.length does of := by
  have hdl := v.dl
  have hcl := v.cl
  obtain ⟨r, hr, hQ⟩ := runN (f := fun s : Int × List Int × List Int => crew_match_l3 N d c s.1 s.2.1 s.2.2) d.length
    (fun n s => s.1 = n ∧ Mat d c n s.2.1 s.2.2) (fun r => Mat d c d.length r.1 r.2) (by
    rintro n ⟨n', does, of⟩ hn ⟨rfl, hm⟩
    simp only at hm ⊢
    left
    obtain ⟨seen', does', of', b, h1, h2⟩ := find_ok hN v N (List.replicate c.length false) does of n (by rw [unseen_rep]; omega) (by simp) hm.con hn (fun k hk => by rw [hm.rest n hn (Nat.le_refl _)] at hk; omega)
    exact ⟨_, oit (decide_eq_true (by omega)) (obi (mk1 (by omega)) (obi h1 (obi (inc_nat (by omega)) rfl))), rfl, (mat_step hm hn h2).1⟩) (by
    rintro ⟨n', does, of⟩ ⟨rfl, hm⟩
    exact ⟨(does, of), oif (decide_eq_false (by simp)) rfl, hm⟩) N (by omega) (0, List.replicate c.length (-1), List.replicate d.length (-1)) ⟨rfl, mat_zero d c⟩
  refine ⟨r.1, r.2, ?_, hQ⟩
  unfold crew_match
  have f1 := fill_ok hN (List.replicate c.length (0 : Int), List.replicate d.length (0 : Int)) (by simp; omega)
  have f2 := fill2_ok hN (List.replicate c.length (0 : Int), List.replicate d.length (0 : Int)) (by simp; omega)
  simp only [List.length_replicate] at f1 f2
  exact obi (obi (mk8 (by omega)) (obi (mk8 (by omega)) rfl)) (obi f1 (obi f2 (obi hr rfl)))

/-! pairs -/
def pr (of : List Int) (n : Nat) : List T_Pair := ((List.range n).filter fun i => decide (0 ≤ of.getD i 0)).map fun (i : Nat) => ⟨(i : Int), of.getD i 0⟩
theorem pr_succ (of : List Int) (n : Nat) : pr of (n + 1) = pr of n ++ (if 0 ≤ of.getD n 0 then [⟨(n : Int), of.getD n 0⟩] else []) := by
  unfold pr
  rw [List.range_succ, List.filter_append, List.map_append]
  congr 1
  by_cases h : 0 ≤ of.getD n 0
  · rw [List.filter_cons, if_pos (decide_eq_true h), if_pos h]; rfl
  · rw [List.filter_cons, if_neg (by simpa using h), if_neg h]; rfl
theorem pr_len (of : List Int) (n : Nat) : (pr of n).length = mcount of n := by unfold pr mcount; rw [List.length_map]
theorem mcount_le (of : List Int) (n : Nat) : mcount of n ≤ n := Nat.le_trans (List.length_filter_le _ _) (by simp)
theorem Assign_eq {N : Nat} (hN : 2000 ≤ N) {d : List T_Task} {c : List T_Crew} (v : Val d c) {does of : List Int} (hm : crew_match N d c = some (of, does)) (hl : of.length = d.length) : crew_Assign N d c = some (pr of d.length, 0) := by
  have hdl := v.dl
  have h1 : iterN (fun s : Int × List T_Pair => crew_Assign_l1 N (of, does) s.1 s.2) N (0, []) = some (pr of d.length) := by
    rw [← hl]
    refine runN1 (f := fun s : Int × List T_Pair => crew_Assign_l1 N (of, does) s.1 s.2) of.length (fun i u => u.1 = i ∧ u.2 = pr of i) _ ?_ ?_ N (by omega) (0, []) ⟨rfl, rfl⟩
    · rintro i ⟨i', l⟩ hi ⟨rfl, rfl⟩
      simp only
      have e1 : idx of (i : Int) = some (of.getD i 0) := idx_getD _ hi
      have := mcount_le of i
      have hp := pr_len of i
      unfold crew_Assign_l1
      by_cases h : 0 ≤ of.getD i 0
      · refine ⟨_, oit (decide_eq_true (by simp only; omega)) (obi e1 (oit (decide_eq_true h) (obi (app_ok (by simp only [List.length_cons, List.length_nil]; omega) (by simp only [List.length_cons, List.length_nil]; omega)) (obi (inc_nat (by omega)) rfl)))), rfl, ?_⟩
        simp only; rw [pr_succ, if_pos h]
      · refine ⟨_, oit (decide_eq_true (by simp only; omega)) (obi e1 (oif (decide_eq_false h) (obi (inc_nat (by omega)) rfl))), rfl, ?_⟩
        simp only; rw [pr_succ, if_neg h, List.append_nil]
    · rintro ⟨i', l⟩ ⟨rfl, rfl⟩
      exact oif (decide_eq_false (by simp)) rfl
  unfold crew_Assign
  refine obi (check_eq hN d c) ?_
  rw [vC_zero.2 v]
  exact oif rfl (obi hm (obi h1 rfl))
theorem assign_bad {N : Nat} (hN : 2000 ≤ N) {d : List T_Task} {c : List T_Crew} (h : vC d c ≠ 0) : crew_Assign N d c = some ([], vC d c) := obi (check_eq hN d c) (oit (bnotIt (decide_eq_false h)) rfl)
/-- a matching, as a list of pairs -/
structure IsM (d : List T_Task) (c : List T_Crew) (q : List T_Pair) : Prop where
  ok : ∀ x ∈ q, ∃ i k : Nat, x = ⟨(i : Int), (k : Int)⟩ ∧ i < d.length ∧ k < c.length ∧ ft d c i k = true
  du : q.Pairwise fun x y => x.Duty ≠ y.Duty
  cr : q.Pairwise fun x y => x.Crew ≠ y.Crew
theorem nodup_map_on {α β : Type} {f : α → β} : ∀ {l : List α}, l.Nodup → (∀ x ∈ l, ∀ y ∈ l, f x = f y → x = y) → (l.map f).Nodup
  | [], _, _ => List.nodup_nil
  | a :: t, h, hf => by
    rw [List.nodup_cons] at h
    rw [List.map_cons, List.nodup_cons]
    refine ⟨fun hm => ?_, nodup_map_on h.2 fun x hx y hy => hf x (List.mem_cons_of_mem _ hx) y (List.mem_cons_of_mem _ hy)⟩
    obtain ⟨y, hy, e⟩ := List.mem_map.1 hm
    exact h.1 (by rw [hf a List.mem_cons_self y (List.mem_cons_of_mem _ hy) e.symm]; exact hy)
theorem IsM.one {d : List T_Task} {c : List T_Crew} {q : List T_Pair} (h : IsM d c q) : ∀ x ∈ q, ∀ y ∈ q, x.Duty = y.Duty ∨ x.Crew = y.Crew → x = y := by
  intro x hx y hy e
  obtain ⟨i, hi, rfl⟩ := List.getElem_of_mem hx
  obtain ⟨j, hj, rfl⟩ := List.getElem_of_mem hy
  rcases Nat.lt_trichotomy i j with c | c | c
  · have h1 := List.pairwise_iff_getElem.1 h.du i j hi hj c
    have h2 := List.pairwise_iff_getElem.1 h.cr i j hi hj c
    rcases e with e | e
    · exact absurd e h1
    · exact absurd e h2
  · subst c; rfl
  · have h1 := List.pairwise_iff_getElem.1 h.du j i hj hi c
    have h2 := List.pairwise_iff_getElem.1 h.cr j i hj hi c
    rcases e with e | e
    · exact absurd e.symm h1
    · exact absurd e.symm h2
theorem IsM.nodup {d : List T_Task} {c : List T_Crew} {q : List T_Pair} (h : IsM d c q) : q.Nodup := h.du.imp fun h e => h (by rw [e])
/-- no matching has more pairs -/
theorem Mat.most {d : List T_Task} {c : List T_Crew} {does of : List Int} (h : Mat d c d.length does of) {q : List T_Pair} (hq : IsM d c q) : q.length ≤ mcount of d.length := by
  obtain ⟨h1, _, X, Y, hXY, hX⟩ := h
  have hf : ∀ x ∈ q, ∃ j : Nat, j < d.length ∧ 0 ≤ of.getD j 0 ∧ (X x.Duty.toNat = true → X j = true ∧ does.getD x.Crew.toNat 0 = (j : Int) ∧ of.getD j 0 = x.Crew) ∧ (X x.Duty.toNat = false → x.Duty = (j : Int)) := fun x hx => by
    obtain ⟨i, k, rfl, hi, hk, hfit⟩ := hq.ok x hx
    simp only [Int.toNat_natCast]
    cases hXi : X i with
    | true =>
      have hY := hXY.1 i k hi hk hXi hfit
      obtain ⟨j, a1, a2, a3⟩ := hXY.2 k hk hY
      have := (h1.one k j hk a2 (by omega) a1).1
      exact ⟨j, a2, by omega, fun _ => ⟨a3, a1, this⟩, fun h => by cases h⟩
    | false =>
      refine ⟨i, hi, ?_, fun h => (by cases h), fun _ => rfl⟩
      rcases h1.on i hi with a | ⟨k2, a, _⟩
      · have := hX i hi hi a; rw [hXi] at this; cases this
      · omega
  obtain ⟨f, hf⟩ : ∃ f : T_Pair → Nat, ∀ x ∈ q, f x < d.length ∧ 0 ≤ of.getD (f x) 0 ∧ (X x.Duty.toNat = true → X (f x) = true ∧ does.getD x.Crew.toNat 0 = (f x : Int) ∧ of.getD (f x) 0 = x.Crew) ∧ (X x.Duty.toNat = false → x.Duty = (f x : Int)) := by
    refine ⟨fun x => if hx : x ∈ q then (hf x hx).choose else 0, fun x hx => ?_⟩
    simp only [dif_pos hx]
    exact (hf x hx).choose_spec
  have nd : (q.map f).Nodup := nodup_map_on hq.nodup fun x hx y hy e => by
    obtain ⟨_, _, x3, x4⟩ := hf x hx
    obtain ⟨_, _, y3, y4⟩ := hf y hy
    cases hx1 : X x.Duty.toNat with
    | true =>
      obtain ⟨a1, a2, a3⟩ := x3 hx1
      cases hy1 : X y.Duty.toNat with
      | true =>
        obtain ⟨b1, b2, b3⟩ := y3 hy1
        exact hq.one x hx y hy (.inr (by rw [← a3, ← b3, e]))
      | false =>
        have := y4 hy1
        rw [this] at hy1
        rw [← e] at hy1
        simp only [Int.toNat_natCast] at hy1
        rw [a1] at hy1; cases hy1
    | false =>
      have hd := x4 hx1
      cases hy1 : X y.Duty.toNat with
      | true =>
        obtain ⟨b1, b2, b3⟩ := y3 hy1
        rw [hd, e] at hx1
        simp only [Int.toNat_natCast] at hx1
        rw [b1] at hx1; cases hx1
      | false => exact hq.one x hx y hy (.inl (by rw [hd, y4 hy1, e]))
  have sub : q.map f ⊆ (List.range d.length).filter fun i => decide (0 ≤ of.getD i 0) := fun j hj => by
    obtain ⟨x, hx, rfl⟩ := List.mem_map.1 hj
    obtain ⟨a1, a2, _⟩ := hf x hx
    exact List.mem_filter.2 ⟨List.mem_range.2 a1, decide_eq_true a2⟩
  have := nd.length_le_of_subset sub
  rw [List.length_map] at this
  exact this
theorem Mat.isM {d : List T_Task} {c : List T_Crew} {does of : List Int} {n : Nat} (h : Mat d c n does of) : IsM d c (pr of d.length) := by
  have hnd : ((List.range d.length).filter fun i => decide (0 ≤ of.getD i 0)).Nodup := List.Nodup.sublist List.filter_sublist List.nodup_range
  have hon : ∀ i, i ∈ ((List.range d.length).filter fun i => decide (0 ≤ of.getD i 0)) → i < d.length ∧ ∃ k : Nat, of.getD i 0 = (k : Int) ∧ k < c.length ∧ does.getD k 0 = (i : Int) ∧ ft d c i k = true := fun i hi => by
    obtain ⟨a1, a2⟩ := List.mem_filter.1 hi
    have a1 := List.mem_range.1 a1
    have a2 := of_decide_eq_true a2
    rcases h.con.on i a1 with q | ⟨k, q1, q2, q3⟩
    · omega
    · exact ⟨a1, k, q1, q2, q3, (h.con.one k i q2 a1 (by omega) q3).2⟩
  refine ⟨fun x hx => ?_, ?_, ?_⟩
  · obtain ⟨i, hi, rfl⟩ := List.mem_map.1 hx
    obtain ⟨a1, k, a2, a3, _, a5⟩ := hon i hi
    exact ⟨i, k, by rw [a2], a1, a3, a5⟩
  · unfold pr
    rw [List.pairwise_map]
    exact hnd.imp fun h e => h (by have e2 : ((_ : Nat) : Int) = ((_ : Nat) : Int) := e; omega)
  · unfold pr
    rw [List.pairwise_map]
    refine hnd.imp_of_mem fun {i j} hi hj hij e => hij ?_
    obtain ⟨_, k, a2, _, a4, _⟩ := hon i hi
    obtain ⟨_, k', b2, _, b4, _⟩ := hon j hj
    have : k = k' := by have e : of.getD i 0 = of.getD j 0 := e; omega
    subst this
    omega
/-- what Assign answers for valid duties and crews: a matching with as many pairs as any -/
theorem assigns {N : Nat} (hN : 2000 ≤ N) {d : List T_Task} {c : List T_Crew} (v : Val d c) : ∃ does of, crew_match N d c = some (of, does) ∧ Mat d c d.length does of ∧ crew_Assign N d c = some (pr of d.length, 0) := by
  obtain ⟨does, of, h1, h2⟩ := match_ok hN v
  exact ⟨does, of, h1, h2, Assign_eq hN v h1 h2.con.ol⟩
end Go.Gv
