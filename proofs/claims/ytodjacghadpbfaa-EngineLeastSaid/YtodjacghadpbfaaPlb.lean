/- Engines (chapter 39): what an assignment is; both assignments are one. -/
import Derived.Test.YtodjacghadpbfaaPla
namespace Go.Gv
/-- two tasks exclude each other -/
def exc (T : Int) (a b : T_Task) : Bool := decide (a.From < b.To + T) && decide (b.From < a.To + T)
theorem exc_iff {T : Int} {a b : T_Task} : exc T a b = true ↔ a.From < b.To + T ∧ b.From < a.To + T := by unfold exc; simp
theorem exc_symm (T : Int) (a b : T_Task) : exc T a b = exc T b a := by unfold exc; rw [Bool.and_comm]
theorem exc_eq (N : Nat) {l : List T_Task} {T : Int} (v : Val l T) {i j : Nat} (hi : i < l.length) (hj : j < l.length) : r39_Excludes N (tk l i) (tk l j) T = some (exc T (tk l i) (tk l j)) := by
  have h1 := v.tk hi
  have h2 := v.tk hj
  have h3 := v.t0
  have h4 := v.t1
  unfold r39_Excludes exc
  refine obi (in64_ok (by omega)) ?_
  by_cases h : (tk l i).From < (tk l j).To + T
  · exact obi (gO_T (decide_eq_true h) (in64_ok (by omega))) rfl
  · exact obi (gO_F (decide_eq_false h)) (congrArg some (by rw [decide_eq_false h]; rfl))
/-- some task of P that has engine e excludes task i -/
def conf (l : List T_Task) (T : Int) (out : List Int) (P : List Nat) (i : Nat) (e : Int) : Bool := P.any fun j => decide (out.getD j 0 = e) && exc T (tk l j) (tk l i)
def eOf (l : List T_Task) (T : Int) (out : List Int) (P : List Nat) (i m : Nat) : Nat := ((List.range m).find? fun e : Nat => !conf l T out P i (e : Int)).getD m
theorem eOf_spec (l : List T_Task) (T : Int) (out : List Int) (P : List Nat) (i m : Nat) : eOf l T out P i m ≤ m ∧ (∀ e' : Nat, e' < eOf l T out P i m → conf l T out P i e' = true) ∧ (eOf l T out P i m < m → conf l T out P i (eOf l T out P i m) = false) := by
  unfold eOf
  cases h : (List.range m).find? fun e : Nat => !conf l T out P i (e : Int) with
  | none =>
    simp only [Option.getD_none]
    refine ⟨Nat.le_refl _, fun e' he => ?_, fun h => absurd h (Nat.lt_irrefl _)⟩
    have := List.find?_eq_none.1 h e' (List.mem_range.2 he)
    simpa using this
  | some e =>
    simp only [Option.getD_some]
    obtain ⟨h1, h2, h3⟩ := List.find?_range_eq_some.1 h
    have := List.mem_range.1 h2
    exact ⟨by omega, fun e' he => by have := h3 e' he; simpa using this, fun _ => by simpa using h1⟩
theorem eOf_one {l : List T_Task} {T : Int} {out : List Int} {P : List Nat} {i m e : Nat} (h0 : e ≤ m) (h1 : ∀ e' : Nat, e' < e → conf l T out P i e' = true) (h2 : e < m → conf l T out P i e = false) : e = eOf l T out P i m := by
  obtain ⟨k0, k1, k2⟩ := eOf_spec l T out P i m
  rcases Nat.lt_trichotomy e (eOf l T out P i m) with h | h | h
  · have := k1 e h; rw [h2 (by omega)] at this; cases this
  · exact h
  · have := h1 _ h; rw [k2 (by omega)] at this; cases this
/-- the engines behind q steps -/
def st (l : List T_Task) (T : Int) (o : List Nat) : Nat → List Int × Nat
  | 0 => (List.replicate l.length 0, 0)
  | q + 1 => ((st l T o q).1.set (o.getD q 0) (eOf l T (st l T o q).1 (o.take q) (o.getD q 0) (st l T o q).2 : Nat), max (st l T o q).2 (eOf l T (st l T o q).1 (o.take q) (o.getD q 0) (st l T o q).2 + 1))
/-- task x needs an engine at time t -/
def inn (l : List T_Task) (T t : Int) (x : Nat) : Bool := decide ((tk l x).From ≤ t) && decide (t < (tk l x).To + T)
theorem inn_iff {l : List T_Task} {T t : Int} {x : Nat} : inn l T t x = true ↔ (tk l x).From ≤ t ∧ t < (tk l x).To + T := by unfold inn; simp
def inL (l : List T_Task) (T t : Int) : List Nat := (List.range l.length).filter (inn l T t)
theorem inL_nodup (l : List T_Task) (T t : Int) : (inL l T t).Nodup := List.Nodup.sublist List.filter_sublist List.nodup_range
theorem inL_mem {l : List T_Task} {T t : Int} {x : Nat} : x ∈ inL l T t ↔ x < l.length ∧ (tk l x).From ≤ t ∧ t < (tk l x).To + T := by
  unfold inL; rw [List.mem_filter, List.mem_range, inn_iff]
theorem nodup_map_on {α β : Type} {f : α → β} : ∀ {l : List α}, l.Nodup → (∀ x ∈ l, ∀ y ∈ l, f x = f y → x = y) → (l.map f).Nodup
  | [], _, _ => List.nodup_nil
  | a :: t, h, hf => by
    rw [List.nodup_cons] at h
    rw [List.map_cons, List.nodup_cons]
    refine ⟨fun hm => ?_, nodup_map_on h.2 fun x hx y hy => hf x (List.mem_cons_of_mem _ hx) y (List.mem_cons_of_mem _ hy)⟩
    obtain ⟨y, hy, e⟩ := List.mem_map.1 hm
    exact h.1 (by rw [hf a List.mem_cons_self y (List.mem_cons_of_mem _ hy) e.symm]; exact hy)
structure SG (l : List T_Task) (T : Int) (o : List Nat) (q : Nat) : Prop where
  len : (st l T o q).1.length = l.length
  lo : ∀ j ∈ o.take q, ∃ e : Nat, (st l T o q).1.getD j 0 = (e : Int) ∧ e < (st l T o q).2
  on : ∀ e : Nat, e < (st l T o q).2 → ∃ j ∈ o.take q, (st l T o q).1.getD j 0 = (e : Int)
  prop : ∀ j ∈ o.take q, ∀ k ∈ o.take q, j ≠ k → (st l T o q).1.getD j 0 = (st l T o q).1.getD k 0 → exc T (tk l j) (tk l k) = false
  cl : (st l T o q).2 = 0 ∨ ∃ i ∈ o.take q, (st l T o q).2 ≤ (inL l T (tk l i).From).length
theorem take_mem {o : List Nat} {q : Nat} (hq : q < o.length) {j : Nat} : j ∈ o.take (q + 1) ↔ j ∈ o.take q ∨ j = o.getD q 0 := by
  have e : o.getD q 0 = o[q] := by rw [List.getD_eq_getElem?_getD, List.getElem?_eq_getElem hq]; rfl
  rw [take_snoc hq, List.mem_append, e]; simp
theorem IsO.at {l : List T_Task} {o : List Nat} (ho : IsO l o) {q : Nat} (hq : q < o.length) : o.getD q 0 < l.length ∧ o.getD q 0 ∉ o.take q ∧ ∀ j ∈ o.take q, (tk l j).From ≤ (tk l (o.getD q 0)).From := by
  have e : o.getD q 0 = o[q] := by rw [List.getD_eq_getElem?_getD, List.getElem?_eq_getElem hq]; rfl
  rw [e]
  refine ⟨ho.lt _ (List.getElem_mem hq), fun h => ?_, fun j hj => ?_⟩
  · obtain ⟨p, hp, e⟩ := List.getElem_of_mem h
    have hpq : p < q := by simp at hp; omega
    rw [List.getElem_take] at e
    exact (List.pairwise_iff_getElem.1 ho.nd p q (by omega) hq hpq) e
  · obtain ⟨p, hp, rfl⟩ := List.getElem_of_mem hj
    have hpq : p < q := by simp at hp; omega
    rw [List.getElem_take]
    exact List.pairwise_iff_getElem.1 ho.asc p q (by omega) hq hpq
theorem getD_set' {l : List Int} {i k : Nat} {v : Int} (h : i < l.length) : (l.set i v).getD k 0 = if k = i then v else l.getD k 0 := by
  rw [List.getD_eq_getElem?_getD, List.getD_eq_getElem?_getD, List.getElem?_set]
  by_cases e : k = i
  · subst e; simp [h]
  · simp [e, Ne.symm e]
theorem sg_all {l : List T_Task} {T : Int} (v : Val l T) {o : List Nat} (ho : IsO l o) : ∀ q, q ≤ o.length → SG l T o q
  | 0, _ => ⟨by simp [st], fun j hj => by simp at hj, fun e he => by simp [st] at he, fun j hj => by simp at hj, .inl rfl⟩
  | q + 1, hq => by
    have g := sg_all v ho q (by omega)
    obtain ⟨hil, hin, hia⟩ := ho.at (show q < o.length by omega)
    obtain ⟨i, hi⟩ : ∃ i, i = o.getD q 0 := ⟨_, rfl⟩
    obtain ⟨out, hout⟩ : ∃ out, out = (st l T o q).1 := ⟨_, rfl⟩
    obtain ⟨m, hm⟩ : ∃ m, m = (st l T o q).2 := ⟨_, rfl⟩
    obtain ⟨e, he⟩ : ∃ e, e = eOf l T out (o.take q) i m := ⟨_, rfl⟩
    obtain ⟨k0, k1, k2⟩ := eOf_spec l T out (o.take q) i m
    rw [← he] at k0 k1 k2
    have e1 : (st l T o (q + 1)).1 = out.set i (e : Int) := by rw [he, hi, hm, hout]; rfl
    have e2 : (st l T o (q + 1)).2 = max m (e + 1) := by rw [he, hi, hm, hout]; rfl
    obtain ⟨g1, g2, g3, g4, g5⟩ := g
    rw [← hout] at g1 g2 g3 g4
    rw [← hm] at g2 g3 g5
    rw [← hi] at hil hin hia
    have gi : (out.set i (e : Int)).getD i 0 = (e : Int) := by rw [getD_set' (by omega), if_pos rfl]
    have gj : ∀ j, j ∈ o.take q → (out.set i (e : Int)).getD j 0 = out.getD j 0 := fun j hj => by
      rw [getD_set' (by omega), if_neg fun h => hin (by rw [← h]; exact hj)]
    have hmem : ∀ j, j ∈ o.take (q + 1) ↔ j ∈ o.take q ∨ j = i := fun j => by rw [take_mem (by omega), ← hi]
    have nc : conf l T out (o.take q) i (e : Int) = false := by
      by_cases hem : e < m
      · exact k2 hem
      · unfold conf
        rw [List.any_eq_false]
        intro j hj h
        obtain ⟨e', h1, h2⟩ := g2 j hj
        have := of_decide_eq_true (bandl h)
        omega
    have ncj : ∀ j ∈ o.take q, out.getD j 0 = (e : Int) → exc T (tk l j) (tk l i) = false := fun j hj h => by
      unfold conf at nc
      rw [List.any_eq_false] at nc
      have := nc j hj
      rw [decide_eq_true h] at this
      simpa using this
    refine ⟨by rw [e1, List.length_set, g1], fun j hj => ?_, fun e' he' => ?_, fun j hj k hk hjk h => ?_, ?_⟩
    · rw [e1, e2]
      rcases (hmem j).1 hj with h | rfl
      · rw [gj j h]; obtain ⟨e', h1, h2⟩ := g2 j h; exact ⟨e', h1, by omega⟩
      · exact ⟨e, gi, Nat.lt_of_lt_of_le (Nat.lt_succ_self e) (Nat.le_max_right m (e + 1))⟩
    · rw [e1]
      rw [e2] at he'
      by_cases h : e' < m
      · obtain ⟨j, hj, h1⟩ := g3 e' h
        exact ⟨j, (hmem j).2 (.inl hj), by rw [gj j hj, h1]⟩
      · exact ⟨i, (hmem i).2 (.inr rfl), by rw [gi]; congr 1; omega⟩
    · rw [e1] at h
      rcases (hmem j).1 hj with h1 | rfl
      · rcases (hmem k).1 hk with h2 | rfl
        · rw [gj j h1, gj k h2] at h; exact g4 j h1 k h2 hjk h
        · rw [gj j h1, gi] at h; exact ncj j h1 h
      · rcases (hmem k).1 hk with h2 | rfl
        · rw [gi, gj k h2] at h; rw [exc_symm]; exact ncj k h2 h.symm
        · exact absurd rfl hjk
    · rw [e2]
      right
      by_cases hem : e < m
      · rcases g5 with h | ⟨x, hx, h⟩
        · omega
        · exact ⟨x, (hmem x).2 (.inl hx), by omega⟩
      · refine ⟨i, (hmem i).2 (.inr rfl), ?_⟩
        obtain rfl : e = m := by omega
        -- a task for each engine, and the new one
        have hch : ∀ e' : Nat, e' < e → ∃ j, (j ∈ o.take q ∧ out.getD j 0 = (e' : Int)) ∧ exc T (tk l j) (tk l i) = true := fun e' he' => by
          obtain ⟨j, hj, h⟩ := List.any_eq_true.1 (k1 e' he')
          exact ⟨j, ⟨hj, of_decide_eq_true (bandl h)⟩, bandr h⟩
        have key : ∀ d : Nat, d ≤ e → ∃ F : List Nat, F.Nodup ∧ F.length = d + 1 ∧ F ⊆ inL l T (tk l i).From ∧ ∀ j ∈ F, j = i ∨ (j ∈ o.take q ∧ ∃ e' : Nat, e' < d ∧ out.getD j 0 = (e' : Int)) := by
          intro d
          induction d with
          | zero =>
            intro _
            refine ⟨[i], by simp, rfl, fun j hj => ?_, fun j hj => .inl (by simpa using hj)⟩
            have : j = i := by simpa using hj
            subst this
            have := v.tk hil
            have := v.t0
            exact inL_mem.2 ⟨hil, by omega, by omega⟩
          | succ d ih =>
            intro hd
            obtain ⟨F, f1, f2, f3, f4⟩ := ih (by omega)
            obtain ⟨j, ⟨hj, hje⟩, hx⟩ := hch d (by omega)
            refine ⟨j :: F, List.nodup_cons.2 ⟨fun h => ?_, f1⟩, by simp [f2], fun x hx' => ?_, fun x hx' => ?_⟩
            · rcases f4 j h with rfl | ⟨_, e', h1, h2⟩
              · exact hin hj
              · omega
            · rcases List.mem_cons.1 hx' with rfl | h
              · have h1 := exc_iff.1 hx
                have h2 := hia x hj
                exact inL_mem.2 ⟨ho.lt _ (List.mem_of_mem_take hj), h2, h1.2⟩
              · exact f3 h
            · rcases List.mem_cons.1 hx' with rfl | h
              · exact .inr ⟨hj, d, by omega, hje⟩
              · rcases f4 x h with h | ⟨h1, e', h2, h3⟩
                · exact .inl h
                · exact .inr ⟨h1, e', by omega, h3⟩
        obtain ⟨F, f1, f2, f3, _⟩ := key e (Nat.le_refl _)
        have := f1.length_le_of_subset f3
        omega
/-- what an assignment has to be -/
structure IsA (l : List T_Task) (T : Int) (out : List Int) (m : Nat) : Prop where
  len : out.length = l.length
  lo : ∀ j, j < l.length → ∃ e : Nat, out.getD j 0 = (e : Int) ∧ e < m
  prop : ∀ j k, j < l.length → k < l.length → j ≠ k → out.getD j 0 = out.getD k 0 → exc T (tk l j) (tk l k) = false
  zero : m = 0 ↔ l = []
  most : ∀ t, (inL l T t).length ≤ m
  cl : m = 0 ∨ ∃ i, i < l.length ∧ (inL l T (tk l i).From).length = m
theorem isA_of {l : List T_Task} {T : Int} (v : Val l T) {o : List Nat} (ho : IsO l o) : IsA l T (st l T o o.length).1 (st l T o o.length).2 := by
  have g := sg_all v ho o.length (Nat.le_refl _)
  obtain ⟨g1, g2, g3, g4, g5⟩ := g
  rw [List.take_length] at g2 g3 g4 g5
  have most : ∀ t, (inL l T t).length ≤ (st l T o o.length).2 := fun t => by
    have h1 : ((inL l T t).map fun j => ((st l T o o.length).1.getD j 0).toNat).Nodup := by
      refine nodup_map_on (inL_nodup l T t) fun x hx y hy e => ?_
      obtain ⟨x0, x1, x2⟩ := inL_mem.1 hx
      obtain ⟨y0, y1, y2⟩ := inL_mem.1 hy
      obtain ⟨a, ha, _⟩ := g2 x (ho.all x x0)
      obtain ⟨b, hb, _⟩ := g2 y (ho.all y y0)
      rcases Nat.decEq x y with h | h
      · have := g4 x (ho.all x x0) y (ho.all y y0) h (by rw [ha, hb]; rw [ha, hb] at e; congr 1)
        have h3 : exc T (tk l x) (tk l y) = true := exc_iff.2 ⟨by omega, by omega⟩
        rw [h3] at this; cases this
      · exact h
    have h2 : ((inL l T t).map fun j => ((st l T o o.length).1.getD j 0).toNat) ⊆ List.range (st l T o o.length).2 := fun e he => by
      obtain ⟨j, hj, rfl⟩ := List.mem_map.1 he
      obtain ⟨a, ha, h⟩ := g2 j (ho.all j (inL_mem.1 hj).1)
      rw [ha]; exact List.mem_range.2 (by simpa using h)
    have := h1.length_le_of_subset h2
    simpa using this
  refine ⟨g1, fun j hj => g2 j (ho.all j hj), fun j k hj hk => g4 j (ho.all j hj) k (ho.all k hk), ⟨fun h => ?_, fun h => ?_⟩, most, ?_⟩
  · cases l with
    | nil => rfl
    | cons a t =>
      obtain ⟨e, _, h2⟩ := g2 0 (ho.all 0 (by simp))
      omega
  · have : o.length = 0 := by rw [ho.len, h]; rfl
    rw [this]; rfl
  · rcases g5 with h | ⟨i, hi, h⟩
    · exact .inl h
    · have := most (tk l i).From
      exact .inr ⟨i, ho.lt i hi, by omega⟩
/-! the two programs -/
theorem oI_at {o : List Nat} {q : Nat} (h : q < o.length) : idx (o.map Int.ofNat) (q : Int) = some ((o.getD q 0 : Nat) : Int) := by
  refine idx_some_of ?_
  rw [List.getElem?_map, List.getElem?_eq_getElem h, List.getD_eq_getElem?_getD, List.getElem?_eq_getElem h]; rfl
theorem mk_ok {n : Nat} (h : n ≤ 64) : mkL 8 (n : Int) (0 : Int) = some (List.replicate n 0) := by
  unfold mkL; rw [if_pos (by omega)]; simp
theorem idx_out {out : List Int} {j : Nat} (h : j < out.length) : idx out (j : Int) = some (out.getD j 0) := idx_getD _ h
theorem mem_take_getD {o : List Nat} {k q : Nat} (hk : k < q) (hq : q ≤ o.length) : o.getD k 0 ∈ o.take q := by
  have e : o.getD k 0 = o[k] := by rw [List.getD_eq_getElem?_getD, List.getElem?_eq_getElem (by omega)]; rfl
  rw [e]
  exact List.mem_of_getElem? (i := k) (by rw [List.getElem?_take_of_lt hk, List.getElem?_eq_getElem])
theorem assign_eq {N : Nat} (hN : 5000 ≤ N) {l : List T_Task} {T : Int} (v : Val l T) {o : List Nat} (ho : IsO l o) (he : engine_order N l = some (o.map Int.ofNat)) : engine_Assign N l T = some ((st l T o o.length).1, ((st l T o o.length).2 : Int), 0) := by
  have hl := v.len
  have hol := ho.len
  obtain ⟨r, hr, hQ1, hQ2⟩ := runN (f := fun s : Int × List Int × List Int => engine_Assign_l4 N l T (o.map Int.ofNat) s.1 s.2.1 s.2.2) o.length
    (fun q u => u.1 = q ∧ u.2.1 = (st l T o q).1 ∧ u.2.2.length = (st l T o q).2 ∧ (st l T o q).2 ≤ q ∧ ∀ e : Nat, e < (st l T o q).2 → (∀ j ∈ o.take q, (st l T o q).1.getD j 0 = (e : Int) → (tk l j).To + T ≤ u.2.2.getD e 0) ∧ ∃ j ∈ o.take q, (st l T o q).1.getD j 0 = (e : Int) ∧ (tk l j).To + T = u.2.2.getD e 0)
    (fun r => r.1 = (st l T o o.length).1 ∧ r.2.length = (st l T o o.length).2) (by
    rintro q ⟨j', out', fr⟩ hq ⟨rfl, rfl, hfl, hmq, hfr⟩
    simp only at hfl hmq hfr ⊢
    left
    have g := sg_all v ho q (by omega)
    obtain ⟨hil, hin, hia⟩ := ho.at hq
    obtain ⟨i, hi⟩ : ∃ i, i = o.getD q 0 := ⟨_, rfl⟩
    obtain ⟨out, hout⟩ : ∃ out, out = (st l T o q).1 := ⟨_, rfl⟩
    obtain ⟨m, hm⟩ : ∃ m, m = (st l T o q).2 := ⟨_, rfl⟩
    have e1 : (st l T o (q + 1)).1 = out.set i (eOf l T out (o.take q) i m : Int) := by rw [hi, hm, hout]; rfl
    have e2 : (st l T o (q + 1)).2 = max m (eOf l T out (o.take q) i m + 1) := by rw [hi, hm, hout]; rfl
    obtain ⟨g1, g2, g3, g4, _⟩ := g
    rw [← hout] at g1 g2 g3 g4 hfr
    rw [← hm] at g2 g3 hfl hmq hfr
    rw [← hi] at hil hin hia
    have hti := v.tk hil
    have ht0 := v.t0
    have ht1 := v.t1
    -- the least engine that is free
    have hk : iterN (fun s : Int => engine_Assign_l5 N l fr i s) N 0 = some ((eOf l T out (o.take q) i m : Nat) : Int) := by
      have hcf : ∀ e : Nat, e < m → (conf l T out (o.take q) i e = true ↔ (tk l i).From < fr.getD e 0) := fun e he => by
        obtain ⟨f1, j, hj, f2, f3⟩ := hfr e he
        constructor
        · intro h
          obtain ⟨x, hx, hp⟩ := List.any_eq_true.1 h
          have h1 := f1 x hx (of_decide_eq_true (bandl hp))
          have h2 := exc_iff.1 (bandr hp)
          omega
        · intro h
          have h2 := hia j hj
          exact List.any_eq_true.2 ⟨j, hj, band (decide_eq_true f2) (exc_iff.2 ⟨by omega, by omega⟩)⟩
      obtain ⟨r, hr, k, rfl, hk0, hk1, hk2⟩ := runN (f := fun s : Int => engine_Assign_l5 N l fr i s) m
        (fun k s => s = k ∧ ∀ e : Nat, e < k → conf l T out (o.take q) i e = true)
        (fun r => ∃ k : Nat, r = (k : Int) ∧ k ≤ m ∧ (∀ e : Nat, e < k → conf l T out (o.take q) i e = true) ∧ (k < m → conf l T out (o.take q) i k = false)) (by
          rintro k _ hk ⟨rfl, hall⟩
          have z : decide ((k : Int) < (List.length fr : Int)) = true := decide_eq_true (by omega)
          unfold engine_Assign_l5
          have a1 : idx fr (k : Int) = some (fr.getD k 0) := idx_getD _ (by omega)
          by_cases h : (tk l i).From < fr.getD k 0
          · refine .inl ⟨_, obi (gO_T z a1) (obi (gO_T z (idx_tk hil)) (oit (band z (decide_eq_true h)) (obi (inc_nat (by omega)) rfl))), rfl, fun e he => ?_⟩
            by_cases ee : e = k
            · subst ee; exact (hcf e hk).2 h
            · exact hall e (by omega)
          · refine .inr ⟨_, obi (gO_T z a1) (obi (gO_T z (idx_tk hil)) (oif (bandF2 (decide_eq_false h)) rfl)), k, rfl, by omega, hall, fun _ => ?_⟩
            rw [Bool.eq_false_iff]; exact fun c => h ((hcf k hk).1 c)) (by
          rintro _ ⟨rfl, hall⟩
          have z : decide ((m : Int) < (List.length fr : Int)) = false := decide_eq_false (by omega)
          exact ⟨_, obi (gO_F z) (obi (gO_F z) (oif (bandF z) rfl)), m, rfl, Nat.le_refl _, hall, fun h => absurd h (Nat.lt_irrefl _)⟩) N (by omega) 0 ⟨rfl, fun e he => absurd he (Nat.not_lt_zero _)⟩
      rw [hr, eOf_one hk0 hk1 hk2]
    obtain ⟨k0, k1, k2⟩ := eOf_spec l T out (o.take q) i m
    obtain ⟨e, hee⟩ : ∃ e, e = eOf l T out (o.take q) i m := ⟨_, rfl⟩
    rw [← hee] at hk k0 k1 k2 e1 e2
    have ei := oI_at hq
    rw [← hi] at ei
    have gi : (out.set i (e : Int)).getD i 0 = (e : Int) := by rw [getD_set' (by omega), if_pos rfl]
    have gj : ∀ j, j ∈ o.take q → (out.set i (e : Int)).getD j 0 = out.getD j 0 := fun j hj => by
      rw [getD_set' (by omega), if_neg fun h => hin (by rw [← h]; exact hj)]
    have hmem : ∀ j, j ∈ o.take (q + 1) ↔ j ∈ o.take q ∨ j = i := fun j => by rw [take_mem (by omega), ← hi]
    obtain ⟨fr2, hf1, hf2, hf3⟩ : ∃ fr2 : List Int, (bif decide ((e : Int) = (List.length fr : Int)) then (Option.bind (app 8 fr ([0])) fun l638 => some l638) else some fr) = some fr2 ∧ fr2.length = max m (e + 1) ∧ ∀ x : Nat, x < m → fr2.getD x 0 = fr.getD x 0 := by
      by_cases h : e = m
      · refine ⟨fr ++ [0], oit (decide_eq_true (by omega)) (obi (app_ok (by simp only [List.length_cons, List.length_nil]; omega) (by simp only [List.length_cons, List.length_nil]; omega)) rfl), by simp; omega, fun x hx => ?_⟩
        rw [List.getD_eq_getElem?_getD, List.getD_eq_getElem?_getD, List.getElem?_append_left (by omega)]
      · exact ⟨fr, oif (decide_eq_false (by omega)) rfl, by omega, fun _ _ => rfl⟩
    refine ⟨(((q + 1 : Nat) : Int), out.set i (e : Int), fr2.set e ((tk l i).To + T)), oit (decide_eq_true (by simp; omega)) (obi ei (obi hk (obi hf1 (obi (idx_tk hil) (obi (in64_ok (by omega)) (obi (by rw [← hout]; exact idx_out (by omega)) (obi (idx_getD 0 (show e < fr2.length by omega)) (obi (inc_nat (by omega)) (by rw [← hout]; rfl))))))))), rfl, e1.symm, by rw [e2]; simp [hf2], by rw [e2]; omega, fun x hx => ?_⟩
    rw [e1]
    rw [e2] at hx
    simp only
    by_cases hxe : x = e
    · subst hxe
      have gx : (fr2.set x ((tk l i).To + T)).getD x 0 = (tk l i).To + T := by rw [getD_set' (by omega), if_pos rfl]
      rw [gx]
      refine ⟨fun j hj h => ?_, i, (hmem i).2 (.inr rfl), gi, rfl⟩
      rcases (hmem j).1 hj with h1 | rfl
      · rw [gj j h1] at h
        have hxm : x < m := by obtain ⟨e', q1, q2⟩ := g2 j h1; omega
        have := (hfr x hxm).1 j h1 h
        have nc := k2 hxm
        have h3 : ¬ (tk l i).From < (tk l j).To + T := fun hlt => by
          have : conf l T out (o.take q) i x = true := List.any_eq_true.2 ⟨j, h1, band (decide_eq_true h) (exc_iff.2 ⟨by have := hia j h1; omega, hlt⟩)⟩
          rw [nc] at this; cases this
        omega
      · exact Int.le_refl _
    · have hxm : x < m := by omega
      obtain ⟨f1, j, hj, f2, f3⟩ := hfr x hxm
      have gx : (fr2.set e ((tk l i).To + T)).getD x 0 = fr.getD x 0 := by rw [getD_set' (by omega), if_neg hxe, hf3 x hxm]
      rw [gx]
      refine ⟨fun j hj h => ?_, j, (hmem j).2 (.inl hj), by rw [gj j hj, f2], f3⟩
      rcases (hmem j).1 hj with h1 | rfl
      · rw [gj j h1] at h; exact f1 j h1 h
      · rw [gi] at h; omega) (by
    rintro ⟨j', out, fr⟩ ⟨rfl, h1, h2, _, _⟩
    exact ⟨(out, fr), oif (decide_eq_false (by simp)) rfl, h1, h2⟩) N (by omega) (0, List.replicate l.length 0, []) ⟨rfl, rfl, rfl, Nat.le_refl _, fun e he => by simp [st] at he⟩
  unfold engine_Assign
  refine obi (check_eq hN l T) ?_
  rw [vE_zero.2 v]
  refine oif rfl (obi (mk_ok (by omega)) (obi he (obi hr ?_)))
  rw [hQ1, hQ2]
theorem rassign_eq {N : Nat} (hN : 5000 ≤ N) {l : List T_Task} {T : Int} (v : Val l T) {o : List Nat} (ho : IsO l o) (he : r39_order N l = some (o.map Int.ofNat)) : r39_Assign N l T = some ((st l T o o.length).1, ((st l T o o.length).2 : Int), 0) := by
  have hl := v.len
  have hol := ho.len
  have hm1 : ∀ q, (st l T o q).2 ≤ q := fun q => by
    induction q with
    | zero => exact Nat.le_refl _
    | succ q ih =>
      have := (eOf_spec l T (st l T o q).1 (o.take q) (o.getD q 0) (st l T o q).2).1
      simp only [st]; omega
  have hr : iterN (fun s : Int × Int × List Int => r39_Assign_l3 N l T (o.map Int.ofNat) s.1 s.2.1 s.2.2) N (0, 0, List.replicate l.length 0) = some (((st l T o o.length).2 : Int), (st l T o o.length).1) := by
    refine runN1 (f := fun s : Int × Int × List Int => r39_Assign_l3 N l T (o.map Int.ofNat) s.1 s.2.1 s.2.2) o.length (fun q u => u.2.1 = q ∧ u.1 = ((st l T o q).2 : Int) ∧ u.2.2 = (st l T o q).1) _ ?_ ?_ N (by omega) _ ⟨rfl, rfl, rfl⟩
    · rintro q ⟨m', j', out'⟩ hq ⟨rfl, rfl, rfl⟩
      simp only
      have hmq := hm1 q
      have g := sg_all v ho q (by omega)
      obtain ⟨hil, hin, hia⟩ := ho.at hq
      have ei := oI_at hq
      obtain ⟨i, hi⟩ : ∃ i, i = o.getD q 0 := ⟨_, rfl⟩
      obtain ⟨out, hout⟩ : ∃ out, out = (st l T o q).1 := ⟨_, rfl⟩
      obtain ⟨m, hm⟩ : ∃ m, m = (st l T o q).2 := ⟨_, rfl⟩
      have e1 : (st l T o (q + 1)).1 = out.set i (eOf l T out (o.take q) i m : Int) := by rw [hi, hm, hout]; rfl
      have e2 : (st l T o (q + 1)).2 = max m (eOf l T out (o.take q) i m + 1) := by rw [hi, hm, hout]; rfl
      obtain ⟨g1, g2, g3, g4, _⟩ := g
      rw [← hout] at g1 g2 g3 g4
      rw [← hm] at g2 g3 hmq
      rw [← hi] at hil hin hia ei
      rw [← hm, ← hout]
      obtain ⟨r, hr, e, rfl, h1, h2, h3⟩ := iterN_run (f := fun s : Int × Int => r39_Assign_l4 N l T (o.map Int.ofNat) q out s.1 s.2)
        (I := fun s => ∃ e k : Nat, s.1 = e ∧ s.2 = k ∧ e ≤ m ∧ k ≤ q ∧ (∀ e' : Nat, e' < e → conf l T out (o.take q) i e' = true) ∧ ∀ k', k' < k → ¬ (out.getD (o.getD k' 0) 0 = (e : Int) ∧ exc T (tk l (o.getD k' 0)) (tk l i) = true))
        (Q := fun r => ∃ e : Nat, r = (e : Int) ∧ e ≤ m ∧ (∀ e' : Nat, e' < e → conf l T out (o.take q) i e' = true) ∧ conf l T out (o.take q) i e = false)
        (fun s => (m - s.1.toNat) * 66 + (q - s.2.toNat)) (by
        rintro ⟨e', k'⟩ ⟨e, k, rfl, rfl, h1, h2, h3, h4⟩
        simp only
        unfold r39_Assign_l4
        by_cases hk : k < q
        · have hkm := mem_take_getD hk (show q ≤ o.length by omega)
          have hkl : o.getD k 0 < l.length := ho.lt _ (List.mem_of_mem_take hkm)
          have a1 := oI_at (show k < o.length by omega)
          have a2 : idx out ((o.getD k 0 : Nat) : Int) = some (out.getD (o.getD k 0) 0) := idx_out (by omega)
          by_cases he : out.getD (o.getD k 0) 0 = (e : Int)
          · have z : decide (out.getD (o.getD k 0) 0 = (e : Int)) = true := decide_eq_true he
            have hem : e < m := by obtain ⟨x, x1, x2⟩ := g2 _ hkm; omega
            cases hx : exc T (tk l (o.getD k 0)) (tk l i) with
            | true =>
              refine .inl ⟨_, oit (decide_eq_true (by omega)) (obi a1 (obi a2 (obi (gO_T z a1) (obi (gO_T z (idx_tk hkl)) (obi (gO_T z ei) (obi (gO_T z (idx_tk hil)) (obi (gO_T z (exc_eq N v hkl hil)) (oit (band z hx) (obi (inc_nat (by omega)) (obi rfl rfl)))))))))), ⟨e + 1, 0, rfl, rfl, by omega, by omega, fun x hx' => ?_, fun k' h => absurd h (Nat.not_lt_zero _)⟩, by simp only; omega⟩
              by_cases ee : x = e
              · subst ee; exact List.any_eq_true.2 ⟨_, hkm, band z hx⟩
              · exact h3 x (by omega)
            | false =>
              refine .inl ⟨_, oit (decide_eq_true (by omega)) (obi a1 (obi a2 (obi (gO_T z a1) (obi (gO_T z (idx_tk hkl)) (obi (gO_T z ei) (obi (gO_T z (idx_tk hil)) (obi (gO_T z (exc_eq N v hkl hil)) (oif (bandF2 hx) (obi (inc_nat (by omega)) rfl))))))))), ⟨e, k + 1, rfl, rfl, h1, hk, h3, fun k' h => ?_⟩, by simp only; omega⟩
              by_cases ee : k' = k
              · subst ee; exact fun c => by rw [hx] at c; exact absurd c.2 (by decide)
              · exact h4 k' (by omega)
          · have z : decide (out.getD (o.getD k 0) 0 = (e : Int)) = false := decide_eq_false he
            refine .inl ⟨_, oit (decide_eq_true (by omega)) (obi a1 (obi a2 (obi (gO_F z) (obi (gO_F z) (obi (gO_F z) (obi (gO_F z) (obi (gO_F z) (oif (bandF z) (obi (inc_nat (by omega)) rfl))))))))), ⟨e, k + 1, rfl, rfl, h1, hk, h3, fun k' h => ?_⟩, by simp only; omega⟩
            by_cases ee : k' = k
            · subst ee; exact fun c => he c.1
            · exact h4 k' (by omega)
        · obtain rfl : k = q := by omega
          refine .inr ⟨_, oif (decide_eq_false (by omega)) rfl, e, rfl, h1, h3, ?_⟩
          unfold conf
          rw [List.any_eq_false]
          intro j hj hp
          obtain ⟨p, hp', rfl⟩ := List.getElem_of_mem hj
          have hpk : p < k := by simp at hp'; omega
          rw [List.getElem_take] at hp
          have ep : o.getD p 0 = o[p]'(by omega) := by rw [List.getD_eq_getElem?_getD, List.getElem?_eq_getElem (by omega)]; rfl
          rw [← ep] at hp
          exact h4 p hpk ⟨of_decide_eq_true (bandl hp), bandr hp⟩) N (0, 0) ⟨0, 0, rfl, rfl, by omega, by omega, fun _ h => absurd h (Nat.not_lt_zero _), fun _ h => absurd h (Nat.not_lt_zero _)⟩ (by simp only [Int.toNat_zero]; omega)
      have hee : e = eOf l T out (o.take q) i m := eOf_one h1 h2 fun _ => h3
      rw [hee] at hr h1
      exact ⟨_, oit (decide_eq_true (by simp; omega)) (obi hr (obi ei (obi (idx_out (by omega)) (obi (inc_nat (by omega)) (obi (inc_nat (by omega)) rfl))))), rfl, by rw [e2]; simp only; omega, e1.symm⟩
    · rintro ⟨m', j', out⟩ ⟨rfl, rfl, rfl⟩
      exact oif (decide_eq_false (by simp)) rfl
  unfold r39_Assign
  refine obi (rcheck_eq hN l T) ?_
  rw [vE_zero.2 v]
  exact oif rfl (obi (mk_ok (by omega)) (obi he (obi hr rfl)))
end Go.Gv
