/- The machine at a time: all pushes of new items. -/
import Derived.Test.YtlpkbkbjohhleaaTh
namespace Go.Gv
def pushAll (f : Nat → Nat) (C : List (List Int)) (xs : List Nat) : List (List Int) := xs.foldl (fun C x => put C (f x) (x : Int)) C
theorem pushAll_snoc (f : Nat → Nat) (C : List (List Int)) (xs : List Nat) (x : Nat) : pushAll f C (xs ++ [x]) = put (pushAll f C xs) (f x) (x : Int) := by unfold pushAll; rw [List.foldl_append]; rfl
theorem put_len (C : List (List Int)) (d : Nat) (x : Int) : (put C d x).length = C.length := by unfold put; simp
theorem pushAll_len (f : Nat → Nat) : ∀ (xs : List Nat) (C : List (List Int)), (pushAll f C xs).length = C.length := by
  intro xs
  induction xs with
  | nil => intro C; rfl
  | cons x xs ih => intro C; exact (ih (put C (f x) (x : Int))).trans (put_len _ _ _)
theorem gl_put {C : List (List Int)} {d n : Nat} {x : Int} (h : d < C.length) : gl (put C d x) n = if n = d then gl C d ++ [x] else gl C n := gl_set h
theorem gl_pushAll {f : Nat → Nat} : ∀ {xs : List Nat} {C : List (List Int)}, (∀ x ∈ xs, f x < C.length) → ∀ n, gl (pushAll f C xs) n = gl C n ++ (xs.filter (fun x => f x = n)).map (fun x : Nat => (x : Int)) := by
  intro xs
  induction xs with
  | nil => intro C _ n; simp [pushAll]
  | cons x xs ih =>
    intro C h n
    have hx := h x (List.mem_cons_self)
    have := ih (C := put C (f x) (x : Int)) (fun y hy => by rw [put_len]; exact h y (List.mem_cons_of_mem _ hy)) n
    show gl (pushAll f (put C (f x) (x : Int)) xs) n = _
    rw [this, gl_put hx]
    by_cases e : n = f x
    · rw [if_pos e, List.filter_cons, if_pos (decide_eq_true e.symm), e]; simp
    · rw [if_neg e, List.filter_cons, if_neg (by simp; exact fun h => e h.symm)]
theorem gl_len {C : List (List Int)} {n : Nat} (h : C.length ≤ n) : gl C n = [] := by
  unfold gl
  rw [List.getD_eq_getElem?_getD, List.getElem?_eq_none h]; rfl
/-- the new items of a time -/
def news (l : List T_Item) (t : Nat) (i : Nat) : List Nat := (List.range i).filter fun x => (it l x).Round = (t : Int)
theorem news_len (l : List T_Item) (t i : Nat) : (news l t i).length ≤ i := by
  have := List.length_filter_le (fun x => decide ((it l x).Round = (t : Int))) (List.range i)
  rw [List.length_range] at this
  exact this
theorem news_mem {l : List T_Item} {t i x : Nat} (h : x ∈ news l t i) : x < i := List.mem_range.1 (List.mem_filter.1 h).1
theorem news_succ (l : List T_Item) (t i : Nat) : news l t (i + 1) = if (it l i).Round = (t : Int) then news l t i ++ [i] else news l t i := by
  unfold news
  rw [List.range_succ, List.filter_append]
  by_cases h : (it l i).Round = (t : Int)
  · rw [if_pos h, List.filter_cons, if_pos (decide_eq_true h)]; rfl
  · rw [if_neg h, List.filter_cons, if_neg (by simp [h])]; simp
theorem at_new {N : Nat} (hN : 5000 ≤ N) {l : List T_Item} {w s : Nat} {c : List Int} (J : JobOk l w) (P : PlanOk l w s c) {t : Nat} (ht : t ≤ s) {f : Nat → Nat} (hf : ∀ x, x < l.length → ∀ k : Nat, gi c x = (k : Int) → Dst k s t (it l x).Train.toNat (f x))
    {st tr : List (List Int)} (h1 : st.length = s) (h2 : ∀ x, x < l.length → (it l x).Train.toNat < tr.length) {B : Nat} (hB : B ≤ 5000) (h3 : ∀ y, (gl (st ++ tr) y).length ≤ B) {mv : Nat} (hmv : mv ≤ 5000) (pu : Int) :
    ∃ st' tr', iterN (fun x : Int × List (List Int) × List (List Int) × Int => machine_at_l3 N l (w : Int) (s : Int) c pu (t : Int) x.1 x.2.1 x.2.2.1 x.2.2.2) N (0, st, tr, (mv : Int)) = some (st', tr', ((mv + (news l t l.length).length : Nat) : Int)) ∧ st'.length = s ∧ tr'.length = tr.length ∧ st' ++ tr' = pushAll f (st ++ tr) (news l t l.length) := by
  have hl := J.len
  have hs := P.le
  have fl : ∀ x, x < l.length → f x < (st ++ tr).length := fun x hx => by
    obtain ⟨k, hk, _⟩ := P.at_ x hx
    have := dst_lt (hf x hx k hk) (h2 x hx)
    rw [List.length_append]; omega
  obtain ⟨q, hq, q1, q2, q3, q4⟩ := runN (f := fun x : Int × List (List Int) × List (List Int) × Int => machine_at_l3 N l (w : Int) (s : Int) c pu (t : Int) x.1 x.2.1 x.2.2.1 x.2.2.2) l.length
    (fun i x => x.1 = i ∧ x.2.1.length = s ∧ x.2.2.1.length = tr.length ∧ x.2.2.2 = ((mv + (news l t i).length : Nat) : Int) ∧ x.2.1 ++ x.2.2.1 = pushAll f (st ++ tr) (news l t i))
    (fun q => q.1.length = s ∧ q.2.1.length = tr.length ∧ q.2.2 = ((mv + (news l t l.length).length : Nat) : Int) ∧ q.1 ++ q.2.1 = pushAll f (st ++ tr) (news l t l.length)) (by
    rintro i ⟨i', st', tr', mv'⟩ hi ⟨rfl, g1, g2, rfl, g3⟩
    simp only at g1 g2 g3 ⊢
    left
    have hnl := news_len l t i
    unfold machine_at_l3
    rw [news_succ]
    by_cases h : (it l i).Round = (t : Int)
    · obtain ⟨k, hk, k1, k2⟩ := P.at_ i hi
      have hkk := k2.1
      have hgl : ∀ y, (gl (st' ++ tr') y).length ≤ 10000 := fun y => by
        rw [g3, gl_pushAll (fun x hx => fl x (by have := news_mem hx; omega)), List.length_append, List.length_map]
        have := h3 y
        have := List.length_filter_le (fun x => decide (f x = y)) (news l t i)
        omega
      obtain ⟨st2, tr2, e, e1, e2, e3⟩ := push_ok hN (w := w) (c := c) (l := l) (st := st') (tr := tr') P.len hs g1 hi hl hk (by omega) (J.tr i hi).1 (by rw [g2]; exact h2 i hi) (fun y hy => by have := hgl y; rw [gl_append, if_pos hy] at this; exact this) (fun y hy => by have := hgl (st'.length + y); rw [gl_append, if_neg (by omega), show st'.length + y - st'.length = y by omega] at this; exact this) (mv := mv + (news l t i).length) (by omega) pu ht (hf i hi k hk)
      refine ⟨_, oit (decide_eq_true (by omega)) (obi (idx_it hi) (oit (decide_eq_true h) (obi e (obi (inc_nat (by omega)) rfl)))), rfl, e1, by simp only; rw [e2, g2], ?_, ?_⟩
      · simp only
        rw [if_pos h, List.length_append]; rfl
      · simp only
        rw [if_pos h, e3, g3, pushAll_snoc]
    · refine ⟨_, oit (decide_eq_true (by omega)) (obi (idx_it hi) (oif (decide_eq_false h) (obi (inc_nat (by omega)) rfl))), rfl, g1, g2, ?_, ?_⟩
      · simp only; rw [if_neg h]
      · simp only; rw [if_neg h, g3]) (by
    rintro ⟨i', st', tr', mv'⟩ ⟨rfl, g1, g2, rfl, g3⟩
    unfold machine_at_l3
    exact ⟨_, oif (decide_eq_false (by simp only; omega)) rfl, g1, g2, rfl, g3⟩) N (by omega) (0, st, tr, (mv : Int)) ⟨rfl, h1, rfl, by simp [news], by simp [news, pushAll]⟩
  refine ⟨q.1, q.2.1, ?_, q1, q2, q4⟩
  rw [hq, ← q3]
theorem gl_reps (a b n : Nat) : gl (List.replicate a [] ++ List.replicate b []) n = [] := by rw [gl_append]; split <;> exact gl_rep _ _
/-- what is on the tracks behind the first pushes -/
theorem contents_ok {N : Nat} (hN : 5000 ≤ N) {l : List T_Item} {w s : Nat} {c : List Int} (J : JobOk l w) (P : PlanOk l w s c) (hz : ∀ i, i < l.length → (it l i).Round = 0) :
    ∃ (st tr : List (List Int)) (f : Nat → Nat), rollin_Contents N l (w : Int) (s : Int) c 0 = some (st, tr, 0) ∧ st.length = s ∧ tr.length = trs l l.length ∧ (∀ x, x < l.length → f x < s + trs l l.length) ∧ ∀ n, gl (st ++ tr) n = ((List.range l.length).filter (fun x => f x = n)).map (fun x : Nat => (x : Int)) := by
  have hl := J.len
  have hs := P.le
  obtain ⟨f, hf⟩ : ∃ f : Nat → Nat, ∀ x, x < l.length → ∀ k : Nat, gi c x = (k : Int) → Dst k s 0 (it l x).Train.toNat (f x) := by
    have h : ∀ x, ∃ d, x < l.length → ∀ k : Nat, gi c x = (k : Int) → Dst k s 0 (it l x).Train.toNat d := fun x => by
      obtain ⟨d, hd⟩ := dst_ex (gi c x).toNat s (it l x).Train.toNat s 0 (by omega)
      exact ⟨d, fun _ k hk => by rw [hk, Int.toNat_natCast] at hd; exact hd⟩
    exact Classical.axiomOfChoice h
  have htl : ∀ x, x < l.length → (it l x).Train.toNat < trs l l.length := fun x hx => trs_lt hx
  obtain ⟨st, tr, e, e1, e2, e3⟩ := at_new hN J P (t := 0) (Nat.zero_le _) hf (st := List.replicate s []) (tr := List.replicate (trs l l.length) []) (by simp) (by simpa using htl) (B := 0) (by omega) (fun y => by rw [gl_reps]; exact Nat.le_refl _) (mv := 0) (by omega) 0
  have hnews : news l 0 l.length = List.range l.length := by
    unfold news
    rw [List.filter_eq_self]
    intro x hx
    exact decide_eq_true (hz x (List.mem_range.1 hx))
  rw [hnews] at e e3
  have hfl : ∀ x, x < l.length → f x < s + trs l l.length := fun x hx => by
    obtain ⟨k, hk, _⟩ := P.at_ x hx
    exact dst_lt (hf x hx k hk) (htl x hx)
  refine ⟨st, tr, f, ?_, e1, by rw [e2, List.length_replicate], hfl, fun n => ?_⟩
  · have hat : ∃ pu : Int, machine_at N l (w : Int) (s : Int) c (List.replicate s []) (List.replicate (trs l l.length) []) 0 0 0 = some (st, tr, ((0 + (List.range l.length).length : Nat) : Int), pu) := by
      unfold machine_at
      by_cases h : 0 < l.length
      · exact ⟨_, obi (oif rfl rfl) (obi e (oit (decide_eq_true (by simp only [List.length_range]; omega)) (obi (in64_ok (by omega)) rfl)))⟩
      · exact ⟨_, obi (oif rfl rfl) (obi e (oif (decide_eq_false (by simp only [List.length_range]; omega)) rfl))⟩
    obtain ⟨pu, hat⟩ := hat
    obtain ⟨n, rfl⟩ : ∃ n, N = n + 1 + 1 := ⟨N - 2, by omega⟩
    unfold rollin_Contents
    refine obi (rvalid_ok hN J P) (oif rfl (oif (by rw [decide_eq_false (by omega), decide_eq_false (by omega)]; rfl) (obi (x := ((w : Int), (s : Int), st, tr, ((0 + (List.range l.length).length : Nat) : Int), pu)) ?_ rfl)))
    unfold rollin_run
    refine obi (start_ok hN c J hs) (obi (x := (((0 + (List.range l.length).length : Nat) : Int), pu, st, tr)) (iterN_l (s' := (1, ((0 + (List.range l.length).length : Nat) : Int), pu, st, tr)) ?_ (iterN_r ?_)) rfl)
    · unfold rollin_run_l1
      exact oit rfl (obi hat (obi (in64_ok (by omega)) rfl))
    · unfold rollin_run_l1
      exact oif rfl rfl
  · rw [e3, gl_pushAll (fun x hx => by simp only [List.length_append, List.length_replicate]; exact hfl x (List.mem_range.1 hx)), gl_reps, List.nil_append]
end Go.Gv
