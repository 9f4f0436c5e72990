/- The reference's machine: its pushes, and what order it leaves. -/
import Derived.Test.YtlpkbkbjohhleaaGreatTm
namespace Go.Gv
def pushAll (f : Nat → Nat) (C : List (List Int)) (xs : List Nat) : List (List Int) := xs.foldl (fun C x => put C (f x) (x : Int)) C
theorem pushAll_snoc (f : Nat → Nat) (C : List (List Int)) (xs : List Nat) (x : Nat) : pushAll f C (xs ++ [x]) = put (pushAll f C xs) (f x) (x : Int) := by unfold pushAll; rw [List.foldl_append]; rfl
theorem put_len (C : List (List Int)) (d : Nat) (x : Int) : (put C d x).length = C.length := by unfold put; simp
theorem pushAll_len (f : Nat → Nat) : ∀ (xs : List Nat) (C : List (List Int)), (pushAll f C xs).length = C.length := by
  intro xs
  induction xs with
  | nil => intro C; rfl
  | cons x xs ih => intro C; exact (ih (put C (f x) (x : Int))).trans (put_len _ _ _)
theorem gl_put {C : List (List Int)} {d n : Nat} {x : Int} (h : d < C.length) : gl (put C d x) n = if n = d then gl C d ++ [x] else gl C n := gl_set h
theorem gl_pushAll {f : Nat → Nat} : ∀ {xs : List Nat} {C : List (List Int)}, (∀ x ∈ xs, f x < C.length) → ∀ n, gl (pushAll f C xs) n = gl C n ++ (xs.filter (fun x => f x = n)).map (fun x : Nat => (x : Int)) := by
  intro xs
  induction xs with
  | nil => intro C _ n; simp [pushAll]
  | cons x xs ih =>
    intro C h n
    have hx := h x (List.mem_cons_self)
    have := ih (C := put C (f x) (x : Int)) (fun y hy => by rw [put_len]; exact h y (List.mem_cons_of_mem _ hy)) n
    show gl (pushAll f (put C (f x) (x : Int)) xs) n = _
    rw [this, gl_put hx]
    by_cases e : n = f x
    · rw [if_pos e, List.filter_cons, if_pos (decide_eq_true e.symm), e]; simp
    · rw [if_neg e, List.filter_cons, if_neg (by simp; exact fun h => e h.symm)]
theorem gl_len {C : List (List Int)} {n : Nat} (h : C.length ≤ n) : gl C n = [] := by
  unfold gl
  rw [List.getD_eq_getElem?_getD, List.getElem?_eq_none h]; rfl
/-- the new items of a time -/
def news (l : List T_Item) (t : Nat) (i : Nat) : List Nat := (List.range i).filter fun x => (it l x).Round = (t : Int)
theorem news_len (l : List T_Item) (t i : Nat) : (news l t i).length ≤ i := by
  have := List.length_filter_le (fun x => decide ((it l x).Round = (t : Int))) (List.range i)
  rw [List.length_range] at this
  exact this
theorem news_mem {l : List T_Item} {t i x : Nat} (h : x ∈ news l t i) : x < i := List.mem_range.1 (List.mem_filter.1 h).1
theorem news_succ (l : List T_Item) (t i : Nat) : news l t (i + 1) = if (it l i).Round = (t : Int) then news l t i ++ [i] else news l t i := by
  unfold news
  rw [List.range_succ, List.filter_append]
  by_cases h : (it l i).Round = (t : Int)
  · rw [if_pos h, List.filter_cons, if_pos (decide_eq_true h)]; rfl
  · rw [if_neg h, List.filter_cons, if_neg (by simp [h])]; simp
theorem ypush_ok {N : Nat} (hN : 5000 ≤ N) {l : List T_Item} {w s : Nat} {c : List Int} (hc : c.length = l.length) (hs : s ≤ 12) {st tr : List (List Int)} (h1 : st.length = s) {x : Nat} (hx : x < l.length) (hxl : l.length ≤ 96) {k : Nat} (hk : gi c x = k) (hk2 : k < 4294967296) (htr0 : 0 ≤ (it l x).Train) (htr : (it l x).Train.toNat < tr.length) (h2 : ∀ y, y < st.length → (gl st y).length ≤ 10000) (h3 : ∀ y, y < tr.length → (gl tr y).length ≤ 10000) {mv : Nat} (hmv : mv ≤ 10000) (pu : Int) {t d : Nat} (hts : t ≤ s) (hd : Dst k s t (it l x).Train.toNat d) :
    ∃ st' tr', Yard_push N st tr (mv : Int) pu l (w : Int) (s : Int) c (x : Int) (t : Int) = some (st', tr', ((mv + 1 : Nat) : Int)) ∧ st'.length = s ∧ tr'.length = tr.length ∧ st' ++ tr' = put (st ++ tr) d (x : Int) := by
  have e1 : idx c (x : Int) = some (k : Int) := by rw [idx_gi (by omega), hk]
  have bit : ∀ b : Nat, b < s → (k / 2 ^ b % 2 = 1 ∧ andN 63 ((k / 2 ^ b : Nat) : Int) 1 = some 1) ∨ (k / 2 ^ b % 2 = 0 ∧ andN 63 ((k / 2 ^ b : Nat) : Int) 1 = some 0) := fun b hb => by
    have hle : k / 2 ^ b ≤ k := Nat.div_le_self _ _
    have h := andN_nat (a := k / 2 ^ b) (b := 1) (by omega) (by omega)
    rw [Nat.and_one_is_mod] at h
    rcases Nat.mod_two_eq_zero_or_one (k / 2 ^ b) with h0 | h0
    · right; rw [h0] at h; exact ⟨h0, h⟩
    · left; rw [h0] at h; exact ⟨h0, h⟩
  obtain ⟨q, hq, hQ⟩ := iterN_run (f := fun b : Int => Yard_push_l1 N st tr (s : Int) c (x : Int) ((mv + 1 : Nat) : Int) b) (I := fun b => ∃ b' : Nat, b = b' ∧ t ≤ b' ∧ b' ≤ s ∧ ∀ y, t ≤ y → y < b' → k / 2 ^ y % 2 = 0)
    (Q := fun q => (d < s ∧ q = .inl (st.set d (gl st d ++ [(x : Int)]), tr, ((mv + 1 : Nat) : Int))) ∨ (d = s + (it l x).Train.toNat ∧ q = .inr ())) (fun b => s - b.toNat) (by
    rintro b ⟨b', rfl, g1, g2, g3⟩
    unfold Yard_push_l1
    by_cases h : b' < s
    · have e2 := shr_ok (x := k) (s := b') (by omega)
      rcases bit b' h with ⟨c1, c2⟩ | ⟨c1, c2⟩
      · right
        have ed : d = b' := by
          rcases hd with ⟨d1, d2, d3, d4⟩ | ⟨d1, d2⟩
          · rcases Nat.lt_trichotomy d b' with g | g | g
            · have := g3 d d1 g; omega
            · exact g
            · have := d4 b' g1 g; omega
          · have := d2 b' g1 h; omega
        subst ed
        have hle := h2 d (by omega)
        exact ⟨_, oit (decide_eq_true (by omega)) (obi e1 (obi e2 (obi c2 (oit rfl (obi (idx_gl (r := st) (i := d) (by omega)) (obi (app_ok (by simp only [List.length_cons, List.length_nil]; omega) (by simp only [List.length_cons, List.length_nil]; omega)) rfl)))))), .inl ⟨h, by rw [Int.toNat_natCast]⟩⟩
      · left
        exact ⟨_, oit (decide_eq_true (by omega)) (obi e1 (obi e2 (obi c2 (oif rfl (obi (inc_nat (by omega)) rfl))))), ⟨b' + 1, rfl, by omega, by omega, fun y y1 y2 => by
          by_cases e : y = b'
          · subst e; exact c1
          · exact g3 y y1 (by omega)⟩, by simp only [Int.toNat_natCast]; omega⟩
    · right
      refine ⟨_, oif (decide_eq_false (by omega)) rfl, .inr ⟨?_, rfl⟩⟩
      rcases hd with ⟨d1, d2, d3, d4⟩ | ⟨d1, d2⟩
      · have := g3 d d1 (by omega); omega
      · exact d1) N (t : Int) ⟨t, rfl, Nat.le_refl _, hts, fun y h1 h2 => by omega⟩ (by omega)
  unfold Yard_push
  have em : in64 ((mv : Int) + 1) = some ((mv + 1 : Nat) : Int) := inc_nat (by omega)
  rcases hQ with ⟨hd1, rfl⟩ | ⟨hd1, rfl⟩
  · refine ⟨_, _, obi em (obi hq rfl), by simp [h1], rfl, ?_⟩
    unfold put
    rw [gl_append, if_pos (by omega), List.set_append_left _ _ (by omega)]
  · have et : (it l x).Train = (((it l x).Train.toNat : Nat) : Int) := by omega
    have hle := h3 _ htr
    have ei : idx tr (it l x).Train = some (gl tr (it l x).Train.toNat) := by
      rw [et]; exact idx_gl htr
    refine ⟨_, _, obi em (obi hq (obi (idx_it hx) (obi ei (obi (app_ok (by simp only [List.length_cons, List.length_nil]; omega) (by simp only [List.length_cons, List.length_nil]; omega)) rfl)))), h1, by simp, ?_⟩
    unfold put
    rw [gl_append, if_neg (by omega), List.set_append_right _ _ (by omega)]
    rw [show d - st.length = (it l x).Train.toNat by omega]
theorem yat_new {N : Nat} (hN : 5000 ≤ N) {l : List T_Item} {w s : Nat} {c : List Int} (J : JobOk l w) (P : PlanOk l w s c) {t : Nat} (ht : t ≤ s) {f : Nat → Nat} (hf : ∀ x, x < l.length → ∀ k : Nat, gi c x = (k : Int) → Dst k s t (it l x).Train.toNat (f x))
    {st tr : List (List Int)} (h1 : st.length = s) (h2 : ∀ x, x < l.length → (it l x).Train.toNat < tr.length) {B : Nat} (hB : B ≤ 5000) (h3 : ∀ y, (gl (st ++ tr) y).length ≤ B) {mv : Nat} (hmv : mv ≤ 5000) (pu : Int) :
    ∃ st' tr', iterN (fun x : Int × Int × List (List Int) × List (List Int) => r14_At_l10 N l (w : Int) (s : Int) c (t : Int) pu x.1 x.2.1 x.2.2.1 x.2.2.2) N (0, (mv : Int), st, tr) = some (((mv + (news l t l.length).length : Nat) : Int), st', tr') ∧ st'.length = s ∧ tr'.length = tr.length ∧ st' ++ tr' = pushAll f (st ++ tr) (news l t l.length) := by
  have hl := J.len
  have hs := P.le
  have fl : ∀ x, x < l.length → f x < (st ++ tr).length := fun x hx => by
    obtain ⟨k, hk, _⟩ := P.at_ x hx
    have := dst_lt (hf x hx k hk) (h2 x hx)
    rw [List.length_append]; omega
  obtain ⟨q, hq, q1, q2, q3, q4⟩ := runN (f := fun x : Int × Int × List (List Int) × List (List Int) => r14_At_l10 N l (w : Int) (s : Int) c (t : Int) pu x.1 x.2.1 x.2.2.1 x.2.2.2) l.length
    (fun i x => x.1 = i ∧ x.2.2.1.length = s ∧ x.2.2.2.length = tr.length ∧ x.2.1 = ((mv + (news l t i).length : Nat) : Int) ∧ x.2.2.1 ++ x.2.2.2 = pushAll f (st ++ tr) (news l t i))
    (fun q => q.2.1.length = s ∧ q.2.2.length = tr.length ∧ q.1 = ((mv + (news l t l.length).length : Nat) : Int) ∧ q.2.1 ++ q.2.2 = pushAll f (st ++ tr) (news l t l.length)) (by
    rintro i ⟨i', mv', st', tr'⟩ hi ⟨rfl, g1, g2, rfl, g3⟩
    simp only at g1 g2 g3 ⊢
    left
    have hnl := news_len l t i
    unfold r14_At_l10
    rw [news_succ]
    by_cases h : (it l i).Round = (t : Int)
    · obtain ⟨k, hk, k1, k2⟩ := P.at_ i hi
      have hkk := k2.1
      have hgl : ∀ y, (gl (st' ++ tr') y).length ≤ 10000 := fun y => by
        rw [g3, gl_pushAll (fun x hx => fl x (by have := news_mem hx; omega)), List.length_append, List.length_map]
        have := h3 y
        have := List.length_filter_le (fun x => decide (f x = y)) (news l t i)
        omega
      obtain ⟨st2, tr2, e, e1, e2, e3⟩ := ypush_ok hN (w := w) (c := c) (l := l) (st := st') (tr := tr') P.len hs g1 hi hl hk (by omega) (J.tr i hi).1 (by rw [g2]; exact h2 i hi) (fun y hy => by have := hgl y; rw [gl_append, if_pos hy] at this; exact this) (fun y hy => by have := hgl (st'.length + y); rw [gl_append, if_neg (by omega), show st'.length + y - st'.length = y by omega] at this; exact this) (mv := mv + (news l t i).length) (by omega) pu ht (hf i hi k hk)
      refine ⟨_, oit (decide_eq_true (by omega)) (obi (idx_it hi) (oit (decide_eq_true h) (obi e (obi (inc_nat (by omega)) rfl)))), rfl, e1, by simp only; rw [e2, g2], ?_, ?_⟩
      · simp only
        rw [if_pos h, List.length_append]; rfl
      · simp only
        rw [if_pos h, e3, g3, pushAll_snoc]
    · refine ⟨_, oit (decide_eq_true (by omega)) (obi (idx_it hi) (oif (decide_eq_false h) (obi (inc_nat (by omega)) rfl))), rfl, g1, g2, ?_, ?_⟩
      · simp only; rw [if_neg h]
      · simp only; rw [if_neg h, g3]) (by
    rintro ⟨i', mv', st', tr'⟩ ⟨rfl, g1, g2, rfl, g3⟩
    unfold r14_At_l10
    exact ⟨_, oif (decide_eq_false (by simp only; omega)) rfl, g1, g2, rfl, g3⟩) N (by omega) (0, (mv : Int), st, tr) ⟨rfl, h1, rfl, by simp [news], by simp [news, pushAll]⟩
  refine ⟨q.2.1, q.2.2, ?_, q1, q2, q4⟩
  rw [hq, ← q3]

theorem yat_old {N : Nat} (hN : 5000 ≤ N) {l : List T_Item} {w s : Nat} {c : List Int} (J : JobOk l w) (P : PlanOk l w s c) {t : Nat} (ht : t ≤ s) {f : Nat → Nat} (hf : ∀ x, x < l.length → ∀ k : Nat, gi c x = (k : Int) → Dst k s t (it l x).Train.toNat (f x))
    {st tr : List (List Int)} (h1 : st.length = s) (h2 : ∀ x, x < l.length → (it l x).Train.toNat < tr.length) {B : Nat} (hB : B ≤ 2000) (h3 : ∀ y, (gl (st ++ tr) y).length ≤ B) {mv : Nat} (hmv : mv ≤ 2000) (pu : Int) {xs : List Nat} (hxs : ∀ x ∈ xs, x < l.length) (hxl : xs.length ≤ 2000) :
    ∃ st' tr', iterN (fun x : Int × Int × List (List Int) × List (List Int) => r14_At_l9 N l (w : Int) (s : Int) c (t : Int) pu (xs.map (fun x : Nat => (x : Int))) x.1 x.2.1 x.2.2.1 x.2.2.2) N (0, (mv : Int), st, tr) = some (((mv + xs.length : Nat) : Int), st', tr') ∧ st'.length = s ∧ tr'.length = tr.length ∧ st' ++ tr' = pushAll f (st ++ tr) xs := by
  have hl := J.len
  have hs := P.le
  have fl : ∀ x, x < l.length → f x < (st ++ tr).length := fun x hx => by
    obtain ⟨k, hk, _⟩ := P.at_ x hx
    have := dst_lt (hf x hx k hk) (h2 x hx)
    rw [List.length_append]; omega
  have hml : (xs.map (fun x : Nat => (x : Int))).length = xs.length := List.length_map _
  obtain ⟨q, hq, q1, q2, q3, q4⟩ := runN (f := fun x : Int × Int × List (List Int) × List (List Int) => r14_At_l9 N l (w : Int) (s : Int) c (t : Int) pu (xs.map (fun x : Nat => (x : Int))) x.1 x.2.1 x.2.2.1 x.2.2.2) xs.length
    (fun i x => x.1 = i ∧ x.2.2.1.length = s ∧ x.2.2.2.length = tr.length ∧ x.2.1 = ((mv + i : Nat) : Int) ∧ x.2.2.1 ++ x.2.2.2 = pushAll f (st ++ tr) (xs.take i))
    (fun q => q.2.1.length = s ∧ q.2.2.length = tr.length ∧ q.1 = ((mv + xs.length : Nat) : Int) ∧ q.2.1 ++ q.2.2 = pushAll f (st ++ tr) xs) (by
    rintro i ⟨i', mv', st', tr'⟩ hi ⟨rfl, g1, g2, rfl, g3⟩
    simp only at g1 g2 g3 ⊢
    left
    unfold r14_At_l9
    have hx := hxs xs[i] (List.getElem_mem hi)
    obtain ⟨k, hk, k1, k2⟩ := P.at_ xs[i] hx
    have hkk := k2.1
    have hgl : ∀ y, (gl (st' ++ tr') y).length ≤ 10000 := fun y => by
      rw [g3, gl_pushAll (fun x hx => fl x (hxs x (List.mem_of_mem_take hx))), List.length_append, List.length_map]
      have := h3 y
      have := List.length_filter_le (fun x => decide (f x = y)) (xs.take i)
      rw [List.length_take] at this
      omega
    obtain ⟨st2, tr2, e, e1, e2, e3⟩ := ypush_ok hN (w := w) (c := c) (l := l) (st := st') (tr := tr') P.len hs g1 hx hl hk (by omega) (J.tr _ hx).1 (by rw [g2]; exact h2 _ hx) (fun y hy => by have := hgl y; rw [gl_append, if_pos hy] at this; exact this) (fun y hy => by have := hgl (st'.length + y); rw [gl_append, if_neg (by omega), show st'.length + y - st'.length = y by omega] at this; exact this) (mv := mv + i) (by omega) pu ht (hf _ hx k hk)
    have ei : idx (xs.map (fun x : Nat => (x : Int))) (i : Int) = some ((xs[i] : Nat) : Int) := by
      rw [idx_nat (by rw [hml]; exact hi), List.getElem_map]
    refine ⟨_, oit (decide_eq_true (by rw [hml]; omega)) (obi ei (obi e (obi (inc_nat (by omega)) rfl))), rfl, e1, by simp only; rw [e2, g2], rfl, ?_⟩
    simp only
    rw [e3, g3, take_snoc hi, pushAll_snoc]) (by
    rintro ⟨i', mv', st', tr'⟩ ⟨rfl, g1, g2, rfl, g3⟩
    unfold r14_At_l9
    exact ⟨_, oif (decide_eq_false (by simp only; rw [hml]; omega)) rfl, g1, g2, rfl, by simp only; simp only at g3; rw [g3, List.take_length]⟩) N (by omega) (0, (mv : Int), st, tr) ⟨rfl, h1, rfl, rfl, by simp [pushAll]⟩
  refine ⟨q.2.1, q.2.2, ?_, q1, q2, q4⟩
  rw [hq, ← q3]
theorem ytrains_ok {N : Nat} (hN : 5000 ≤ N) {l : List T_Item} {w : Nat} (J : JobOk l w) : r14_trains N l (w : Int) = some ((trs l l.length : Nat) : Int) := by
  have hl := J.len
  have hq : iterN (fun s : Int × Int => r14_trains_l1 N l s.1 s.2) N (0, 0) = some ((trs l l.length : Nat) : Int) := by
    refine runN1 (f := fun s : Int × Int => r14_trains_l1 N l s.1 s.2) l.length (fun i s => s.2 = i ∧ s.1 = ((trs l i : Nat) : Int)) _ ?_ ?_ N (by omega) (0, 0) ⟨rfl, rfl⟩
    · rintro i ⟨b, i'⟩ hi ⟨rfl, rfl⟩
      have htr := J.tr i hi
      have e : trs l (i + 1) = max (trs l i) ((it l i).Train.toNat + 1) := rfl
      unfold r14_trains_l1
      exact ⟨_, oit (decide_eq_true (by simp only; omega)) (obi (idx_it hi) (obi (in64_ok (by omega)) (obi (inc_nat (by omega)) rfl))), rfl, by simp only; rw [e]; omega⟩
    · rintro ⟨b, i'⟩ ⟨rfl, rfl⟩
      unfold r14_trains_l1
      exact oif (decide_eq_false (by simp only; omega)) rfl
  unfold r14_trains
  exact obi hq rfl
end Go.Gv
