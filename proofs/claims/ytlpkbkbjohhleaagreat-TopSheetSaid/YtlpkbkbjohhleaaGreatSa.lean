/- The machine's whole run: what order it leaves. -/
import Derived.Test.YtlpkbkbjohhleaaGreatTm
namespace Go.Gv
def pushAll (f : Nat → Nat) (C : List (List Int)) (xs : List Nat) : List (List Int) := xs.foldl (fun C x => put C (f x) (x : Int)) C
theorem pushAll_snoc (f : Nat → Nat) (C : List (List Int)) (xs : List Nat) (x : Nat) : pushAll f C (xs ++ [x]) = put (pushAll f C xs) (f x) (x : Int) := by unfold pushAll; rw [List.foldl_append]; rfl
theorem put_len (C : List (List Int)) (d : Nat) (x : Int) : (put C d x).length = C.length := by unfold put; simp
theorem gl_put {C : List (List Int)} {d n : Nat} {x : Int} (h : d < C.length) : gl (put C d x) n = if n = d then gl C d ++ [x] else gl C n := gl_set h
theorem gl_pushAll {f : Nat → Nat} : ∀ {xs : List Nat} {C : List (List Int)}, (∀ x ∈ xs, f x < C.length) → ∀ n, gl (pushAll f C xs) n = gl C n ++ (xs.filter (fun x => f x = n)).map (fun x : Nat => (x : Int)) := by
  intro xs
  induction xs with
  | nil => intro C _ n; simp [pushAll]
  | cons x xs ih =>
    intro C h n
    have hx := h x (List.mem_cons_self)
    have := ih (C := put C (f x) (x : Int)) (fun y hy => by rw [put_len]; exact h y (List.mem_cons_of_mem _ hy)) n
    show gl (pushAll f (put C (f x) (x : Int)) xs) n = _
    rw [this, gl_put hx]
    by_cases e : n = f x
    · rw [if_pos e, List.filter_cons, if_pos (decide_eq_true e.symm), e]; simp
    · rw [if_neg e, List.filter_cons, if_neg (by simp; exact fun h => e h.symm)]
/-- the new items of a time -/
def news (l : List T_Item) (t : Nat) (i : Nat) : List Nat := (List.range i).filter fun x => (it l x).Round = (t : Int)
theorem news_len (l : List T_Item) (t i : Nat) : (news l t i).length ≤ i := by
  have := List.length_filter_le (fun x => decide ((it l x).Round = (t : Int))) (List.range i)
  rw [List.length_range] at this
  exact this
theorem news_mem {l : List T_Item} {t i x : Nat} (h : x ∈ news l t i) : x < i := List.mem_range.1 (List.mem_filter.1 h).1
theorem news_succ (l : List T_Item) (t i : Nat) : news l t (i + 1) = if (it l i).Round = (t : Int) then news l t i ++ [i] else news l t i := by
  unfold news
  rw [List.range_succ, List.filter_append]
  by_cases h : (it l i).Round = (t : Int)
  · rw [if_pos h, List.filter_cons, if_pos (decide_eq_true h)]; rfl
  · rw [if_neg h, List.filter_cons, if_neg (by simp [h])]; simp
theorem at_new {N : Nat} (hN : 5000 ≤ N) {l : List T_Item} {w s : Nat} {c : List Int} (J : JobOk l w) (P : PlanOk l w s c) {t : Nat} (ht : t ≤ s) {f : Nat → Nat} (hf : ∀ x, x < l.length → ∀ k : Nat, gi c x = (k : Int) → Dst k s t (it l x).Train.toNat (f x))
    {st tr : List (List Int)} (h1 : st.length = s) (h2 : ∀ x, x < l.length → (it l x).Train.toNat < tr.length) {B : Nat} (hB : B ≤ 5000) (h3 : ∀ y, (gl (st ++ tr) y).length ≤ B) {mv : Nat} (hmv : mv ≤ 5000) (pu : Int) :
    ∃ st' tr', iterN (fun x : Int × List (List Int) × List (List Int) × Int => machine_at_l3 N l (w : Int) (s : Int) c pu (t : Int) x.1 x.2.1 x.2.2.1 x.2.2.2) N (0, st, tr, (mv : Int)) = some (st', tr', ((mv + (news l t l.length).length : Nat) : Int)) ∧ st'.length = s ∧ tr'.length = tr.length ∧ st' ++ tr' = pushAll f (st ++ tr) (news l t l.length) := by
  have hl := J.len
  have hs := P.le
  have fl : ∀ x, x < l.length → f x < (st ++ tr).length := fun x hx => by
    obtain ⟨k, hk, _⟩ := P.at_ x hx
    have := dst_lt (hf x hx k hk) (h2 x hx)
    rw [List.length_append]; omega
  obtain ⟨q, hq, q1, q2, q3, q4⟩ := runN (f := fun x : Int × List (List Int) × List (List Int) × Int => machine_at_l3 N l (w : Int) (s : Int) c pu (t : Int) x.1 x.2.1 x.2.2.1 x.2.2.2) l.length
    (fun i x => x.1 = i ∧ x.2.1.length = s ∧ x.2.2.1.length = tr.length ∧ x.2.2.2 = ((mv + (news l t i).length : Nat) : Int) ∧ x.2.1 ++ x.2.2.1 = pushAll f (st ++ tr) (news l t i))
    (fun q => q.1.length = s ∧ q.2.1.length = tr.length ∧ q.2.2 = ((mv + (news l t l.length).length : Nat) : Int) ∧ q.1 ++ q.2.1 = pushAll f (st ++ tr) (news l t l.length)) (by
    rintro i ⟨i', st', tr', mv'⟩ hi ⟨rfl, g1, g2, rfl, g3⟩
    simp only at g1 g2 g3 ⊢
    left
    have hnl := news_len l t i
    unfold machine_at_l3
    rw [news_succ]
    by_cases h : (it l i).Round = (t : Int)
    · obtain ⟨k, hk, k1, k2⟩ := P.at_ i hi
      have hkk := k2.1
      have hgl : ∀ y, (gl (st' ++ tr') y).length ≤ 10000 := fun y => by
        rw [g3, gl_pushAll (fun x hx => fl x (by have := news_mem hx; omega)), List.length_append, List.length_map]
        have := h3 y
        have := List.length_filter_le (fun x => decide (f x = y)) (news l t i)
        omega
      obtain ⟨st2, tr2, e, e1, e2, e3⟩ := push_ok hN (w := w) (c := c) (l := l) (st := st') (tr := tr') P.len hs g1 hi hl hk (by omega) (J.tr i hi).1 (by rw [g2]; exact h2 i hi) (fun y hy => by have := hgl y; rw [gl_append, if_pos hy] at this; exact this) (fun y hy => by have := hgl (st'.length + y); rw [gl_append, if_neg (by omega), show st'.length + y - st'.length = y by omega] at this; exact this) (mv := mv + (news l t i).length) (by omega) pu ht (hf i hi k hk)
      refine ⟨_, oit (decide_eq_true (by omega)) (obi (idx_it hi) (oit (decide_eq_true h) (obi e (obi (inc_nat (by omega)) rfl)))), rfl, e1, by simp only; rw [e2, g2], ?_, ?_⟩
      · simp only
        rw [if_pos h, List.length_append]; rfl
      · simp only
        rw [if_pos h, e3, g3, pushAll_snoc]
    · refine ⟨_, oit (decide_eq_true (by omega)) (obi (idx_it hi) (oif (decide_eq_false h) (obi (inc_nat (by omega)) rfl))), rfl, g1, g2, ?_, ?_⟩
      · simp only; rw [if_neg h]
      · simp only; rw [if_neg h, g3]) (by
    rintro ⟨i', st', tr', mv'⟩ ⟨rfl, g1, g2, rfl, g3⟩
    unfold machine_at_l3
    exact ⟨_, oif (decide_eq_false (by simp only; omega)) rfl, g1, g2, rfl, g3⟩) N (by omega) (0, st, tr, (mv : Int)) ⟨rfl, h1, rfl, by simp [news], by simp [news, pushAll]⟩
  refine ⟨q.1, q.2.1, ?_, q1, q2, q4⟩
  rw [hq, ← q3]
theorem at_old {N : Nat} (hN : 5000 ≤ N) {l : List T_Item} {w s : Nat} {c : List Int} (J : JobOk l w) (P : PlanOk l w s c) {t : Nat} (ht : t ≤ s) {f : Nat → Nat} (hf : ∀ x, x < l.length → ∀ k : Nat, gi c x = (k : Int) → Dst k s t (it l x).Train.toNat (f x))
    {st tr : List (List Int)} (h1 : st.length = s) (h2 : ∀ x, x < l.length → (it l x).Train.toNat < tr.length) {B : Nat} (hB : B ≤ 3000) (h3 : ∀ y, (gl (st ++ tr) y).length ≤ B) {mv : Nat} (hmv : mv ≤ 3000) (pu : Int) {xs : List Nat} (hxs : ∀ x ∈ xs, x < l.length) (hxl : xs.length ≤ 3000) :
    ∃ st' tr', iterN (fun x : Int × List (List Int) × List (List Int) × Int => machine_at_l2 N l (w : Int) (s : Int) c pu (t : Int) (xs.map (fun x : Nat => (x : Int))) x.1 x.2.1 x.2.2.1 x.2.2.2) N (0, st, tr, (mv : Int)) = some (st', tr', ((mv + xs.length : Nat) : Int)) ∧ st'.length = s ∧ tr'.length = tr.length ∧ st' ++ tr' = pushAll f (st ++ tr) xs := by
  have hl := J.len
  have hs := P.le
  have fl : ∀ x, x < l.length → f x < (st ++ tr).length := fun x hx => by
    obtain ⟨k, hk, _⟩ := P.at_ x hx
    have := dst_lt (hf x hx k hk) (h2 x hx)
    rw [List.length_append]; omega
  have hml : (xs.map (fun x : Nat => (x : Int))).length = xs.length := List.length_map _
  obtain ⟨q, hq, q1, q2, q3, q4⟩ := runN (f := fun x : Int × List (List Int) × List (List Int) × Int => machine_at_l2 N l (w : Int) (s : Int) c pu (t : Int) (xs.map (fun x : Nat => (x : Int))) x.1 x.2.1 x.2.2.1 x.2.2.2) xs.length
    (fun i x => x.1 = i ∧ x.2.1.length = s ∧ x.2.2.1.length = tr.length ∧ x.2.2.2 = ((mv + i : Nat) : Int) ∧ x.2.1 ++ x.2.2.1 = pushAll f (st ++ tr) (xs.take i))
    (fun q => q.1.length = s ∧ q.2.1.length = tr.length ∧ q.2.2 = ((mv + xs.length : Nat) : Int) ∧ q.1 ++ q.2.1 = pushAll f (st ++ tr) xs) (by
    rintro i ⟨i', st', tr', mv'⟩ hi ⟨rfl, g1, g2, rfl, g3⟩
    simp only at g1 g2 g3 ⊢
    left
    unfold machine_at_l2
    have hx := hxs xs[i] (List.getElem_mem hi)
    obtain ⟨k, hk, k1, k2⟩ := P.at_ xs[i] hx
    have hkk := k2.1
    have hgl : ∀ y, (gl (st' ++ tr') y).length ≤ 10000 := fun y => by
      rw [g3, gl_pushAll (fun x hx => fl x (hxs x (List.mem_of_mem_take hx))), List.length_append, List.length_map]
      have := h3 y
      have := List.length_filter_le (fun x => decide (f x = y)) (xs.take i)
      rw [List.length_take] at this
      omega
    obtain ⟨st2, tr2, e, e1, e2, e3⟩ := push_ok hN (w := w) (c := c) (l := l) (st := st') (tr := tr') P.len hs g1 hx hl hk (by omega) (J.tr _ hx).1 (by rw [g2]; exact h2 _ hx) (fun y hy => by have := hgl y; rw [gl_append, if_pos hy] at this; exact this) (fun y hy => by have := hgl (st'.length + y); rw [gl_append, if_neg (by omega), show st'.length + y - st'.length = y by omega] at this; exact this) (mv := mv + i) (by omega) pu ht (hf _ hx k hk)
    have ei : idx (xs.map (fun x : Nat => (x : Int))) (i : Int) = some ((xs[i] : Nat) : Int) := by
      rw [idx_nat (by rw [hml]; exact hi), List.getElem_map]
    refine ⟨_, oit (decide_eq_true (by rw [hml]; omega)) (obi ei (obi e (obi (inc_nat (by omega)) rfl))), rfl, e1, by simp only; rw [e2, g2], rfl, ?_⟩
    simp only
    rw [e3, g3, take_snoc hi, pushAll_snoc]) (by
    rintro ⟨i', st', tr', mv'⟩ ⟨rfl, g1, g2, rfl, g3⟩
    unfold machine_at_l2
    exact ⟨_, oif (decide_eq_false (by simp only; rw [hml]; omega)) rfl, g1, g2, rfl, by simp only; simp only at g3; rw [g3, List.take_length]⟩) N (by omega) (0, st, tr, (mv : Int)) ⟨rfl, h1, rfl, rfl, by simp [pushAll]⟩
  refine ⟨q.1, q.2.1, ?_, q1, q2, q4⟩
  rw [hq, ← q3]
def cd (c : List Int) (x : Nat) : Nat := (gi c x).toNat
/-- x before y by the low bits of their codes, then by their numbers -/
def Lex (c : List Int) (t x y : Nat) : Prop := cd c x % 2 ^ t < cd c y % 2 ^ t ∨ (cd c x % 2 ^ t = cd c y % 2 ^ t ∧ x < y)
/-- the tracks behind the pushes of the times before t -/
structure Inv (l : List T_Item) (s : Nat) (c : List Int) (t : Nat) (C : List (List Int)) (L : Nat → List Nat) : Prop where
  eq : ∀ n, gl C n = (L n).map (fun x : Nat => (x : Int))
  mem : ∀ n x, x ∈ L n → x < l.length ∧ (it l x).Round < (t : Int) ∧ Dst (cd c x) s (t - 1) (it l x).Train.toNat n
  ord : ∀ n, (L n).Pairwise (Lex c (t - 1))
  all : ∀ x, x < l.length → (it l x).Round < (t : Int) → ∃ n, x ∈ L n
theorem bit_low {k t : Nat} (h : k / 2 ^ t % 2 = 0) : k % 2 ^ (t + 1) = k % 2 ^ t := by
  rw [Nat.pow_succ, Nat.mod_mul, h, Nat.mul_zero, Nat.add_zero]
theorem bit_high {k t : Nat} (h : k / 2 ^ t % 2 = 1) : k % 2 ^ (t + 1) = k % 2 ^ t + 2 ^ t := by
  rw [Nat.pow_succ, Nat.mod_mul, h, Nat.mul_one]
theorem dst_next {k s t tr n : Nat} (h : Dst k s t tr n) (hn : n ≠ t) (ht : t < s) : k / 2 ^ t % 2 = 0 ∧ Dst k s (t + 1) tr n := by
  rcases h with ⟨h1, h2, h3, h4⟩ | ⟨h1, h2⟩
  · exact ⟨h4 t (Nat.le_refl _) (by omega), .inl ⟨by omega, h2, h3, fun b b1 b2 => h4 b (by omega) b2⟩⟩
  · exact ⟨h2 t (Nat.le_refl _) ht, .inr ⟨h1, fun b b1 b2 => h2 b (by omega) b2⟩⟩
theorem dst_this {k s t tr : Nat} (h : Dst k s t tr t) (ht : t < s) : k / 2 ^ t % 2 = 1 := by
  rcases h with ⟨h1, h2, h3, h4⟩ | ⟨h1, h2⟩
  · exact h3
  · omega
/-- the items that a time pushes again -/
def olds (L : Nat → List Nat) (t : Nat) : List Nat := if t = 0 then [] else L (t - 1)
def keep (L : Nat → List Nat) (t n : Nat) : List Nat := if t ≠ 0 ∧ n = t - 1 then [] else L n
theorem inv_step {l : List T_Item} {w s : Nat} {c : List Int} (J : JobOk l w) (P : PlanOk l w s c) {t : Nat} (ht : t ≤ s) {C C1 C2 : List (List Int)} {L : Nat → List Nat} (I : Inv l s c t C L) (hC1 : C1 = if t = 0 then C else C.set (t - 1) []) (hlen : s ≤ C.length) {f : Nat → Nat} (hf : ∀ x, x < l.length → Dst (cd c x) s t (it l x).Train.toNat (f x)) (hfl : ∀ x, x < l.length → f x < C.length) (hC2 : C2 = pushAll f C1 (olds L t ++ news l t l.length)) :
    Inv l s c (t + 1) C2 fun n => keep L t n ++ (olds L t ++ news l t l.length).filter (fun x => f x = n) := by
  have hold : ∀ x ∈ olds L t, x < l.length ∧ (it l x).Round < (t : Int) ∧ 0 < t ∧ cd c x % 2 ^ t = cd c x % 2 ^ (t - 1) + 2 ^ (t - 1) := fun x hx => by
    unfold olds at hx
    by_cases h0 : t = 0
    · rw [if_pos h0] at hx; exact absurd hx (by simp)
    · rw [if_neg h0] at hx
      obtain ⟨m1, m2, m3⟩ := I.mem _ x hx
      have := bit_high (dst_this m3 (by omega))
      rw [show t - 1 + 1 = t by omega] at this
      exact ⟨m1, m2, by omega, this⟩
  have hkeep : ∀ n, ∀ x ∈ keep L t n, x ∈ L n ∧ 0 < t ∧ cd c x % 2 ^ t = cd c x % 2 ^ (t - 1) ∧ Dst (cd c x) s t (it l x).Train.toNat n := fun n x hx => by
    unfold keep at hx
    by_cases h : t ≠ 0 ∧ n = t - 1
    · rw [if_pos h] at hx; exact absurd hx (by simp)
    · rw [if_neg h] at hx
      obtain ⟨m1, m2, m3⟩ := I.mem _ x hx
      have hr := J.rd x m1
      have h0 : 0 < t := by omega
      obtain ⟨d1, d2⟩ := dst_next m3 (fun e => h ⟨by omega, e⟩) (by omega)
      have := bit_low d1
      rw [show t - 1 + 1 = t by omega] at this d2
      exact ⟨hx, h0, this, d2⟩
  have hnew : ∀ x ∈ news l t l.length, x < l.length ∧ (it l x).Round = (t : Int) ∧ cd c x % 2 ^ t = 2 ^ t - 1 := fun x hx => by
    have h1 := news_mem hx
    have h2 : (it l x).Round = (t : Int) := of_decide_eq_true (List.mem_filter.1 hx).2
    obtain ⟨k, hk, _, k2⟩ := P.at_ x h1
    have er : rdN l x = t := by unfold rdN; rw [h2]; rfl
    have := k2.2.1
    rw [er] at this
    exact ⟨h1, h2, by unfold cd; rw [hk, Int.toNat_natCast]; exact this⟩
  have hpw : 1 ≤ 2 ^ t := Nat.one_le_two_pow
  have lt_new : ∀ x y, x < l.length → (it l x).Round < (t : Int) → y ∈ news l t l.length → Lex c t x y := fun x y hx hr hy => by
    obtain ⟨y1, y2, y3⟩ := hnew y hy
    have hm := Nat.mod_lt (cd c x) (show 0 < 2 ^ t by omega)
    have hxy : x < y := by
      rcases Nat.lt_or_ge x y with h | h
      · exact h
      · rcases Nat.lt_or_ge y x with h' | h'
        · have := J.as y x h' hx; omega
        · have : x = y := by omega
          subst this; omega
    unfold Lex
    rw [y3]
    omega
  have all : ∀ x ∈ olds L t ++ news l t l.length, x < l.length ∧ (it l x).Round < ((t + 1 : Nat) : Int) := fun x hx => by
    rcases List.mem_append.1 hx with h | h
    · have := hold x h; exact ⟨this.1, by omega⟩
    · have := hnew x h; exact ⟨this.1, by omega⟩
  have hgC1 : ∀ n, gl C1 n = (keep L t n).map (fun x : Nat => (x : Int)) := fun n => by
    rw [hC1]
    unfold keep
    by_cases h0 : t = 0
    · rw [if_pos h0, if_neg (by omega)]; exact I.eq n
    · rw [if_neg h0, gl_set (by omega)]
      by_cases h : n = t - 1
      · rw [if_pos h, if_pos ⟨h0, h⟩]; rfl
      · rw [if_neg h, if_neg (fun e => h e.2)]; exact I.eq n
  have hC1l : C1.length = C.length := by rw [hC1]; split <;> simp
  refine ⟨fun n => ?_, fun n x hx => ?_, fun n => ?_, fun x hx hr => ?_⟩
  rotate_left 3
  · by_cases e : (it l x).Round = (t : Int)
    · exact ⟨f x, List.mem_append_right _ (List.mem_filter.2 ⟨List.mem_append_right _ (List.mem_filter.2 ⟨List.mem_range.2 hx, decide_eq_true e⟩), decide_eq_true rfl⟩)⟩
    · obtain ⟨n, hn⟩ := I.all x hx (by omega)
      by_cases h : t ≠ 0 ∧ n = t - 1
      · exact ⟨f x, List.mem_append_right _ (List.mem_filter.2 ⟨List.mem_append_left _ (by unfold olds; rw [if_neg h.1, ← h.2]; exact hn), decide_eq_true rfl⟩)⟩
      · exact ⟨n, List.mem_append_left _ (by unfold keep; rw [if_neg h]; exact hn)⟩
  · rw [hC2, gl_pushAll (fun x hx => by rw [hC1l]; exact hfl x (all x hx).1), hgC1, List.map_append]
  · rw [show t + 1 - 1 = t by omega]
    rcases List.mem_append.1 hx with h | h
    · obtain ⟨k1, k2, k3, k4⟩ := hkeep n x h
      obtain ⟨m1, m2, _⟩ := I.mem n x k1
      exact ⟨m1, by omega, k4⟩
    · obtain ⟨h1, h2⟩ := List.mem_filter.1 h
      have ha := all x h1
      have e : f x = n := of_decide_eq_true h2
      exact ⟨ha.1, ha.2, by rw [← e]; exact hf x ha.1⟩
  · rw [show t + 1 - 1 = t by omega]
    rw [List.filter_append, ← List.append_assoc, List.pairwise_append, List.pairwise_append]
    refine ⟨⟨?_, ?_, fun x hx y hy => ?_⟩, ?_, fun x hx y hy => ?_⟩
    · have hp : (keep L t n).Pairwise (Lex c (t - 1)) := by
        unfold keep; split
        · exact List.Pairwise.nil
        · exact I.ord n
      refine hp.imp_of_mem fun {a b} ha hb hab => ?_
      have h1 := (hkeep n a ha).2.2.1
      have h2 := (hkeep n b hb).2.2.1
      unfold Lex; rw [h1, h2]; exact hab
    · have hp : (olds L t).Pairwise (Lex c (t - 1)) := by
        unfold olds; split
        · exact List.Pairwise.nil
        · exact I.ord _
      refine (hp.filter _).imp_of_mem fun {a b} ha hb hab => ?_
      have h1 := (hold a (List.mem_filter.1 ha).1).2.2.2
      have h2 := (hold b (List.mem_filter.1 hb).1).2.2.2
      unfold Lex at hab ⊢
      rw [h1, h2]; omega
    · have h1 := hkeep n x hx
      have h2 := hold y (List.mem_filter.1 hy).1
      have hm := Nat.mod_lt (cd c x) (show 0 < 2 ^ (t - 1) from Nat.two_pow_pos _)
      unfold Lex
      rw [h1.2.2.1, h2.2.2.2]; omega
    · refine List.Pairwise.filter _ ?_
      have hr : (List.range l.length).Pairwise (· < ·) := List.pairwise_lt_range
      refine (List.Pairwise.filter _ hr).imp_of_mem fun {a b} ha hb hab => ?_
      have h1 := (hnew a ha).2.2
      have h2 := (hnew b hb).2.2
      unfold Lex
      rw [h1, h2]; exact .inr ⟨rfl, hab⟩
    · have hy2 := (List.mem_filter.1 hy).1
      rcases List.mem_append.1 hx with h | h
      · have k := hkeep n x h
        have m := I.mem n x k.1
        exact lt_new x y m.1 m.2.1 hy2
      · have k := hold x (List.mem_filter.1 h).1
        exact lt_new x y k.1 k.2.1 hy2

theorem nodup_len : ∀ (m : Nat) (L : List Nat), L.Nodup → (∀ x ∈ L, x < m) → L.length ≤ m := by
  intro m
  induction m with
  | zero =>
    intro L _ h
    cases L with
    | nil => exact Nat.le_refl _
    | cons x L => exact absurd (h x (List.mem_cons_self)) (Nat.not_lt_zero _)
  | succ m ih =>
    intro L hn h
    have h1 := ih (L.erase m) (hn.erase m) fun x hx => by
      have h2 := (List.Nodup.mem_erase_iff hn).1 hx
      have := h x h2.2
      omega
    have h2 := List.length_erase (a := m) (l := L)
    split at h2 <;> omega
theorem Inv.len {l : List T_Item} {s : Nat} {c : List Int} {t : Nat} {C : List (List Int)} {L : Nat → List Nat} (I : Inv l s c t C L) (n : Nat) : (L n).length ≤ l.length :=
  nodup_len _ _ ((I.ord n).imp fun {a b} h e => by subst e; unfold Lex at h; omega) fun x hx => (I.mem n x hx).1
theorem run_ok {N : Nat} (hN : 5000 ≤ N) {l : List T_Item} {w s : Nat} {c : List Int} (J : JobOk l w) (P : PlanOk l w s c) :
    ∃ (tr : List (List Int)) (mv : Int) (L : Nat → List Nat), rollin_Run N l (w : Int) (s : Int) c = some (tr, mv, 0) ∧ tr.length = trs l l.length ∧ (∀ T, gl tr T = (L T).map (fun x : Nat => (x : Int))) ∧ (∀ T x, x ∈ L T → x < l.length ∧ (it l x).Train.toNat = T) ∧ (∀ T, (L T).Pairwise (Lex c s)) ∧ (∀ x, x < l.length → (it l x).Round ≤ (s : Int) → x ∈ L (it l x).Train.toNat) ∧ (0 ≤ mv ∧ mv ≤ 3000) ∧ ∃ pu, rollin_Pushes N l (w : Int) (s : Int) c = some (pu, 0) := by
  have hl := J.len
  have hs := P.le
  have htl : ∀ x, x < l.length → (it l x).Train.toNat < trs l l.length := fun x hx => trs_lt hx
  have htr : trs l l.length ≤ 16 := trs_le (m := 15) fun i hi => by have := J.tr i hi; omega
  obtain ⟨q, hq, L, q1, q2, q3, q4⟩ := runN (f := fun x : Int × Int × Int × List (List Int) × List (List Int) => rollin_run_l1 N l c (s : Int) ((w : Int), (s : Int), List.replicate s [], List.replicate (trs l l.length) [], 0, 0) x.1 x.2.1 x.2.2.1 x.2.2.2.1 x.2.2.2.2) (s + 1)
    (fun t x => x.1 = t ∧ (∃ mv : Nat, x.2.1 = mv ∧ mv ≤ 2 * l.length * t) ∧ (0 ≤ x.2.2.1 ∧ x.2.2.1 ≤ t) ∧ x.2.2.2.1.length = s ∧ x.2.2.2.2.length = trs l l.length ∧ ∃ L, Inv l s c t (x.2.2.2.1 ++ x.2.2.2.2) L)
    (fun q => ∃ L, q.2.2.1.length = s ∧ q.2.2.2.length = trs l l.length ∧ Inv l s c (s + 1) (q.2.2.1 ++ q.2.2.2) L ∧ 0 ≤ q.1 ∧ q.1 ≤ 3000) (by
    rintro t ⟨t', mv', pu, st, tr⟩ hts ⟨rfl, ⟨mv, rfl, hmv⟩, hpu, g1, g2, L, I⟩
    simp only at hmv hpu g1 g2 I ⊢
    left
    have hts' : t ≤ s := by omega
    have hmv1 : 2 * l.length * t ≤ 2 * 96 * 12 := Nat.mul_le_mul (by omega) (by omega)
    obtain ⟨f, hf⟩ : ∃ f : Nat → Nat, ∀ x, Dst (cd c x) s t (it l x).Train.toNat (f x) := Classical.axiomOfChoice fun x => dst_ex (cd c x) s (it l x).Train.toNat (s - t) t rfl
    have hfk : ∀ x, x < l.length → ∀ k : Nat, gi c x = (k : Int) → Dst k s t (it l x).Train.toNat (f x) := fun x hx k hk => by
      have := hf x
      unfold cd at this
      rw [hk, Int.toNat_natCast] at this
      exact this
    have hlen : (st ++ tr).length = s + trs l l.length := by rw [List.length_append, g1, g2]
    have hfl : ∀ x, x < l.length → f x < (st ++ tr).length := fun x hx => by rw [hlen]; exact dst_lt (hf x) (htl x hx)
    have hB : ∀ y, (gl (st ++ tr) y).length ≤ l.length := fun y => by rw [I.eq, List.length_map]; exact I.len y
    have hol : (olds L t).length ≤ l.length := by
      unfold olds; split
      · simp
      · exact I.len _
    have holm : ∀ x ∈ olds L t, x < l.length := fun x hx => by
      unfold olds at hx
      by_cases h0 : t = 0
      · rw [if_pos h0] at hx; exact absurd hx (by simp)
      · rw [if_neg h0] at hx; exact (I.mem _ x hx).1
    obtain ⟨st1, tr1, C1, e1, f1, f2, f3, f4⟩ : ∃ (st1 tr1 C1 : List (List Int)), (bif decide (0 < (t : Int)) then (
        Option.bind (in64 ((t : Int) - 1)) fun x508 =>
        Option.bind (idx st x508) fun x511 =>
        Option.bind (iterN (fun s_1 : Int × List (List Int) × List (List Int) × Int => machine_at_l2 N l (w : Int) (s : Int) c pu (t : Int) x511 s_1.1 s_1.2.1 s_1.2.2.1 s_1.2.2.2) N (0, (List.set st (Int.toNat x508) []), tr, (mv : Int))) fun r594 =>
        some (r594.1, r594.2.1, r594.2.2)) else (some (st, tr, (mv : Int)))) = some (st1, tr1, ((mv + (olds L t).length : Nat) : Int)) ∧ st1.length = s ∧ tr1.length = trs l l.length ∧ C1 = (if t = 0 then st ++ tr else (st ++ tr).set (t - 1) []) ∧ st1 ++ tr1 = pushAll f C1 (olds L t) := by
      by_cases h0 : t = 0
      · subst h0
        exact ⟨st, tr, st ++ tr, oif rfl rfl, g1, g2, by simp, by simp [olds, pushAll]⟩
      · have eo : olds L t = L (t - 1) := if_neg h0
        have ei : idx st ((t - 1 : Nat) : Int) = some ((olds L t).map (fun x : Nat => (x : Int))) := by
          rw [idx_gl (by omega), eo, ← I.eq (t - 1), gl_append, if_pos (by omega)]
        have hsl : st.set (t - 1) [] ++ tr = (st ++ tr).set (t - 1) [] := by rw [List.set_append_left _ _ (by omega)]
        obtain ⟨st1, tr1, e, u1, u2, u3⟩ := at_old hN J P hts' hfk (st := st.set (t - 1) []) (tr := tr) (by simpa using g1) (by rw [g2]; exact htl) (B := l.length) (by omega) (fun y => by
          rw [hsl, gl_set (by rw [hlen]; omega)]
          split
          · simp
          · exact hB y) (mv := mv) (by omega) pu (xs := olds L t) holm (by omega)
        exact ⟨st1, tr1, (st ++ tr).set (t - 1) [], oit (decide_eq_true (by omega)) (obi (sub1n (by omega) (by omega)) (obi ei (obi (by rw [Int.toNat_natCast]; exact e) rfl))), u1, by rw [u2, g2], by rw [if_neg h0], by rw [u3, hsl]⟩
    have hC1l : C1.length = (st ++ tr).length := by rw [f3]; split <;> simp
    have hB1 : ∀ y, (gl (st1 ++ tr1) y).length ≤ 2 * l.length := fun y => by
      rw [f4, gl_pushAll (fun x hx => by rw [hC1l]; exact hfl x (holm x hx)), List.length_append, List.length_map]
      have h1 := List.length_filter_le (fun x => decide (f x = y)) (olds L t)
      have h2 : (gl C1 y).length ≤ l.length := by
        rw [f3]
        by_cases h0 : t = 0
        · rw [if_pos h0]; exact hB y
        · rw [if_neg h0, gl_set (by rw [hlen]; omega)]
          split
          · simp
          · exact hB y
      omega
    obtain ⟨st2, tr2, e2, u1, u2, u3⟩ := at_new hN J P hts' hfk (st := st1) (tr := tr1) f1 (by rw [f2]; exact htl) (B := 2 * l.length) (by omega) hB1 (mv := mv + (olds L t).length) (by omega) pu
    have hnl := news_len l t l.length
    have hI := inv_step J P hts' I f3 (by rw [hlen]; omega) (f := f) (fun x hx => hf x) hfl (C2 := st2 ++ tr2) (by rw [u3, f4]; unfold pushAll; rw [List.foldl_append])
    have hmul : 2 * l.length * (t + 1) = 2 * l.length * t + 2 * l.length := Nat.mul_succ _ _
    have hat : ∃ pu' : Int, machine_at N l (w : Int) (s : Int) c st tr (mv : Int) pu (t : Int) = some (st2, tr2, ((mv + (olds L t).length + (news l t l.length).length : Nat) : Int), pu') ∧ 0 ≤ pu' ∧ pu' ≤ t + 1 := by
      unfold machine_at
      by_cases hm : (mv : Int) < ((mv + (olds L t).length + (news l t l.length).length : Nat) : Int)
      · exact ⟨_, obi e1 (obi e2 (oit (decide_eq_true hm) (obi (in64_ok (by omega)) rfl))), by omega, by omega⟩
      · exact ⟨_, obi e1 (obi e2 (oif (decide_eq_false hm) rfl)), by omega, by omega⟩
    obtain ⟨pu', hat, p1, p2⟩ := hat
    unfold rollin_run_l1
    exact ⟨_, oit (decide_eq_true (by omega)) (obi hat (obi (inc_nat (by omega)) rfl)), rfl, ⟨_, rfl, by omega⟩, by simp only; omega, u1, by rw [u2, f2], _, hI⟩) (by
    rintro ⟨t', mv', pu, st, tr⟩ ⟨rfl, ⟨mv, rfl, hmv⟩, hpu, g1, g2, L, I⟩
    unfold rollin_run_l1
    have hmv1 : 2 * l.length * (s + 1) ≤ 2 * 96 * 13 := Nat.mul_le_mul (by omega) (by omega)
    exact ⟨_, oif (decide_eq_false (by simp only; omega)) rfl, L, g1, g2, I, by simp only; omega, by simp only; omega⟩) N (by omega) (0, 0, 0, List.replicate s [], List.replicate (trs l l.length) []) ⟨rfl, ⟨0, rfl, by omega⟩, ⟨Int.le_refl _, Int.le_refl _⟩, by simp, by simp, fun _ => [], ⟨fun n => by rw [gl_append]; split <;> exact gl_rep _ _, fun n x h => absurd h (by simp), fun n => List.Pairwise.nil, fun x hx h => by have := J.rd x hx; omega⟩⟩
  have hrun : rollin_run N l (w : Int) (s : Int) c (s : Int) = some ((w : Int), (s : Int), q.2.2.1, q.2.2.2, q.1, q.2.1) := by
    unfold rollin_run
    exact obi (start_ok hN c J hs) (obi hq rfl)
  refine ⟨q.2.2.2, q.1, fun T => L (s + T), ?_, q2, fun T => ?_, fun T x hx => ?_, fun T => q3.ord _, fun x hx hr => ?_, q4, q.2.1, ?_⟩
  rotate_left 3
  · obtain ⟨n, hn⟩ := q3.all x hx (by omega)
    obtain ⟨_, _, m3⟩ := q3.mem _ x hn
    rcases m3 with ⟨h1, h, _⟩ | ⟨h, _⟩
    · omega
    · show x ∈ L (s + (it l x).Train.toNat)
      rw [← h]; exact hn
  · unfold rollin_Pushes
    exact obi (rvalid_ok hN J P) (oif rfl (obi hrun rfl))
  · unfold rollin_Run
    exact obi (rvalid_ok hN J P) (oif rfl (obi hrun rfl))
  · have := q3.eq (s + T)
    rw [gl_append, if_neg (by omega), q1, show s + T - s = T by omega] at this
    exact this
  · obtain ⟨m1, _, m3⟩ := q3.mem _ x hx
    refine ⟨m1, ?_⟩
    rcases m3 with ⟨_, h, _⟩ | ⟨h, _⟩ <;> omega
end Go.Gv
