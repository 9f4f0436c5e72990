/- The theory of the library's stable sort: rotation by swaps, merging in place. It names nothing of a program. -/
import Derived.Test.YtlpkbkbjohhleaaGreatPw
namespace Go.Gv.SC

/-- g is f with the parts [s, m) and [m, e) exchanged. -/
structure Rot {α : Type} (f g : Nat → α) (s m e : Nat) : Prop where
  out : ∀ k, k < s ∨ e ≤ k → g k = f k
  lo : ∀ k, s ≤ k → k < s + (e - m) → g k = f (k + (m - s))
  hi : ∀ k, s + (e - m) ≤ k → k < e → g k = f (k - (e - m))
/-- g is f with [p, p + n) and [q, q + n) exchanged. -/
structure Swp {α : Type} (f g : Nat → α) (p q n : Nat) : Prop where
  out : ∀ k, ¬ (p ≤ k ∧ k < p + n) → ¬ (q ≤ k ∧ k < q + n) → g k = f k
  lo : ∀ k, k < n → g (p + k) = f (q + k)
  hi : ∀ k, k < n → g (q + k) = f (p + k)
theorem Swp.lo' {α : Type} {f g : Nat → α} {p q n k : Nat} (h : Swp f g p q n) (h1 : p ≤ k) (h2 : k < p + n) : g k = f (k - p + q) := by
  have := h.lo (k - p) (by omega)
  rw [show p + (k - p) = k by omega] at this
  rw [this, Nat.add_comm]
theorem Swp.hi' {α : Type} {f g : Nat → α} {p q n k : Nat} (h : Swp f g p q n) (h1 : q ≤ k) (h2 : k < q + n) : g k = f (k - q + p) := by
  have := h.hi (k - q) (by omega)
  rw [show q + (k - q) = k by omega] at this
  rw [this, Nat.add_comm]
/-- rotating by swaps: the left part is the longer one -/
theorem rot_left {α : Type} {f f' g : Nat → α} {m i j : Nat} (hi : j < i) (him : i ≤ m) (h : Swp f f' (m - i) m j) (r : Rot f' g (m - (i - j)) m (m + j)) : Rot f g (m - i) m (m + j) := by
  refine ⟨fun k hk => ?_, fun k h1 h2 => ?_, fun k h1 h2 => ?_⟩
  · rw [r.out k (by omega), h.out k (by omega) (by omega)]
  · rw [r.out k (by omega), h.lo' (by omega) (by omega)]
    congr 1; omega
  · by_cases hk : k < m - (i - j) + (m + j - m)
    · rw [r.lo k (by omega) hk, h.hi' (by omega) (by omega)]
      congr 1; omega
    · rw [r.hi k (by omega) (by omega), h.out _ (by omega) (by omega)]
/-- the right part is the longer one -/
theorem rot_right {α : Type} {f f' g : Nat → α} {m i j : Nat} (hij : i < j) (him : i ≤ m) (h : Swp f f' (m - i) (m + j - i) i) (r : Rot f' g (m - i) m (m + (j - i))) : Rot f g (m - i) m (m + j) := by
  refine ⟨fun k hk => ?_, fun k h1 h2 => ?_, fun k h1 h2 => ?_⟩
  · rw [r.out k (by omega), h.out k (by omega) (by omega)]
  · by_cases hk : k < m - i + (m + (j - i) - m)
    · rw [r.lo k (by omega) hk, h.out _ (by omega) (by omega)]
    · rw [r.hi k (by omega) (by omega), h.lo' (by omega) (by omega)]
      congr 1; omega
  · rw [r.out k (by omega), h.hi' (by omega) (by omega)]
    congr 1; omega
/-- both parts are equal -/
theorem rot_eq {α : Type} {f g : Nat → α} {m i : Nat} (him : i ≤ m) (h : Swp f g (m - i) m i) : Rot f g (m - i) m (m + i) := by
  refine ⟨fun k hk => h.out k (by omega) (by omega), fun k h1 h2 => ?_, fun k h1 h2 => ?_⟩
  · rw [h.lo' (by omega) (by omega)]; congr 1; omega
  · rw [h.hi' (by omega) (by omega)]; congr 1; omega

section
variable {α : Type} {lt : α → α → Bool}
/-- An order whose negation is transitive ('not below' is a preorder), and asymmetric. -/
structure Ord (lt : α → α → Bool) : Prop where
  tr : ∀ x y z, lt y x = false → lt z y = false → lt z x = false
  asy : ∀ x y, lt x y = true → lt y x = false
def SortedOn (lt : α → α → Bool) (f : Nat → α) (a b : Nat) : Prop := ∀ i j, a ≤ i → i < j → j < b → lt (f j) (f i) = false
theorem SortedOn.le {f : Nat → α} {a b i j : Nat} (o : Ord lt) (h : SortedOn lt f a b) (h1 : a ≤ i) (h2 : i ≤ j) (h3 : j < b) : lt (f j) (f i) = false := by
  by_cases e : i = j
  · subst e
    cases h0 : lt (f i) (f i) with
    | false => rfl
    | true => have := o.asy _ _ h0; rw [h0] at this; cases this
  · exact h i j h1 (by omega) h3
/-- every element of [a, b) stood there before, and nothing else has changed -/
structure Within (f g : Nat → α) (a b : Nat) : Prop where
  out : ∀ k, k < a ∨ b ≤ k → g k = f k
  from_ : ∀ k, a ≤ k → k < b → ∃ j, a ≤ j ∧ j < b ∧ g k = f j
theorem Within.refl (f : Nat → α) (a b : Nat) : Within f f a b := ⟨fun _ _ => rfl, fun k h1 h2 => ⟨k, h1, h2, rfl⟩⟩
theorem Within.trans {f g h : Nat → α} {a b : Nat} (p : Within f g a b) (q : Within g h a b) : Within f h a b := by
  refine ⟨fun k hk => by rw [q.out k hk, p.out k hk], fun k h1 h2 => ?_⟩
  obtain ⟨j, h3, h4, h5⟩ := q.from_ k h1 h2
  obtain ⟨i, h6, h7, h8⟩ := p.from_ j h3 h4
  exact ⟨i, h6, h7, by rw [h5, h8]⟩
theorem Within.wide {f g : Nat → α} {a b a' b' : Nat} (p : Within f g a b) (h1 : a' ≤ a) (h2 : b ≤ b') : Within f g a' b' := by
  refine ⟨fun k hk => p.out k (by omega), fun k h3 h4 => ?_⟩
  by_cases hk : a ≤ k ∧ k < b
  · obtain ⟨j, h5, h6, h7⟩ := p.from_ k hk.1 hk.2
    exact ⟨j, by omega, by omega, h7⟩
  · exact ⟨k, h3, h4, p.out k (by omega)⟩
theorem Rot.within {f g : Nat → α} {s m e : Nat} (r : Rot f g s m e) (h1 : s ≤ m) (h2 : m ≤ e) : Within f g s e := by
  refine ⟨r.out, fun k h3 h4 => ?_⟩
  by_cases hk : k < s + (e - m)
  · exact ⟨_, by omega, by omega, r.lo k h3 hk⟩
  · exact ⟨_, by omega, by omega, r.hi k (by omega) h4⟩

/-- One step of merging: 'start' was found by halving, the middle parts are exchanged. -/
theorem merge_step (o : Ord lt) {f g : Nat → α} {a m b mid start e s0 r0 : Nat} (ham : a < m) (hL : SortedOn lt f a m) (hR : SortedOn lt f m b)
    (hs0 : s0 = if mid < m then mid + m - b else a) (hr0 : r0 = if mid < m then mid else m) (he : start + e = mid + m)
    (hs1 : a ≤ start ∧ start ≤ m) (he1 : m ≤ e ∧ e ≤ b)
    (hlow : s0 < start → lt (f e) (f (start - 1)) = false) (hup : start < r0 → lt (f (e - 1)) (f start) = true) (r : Rot f g start m e) :
    (SortedOn lt g a start ∧ SortedOn lt g start mid ∧ SortedOn lt g mid e ∧ SortedOn lt g e b) ∧ ∀ i j, a ≤ i → i < mid → mid ≤ j → j < b → lt (g j) (g i) = false := by
  have hm1 : start + (e - m) = mid := by omega
  have gL : ∀ k, k < start → g k = f k := fun k hk => r.out k (.inl hk)
  have gR : ∀ k, e ≤ k → g k = f k := fun k hk => r.out k (.inr hk)
  have gA : ∀ k, start ≤ k → k < mid → g k = f (k + (m - start)) := fun k h1 h2 => r.lo k h1 (by omega)
  have gB : ∀ k, mid ≤ k → k < e → g k = f (k - (e - m)) := fun k h1 h2 => r.hi k (by omega) h2
  refine ⟨⟨fun i j h1 h2 h3 => ?_, fun i j h1 h2 h3 => ?_, fun i j h1 h2 h3 => ?_, fun i j h1 h2 h3 => ?_⟩, fun i j h1 h2 h3 h4 => ?_⟩
  · rw [gL i (by omega), gL j (by omega)]; exact hL i j h1 h2 (by omega)
  · rw [gA i h1 (by omega), gA j (by omega) h3]; exact hR _ _ (by omega) (by omega) (by omega)
  · rw [gB i h1 (by omega), gB j (by omega) h3]; exact hL _ _ (by omega) (by omega) (by omega)
  · rw [gR i h1, gR j (by omega)]; exact hR i j (by omega) h2 h3
  · by_cases hi : i < start
    · by_cases hj : j < e
      · rw [gL i hi, gB j h3 hj]; exact hL.le o h1 (by omega) (by omega)
      · rw [gL i hi, gR j (by omega)]
        have h0 : s0 < start := by
          rw [hs0]
          split <;> omega
        have h5 := hlow h0
        have h6 : lt (f (start - 1)) (f i) = false := hL.le o h1 (by omega) (by omega)
        have h7 : lt (f j) (f e) = false := hR.le o (by omega) (by omega) h4
        exact o.tr _ _ _ h6 (o.tr _ _ _ h5 h7)
    · by_cases hj : j < e
      · rw [gA i (by omega) h2, gB j h3 hj]
        have h0 : start < r0 := by
          rw [hr0]
          split <;> omega
        have h5 := o.asy _ _ (hup h0)
        have h6 : lt (f (e - 1)) (f (i + (m - start))) = false := hR.le o (by omega) (by omega) (by omega)
        have h7 : lt (f (j - (e - m))) (f start) = false := hL.le o (by omega) (by omega) (by omega)
        exact o.tr _ _ _ h6 (o.tr _ _ _ h5 h7)
      · rw [gA i (by omega) h2, gR j (by omega)]; exact hR.le o (by omega) (by omega) h4
/-- The two halves are merged: the whole is. -/
theorem merge_join {g h k : Nat → α} {a mid b : Nat} (hm : a ≤ mid ∧ mid ≤ b) (hx : ∀ i j, a ≤ i → i < mid → mid ≤ j → j < b → lt (g j) (g i) = false)
    (w1 : Within g h a mid) (s1 : SortedOn lt h a mid) (w2 : Within h k mid b) (s2 : SortedOn lt k mid b) : SortedOn lt k a b ∧ Within g k a b := by
  refine ⟨fun i j h1 h2 h3 => ?_, (w1.wide (Nat.le_refl _) hm.2).trans (w2.wide hm.1 (Nat.le_refl _))⟩
  by_cases hj : j < mid
  · rw [w2.out i (by omega), w2.out j (by omega)]; exact s1 i j h1 h2 hj
  · by_cases hi : i < mid
    · rw [w2.out i (by omega)]
      obtain ⟨i', h4, h5, h6⟩ := w1.from_ i h1 hi
      obtain ⟨j', h7, h8, h9⟩ := w2.from_ j (by omega) h3
      rw [h6, h9, w1.out j' (by omega)]
      exact hx i' j' h4 h5 h7 h8
    · exact s2 i j (by omega) h2 h3
/-- Inserting the one element of the left part, or of the right part. -/
theorem insert_left (o : Ord lt) {f g : Nat → α} {a b i : Nat} (hR : SortedOn lt f (a + 1) b) (hi : a + 1 ≤ i ∧ i ≤ b) (hlow : a + 1 < i → lt (f (i - 1)) (f a) = true) (hup : i < b → lt (f i) (f a) = false) (r : Rot f g a (a + 1) i) : SortedOn lt g a b ∧ Within f g a b := by
  refine ⟨fun p q h1 h2 h3 => ?_, (r.within (by omega) (by omega)).wide (Nat.le_refl _) hi.2⟩
  have gA : ∀ k, a ≤ k → k < i - 1 → g k = f (k + 1) := fun k h1 h2 => by rw [r.lo k h1 (by omega)]; congr 1; omega
  have gM : g (i - 1) = f a := by rw [r.hi (i - 1) (by omega) (by omega)]; congr 1; omega
  have gR : ∀ k, i ≤ k → g k = f k := fun k hk => r.out k (.inr hk)
  by_cases hq : q < i - 1
  · rw [gA p h1 (by omega), gA q (by omega) hq]; exact hR _ _ (by omega) (by omega) (by omega)
  · by_cases hq2 : q = i - 1
    · subst hq2
      rw [gM, gA p h1 (by omega)]
      have h5 := o.asy _ _ (hlow (by omega))
      exact o.tr _ _ _ (hR.le o (by omega) (by omega : p + 1 ≤ i - 1) (by omega)) h5
    · rw [gR q (by omega)]
      by_cases hp : p < i - 1
      · rw [gA p h1 hp]; exact hR _ _ (by omega) (by omega) h3
      · by_cases hp2 : p = i - 1
        · subst hp2
          rw [gM]
          exact o.tr _ _ _ (hup (by omega)) (hR.le o (by omega) (by omega : i ≤ q) h3)
        · rw [gR p (by omega)]; exact hR _ _ (by omega) h2 h3
theorem insert_right (o : Ord lt) {f g : Nat → α} {a m i : Nat} (hL : SortedOn lt f a m) (hi : a ≤ i ∧ i ≤ m) (hlow : a < i → lt (f m) (f (i - 1)) = false) (hup : i < m → lt (f m) (f i) = true) (r : Rot f g i m (m + 1)) : SortedOn lt g a (m + 1) ∧ Within f g a (m + 1) := by
  refine ⟨fun p q h1 h2 h3 => ?_, (r.within (by omega) (by omega)).wide hi.1 (Nat.le_refl _)⟩
  have gL : ∀ k, k < i → g k = f k := fun k hk => r.out k (.inl hk)
  have gM : g i = f m := by rw [r.lo i (by omega) (by omega)]; congr 1; omega
  have gA : ∀ k, i < k → k < m + 1 → g k = f (k - 1) := fun k h1 h2 => by rw [r.hi k (by omega) (by omega)]; congr 1; omega
  by_cases hp : p < i
  · rw [gL p hp]
    by_cases hq : q < i
    · rw [gL q hq]; exact hL _ _ h1 h2 (by omega)
    · by_cases hq2 : q = i
      · subst hq2
        rw [gM]
        exact o.tr _ _ _ (hL.le o h1 (by omega : p ≤ q - 1) (by omega)) (hlow (by omega))
      · rw [gA q (by omega) h3]; exact hL.le o h1 (by omega) (by omega)
  · by_cases hp2 : p = i
    · subst hp2
      rw [gM, gA q h2 h3]
      exact o.tr _ _ _ (o.asy _ _ (hup (by omega))) (hL.le o (by omega) (by omega : p ≤ q - 1) (by omega))
    · rw [gA p (by omega) (by omega), gA q (by omega) h3]; exact hL _ _ (by omega) (by omega) (by omega)
end
/-! lists as functions of places -/
theorem getD_set {α : Type} {l : List α} {i k : Nat} {v d : α} (h : i < l.length) : (l.set i v).getD k d = if k = i then v else l.getD k d := by
  rw [List.getD_eq_getElem?_getD, List.getD_eq_getElem?_getD, List.getElem?_set]
  by_cases e : k = i
  · subst e; simp [h]
  · simp [e, Ne.symm e]
def atF (l : List T_Scheme) : Nat → T_Scheme := fun k => l.getD k default
theorem atF_some {l : List T_Scheme} {k : Nat} (h : k < l.length) : l[k]? = some (atF l k) := by
  unfold atF; rw [List.getD_eq_getElem?_getD, List.getElem?_eq_getElem h]; rfl
theorem atF_mem {l : List T_Scheme} {k : Nat} (h : k < l.length) : atF l k ∈ l := List.mem_of_getElem? (atF_some h)
theorem idx_atF {l : List T_Scheme} {i : Nat} (h : i < l.length) : idx l (i : Int) = some (atF l i) := idx_getD _ h
theorem swp_set {l : List T_Scheme} {i j : Nat} (hi : i < l.length) (hj : j < l.length) (hij : i ≠ j) : Swp (atF l) (atF ((l.set i (atF l j)).set j (atF l i))) i j 1 := by
  have hget : ∀ k, atF ((l.set i (atF l j)).set j (atF l i)) k = if k = j then atF l i else if k = i then atF l j else atF l k := fun k => by
    show ((l.set i (atF l j)).set j (atF l i)).getD k _ = _
    rw [getD_set (by simp; omega), getD_set hi]; rfl
  refine ⟨fun k h1 h2 => ?_, fun k hk => ?_, fun k hk => ?_⟩
  · rw [hget, if_neg (by omega), if_neg (by omega)]
  · obtain rfl : k = 0 := by omega
    rw [Nat.add_zero, Nat.add_zero, hget, if_neg (by omega), if_pos rfl]
  · obtain rfl : k = 0 := by omega
    rw [Nat.add_zero, Nat.add_zero, hget, if_pos rfl]
theorem Swp.symm {α : Type} {f g : Nat → α} {p q n : Nat} (h : Swp f g p q n) : Swp f g q p n := ⟨fun k h1 h2 => h.out k h2 h1, h.hi, h.lo⟩
/-- one element goes down by one place more -/
theorem rot_down {α : Type} {f g g' : Nat → α} {j i : Nat} (h0 : 0 < j) (hj : j ≤ i) (r : Rot f g j i (i + 1)) (h : Swp g g' (j - 1) j 1) : Rot f g' (j - 1) i (i + 1) := by
  refine ⟨fun k hk => ?_, fun k h1 h2 => ?_, fun k h1 h2 => ?_⟩
  · rw [h.out k (by omega) (by omega), r.out k (by omega)]
  · obtain rfl : k = j - 1 := by omega
    rw [h.lo' (by omega) (by omega), r.lo _ (by omega) (by omega)]
    congr 1; omega
  · by_cases e : k = j
    · subst e
      rw [h.hi' (by omega) (by omega), r.out _ (by omega)]
      congr 1; omega
    · rw [h.out k (by omega) (by omega), r.hi k (by omega) (by omega)]
/-- one element goes up by one place more -/
theorem rot_up {α : Type} {f g g' : Nat → α} {a k : Nat} (hk : a ≤ k) (r : Rot f g a (a + 1) (k + 1)) (h : Swp g g' k (k + 1) 1) : Rot f g' a (a + 1) (k + 2) := by
  refine ⟨fun q hq => ?_, fun q h1 h2 => ?_, fun q h1 h2 => ?_⟩
  · rw [h.out q (by omega) (by omega), r.out q (by omega)]
  · by_cases e : q = k
    · subst e
      rw [h.lo' (by omega) (by omega), r.out _ (by omega)]
      congr 1; omega
    · rw [h.out q (by omega) (by omega), r.lo q (by omega) (by omega)]
  · obtain rfl : q = k + 1 := by omega
    rw [h.hi' (by omega) (by omega), r.hi _ (by omega) (by omega)]
    congr 1; omega
theorem rot_none {α : Type} (f : Nat → α) {s m e : Nat} (hs : s ≤ m) (he : m ≤ e) (h : s = m ∨ m = e) : Rot f f s m e := by
  refine ⟨fun _ _ => rfl, fun k h1 h2 => ?_, fun k h1 h2 => ?_⟩
  · congr 1; omega
  · congr 1; omega

/-! keys -/
def ltk (key : T_Scheme → Int) (x y : T_Scheme) : Bool := decide (key x < key y)
theorem ltk_f {key : T_Scheme → Int} {x y : T_Scheme} : ltk key x y = false ↔ key y ≤ key x := by unfold ltk; rw [decide_eq_false_iff_not]; omega
theorem ltk_t {key : T_Scheme → Int} {x y : T_Scheme} : ltk key x y = true ↔ key x < key y := by unfold ltk; rw [decide_eq_true_iff]
theorem ltk_ord (key : T_Scheme → Int) : Ord (ltk key) := ⟨fun x y z h1 h2 => by rw [ltk_f] at *; omega, fun x y h => by rw [ltk_t] at h; rw [ltk_f]; omega⟩
/-- the same elements of each key, in the same order -/
def Same (key : T_Scheme → Int) (l l' : List T_Scheme) : Prop := ∀ t, l'.filter (fun x => decide (key x = t)) = l.filter (fun x => decide (key x = t))
theorem Same.refl (key : T_Scheme → Int) (l : List T_Scheme) : Same key l l := fun _ => rfl
theorem Same.trans {key : T_Scheme → Int} {l1 l2 l3 : List T_Scheme} (h : Same key l1 l2) (k : Same key l2 l3) : Same key l1 l3 := fun t => (k t).trans (h t)
theorem Same.mem {key : T_Scheme → Int} {l l' : List T_Scheme} (h : Same key l l') {x : T_Scheme} : x ∈ l' ↔ x ∈ l := by
  have := h (key x)
  constructor
  · intro hx
    have h1 : x ∈ l'.filter (fun y => decide (key y = key x)) := List.mem_filter.2 ⟨hx, decide_eq_true rfl⟩
    rw [this] at h1
    exact (List.mem_filter.1 h1).1
  · intro hx
    have h1 : x ∈ l.filter (fun y => decide (key y = key x)) := List.mem_filter.2 ⟨hx, decide_eq_true rfl⟩
    rw [← this] at h1
    exact (List.mem_filter.1 h1).1
theorem rot_list {l l' : List T_Scheme} {a m b : Nat} (hl : l'.length = l.length) (r : Rot (atF l) (atF l') a m b) (ham : a ≤ m) (hmb : m ≤ b) (hb : b ≤ l.length) :
    l' = l.take a ++ ((l.take b).drop m ++ ((l.take m).drop a ++ l.drop b)) := by
  apply List.ext_getElem?
  intro k
  have e1 : (l.take a).length = a := by simp; omega
  have e2 : ((l.take b).drop m).length = b - m := by simp; omega
  have e3 : ((l.take m).drop a).length = m - a := by simp; omega
  by_cases hk : k < l.length
  · rw [atF_some (by omega)]
    by_cases h1 : k < a
    · rw [List.getElem?_append_left (by omega), List.getElem?_take_of_lt h1, atF_some hk, r.out k (.inl h1)]
    · rw [List.getElem?_append_right (by omega), e1]
      by_cases h2 : k < a + (b - m)
      · rw [List.getElem?_append_left (by omega), List.getElem?_drop, List.getElem?_take_of_lt (by omega), atF_some (by omega), r.lo k (by omega) h2]
        congr 2; omega
      · rw [List.getElem?_append_right (by omega), e2]
        by_cases h3 : k < b
        · rw [List.getElem?_append_left (by omega), List.getElem?_drop, List.getElem?_take_of_lt (by omega), atF_some (by omega), r.hi k (by omega) h3]
          congr 2; omega
        · rw [List.getElem?_append_right (by omega), e3, List.getElem?_drop, atF_some (by omega), r.out k (.inr (by omega))]
          congr 2; omega
  · rw [List.getElem?_eq_none (by omega), List.getElem?_eq_none (by simp; omega)]
theorem same_rot {key : T_Scheme → Int} {l l' : List T_Scheme} {a m b : Nat} (hl : l'.length = l.length) (r : Rot (atF l) (atF l') a m b) (ham : a ≤ m) (hmb : m ≤ b) (hb : b ≤ l.length)
    (h : ∀ i j, a ≤ i → i < m → m ≤ j → j < b → key (atF l j) < key (atF l i)) : Same key l l' := by
  intro t
  have e0 : l = l.take a ++ ((l.take m).drop a ++ ((l.take b).drop m ++ l.drop b)) := by
    refine rot_list (m := a) (a := a) (b := a) rfl (rot_none _ (Nat.le_refl _) (Nat.le_refl _) (.inl rfl)) (Nat.le_refl _) (Nat.le_refl _) (by omega) |>.trans ?_
    have h1 : (l.take a).drop a = [] := List.drop_eq_nil_of_le (by simp; omega)
    rw [h1, List.nil_append, List.nil_append]
    congr 1
    have h2 : l.drop a = (l.drop a).take (m - a) ++ ((l.drop a).drop (m - a)) := (List.take_append_drop _ _).symm
    have h3 : (l.drop a).drop (m - a) = l.drop m := by rw [List.drop_drop]; congr 1; omega
    have h4 : l.drop m = (l.drop m).take (b - m) ++ ((l.drop m).drop (b - m)) := (List.take_append_drop _ _).symm
    have h5 : (l.drop m).drop (b - m) = l.drop b := by rw [List.drop_drop]; congr 1; omega
    rw [h2, h3, h4, h5, List.drop_take, List.drop_take]
  rw [rot_list hl r ham hmb hb]
  conv => rhs; rw [e0]
  simp only [List.filter_append]
  congr 1
  rw [← List.append_assoc, ← List.append_assoc]
  congr 1
  have hp : ∀ x ∈ (l.take m).drop a, ∃ i, a ≤ i ∧ i < m ∧ x = atF l i := fun x hx => by
    obtain ⟨i, hi, rfl⟩ := List.getElem_of_mem hx
    simp at hi
    exact ⟨a + i, by omega, by omega, by
      have h1 := List.getElem?_eq_getElem (l := (l.take m).drop a) (i := i) (by simp; omega)
      rw [List.getElem?_drop, List.getElem?_take_of_lt (by omega), atF_some (by omega)] at h1
      exact (Option.some.inj h1).symm⟩
  have hq : ∀ x ∈ (l.take b).drop m, ∃ i, m ≤ i ∧ i < b ∧ x = atF l i := fun x hx => by
    obtain ⟨i, hi, rfl⟩ := List.getElem_of_mem hx
    simp at hi
    exact ⟨m + i, by omega, by omega, by
      have h1 := List.getElem?_eq_getElem (l := (l.take b).drop m) (i := i) (by simp; omega)
      rw [List.getElem?_drop, List.getElem?_take_of_lt (by omega), atF_some (by omega)] at h1
      exact (Option.some.inj h1).symm⟩
  by_cases hA : ((l.take m).drop a).filter (fun x => decide (key x = t)) = []
  · rw [hA, List.nil_append, List.append_nil]
  · have hB : ((l.take b).drop m).filter (fun x => decide (key x = t)) = [] := by
      rw [List.filter_eq_nil_iff]
      intro y hy hyt
      obtain ⟨x, hx⟩ := List.exists_mem_of_ne_nil _ hA
      obtain ⟨hx1, hx2⟩ := List.mem_filter.1 hx
      obtain ⟨i, h1, h2, rfl⟩ := hp x hx1
      obtain ⟨j, h3, h4, rfl⟩ := hq y hy
      have := h i j h1 h2 h3 h4
      have e1 := of_decide_eq_true hx2
      have e2 := of_decide_eq_true hyt
      omega
    rw [hB, List.nil_append, List.append_nil]
/-- ascending by key -/
def AscK (key : T_Scheme → Int) (l : List T_Scheme) : Prop := l.Pairwise fun x y => key x ≤ key y
theorem ascK_of {key : T_Scheme → Int} {l : List T_Scheme} (h : SortedOn (ltk key) (atF l) 0 l.length) : AscK key l := by
  unfold AscK
  rw [List.pairwise_iff_getElem]
  intro i j hi hj hij
  have := ltk_f.1 (h i j (Nat.zero_le _) hij hj)
  have e1 := Option.some.inj ((List.getElem?_eq_getElem hi).symm.trans (atF_some hi))
  have e2 := Option.some.inj ((List.getElem?_eq_getElem hj).symm.trans (atF_some hj))
  rw [e1, e2]; exact this
/-! the mirrors -/
theorem swapRange_ok (N : Nat) (hN : 2000 ≤ N) (l : List T_Scheme) (hl : l.length ≤ 1200) {p q n : Nat} (hp : p + n ≤ q) (hq : q + n ≤ l.length) (hn : n ≤ 1200) : ∃ l', g_slices_swapRangeCmpFunc_api_Scheme N l p q n = some l' ∧ l'.length = l.length ∧ Swp (atF l) (atF l') p q n := by
  obtain ⟨r, hr, hQ⟩ := iterN_run (f := fun s : Int × List T_Scheme => g_slices_swapRangeCmpFunc_api_Scheme_l1 N p q n s.1 s.2)
    (I := fun s => ∃ i : Nat, s.1 = i ∧ i ≤ n ∧ s.2.length = l.length ∧ Swp (atF l) (atF s.2) p q i)
    (Q := fun r => r.length = l.length ∧ Swp (atF l) (atF r) p q n) (fun s => n - s.1.toNat) (by
    rintro ⟨i', x⟩ ⟨i, rfl, hi, hx, hs⟩
    simp only at hx hs ⊢
    unfold g_slices_swapRangeCmpFunc_api_Scheme_l1
    by_cases h : i < n
    · have ea : in64 ((p : Int) + (i : Int)) = some ((p + i : Nat) : Int) := in64_nat (by omega) (by omega)
      have eb : in64 ((q : Int) + (i : Int)) = some ((q + i : Nat) : Int) := in64_nat (by omega) (by omega)
      refine .inl ⟨(((i + 1 : Nat) : Int), (x.set (p + i) (atF x (q + i))).set (q + i) (atF x (p + i))), oit (decide_eq_true (by omega)) (obi ea (obi eb (obi eb (obi (idx_atF (by omega)) (obi ea (obi (idx_atF (by omega)) (obi (idx_atF (by omega)) (obi (idx_atF (by simp; omega)) (obi (inc_nat (by omega)) (by simp only [Int.toNat_natCast])))))))))), ⟨i + 1, rfl, h, by simp [hx], ?_⟩, by simp only; omega⟩
      have hw := swp_set (l := x) (i := p + i) (j := q + i) (by omega) (by omega) (by omega)
      refine ⟨fun k h1 h2 => ?_, fun k hk => ?_, fun k hk => ?_⟩
      · rw [hw.out k (by omega) (by omega)]
        exact hs.out k (by omega) (by omega)
      · by_cases e : k = i
        · subst e; rw [hw.lo' (by omega) (by omega), show p + k - (p + k) + (q + k) = q + k by omega]; exact hs.out _ (by omega) (by omega)
        · rw [hw.out _ (by omega) (by omega)]; exact hs.lo k (by omega)
      · by_cases e : k = i
        · subst e; rw [hw.hi' (by omega) (by omega), show q + k - (q + k) + (p + k) = p + k by omega]; exact hs.out _ (by omega) (by omega)
        · rw [hw.out _ (by omega) (by omega)]; exact hs.hi k (by omega)
    · obtain rfl : i = n := by omega
      exact .inr ⟨x, oif (decide_eq_false (by omega)) rfl, hx, hs⟩) N (0, l) ⟨0, rfl, Nat.zero_le _, rfl, ⟨fun _ _ _ => rfl, fun k h => absurd h (Nat.not_lt_zero _), fun k h => absurd h (Nat.not_lt_zero _)⟩⟩ (by simp only; omega)
  exact ⟨r, obi hr rfl, hQ⟩
theorem rotate_ok (N : Nat) (hN : 2000 ≤ N) (l : List T_Scheme) (hl : l.length ≤ 1200) {a m b : Nat} (ham : a < m) (hmb : m < b) (hb : b ≤ l.length) : ∃ l', g_slices_rotateCmpFunc_api_Scheme N l a m b = some l' ∧ l'.length = l.length ∧ Rot (atF l) (atF l') a m b := by
  obtain ⟨r, hr, i, x, rfl, hi0, him, hbi, hx, hrot⟩ := iterN_run (f := fun s : Int × Int × List T_Scheme => g_slices_rotateCmpFunc_api_Scheme_l1 N m s.1 s.2.1 s.2.2)
    (I := fun s => ∃ i j : Nat, s.1 = i ∧ s.2.1 = j ∧ 0 < i ∧ 0 < j ∧ i ≤ m ∧ m + j ≤ l.length ∧ s.2.2.length = l.length ∧ ∀ g, Rot (atF s.2.2) g (m - i) m (m + j) → Rot (atF l) g a m b)
    (Q := fun r => ∃ (i : Nat) (x : List T_Scheme), r = ((i : Int), x) ∧ 0 < i ∧ i ≤ m ∧ m + i ≤ l.length ∧ x.length = l.length ∧ ∀ g, Rot (atF x) g (m - i) m (m + i) → Rot (atF l) g a m b) (fun s => s.1.toNat + s.2.1.toNat) (by
    rintro ⟨i', j', x⟩ ⟨i, j, rfl, rfl, hi0, hj0, him, hjb, hx, hrot⟩
    simp only at hx hrot ⊢
    unfold g_slices_rotateCmpFunc_api_Scheme_l1
    have e1 : in64 ((m : Int) - (i : Int)) = some ((m - i : Nat) : Int) := in64_nat (by omega) (by omega)
    by_cases hij : i = j
    · subst hij
      exact .inr ⟨_, oif (bnotIf (decide_eq_true rfl)) rfl, i, x, rfl, hi0, him, hjb, hx, hrot⟩
    · have hne : (!decide ((i : Int) = (j : Int))) = true := bnotIt (decide_eq_false (by omega))
      by_cases hlt : j < i
      · obtain ⟨y, ey, hy, hys⟩ := swapRange_ok N hN x (by omega) (p := m - i) (q := m) (n := j) (by omega) (by omega) (by omega)
        exact .inl ⟨(((i - j : Nat) : Int), (j : Int), y), oit hne (oit (decide_eq_true (by omega)) (obi e1 (obi ey (obi (in64_nat (n := i - j) (by omega) (by omega)) rfl)))), ⟨i - j, j, rfl, rfl, by omega, hj0, by omega, hjb, by simp only; omega, fun g hg => hrot g (rot_left hlt him hys hg)⟩, by simp only; omega⟩
      · obtain ⟨y, ey, hy, hys⟩ := swapRange_ok N hN x (by omega) (p := m - i) (q := m + j - i) (n := i) (by omega) (by omega) (by omega)
        exact .inl ⟨((i : Int), ((j - i : Nat) : Int), y), oit hne (oif (decide_eq_false (by omega)) (obi e1 (obi (in64_nat (n := m + j) (by omega) (by omega)) (obi (in64_nat (n := m + j - i) (by omega) (by omega)) (obi ey (obi (in64_nat (n := j - i) (by omega) (by omega)) rfl)))))), ⟨i, j - i, rfl, rfl, hi0, by omega, him, by omega, by simp only; omega, fun g hg => hrot g (rot_right (by omega) him hys hg)⟩, by simp only; omega⟩) N (((m - a : Nat) : Int), ((b - m : Nat) : Int), l)
    ⟨m - a, b - m, rfl, rfl, by omega, by omega, by omega, by omega, rfl, fun g hg => by
      rw [show m - (m - a) = a by omega, show m + (b - m) = b by omega] at hg; exact hg⟩ (by simp only; omega)
  obtain ⟨y, ey, hy, hys⟩ := swapRange_ok N hN x (by omega) (p := m - i) (q := m) (n := i) (by omega) (by omega) (by omega)
  refine ⟨y, ?_, by omega, hrot _ (rot_eq him hys)⟩
  unfold g_slices_rotateCmpFunc_api_Scheme
  exact obi (in64_nat (n := m - a) (by omega) (by omega)) (obi (in64_nat (n := b - m) (by omega) (by omega)) (obi hr (obi (in64_nat (n := m - i) (by simp only; omega) (by omega)) (obi ey rfl))))

/-! sorting -/
theorem half_ok {i j : Nat} (h : i + j ≤ 1000000) : in64 ((i : Int) + (j : Int)) = some ((i + j : Nat) : Int) ∧ shr_u64 (((i + j : Nat) : Int) % 18446744073709551616) 1 = some (((i + j) / 2 : Nat) : Int) ∧ in64 (((i + j) / 2 : Nat) : Int) = some (((i + j) / 2 : Nat) : Int) := by
  refine ⟨in64_nat (by omega) (by omega), ?_, in64_nat rfl (by omega)⟩
  unfold shr_u64 shrW
  rw [if_pos (by omega), show min (1 : Int).toNat 64 = 1 from rfl]
  congr 1
  rw [Int.fdiv_eq_ediv_of_nonneg _ (by omega)]
  omega
section
variable {key : T_Scheme → Int} {S : T_Scheme → Prop} {N : Nat} 
variable (hN : 2000 ≤ N) (hc : ∀ x y, S x → S y → ∃ r, planner_Schemes_1 N x y = some r ∧ (r < 0 ↔ key x < key y))
include hN hc
/-- insertion: the first i elements of [a, ..) are in order; the next one goes down -/
theorem insert_one {a i : Nat} {y : List T_Scheme} (hS : ∀ x ∈ y, S x) (hl : y.length ≤ 1200) (hai : a ≤ i) (hi : i < y.length) (hsrt : SortedOn (ltk key) (atF y) a i) :
    ∃ x, iterN (fun s : Int × List T_Scheme => g_slices_insertionSortCmpFunc_api_Scheme_l4 N a s.1 s.2) N ((i : Int), y) = some x ∧ x.length = y.length ∧ Same key y x ∧ SortedOn (ltk key) (atF x) a (i + 1) ∧ Within (atF y) (atF x) a (i + 1) := by
  obtain ⟨x, hr, hx, j, h1, h2, h3, h4, hrot⟩ := iterN_run (f := fun s : Int × List T_Scheme => g_slices_insertionSortCmpFunc_api_Scheme_l4 N a s.1 s.2)
    (I := fun s => ∃ j : Nat, s.1 = j ∧ a ≤ j ∧ j ≤ i ∧ s.2.length = y.length ∧ (∀ x ∈ s.2, S x) ∧ (∀ k, j ≤ k → k < i → key (atF y i) < key (atF y k)) ∧ Rot (atF y) (atF s.2) j i (i + 1))
    (Q := fun x => x.length = y.length ∧ ∃ j : Nat, a ≤ j ∧ j ≤ i ∧ (∀ k, j ≤ k → k < i → key (atF y i) < key (atF y k)) ∧ (a < j → key (atF y (j - 1)) ≤ key (atF y i)) ∧ Rot (atF y) (atF x) j i (i + 1)) (fun s => s.1.toNat) (by
    rintro ⟨j', x⟩ ⟨j, rfl, haj, hji, hx, hSx, hk, hrot⟩
    simp only at hx hSx hrot ⊢
    unfold g_slices_insertionSortCmpFunc_api_Scheme_l4
    by_cases hja : a < j
    · have gt : decide ((a : Int) < (j : Int)) = true := decide_eq_true (by omega)
      have ej : in64 ((j : Int) - 1) = some ((j - 1 : Nat) : Int) := in64_nat (by omega) (by omega)
      have i1 : idx x (j : Int) = some (atF x j) := idx_atF (by omega)
      have i2 : idx x ((j - 1 : Nat) : Int) = some (atF x (j - 1)) := idx_atF (by omega)
      obtain ⟨r, er, hrk⟩ := hc (atF x j) (atF x (j - 1)) (hSx _ (atF_mem (by omega))) (hSx _ (atF_mem (by omega)))
      have f1 : atF x j = atF y i := by rw [hrot.lo j (Nat.le_refl _) (by omega)]; congr 1; omega
      have f2 : atF x (j - 1) = atF y (j - 1) := hrot.out _ (by omega)
      rw [f1, f2] at hrk
      by_cases hlt : key (atF y i) < key (atF y (j - 1))
      · have hw := (swp_set (l := x) (i := j) (j := j - 1) (by omega) (by omega) (by omega)).symm
        refine .inl ⟨(((j - 1 : Nat) : Int), (x.set j (atF x (j - 1))).set (j - 1) (atF x j)), ?_, ⟨j - 1, rfl, by omega, by omega, by simp [hx], fun z hz => ?_, fun k h1 h2 => ?_, rot_down (by omega) hji hrot hw⟩, by simp only; omega⟩
        · refine obi (by rw [gt]; exact i1) (obi (by rw [gt]; exact ej) (obi (by rw [gt]; exact i2) (obi (by rw [gt]; exact er) (oit (band gt (decide_eq_true (hrk.2 hlt))) (obi ej (obi ej (obi i2 (obi i1 (obi i1 (obi (idx_atF (by simp; omega)) (obi ej ?_)))))))))))
          simp only [Int.toNat_natCast]
        · rcases List.mem_or_eq_of_mem_set hz with h | h
          · rcases List.mem_or_eq_of_mem_set h with h | h
            · exact hSx _ h
            · rw [h]; exact hSx _ (atF_mem (by omega))
          · rw [h]; exact hSx _ (atF_mem (by omega))
        · by_cases e : k = j - 1
          · subst e; exact hlt
          · exact hk k (by omega) h2
      · refine .inr ⟨x, obi (by rw [gt]; exact i1) (obi (by rw [gt]; exact ej) (obi (by rw [gt]; exact i2) (obi (by rw [gt]; exact er) (oif (bandF2 (decide_eq_false (fun h => hlt (hrk.1 h)))) rfl)))), hx, j, haj, hji, hk, fun _ => by omega, hrot⟩
    · have gf : decide ((a : Int) < (j : Int)) = false := decide_eq_false (by omega)
      exact .inr ⟨x, obi (by rw [gf]; rfl) (obi (by rw [gf]; rfl) (obi (by rw [gf]; rfl) (obi (by rw [gf]; rfl) (oif (bandF gf) rfl)))), hx, j, haj, hji, hk, fun h => absurd h (by omega), hrot⟩) N ((i : Int), y)
    ⟨i, rfl, hai, Nat.le_refl _, rfl, hS, fun k h1 h2 => absurd h2 (by omega), rot_none _ (Nat.le_refl _) (by omega) (.inl rfl)⟩ (by simp only; omega)
  have hs := insert_right (ltk_ord key) hsrt ⟨h1, h2⟩ (fun h => ltk_f.2 (h4 h)) (fun h => ltk_t.2 (h3 j (Nat.le_refl _) h)) hrot
  refine ⟨x, hr, hx, same_rot hx hrot h2 (by omega) (by omega) (fun p q hp hq hp2 hq2 => ?_), hs.1, hs.2⟩
  obtain rfl : q = i := by omega
  exact h3 p hp hq
theorem insertion_ok {a b : Nat} {l : List T_Scheme} (hS : ∀ x ∈ l, S x) (hl : l.length ≤ 1200) (hab : a ≤ b) (hb : b ≤ l.length) :
    ∃ l', g_slices_insertionSortCmpFunc_api_Scheme N l a b = some l' ∧ l'.length = l.length ∧ Same key l l' ∧ SortedOn (ltk key) (atF l') a b ∧ Within (atF l) (atF l') a b := by
  obtain ⟨x, hr, hQ⟩ := iterN_run (f := fun s : Int × List T_Scheme => g_slices_insertionSortCmpFunc_api_Scheme_l3 N a b s.1 s.2)
    (I := fun s => ∃ i : Nat, s.1 = i ∧ a < i ∧ (i ≤ b ∨ i = a + 1) ∧ s.2.length = l.length ∧ Same key l s.2 ∧ SortedOn (ltk key) (atF s.2) a i ∧ Within (atF l) (atF s.2) a b)
    (Q := fun x => x.length = l.length ∧ Same key l x ∧ SortedOn (ltk key) (atF x) a b ∧ Within (atF l) (atF x) a b) (fun s => b - s.1.toNat) (by
    rintro ⟨i', y⟩ ⟨i, rfl, hai, hib, hy, hsm, hso, hwi⟩
    simp only at hy hsm hso hwi ⊢
    unfold g_slices_insertionSortCmpFunc_api_Scheme_l3
    by_cases h : i < b
    · obtain ⟨x, hx, h1, h2, h3, h4⟩ := insert_one hN hc (a := a) (i := i) (y := y) (fun z hz => hS _ (hsm.mem.1 hz)) (by omega) (by omega) (by omega) hso
      exact .inl ⟨(((i + 1 : Nat) : Int), x), oit (decide_eq_true (by omega)) (obi hx (obi (inc_nat (by omega)) rfl)), ⟨i + 1, rfl, by omega, .inl (by omega), by simp only; omega, hsm.trans h2, h3, hwi.trans (h4.wide (Nat.le_refl _) (by omega))⟩, by simp only; omega⟩
    · exact .inr ⟨y, oif (decide_eq_false (by omega)) rfl, hy, hsm, fun p q h1 h2 h3 => hso p q h1 h2 (by omega), hwi⟩) N (((a + 1 : Nat) : Int), l)
    ⟨a + 1, rfl, by omega, .inr rfl, rfl, Same.refl _ _, fun p q h1 h2 h3 => absurd h3 (by omega), Within.refl _ _ _⟩ (by simp only; omega)
  exact ⟨x, obi (inc_nat (by omega)) (obi hr rfl), hQ⟩
/-- the lowest place in [m, b) whose element is not below x -/
theorem search1 {l : List T_Scheme} (hS : ∀ x ∈ l, S x) (hl : l.length ≤ 1200) {a m b : Nat} (ha : a < l.length) (hmb : m ≤ b) (hb : b ≤ l.length) :
    ∃ i : Nat, iterN (fun s : Int × Int => g_slices_symMergeCmpFunc_api_Scheme_l1 N l a s.1 s.2) N ((m : Int), (b : Int)) = some (i : Int) ∧ m ≤ i ∧ i ≤ b ∧ (m < i → key (atF l (i - 1)) < key (atF l a)) ∧ (i < b → key (atF l a) ≤ key (atF l i)) := by
  obtain ⟨r, hr, i, rfl, hQ⟩ := iterN_run (f := fun s : Int × Int => g_slices_symMergeCmpFunc_api_Scheme_l1 N l a s.1 s.2)
    (I := fun s => ∃ i j : Nat, s.1 = i ∧ s.2 = j ∧ m ≤ i ∧ i ≤ j ∧ j ≤ b ∧ (m < i → key (atF l (i - 1)) < key (atF l a)) ∧ (j < b → key (atF l a) ≤ key (atF l j)))
    (Q := fun r => ∃ i : Nat, r = (i : Int) ∧ m ≤ i ∧ i ≤ b ∧ (m < i → key (atF l (i - 1)) < key (atF l a)) ∧ (i < b → key (atF l a) ≤ key (atF l i))) (fun s => (s.2 - s.1).toNat) (by
    rintro ⟨i', j'⟩ ⟨i, j, rfl, rfl, h1, h2, h3, h4, h5⟩
    simp only
    unfold g_slices_symMergeCmpFunc_api_Scheme_l1
    by_cases h : i < j
    · obtain ⟨e1, e2, e3⟩ := half_ok (i := i) (j := j) (by omega)
      obtain ⟨c, hcq⟩ : ∃ c, c = (i + j) / 2 := ⟨_, rfl⟩
      rw [← hcq] at e2 e3
      obtain ⟨r, er, hrk⟩ := hc (atF l c) (atF l a) (hS _ (atF_mem (by omega))) (hS _ (atF_mem ha))
      by_cases hlt : key (atF l c) < key (atF l a)
      · exact .inl ⟨(((c + 1 : Nat) : Int), (j : Int)), oit (decide_eq_true (by omega)) (obi e1 (obi e2 (obi e3 (obi (idx_atF (by omega)) (obi (idx_atF ha) (obi er (oit (decide_eq_true (hrk.2 hlt)) (obi (inc_nat (by omega)) rfl)))))))), ⟨c + 1, j, rfl, rfl, by omega, by omega, h3, fun _ => hlt, h5⟩, by simp only; omega⟩
      · exact .inl ⟨((i : Int), (c : Int)), oit (decide_eq_true (by omega)) (obi e1 (obi e2 (obi e3 (obi (idx_atF (by omega)) (obi (idx_atF ha) (obi er (oif (decide_eq_false (fun q => hlt (hrk.1 q))) rfl))))))), ⟨i, c, rfl, rfl, h1, by omega, by omega, h4, fun _ => by omega⟩, by simp only; omega⟩
    · obtain rfl : i = j := by omega
      exact .inr ⟨_, oif (decide_eq_false (by omega)) rfl, i, rfl, h1, h3, h4, h5⟩) N ((m : Int), (b : Int)) ⟨m, b, rfl, rfl, Nat.le_refl _, hmb, Nat.le_refl _, fun h => absurd h (by omega), fun h => absurd h (by omega)⟩ (by simp only; omega)
  exact ⟨i, hr, hQ⟩
theorem search3 {l : List T_Scheme} (hS : ∀ x ∈ l, S x) (hl : l.length ≤ 1200) {a m : Nat} (hm : m < l.length) (ham : a ≤ m) :
    ∃ i : Nat, iterN (fun s : Int × Int => g_slices_symMergeCmpFunc_api_Scheme_l3 N l m s.1 s.2) N ((a : Int), (m : Int)) = some (i : Int) ∧ a ≤ i ∧ i ≤ m ∧ (a < i → key (atF l (i - 1)) ≤ key (atF l m)) ∧ (i < m → key (atF l m) < key (atF l i)) := by
  obtain ⟨r, hr, i, rfl, hQ⟩ := iterN_run (f := fun s : Int × Int => g_slices_symMergeCmpFunc_api_Scheme_l3 N l m s.1 s.2)
    (I := fun s => ∃ i j : Nat, s.1 = i ∧ s.2 = j ∧ a ≤ i ∧ i ≤ j ∧ j ≤ m ∧ (a < i → key (atF l (i - 1)) ≤ key (atF l m)) ∧ (j < m → key (atF l m) < key (atF l j)))
    (Q := fun r => ∃ i : Nat, r = (i : Int) ∧ a ≤ i ∧ i ≤ m ∧ (a < i → key (atF l (i - 1)) ≤ key (atF l m)) ∧ (i < m → key (atF l m) < key (atF l i))) (fun s => (s.2 - s.1).toNat) (by
    rintro ⟨i', j'⟩ ⟨i, j, rfl, rfl, h1, h2, h3, h4, h5⟩
    simp only
    unfold g_slices_symMergeCmpFunc_api_Scheme_l3
    by_cases h : i < j
    · obtain ⟨e1, e2, e3⟩ := half_ok (i := i) (j := j) (by omega)
      obtain ⟨c, hcq⟩ : ∃ c, c = (i + j) / 2 := ⟨_, rfl⟩
      rw [← hcq] at e2 e3
      obtain ⟨r, er, hrk⟩ := hc (atF l m) (atF l c) (hS _ (atF_mem hm)) (hS _ (atF_mem (by omega)))
      by_cases hlt : key (atF l m) < key (atF l c)
      · exact .inl ⟨((i : Int), (c : Int)), oit (decide_eq_true (by omega)) (obi e1 (obi e2 (obi e3 (obi (idx_atF hm) (obi (idx_atF (by omega)) (obi er (oif (bnotIf (decide_eq_true (hrk.2 hlt))) rfl))))))), ⟨i, c, rfl, rfl, h1, by omega, by omega, h4, fun _ => hlt⟩, by simp only; omega⟩
      · exact .inl ⟨(((c + 1 : Nat) : Int), (j : Int)), oit (decide_eq_true (by omega)) (obi e1 (obi e2 (obi e3 (obi (idx_atF hm) (obi (idx_atF (by omega)) (obi er (oit (bnotIt (decide_eq_false (fun q => hlt (hrk.1 q)))) (obi (inc_nat (by omega)) rfl)))))))), ⟨c + 1, j, rfl, rfl, by omega, by omega, h3, fun _ => by simp only [Nat.add_sub_cancel]; omega, h5⟩, by simp only; omega⟩
    · obtain rfl : i = j := by omega
      exact .inr ⟨_, oif (decide_eq_false (by omega)) rfl, i, rfl, h1, h3, h4, h5⟩) N ((a : Int), (m : Int)) ⟨a, m, rfl, rfl, Nat.le_refl _, ham, Nat.le_refl _, fun h => absurd h (by omega), fun h => absurd h (by omega)⟩ (by simp only; omega)
  exact ⟨i, hr, hQ⟩
theorem search5 {l : List T_Scheme} (hS : ∀ x ∈ l, S x) (hl : l.length ≤ 1200) {s0 r0 n : Nat} (h0 : s0 ≤ r0) (hb : r0 ≤ l.length) (hp1 : r0 ≤ n) (hp2 : n - s0 ≤ l.length) (hn : n ≤ 3000) :
    ∃ i : Nat, iterN (fun s : Int × Int => g_slices_symMergeCmpFunc_api_Scheme_l5 N l ((n : Int) - 1) s.1 s.2) N ((s0 : Int), (r0 : Int)) = some (i : Int) ∧ s0 ≤ i ∧ i ≤ r0 ∧ (s0 < i → key (atF l (i - 1)) ≤ key (atF l (n - i))) ∧ (i < r0 → key (atF l (n - i - 1)) < key (atF l i)) := by
  obtain ⟨r, hr, i, rfl, hQ⟩ := iterN_run (f := fun s : Int × Int => g_slices_symMergeCmpFunc_api_Scheme_l5 N l ((n : Int) - 1) s.1 s.2)
    (I := fun s => ∃ i j : Nat, s.1 = i ∧ s.2 = j ∧ s0 ≤ i ∧ i ≤ j ∧ j ≤ r0 ∧ (s0 < i → key (atF l (i - 1)) ≤ key (atF l (n - i))) ∧ (j < r0 → key (atF l (n - j - 1)) < key (atF l j)))
    (Q := fun r => ∃ i : Nat, r = (i : Int) ∧ s0 ≤ i ∧ i ≤ r0 ∧ (s0 < i → key (atF l (i - 1)) ≤ key (atF l (n - i))) ∧ (i < r0 → key (atF l (n - i - 1)) < key (atF l i))) (fun s => (s.2 - s.1).toNat) (by
    rintro ⟨i', j'⟩ ⟨i, j, rfl, rfl, h1, h2, h3, h4, h5⟩
    simp only
    unfold g_slices_symMergeCmpFunc_api_Scheme_l5
    by_cases h : i < j
    · obtain ⟨e1, e2, e3⟩ := half_ok (i := i) (j := j) (by omega)
      obtain ⟨c, hcq⟩ : ∃ c, c = (i + j) / 2 := ⟨_, rfl⟩
      rw [← hcq] at e2 e3
      have ep : in64 ((n : Int) - 1 - (c : Int)) = some ((n - c - 1 : Nat) : Int) := in64_nat (by omega) (by omega)
      obtain ⟨r, er, hrk⟩ := hc (atF l (n - c - 1)) (atF l c) (hS _ (atF_mem (by omega))) (hS _ (atF_mem (by omega)))
      by_cases hlt : key (atF l (n - c - 1)) < key (atF l c)
      · exact .inl ⟨((i : Int), (c : Int)), oit (decide_eq_true (by omega)) (obi e1 (obi e2 (obi e3 (obi ep (obi (idx_atF (by omega)) (obi (idx_atF (by omega)) (obi er (oif (bnotIf (decide_eq_true (hrk.2 hlt))) rfl)))))))), ⟨i, c, rfl, rfl, h1, by omega, by omega, h4, fun _ => hlt⟩, by simp only; omega⟩
      · exact .inl ⟨(((c + 1 : Nat) : Int), (j : Int)), oit (decide_eq_true (by omega)) (obi e1 (obi e2 (obi e3 (obi ep (obi (idx_atF (by omega)) (obi (idx_atF (by omega)) (obi er (oit (bnotIt (decide_eq_false (fun q => hlt (hrk.1 q)))) (obi (inc_nat (by omega)) rfl))))))))), ⟨c + 1, j, rfl, rfl, by omega, by omega, h3, fun _ => by
            rw [Nat.add_sub_cancel, show n - (c + 1) = n - c - 1 by omega]; omega, h5⟩, by simp only; omega⟩
    · obtain rfl : i = j := by omega
      exact .inr ⟨_, oif (decide_eq_false (by omega)) rfl, i, rfl, h1, h3, h4, h5⟩) N ((s0 : Int), (r0 : Int)) ⟨s0, r0, rfl, rfl, Nat.le_refl _, h0, Nat.le_refl _, fun h => absurd h (by omega), fun h => absurd h (by omega)⟩ (by simp only; omega)
  exact ⟨i, hr, hQ⟩
omit hc in
theorem up2 {l : List T_Scheme} (hl : l.length ≤ 1200) {a i : Nat} (hai : a < i) (hi : i ≤ l.length) :
    ∃ l', iterN (fun s : Int × List T_Scheme => g_slices_symMergeCmpFunc_api_Scheme_l2 N i s.1 s.2) N ((a : Int), l) = some l' ∧ l'.length = l.length ∧ Rot (atF l) (atF l') a (a + 1) i := by
  obtain ⟨r, hr, hQ⟩ := iterN_run (f := fun s : Int × List T_Scheme => g_slices_symMergeCmpFunc_api_Scheme_l2 N i s.1 s.2)
    (I := fun s => ∃ k : Nat, s.1 = k ∧ a ≤ k ∧ k < i ∧ s.2.length = l.length ∧ Rot (atF l) (atF s.2) a (a + 1) (k + 1))
    (Q := fun x => x.length = l.length ∧ Rot (atF l) (atF x) a (a + 1) i) (fun s => i - s.1.toNat) (by
    rintro ⟨k', x⟩ ⟨k, rfl, h1, h2, h3, h4⟩
    simp only at h3 h4 ⊢
    unfold g_slices_symMergeCmpFunc_api_Scheme_l2
    have e0 : in64 ((i : Int) - 1) = some ((i - 1 : Nat) : Int) := in64_nat (by omega) (by omega)
    by_cases h : k < i - 1
    · have e1 : in64 ((k : Int) + 1) = some ((k + 1 : Nat) : Int) := inc_nat (by omega)
      have i1 : idx x (k : Int) = some (atF x k) := idx_atF (by omega)
      have i2 : idx x ((k + 1 : Nat) : Int) = some (atF x (k + 1)) := idx_atF (by omega)
      refine .inl ⟨(((k + 1 : Nat) : Int), (x.set k (atF x (k + 1))).set (k + 1) (atF x k)), obi e0 (oit (decide_eq_true (by omega)) (obi e1 (obi e1 (obi i2 (obi i1 (obi i1 (obi (idx_atF (by simp; omega)) (obi e1 (by simp only [Int.toNat_natCast]))))))))), ⟨k + 1, rfl, by omega, by omega, by simp [h3], rot_up h1 h4 (swp_set (by omega) (by omega) (by omega))⟩, by simp only; omega⟩
    · obtain rfl : i = k + 1 := by omega
      exact .inr ⟨x, obi e0 (oif (decide_eq_false (by omega)) rfl), h3, h4⟩) N ((a : Int), l) ⟨a, rfl, Nat.le_refl _, hai, rfl, rot_none _ (by omega) (Nat.le_refl _) (.inr rfl)⟩ (by simp only; omega)
  exact ⟨r, hr, hQ⟩
omit hc in
theorem down4 {l : List T_Scheme} (hl : l.length ≤ 1200) {i m : Nat} (him : i ≤ m) (hm : m < l.length) :
    ∃ l', iterN (fun s : Int × List T_Scheme => g_slices_symMergeCmpFunc_api_Scheme_l4 N i s.1 s.2) N ((m : Int), l) = some l' ∧ l'.length = l.length ∧ Rot (atF l) (atF l') i m (m + 1) := by
  obtain ⟨r, hr, hQ⟩ := iterN_run (f := fun s : Int × List T_Scheme => g_slices_symMergeCmpFunc_api_Scheme_l4 N i s.1 s.2)
    (I := fun s => ∃ k : Nat, s.1 = k ∧ i ≤ k ∧ k ≤ m ∧ s.2.length = l.length ∧ Rot (atF l) (atF s.2) k m (m + 1))
    (Q := fun x => x.length = l.length ∧ Rot (atF l) (atF x) i m (m + 1)) (fun s => s.1.toNat) (by
    rintro ⟨k', x⟩ ⟨k, rfl, h1, h2, h3, h4⟩
    simp only at h3 h4 ⊢
    unfold g_slices_symMergeCmpFunc_api_Scheme_l4
    by_cases h : i < k
    · have e1 : in64 ((k : Int) - 1) = some ((k - 1 : Nat) : Int) := in64_nat (by omega) (by omega)
      have i1 : idx x (k : Int) = some (atF x k) := idx_atF (by omega)
      have i2 : idx x ((k - 1 : Nat) : Int) = some (atF x (k - 1)) := idx_atF (by omega)
      refine .inl ⟨(((k - 1 : Nat) : Int), (x.set k (atF x (k - 1))).set (k - 1) (atF x k)), oit (decide_eq_true (by omega)) (obi e1 (obi e1 (obi i2 (obi i1 (obi i1 (obi (idx_atF (by simp; omega)) (obi e1 (by simp only [Int.toNat_natCast])))))))), ⟨k - 1, rfl, by omega, by omega, by simp [h3], rot_down (by omega) h2 h4 (swp_set (by omega) (by omega) (by omega)).symm⟩, by simp only; omega⟩
    · obtain rfl : i = k := by omega
      exact .inr ⟨x, oif (decide_eq_false (by omega)) rfl, h3, h4⟩) N ((m : Int), l) ⟨m, rfl, him, Nat.le_refl _, rfl, rot_none _ (Nat.le_refl _) (by omega) (.inl rfl)⟩ (by simp only; omega)
  exact ⟨r, hr, hQ⟩
theorem symMerge_ok : ∀ (M : Nat) (l : List T_Scheme) (a m b : Nat), b - a < M → (∀ x ∈ l, S x) → l.length ≤ 1200 → a < m → m < b → b ≤ l.length → SortedOn (ltk key) (atF l) a m → SortedOn (ltk key) (atF l) m b →
    ∃ l', g_slices_symMergeCmpFunc_api_Scheme_r N M l a m b = some l' ∧ l'.length = l.length ∧ Same key l l' ∧ SortedOn (ltk key) (atF l') a b ∧ Within (atF l) (atF l') a b := by
  have o := ltk_ord key
  intro M
  induction M with
  | zero => intro l a m b h; omega
  | succ M ih =>
  intro l a m b hM hS hl ham hmb hb hL hR
  rw [g_slices_symMergeCmpFunc_api_Scheme_r]
  have e1 : in64 ((m : Int) - (a : Int)) = some ((m - a : Nat) : Int) := in64_nat (by omega) (by omega)
  have e2 : in64 ((b : Int) - (m : Int)) = some ((b - m : Nat) : Int) := in64_nat (by omega) (by omega)
  by_cases c1 : m - a = 1
  · obtain rfl : m = a + 1 := by omega
    obtain ⟨i, hi, h1, h2, h3, h4⟩ := search1 hN hc hS hl (a := a) (m := a + 1) (b := b) (by omega) (by omega) hb
    obtain ⟨l', hl', h5, h6⟩ := up2 hN hl (a := a) (i := i) (by omega) (by omega)
    obtain ⟨h7, h8⟩ := insert_left o hR ⟨h1, h2⟩ (fun h => ltk_t.2 (h3 h)) (fun h => ltk_f.2 (h4 h)) h6
    refine ⟨l', obi e1 (oit (decide_eq_true (by omega)) (obi hi (obi hl' rfl))), h5, same_rot h5 h6 (by omega) (by omega) (by omega) (fun p q hp hp2 hq hq2 => ?_), h7, h8⟩
    obtain rfl : p = a := by omega
    have := h3 (by omega)
    have := ltk_f.1 (hR.le o (i := q) (j := i - 1) (by omega) (by omega) (by omega))
    omega
  by_cases c2 : b - m = 1
  · obtain rfl : b = m + 1 := by omega
    obtain ⟨i, hi, h1, h2, h3, h4⟩ := search3 hN hc hS hl (a := a) (m := m) (by omega) (by omega)
    obtain ⟨l', hl', h5, h6⟩ := down4 hN hl (i := i) (m := m) h2 (by omega)
    obtain ⟨h7, h8⟩ := insert_right o hL ⟨h1, h2⟩ (fun h => ltk_f.2 (h3 h)) (fun h => ltk_t.2 (h4 h)) h6
    refine ⟨l', obi e1 (oif (decide_eq_false (by omega)) (obi e2 (oit (decide_eq_true (by omega)) (obi hi (obi hl' rfl))))), h5, same_rot h5 h6 (by omega) (by omega) (by omega) (fun p q hp hp2 hq hq2 => ?_), h7, h8⟩
    obtain rfl : q = m := by omega
    have := h4 (by omega)
    have := ltk_f.1 (hL.le o (i := i) (j := p) (by omega) (by omega) (by omega))
    omega
  obtain ⟨q1, q2, q3⟩ := half_ok (i := a) (j := b) (by omega)
  obtain ⟨mid, hmid⟩ : ∃ c, c = (a + b) / 2 := ⟨_, rfl⟩
  rw [← hmid] at q2 q3
  have e3 : in64 ((mid : Int) + (m : Int)) = some ((mid + m : Nat) : Int) := in64_nat (by omega) (by omega)
  obtain ⟨s0, hs0⟩ : ∃ c : Nat, c = if mid < m then mid + m - b else a := ⟨_, rfl⟩
  obtain ⟨r0, hr0⟩ : ∃ c : Nat, c = if mid < m then mid else m := ⟨_, rfl⟩
  have hsr : s0 ≤ r0 ∧ a ≤ s0 ∧ r0 ≤ m ∧ r0 ≤ mid ∧ mid + m - s0 ≤ b := by
    rw [hs0, hr0]; by_cases cd : mid < m
    · rw [if_pos cd, if_pos cd]; omega
    · rw [if_neg cd, if_neg cd]; omega
  have ej : (bif decide ((mid : Int) < (m : Int)) then (Option.bind (in64 (((mid + m : Nat) : Int) - (b : Int))) fun x502 => some (x502, (mid : Int))) else some ((a : Int), (m : Int))) = some ((s0 : Int), (r0 : Int)) := by
    rw [hs0, hr0]; by_cases cd : mid < m
    · rw [if_pos cd, if_pos cd]; exact oit (decide_eq_true (by omega)) (obi (in64_nat (n := mid + m - b) (by omega) (by omega)) rfl)
    · rw [if_neg cd, if_neg cd]; exact oif (decide_eq_false (by omega)) rfl
  have e4 : in64 (((mid + m : Nat) : Int) - 1) = some (((mid + m : Nat) : Int) - 1) := in64_ok (by omega)
  obtain ⟨st, hst, h1, h2, h3, h4⟩ := search5 hN hc hS hl (s0 := s0) (r0 := r0) (n := mid + m) hsr.1 (by omega) (by omega) (by omega) (by omega)
  obtain ⟨e, he⟩ : ∃ e, e = mid + m - st := ⟨_, rfl⟩
  have e5 : in64 (((mid + m : Nat) : Int) - (st : Int)) = some (e : Int) := in64_nat (by omega) (by omega)
  rw [← he] at h3 h4
  have hrot : ∃ l1, (bif (decide ((st : Int) < (m : Int)) && decide ((m : Int) < (e : Int))) then (Option.bind (g_slices_rotateCmpFunc_api_Scheme N l st m e) fun r659 => some r659) else some l) = some l1 ∧ l1.length = l.length ∧ Rot (atF l) (atF l1) st m e := by
    by_cases cd : st < m ∧ m < e
    · obtain ⟨l1, q1, q2, q3⟩ := rotate_ok N hN l hl (a := st) (m := m) (b := e) cd.1 cd.2 (by omega)
      exact ⟨l1, oit (band (decide_eq_true (by omega)) (decide_eq_true (by omega))) (obi q1 rfl), q2, q3⟩
    · refine ⟨l, oif ?_ rfl, rfl, rot_none _ (by omega) (by omega) (by omega)⟩
      by_cases d : st < m
      · exact bandF2 (decide_eq_false (by omega))
      · exact bandF (decide_eq_false (by omega))
  obtain ⟨l1, hl1, hlen1, hr1⟩ := hrot
  have hup : st < r0 → ltk key (atF l (e - 1)) (atF l st) = true := fun h => ltk_t.2 (h4 h)
  obtain ⟨⟨g1, g2, g3, g4⟩, g5⟩ := merge_step o ham hL hR hs0 hr0 (by omega) ⟨by omega, by omega⟩ ⟨by omega, by omega⟩ (fun h => ltk_f.2 (h3 h)) hup hr1
  have hsame1 : Same key l l1 := same_rot hlen1 hr1 (by omega) (by omega) (by omega) (fun p q hp hp2 hq hq2 => by
    have hst' : st < r0 := by
      rw [hr0]; split <;> omega
    have := h4 hst'
    have := ltk_f.1 (hL.le o (i := st) (j := p) (by omega) hp hp2)
    have := ltk_f.1 (hR.le o (i := q) (j := e - 1) hq (by omega) (by omega))
    omega)
  have hw1 : Within (atF l) (atF l1) a b := (hr1.within (by omega) (by omega)).wide (by omega) (by omega)
  have hleft : ∃ l2, (bif (decide ((a : Int) < (st : Int)) && decide ((st : Int) < (mid : Int))) then (Option.bind (g_slices_symMergeCmpFunc_api_Scheme_r N M l1 a st mid) fun r688 => some r688) else some l1) = some l2 ∧ l2.length = l.length ∧ Same key l1 l2 ∧ SortedOn (ltk key) (atF l2) a mid ∧ Within (atF l1) (atF l2) a mid := by
    by_cases cd : a < st ∧ st < mid
    · obtain ⟨l2, q1, q2, q3, q4, q5⟩ := ih l1 a st mid (by omega) (fun x hx => hS _ (hsame1.mem.1 hx)) (by omega) cd.1 cd.2 (by omega) g1 g2
      exact ⟨l2, oit (band (decide_eq_true (by omega)) (decide_eq_true (by omega))) (obi q1 rfl), by omega, q3, q4, q5⟩
    · refine ⟨l1, oif ?_ rfl, hlen1, Same.refl _ _, ?_, Within.refl _ _ _⟩
      · by_cases d : a < st
        · exact bandF2 (decide_eq_false (by omega))
        · exact bandF (decide_eq_false (by omega))
      · by_cases d : st = a
        · rw [d] at g2; exact g2
        · obtain rfl : st = mid := by omega
          exact g1
  obtain ⟨l2, hl2, hlen2, hsame2, hso2, hw2⟩ := hleft
  have hs2 : SortedOn (ltk key) (atF l2) mid e ∧ SortedOn (ltk key) (atF l2) e b := by
    refine ⟨fun i j q1 q2 q3 => ?_, fun i j q1 q2 q3 => ?_⟩
    · rw [hw2.out i (by omega), hw2.out j (by omega)]; exact g3 i j q1 q2 q3
    · rw [hw2.out i (by omega), hw2.out j (by omega)]; exact g4 i j q1 q2 q3
  have hright : ∃ l3, (bif (decide ((mid : Int) < (e : Int)) && decide ((e : Int) < (b : Int))) then (Option.bind (g_slices_symMergeCmpFunc_api_Scheme_r N M l2 mid e b) fun r705 => some r705) else some l2) = some l3 ∧ l3.length = l.length ∧ Same key l2 l3 ∧ SortedOn (ltk key) (atF l3) mid b ∧ Within (atF l2) (atF l3) mid b := by
    by_cases cd : mid < e ∧ e < b
    · obtain ⟨l3, q1, q2, q3, q4, q5⟩ := ih l2 mid e b (by omega) (fun x hx => hS _ (hsame1.mem.1 (hsame2.mem.1 hx))) (by omega) cd.1 cd.2 (by omega) hs2.1 hs2.2
      exact ⟨l3, oit (band (decide_eq_true (by omega)) (decide_eq_true (by omega))) (obi q1 rfl), by omega, q3, q4, q5⟩
    · refine ⟨l2, oif ?_ rfl, hlen2, Same.refl _ _, ?_, Within.refl _ _ _⟩
      · by_cases d : mid < e
        · exact bandF2 (decide_eq_false (by omega))
        · exact bandF (decide_eq_false (by omega))
      · by_cases d : e = mid
        · have := hs2.2; rw [d] at this; exact this
        · obtain rfl : e = b := by omega
          exact hs2.1
  obtain ⟨l3, hl3, hlen3, hsame3, hso3, hw3⟩ := hright
  obtain ⟨j1, j2⟩ := merge_join (lt := ltk key) ⟨by omega, by omega⟩ g5 hw2 hso2 hw3 hso3
  refine ⟨l3, ?_, hlen3, (hsame1.trans hsame2).trans hsame3, j1, hw1.trans j2⟩
  exact obi e1 (oif (decide_eq_false (by omega)) (obi e2 (oif (decide_eq_false (by omega)) (obi q1 (obi q2 (obi q3 (obi e3 (obi ej (obi e4 (obi hst (obi e5 (obi hl1 (obi hl2 hl3)))))))))))))
theorem symM_ok {l : List T_Scheme} {a m b : Nat} (hS : ∀ x ∈ l, S x) (hl : l.length ≤ 1200) (ham : a < m) (hmb : m < b) (hb : b ≤ l.length) (h1 : SortedOn (ltk key) (atF l) a m) (h2 : SortedOn (ltk key) (atF l) m b) :
    ∃ l', g_slices_symMergeCmpFunc_api_Scheme N l a m b = some l' ∧ l'.length = l.length ∧ Same key l l' ∧ SortedOn (ltk key) (atF l') a b ∧ Within (atF l) (atF l') a b :=
  symMerge_ok hN hc N l a m b (by omega) hS hl ham hmb hb h1 h2
/-- One pass of merging: blocks of s elements become blocks of 2 s. -/
theorem pass_ok {l : List T_Scheme} {s : Nat} (hS : ∀ x ∈ l, S x) (hl : l.length ≤ 1200) (hs : 0 < s) (hsl : s < l.length) (hb : ∀ q, SortedOn (ltk key) (atF l) (q * s) (min (q * s + s) l.length)) :
    ∃ r x, iterN (fun u : Int × Int × List T_Scheme => g_slices_stableCmpFunc_api_Scheme_l5 N l.length s u.1 u.2.1 u.2.2) N (0, ((2 * s : Nat) : Int), l) = some r ∧
      (Option.bind (in64 (r.1 + s)) fun x349 => bif decide (x349 < (l.length : Int)) then (Option.bind (g_slices_symMergeCmpFunc_api_Scheme N r.2 r.1 x349 l.length) fun r354 => Option.bind (in64 ((s : Int) * 2)) fun x360 => some (.inl (x360, r354))) else (Option.bind (in64 ((s : Int) * 2)) fun x363 => some (.inl (x363, r.2)))) = some (Sum.inl (((2 * s : Nat) : Int), x) : (Int × List T_Scheme) ⊕ List T_Scheme) ∧
      x.length = l.length ∧ Same key l x ∧ ∀ q, SortedOn (ltk key) (atF x) (q * (2 * s)) (min (q * (2 * s) + 2 * s) l.length) := by
  obtain ⟨r, hr, k, y, rfl, hka, hkb, hy, hsm, hd, hu⟩ := iterN_run (f := fun u : Int × Int × List T_Scheme => g_slices_stableCmpFunc_api_Scheme_l5 N l.length s u.1 u.2.1 u.2.2)
    (I := fun u => ∃ (k : Nat), u.1 = ((k * (2 * s) : Nat) : Int) ∧ u.2.1 = ((k * (2 * s) + 2 * s : Nat) : Int) ∧ k * (2 * s) ≤ l.length ∧ u.2.2.length = l.length ∧ Same key l u.2.2 ∧
      (∀ q, q < k → SortedOn (ltk key) (atF u.2.2) (q * (2 * s)) (q * (2 * s) + 2 * s)) ∧ (∀ q, 2 * k ≤ q → SortedOn (ltk key) (atF u.2.2) (q * s) (min (q * s + s) l.length)))
    (Q := fun r => ∃ (k : Nat) (y : List T_Scheme), r = (((k * (2 * s) : Nat) : Int), y) ∧ k * (2 * s) ≤ l.length ∧ l.length < k * (2 * s) + 2 * s ∧ y.length = l.length ∧ Same key l y ∧
      (∀ q, q < k → SortedOn (ltk key) (atF y) (q * (2 * s)) (q * (2 * s) + 2 * s)) ∧ (∀ q, 2 * k ≤ q → SortedOn (ltk key) (atF y) (q * s) (min (q * s + s) l.length))) (fun u => l.length + 1 - u.1.toNat) (by
    rintro ⟨a', b', y⟩ ⟨k, rfl, rfl, hka, hy, hsm, hd, hu⟩
    simp only at hy hsm hd hu ⊢
    unfold g_slices_stableCmpFunc_api_Scheme_l5
    obtain ⟨A, hA⟩ : ∃ A, A = k * (2 * s) := ⟨_, rfl⟩
    have e1 : 2 * k * s = A := by rw [hA]; ac_rfl
    have e2 : (2 * k + 1) * s = A + s := by rw [Nat.add_mul, e1, Nat.one_mul]
    by_cases h : A + 2 * s ≤ l.length
    · have g1 := hu (2 * k) (Nat.le_refl _)
      have g2 := hu (2 * k + 1) (by omega)
      rw [e1, Nat.min_eq_left (by omega)] at g1
      rw [e2, Nat.min_eq_left (by omega), show A + s + s = A + 2 * s by omega] at g2
      obtain ⟨x, hx, h1, h2, h3, h4⟩ := symM_ok hN hc (l := y) (a := A) (m := A + s) (b := A + 2 * s) (fun z hz => hS _ (hsm.mem.1 hz)) (by omega) (by omega) (by omega) (by omega) g1 g2
      rw [← hA]
      refine .inl ⟨(((A + 2 * s : Nat) : Int), ((A + 2 * s + 2 * s : Nat) : Int), x), oit (decide_eq_true (by omega)) (obi (in64_nat (n := A + s) (by omega) (by omega)) (obi hx (obi (in64_nat (n := 2 * s) (by omega) (by omega)) (obi (in64_nat (n := A + 2 * s + 2 * s) (by omega) (by omega)) rfl)))), ⟨k + 1, ?_, ?_, ?_, by simp only; omega, hsm.trans h2, fun q hq => ?_, fun q hq => ?_⟩, by simp only; omega⟩
      · rw [Nat.add_mul, ← hA, Nat.one_mul]
      · rw [Nat.add_mul, ← hA, Nat.one_mul]
      · rw [Nat.add_mul, ← hA, Nat.one_mul]; exact h
      · by_cases e : q = k
        · subst e; rw [← hA]; exact h3
        · have hq2 : (q + 1) * (2 * s) ≤ k * (2 * s) := Nat.mul_le_mul_right _ (by omega)
          rw [Nat.add_mul, Nat.one_mul, ← hA] at hq2
          intro i j p1 p2 p3
          rw [h4.out i (by omega), h4.out j (by omega)]
          exact hd q (by omega) i j p1 p2 p3
      · have hq2 : (2 * k + 2) * s ≤ q * s := Nat.mul_le_mul_right _ (by omega)
        rw [Nat.add_mul, e1] at hq2
        intro i j p1 p2 p3
        rw [h4.out i (by omega), h4.out j (by omega)]
        exact hu q (by omega) i j p1 p2 p3
    · rw [← hA]
      exact .inr ⟨_, oif (decide_eq_false (by omega)) rfl, k, y, by rw [← hA], by rw [← hA]; omega, by rw [← hA]; omega, hy, hsm, hd, hu⟩) N (0, ((2 * s : Nat) : Int), l)
    ⟨0, by simp, by simp, by omega, rfl, Same.refl _ _, fun q h => absurd h (Nat.not_lt_zero _), fun q _ => hb q⟩ (by simp only; omega)
  obtain ⟨A, hA⟩ : ∃ A, A = k * (2 * s) := ⟨_, rfl⟩
  have e1 : 2 * k * s = A := by rw [hA]; ac_rfl
  have e2 : (2 * k + 1) * s = A + s := by rw [Nat.add_mul, e1, Nat.one_mul]
  have g1 := hu (2 * k) (Nat.le_refl _)
  have g2 := hu (2 * k + 1) (by omega)
  rw [e1] at g1
  rw [e2] at g2
  rw [← hA] at hka hkb hr
  have ed : in64 ((s : Int) * 2) = some ((2 * s : Nat) : Int) := in64_nat (by omega) (by omega)
  have fin : ∀ x : List T_Scheme, (∀ z, z < k → SortedOn (ltk key) (atF x) (z * (2 * s)) (z * (2 * s) + 2 * s)) → SortedOn (ltk key) (atF x) A l.length → ∀ q, SortedOn (ltk key) (atF x) (q * (2 * s)) (min (q * (2 * s) + 2 * s) l.length) := fun x hx1 hx2 q => by
    by_cases hq : q < k
    · intro i j p1 p2 p3
      exact hx1 q hq i j p1 p2 (by omega)
    · by_cases e : q = k
      · subst e; rw [← hA]; intro i j p1 p2 p3; exact hx2 i j p1 p2 (by omega)
      · have hq2 : (k + 1) * (2 * s) ≤ q * (2 * s) := Nat.mul_le_mul_right _ (by omega)
        rw [Nat.add_mul, Nat.one_mul, ← hA] at hq2
        intro i j p1 p2 p3; omega
  by_cases h : A + s < l.length
  · rw [Nat.min_eq_left (by omega)] at g1
    rw [Nat.min_eq_right (by omega)] at g2
    obtain ⟨x, hx, h1, h2, h3, h4⟩ := symM_ok hN hc (l := y) (a := A) (m := A + s) (b := l.length) (fun z hz => hS _ (hsm.mem.1 hz)) (by omega) (by omega) (by omega) (by omega) g1 g2
    refine ⟨_, x, hr, obi (in64_nat (n := A + s) (by simp only; omega) (by omega)) (oit (decide_eq_true (by omega)) (obi hx (obi ed rfl))), by omega, hsm.trans h2, fin x (fun q hq i j p1 p2 p3 => ?_) h3⟩
    have hq2 : (q + 1) * (2 * s) ≤ k * (2 * s) := Nat.mul_le_mul_right _ (by omega)
    rw [Nat.add_mul, Nat.one_mul, ← hA] at hq2
    rw [h4.out i (by omega), h4.out j (by omega)]
    exact hd q hq i j p1 p2 p3
  · rw [Nat.min_eq_right (by omega)] at g1
    exact ⟨_, y, hr, obi (in64_nat (n := A + s) (by simp only; omega) (by omega)) (oif (decide_eq_false (by omega)) (obi ed rfl)), hy, hsm, fin y hd g1⟩
theorem stable_ok {l : List T_Scheme} (hS : ∀ x ∈ l, S x) (hl : l.length ≤ 1200) :
    ∃ l', g_slices_stableCmpFunc_api_Scheme N l l.length = some l' ∧ l'.length = l.length ∧ Same key l l' ∧ AscK key l' := by
  obtain ⟨r, hr, k, y, rfl, hka, hkb, hy, hsm, hd⟩ := iterN_run (f := fun u : Int × Int × List T_Scheme => g_slices_stableCmpFunc_api_Scheme_l1 N l.length u.1 u.2.1 u.2.2)
    (I := fun u => ∃ (k : Nat), u.1 = ((k * 20 : Nat) : Int) ∧ u.2.1 = ((k * 20 + 20 : Nat) : Int) ∧ k * 20 ≤ l.length ∧ u.2.2.length = l.length ∧ Same key l u.2.2 ∧ (∀ q, q < k → SortedOn (ltk key) (atF u.2.2) (q * 20) (q * 20 + 20)))
    (Q := fun r => ∃ (k : Nat) (y : List T_Scheme), r = (((k * 20 : Nat) : Int), y) ∧ k * 20 ≤ l.length ∧ l.length < k * 20 + 20 ∧ y.length = l.length ∧ Same key l y ∧ (∀ q, q < k → SortedOn (ltk key) (atF y) (q * 20) (q * 20 + 20))) (fun u => l.length + 1 - u.1.toNat) (by
    rintro ⟨a', b', y⟩ ⟨k, rfl, rfl, hka, hy, hsm, hd⟩
    simp only at hy hsm hd ⊢
    unfold g_slices_stableCmpFunc_api_Scheme_l1
    by_cases h : k * 20 + 20 ≤ l.length
    · obtain ⟨x, hx, h1, h2, h3, h4⟩ := insertion_ok hN hc (l := y) (a := k * 20) (b := k * 20 + 20) (fun z hz => hS _ (hsm.mem.1 hz)) (by omega) (by omega) (by omega)
      refine .inl ⟨(((k * 20 + 20 : Nat) : Int), ((k * 20 + 20 + 20 : Nat) : Int), x), oit (decide_eq_true (by omega)) (obi hx (obi (in64_nat (n := k * 20 + 20 + 20) (by omega) (by omega)) rfl)), ⟨k + 1, by simp only; omega, by simp only; omega, by omega, by simp only; omega, hsm.trans h2, fun q hq => ?_⟩, by simp only; omega⟩
      by_cases e : q = k
      · subst e; exact h3
      · intro i j p1 p2 p3
        rw [h4.out i (by omega), h4.out j (by omega)]
        exact hd q (by omega) i j p1 p2 p3
    · exact .inr ⟨_, oif (decide_eq_false (by omega)) rfl, k, y, rfl, hka, by omega, hy, hsm, hd⟩) N (0, 20, l)
    ⟨0, by simp, by simp, by omega, rfl, Same.refl _ _, fun q h => absurd h (Nat.not_lt_zero _)⟩ (by simp only; omega)
  obtain ⟨z, hz, z1, z2, z3, z4⟩ := insertion_ok hN hc (l := y) (a := k * 20) (b := l.length) (fun z hz => hS _ (hsm.mem.1 hz)) (by omega) hka (by omega)
  have hblk : ∀ q, SortedOn (ltk key) (atF z) (q * 20) (min (q * 20 + 20) l.length) := fun q i j p1 p2 p3 => by
    by_cases hq : q < k
    · rw [z4.out i (by omega), z4.out j (by omega)]
      exact hd q hq i j p1 p2 (by omega)
    · exact z3 i j (by omega) p2 (by omega)
  obtain ⟨x, hx, hQ⟩ := iterN_run (f := fun u : Int × List T_Scheme => g_slices_stableCmpFunc_api_Scheme_l4 N l.length u.1 u.2)
    (I := fun u => ∃ (s : Nat), u.1 = (s : Int) ∧ 0 < s ∧ u.2.length = l.length ∧ Same key l u.2 ∧ (∀ q, SortedOn (ltk key) (atF u.2) (q * s) (min (q * s + s) l.length)))
    (Q := fun x => x.length = l.length ∧ Same key l x ∧ SortedOn (ltk key) (atF x) 0 l.length) (fun u => l.length - u.1.toNat) (by
    rintro ⟨s', y⟩ ⟨s, rfl, hs, hy, hsm, hd⟩
    simp only at hy hsm hd ⊢
    unfold g_slices_stableCmpFunc_api_Scheme_l4
    by_cases h : s < l.length
    · have hd' : ∀ q, SortedOn (ltk key) (atF y) (q * s) (min (q * s + s) y.length) := by rw [hy]; exact hd
      obtain ⟨r, x, h1, h2, h3, h4, h5⟩ := pass_ok hN hc (l := y) (s := s) (fun z hz => hS _ (hsm.mem.1 hz)) (by omega) hs (by omega) hd'
      rw [hy] at h1 h2 h3 h5
      exact .inl ⟨_, oit (decide_eq_true (by omega)) (obi (in64_nat (n := 2 * s) (by omega) (by omega)) (obi h1 h2)), ⟨2 * s, rfl, by omega, h3, hsm.trans h4, h5⟩, by simp only; omega⟩
    · refine .inr ⟨y, oif (decide_eq_false (by omega)) rfl, hy, hsm, ?_⟩
      have := hd 0
      rw [Nat.zero_mul, Nat.zero_add, Nat.min_eq_right (by omega)] at this
      exact this) N (20, z)
    ⟨20, rfl, by omega, by simp only; omega, hsm.trans z2, hblk⟩ (by simp only; omega)
  exact ⟨x, obi hr (obi hz (obi hx rfl)), hQ.1, hQ.2.1, ascK_of (by rw [hQ.1]; exact hQ.2.2)⟩
/-- The stable sort. -/
theorem sort_ok {l : List T_Scheme} (hS : ∀ x ∈ l, S x) (hl : l.length ≤ 1200) :
    ∃ l', g_slices_SortStableFunc_api_Scheme_api_Scheme N l = some l' ∧ l'.length = l.length ∧ Same key l l' ∧ AscK key l' := by
  obtain ⟨x, hx, h⟩ := stable_ok hN hc hS hl
  exact ⟨x, obi hx rfl, h⟩
end
end Go.Gv.SC
