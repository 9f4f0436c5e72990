/- Edit scripts as ways over a grid; least costs. Tf is the text with the plain ways. -/
import Derived.Test.YtlpkbkbjohhleaaGreatTf
namespace Go.Gv.R

theorem inc_nat {n : Nat} (h : n ≤ 100000000000) : in64 ((n : Int) + 1) = some ((n + 1 : Nat) : Int) := in64_nat (by omega) (by omega)
theorem gO_T {α : Type} [Inhabited α] {g : Bool} {m : Option α} {x : α} (hg : g = true) (h : m = some x) : gO g m = some x := by subst hg; exact h
theorem gO_F {α : Type} [Inhabited α] {g : Bool} {m : Option α} (hg : g = false) : gO g m = some default := by subst hg; rfl
theorem idx_getD {α : Type} {l : List α} {i : Nat} (d : α) (h : i < l.length) : idx l (i : Int) = some (l.getD i d) := by
  rw [idx_nat h, List.getD_eq_getElem?_getD, List.getElem?_eq_getElem h]; rfl

def okE (a b : List Int) (i j : Nat) (e : Int) : Bool :=
  if e = 0 then (decide (i < a.length) && decide (j < b.length)) && decide (a.getD i 0 = b.getD j 0)
  else if e = 1 then (decide (i < a.length) && decide (j < b.length)) && !decide (a.getD i 0 = b.getD j 0)
  else if e = 2 then decide (i < a.length)
  else if e = 3 then decide (j < b.length)
  else if e = 4 then (((decide (i + 1 < a.length) && decide (j + 1 < b.length)) && decide (a.getD i 0 = b.getD (j + 1) 0)) && decide (a.getD (i + 1) 0 = b.getD j 0)) && !decide (a.getD i 0 = a.getD (i + 1) 0)
  else false
def di (e : Int) : Nat := if e = 3 then 0 else if e = 4 then 2 else 1
def dj (e : Int) : Nat := if e = 2 then 0 else if e = 4 then 2 else 1
def cst (e : Int) : Nat := if e = 0 then 0 else if e = 1 then 3 else 4

theorem okE_cases {a b : List Int} {i j : Nat} {e : Int} (h : okE a b i j e = true) :
    (e = 0 ∧ i < a.length ∧ j < b.length ∧ a.getD i 0 = b.getD j 0) ∨ (e = 1 ∧ i < a.length ∧ j < b.length ∧ a.getD i 0 ≠ b.getD j 0) ∨ (e = 2 ∧ i < a.length) ∨ (e = 3 ∧ j < b.length)
    ∨ (e = 4 ∧ i + 1 < a.length ∧ j + 1 < b.length ∧ a.getD i 0 = b.getD (j + 1) 0 ∧ a.getD (i + 1) 0 = b.getD j 0 ∧ a.getD i 0 ≠ a.getD (i + 1) 0) := by
  unfold okE at h
  split at h
  · simp only [Bool.and_eq_true, decide_eq_true_eq] at h; exact .inl ⟨by assumption, h.1.1, h.1.2, h.2⟩
  split at h
  · simp only [Bool.and_eq_true, decide_eq_true_eq, Bool.not_eq_true', decide_eq_false_iff_not] at h; exact .inr (.inl ⟨by assumption, h.1.1, h.1.2, h.2⟩)
  split at h
  · exact .inr (.inr (.inl ⟨by assumption, of_decide_eq_true h⟩))
  split at h
  · exact .inr (.inr (.inr (.inl ⟨by assumption, of_decide_eq_true h⟩)))
  split at h
  · simp only [Bool.and_eq_true, decide_eq_true_eq, Bool.not_eq_true', decide_eq_false_iff_not] at h; exact .inr (.inr (.inr (.inr ⟨by assumption, h.1.1.1.1, h.1.1.1.2, h.1.1.2, h.1.2, h.2⟩)))
  · cases h
theorem ok0 {a b : List Int} {i j : Nat} (h1 : i < a.length) (h2 : j < b.length) (h3 : a.getD i 0 = b.getD j 0) : okE a b i j 0 = true := by
  unfold okE; rw [if_pos rfl]; simp only [Bool.and_eq_true, decide_eq_true_eq]; exact ⟨⟨h1, h2⟩, h3⟩
theorem ok1 {a b : List Int} {i j : Nat} (h1 : i < a.length) (h2 : j < b.length) (h3 : a.getD i 0 ≠ b.getD j 0) : okE a b i j 1 = true := by
  unfold okE; rw [if_neg (by decide), if_pos rfl]; simp only [Bool.and_eq_true, decide_eq_true_eq, Bool.not_eq_true', decide_eq_false_iff_not]; exact ⟨⟨h1, h2⟩, h3⟩
theorem ok2 {a b : List Int} {i j : Nat} (h1 : i < a.length) : okE a b i j 2 = true := by
  unfold okE; rw [if_neg (by decide), if_neg (by decide), if_pos rfl]; exact decide_eq_true h1
theorem ok3 {a b : List Int} {i j : Nat} (h1 : j < b.length) : okE a b i j 3 = true := by
  unfold okE; rw [if_neg (by decide), if_neg (by decide), if_neg (by decide), if_pos rfl]; exact decide_eq_true h1
theorem ok4 {a b : List Int} {i j : Nat} (h1 : i + 1 < a.length) (h2 : j + 1 < b.length) (h3 : a.getD i 0 = b.getD (j + 1) 0) (h4 : a.getD (i + 1) 0 = b.getD j 0) (h5 : a.getD i 0 ≠ a.getD (i + 1) 0) : okE a b i j 4 = true := by
  unfold okE; rw [if_neg (by decide), if_neg (by decide), if_neg (by decide), if_neg (by decide), if_pos rfl]; simp only [Bool.and_eq_true, decide_eq_true_eq, Bool.not_eq_true', decide_eq_false_iff_not]; exact ⟨⟨⟨⟨h1, h2⟩, h3⟩, h4⟩, h5⟩
theorem ok_range {a b : List Int} {i j : Nat} {e : Int} (h : okE a b i j e = true) (hi : i ≤ a.length) (hj : j ≤ b.length) : (0 ≤ e ∧ e ≤ 4) ∧ i + di e ≤ a.length ∧ j + dj e ≤ b.length ∧ 0 < di e + dj e ∧ cst e ≤ 4 ∧ di e ≤ 2 ∧ dj e ≤ 2 := by
  rcases okE_cases h with ⟨rfl, h⟩ | ⟨rfl, h⟩ | ⟨rfl, h⟩ | ⟨rfl, h⟩ | ⟨rfl, h⟩ <;> simp [di, dj, cst] <;> omega
theorem ok_pos {a b : List Int} {i j : Nat} {e : Int} (h : okE a b i j e = true) : 0 < di e + dj e := by
  rcases okE_cases h with ⟨rfl, h⟩ | ⟨rfl, h⟩ | ⟨rfl, h⟩ | ⟨rfl, h⟩ | ⟨rfl, h⟩ <;> simp [di, dj]
/- from (i, j) there is a way on, unless both lists are at their ends; but the place may lie beyond one end: then i or j is at its end -/
theorem ok_some {a b : List Int} {i j : Nat} (hi : i ≤ a.length) (hj : j ≤ b.length) (h : ¬(i = a.length ∧ j = b.length)) : ∃ e, okE a b i j e = true := by
  by_cases h1 : i < a.length
  · exact ⟨2, ok2 h1⟩
  · exact ⟨3, ok3 (by omega)⟩

inductive Path (a b : List Int) : Nat → Nat → List Int → Nat → Nat → Nat → Prop
  | nil (i j : Nat) : Path a b i j [] i j 0
  | cons {i j : Nat} {e : Int} {s : List Int} {k l c : Nat} : okE a b i j e = true → Path a b (i + di e) (j + dj e) s k l c → Path a b i j (e :: s) k l (cst e + c)

theorem Path.trans {a b : List Int} {i j k l c p q c' : Nat} {s s' : List Int} (h : Path a b i j s k l c) (h' : Path a b k l s' p q c') : Path a b i j (s ++ s') p q (c + c') := by
  induction h with
  | nil => simpa using h'
  | cons ho _ ih =>
    have := Path.cons ho (ih h')
    rw [Nat.add_assoc]
    exact this
theorem Path.one {a b : List Int} {i j : Nat} {e : Int} (h : okE a b i j e = true) : Path a b i j [e] (i + di e) (j + dj e) (cst e) := Path.cons h (Path.nil _ _)
theorem Path.last {a b : List Int} {i j k l c : Nat} {s : List Int} (h : Path a b i j s k l c) : (i = k ∧ j = l ∧ c = 0 ∧ s = []) ∨ ∃ s' e k' l' c', Path a b i j s' k' l' c' ∧ okE a b k' l' e = true ∧ k = k' + di e ∧ l = l' + dj e ∧ c = c' + cst e := by
  induction h with
  | nil => exact .inl ⟨rfl, rfl, rfl, rfl⟩
  | @cons i j e s k l c ho hp ih =>
    rcases ih with ⟨rfl, rfl, rfl, rfl⟩ | ⟨s', e', k', l', c', h1, h2, h3, h4, h5⟩
    · exact .inr ⟨[], e, i, j, 0, Path.nil _ _, ho, rfl, rfl, by omega⟩
    · exact .inr ⟨e :: s', e', k', l', cst e + c', Path.cons ho h1, h2, h3, h4, by omega⟩
theorem Path.mono {a b : List Int} {i j k l c : Nat} {s : List Int} (h : Path a b i j s k l c) : i ≤ k ∧ j ≤ l ∧ s.length ≤ (k - i) + (l - j) := by
  induction h with
  | nil => simp
  | cons ho hp ih =>
    have : 0 < di _ + dj _ := ok_pos ho
    simp only [List.length_cons]
    omega
theorem Path.head {a b : List Int} {i j k l c : Nat} {s : List Int} (h : Path a b i j s k l c) : (i = k ∧ j = l ∧ c = 0 ∧ s = []) ∨ ∃ e s' c', s = e :: s' ∧ okE a b i j e = true ∧ Path a b (i + di e) (j + dj e) s' k l c' ∧ c = cst e + c' := by
  cases h with
  | nil => exact .inl ⟨rfl, rfl, rfl, rfl⟩
  | cons ho hp => exact .inr ⟨_, _, _, rfl, ho, hp, rfl⟩
theorem path_ex (a b : List Int) : ∀ (n i j k l : Nat), n = (k - i) + (l - j) → i ≤ k → k ≤ a.length → j ≤ l → l ≤ b.length → ∃ s c, Path a b i j s k l c ∧ c ≤ 4 * n
  | 0, i, j, k, l, hn, h1, h2, h3, h4 => by
    obtain rfl : i = k := by omega
    obtain rfl : j = l := by omega
    exact ⟨[], 0, Path.nil _ _, by omega⟩
  | n + 1, i, j, k, l, hn, h1, h2, h3, h4 => by
    by_cases h : i < k
    · obtain ⟨s, c, hp, hc⟩ := path_ex a b n (i + 1) j k l (by omega) (by omega) h2 h3 h4
      exact ⟨2 :: s, cst 2 + c, Path.cons (ok2 (by omega)) hp, by simp [cst]; omega⟩
    · obtain ⟨s, c, hp, hc⟩ := path_ex a b n i (j + 1) k l (by omega) (by omega) h2 (by omega) h4
      exact ⟨3 :: s, cst 3 + c, Path.cons (ok3 (by omega)) hp, by simp [cst]; omega⟩

theorem exists_min (p : Nat → Prop) : ∀ n, p n → ∃ m, p m ∧ ∀ k, p k → m ≤ k := by
  intro n
  induction n using Nat.strongRecOn with
  | _ n ih =>
    intro h
    by_cases hc : ∃ k, k < n ∧ p k
    · obtain ⟨k, hk, hp⟩ := hc
      exact ih k hk hp
    · exact ⟨n, h, fun k hk => Nat.le_of_not_lt fun hlt => hc ⟨k, hlt, hk⟩⟩

open Classical in
noncomputable def dist (a b : List Int) (i j k l : Nat) : Nat :=
  if h : ∃ m, (∃ s, Path a b i j s k l m) ∧ ∀ c, (∃ s, Path a b i j s k l c) → m ≤ c then Classical.choose h else 0
theorem dist_spec {a b : List Int} {i j k l c : Nat} {s : List Int} (h : Path a b i j s k l c) : (∃ s, Path a b i j s k l (dist a b i j k l)) ∧ ∀ c, (∃ s, Path a b i j s k l c) → dist a b i j k l ≤ c := by
  have hm := exists_min (fun c => ∃ s, Path a b i j s k l c) c ⟨s, h⟩
  unfold dist
  rw [dif_pos hm]
  exact Classical.choose_spec hm
theorem dist_le {a b : List Int} {i j k l c : Nat} {s : List Int} (h : Path a b i j s k l c) : dist a b i j k l ≤ c := (dist_spec h).2 c ⟨s, h⟩
theorem dist_path {a b : List Int} {i j k l : Nat} (h1 : i ≤ k) (h2 : k ≤ a.length) (h3 : j ≤ l) (h4 : l ≤ b.length) : ∃ s, Path a b i j s k l (dist a b i j k l) := by
  obtain ⟨s, c, hp, _⟩ := path_ex a b _ i j k l rfl h1 h2 h3 h4
  exact (dist_spec hp).1
theorem dist_bound {a b : List Int} {i j k l : Nat} (h1 : i ≤ k) (h2 : k ≤ a.length) (h3 : j ≤ l) (h4 : l ≤ b.length) : dist a b i j k l ≤ 4 * ((k - i) + (l - j)) := by
  obtain ⟨s, c, hp, hc⟩ := path_ex a b _ i j k l rfl h1 h2 h3 h4
  exact Nat.le_trans (dist_le hp) hc
theorem dist_self (a b : List Int) (i j : Nat) : dist a b i j i j = 0 := Nat.le_zero.1 (dist_le (Path.nil i j))

/-- the least cost to the end -/
noncomputable def V (a b : List Int) (i j : Nat) : Nat := dist a b i j a.length b.length
/-- the least cost from the beginning -/
noncomputable def U (a b : List Int) (i j : Nat) : Nat := dist a b 0 0 i j
theorem V_le {a b : List Int} {i j : Nat} {e : Int} (h : okE a b i j e = true) (hi : i ≤ a.length) (hj : j ≤ b.length) : V a b i j ≤ cst e + V a b (i + di e) (j + dj e) := by
  have hr := ok_range h hi hj
  obtain ⟨s, hp⟩ := dist_path (a := a) (b := b) hr.2.1 (Nat.le_refl _) hr.2.2.1 (Nat.le_refl _)
  exact dist_le (Path.cons h hp)
theorem V_ex {a b : List Int} {i j : Nat} (hi : i ≤ a.length) (hj : j ≤ b.length) (h : ¬(i = a.length ∧ j = b.length)) : ∃ e, okE a b i j e = true ∧ V a b i j = cst e + V a b (i + di e) (j + dj e) := by
  obtain ⟨s, hp⟩ := dist_path (a := a) (b := b) hi (Nat.le_refl _) hj (Nat.le_refl _)
  rcases hp.head with ⟨h1, h2, _⟩ | ⟨e, s', c', _, ho, hp', hc⟩
  · exact absurd ⟨h1, h2⟩ h
  · refine ⟨e, ho, Nat.le_antisymm (V_le ho hi hj) ?_⟩
    have := dist_le hp'
    show cst e + dist _ _ _ _ _ _ ≤ dist _ _ _ _ _ _
    omega
theorem V_end (a b : List Int) : V a b a.length b.length = 0 := dist_self _ _ _ _
theorem V_bound {a b : List Int} {i j : Nat} (hi : i ≤ a.length) (hj : j ≤ b.length) : V a b i j ≤ 4 * ((a.length - i) + (b.length - j)) := dist_bound hi (Nat.le_refl _) hj (Nat.le_refl _)
theorem U_le {a b : List Int} {i j : Nat} {e : Int} (h : okE a b i j e = true) (hi : i ≤ a.length) (hj : j ≤ b.length) : U a b (i + di e) (j + dj e) ≤ U a b i j + cst e := by
  have hr := ok_range h hi hj
  obtain ⟨s, hp⟩ := dist_path (a := a) (b := b) (k := i) (l := j) (Nat.zero_le _) (by omega) (Nat.zero_le _) (by omega)
  exact dist_le (hp.trans (Path.one h))
theorem U_ex {a b : List Int} {k l : Nat} (hk : k ≤ a.length) (hl : l ≤ b.length) (h : ¬(k = 0 ∧ l = 0)) : ∃ i j e, okE a b i j e = true ∧ k = i + di e ∧ l = j + dj e ∧ U a b k l = U a b i j + cst e := by
  obtain ⟨s, hp⟩ := dist_path (a := a) (b := b) (Nat.zero_le _) hk (Nat.zero_le _) hl
  rcases hp.last with ⟨h1, h2, _⟩ | ⟨s', e, i, j, c', hp', ho, rfl, rfl, hc⟩
  · exact absurd ⟨h1.symm, h2.symm⟩ h
  · refine ⟨i, j, e, ho, rfl, rfl, Nat.le_antisymm (U_le ho (by omega) (by omega)) ?_⟩
    have := dist_le hp'
    show dist _ _ _ _ _ _ + cst e ≤ dist _ _ _ _ _ _
    omega
theorem U_zero (a b : List Int) : U a b 0 0 = 0 := dist_self _ _ _ _
theorem U_bound {a b : List Int} {i j : Nat} (hi : i ≤ a.length) (hj : j ≤ b.length) : U a b i j ≤ 4 * (i + j) := by
  have := dist_bound (a := a) (b := b) (Nat.zero_le i) hi (Nat.zero_le j) hj
  simpa [U] using this
theorem U_V (a b : List Int) : U a b a.length b.length = V a b 0 0 := rfl

/-- The first of the best edits. -/
structure FB (a b : List Int) (i j : Nat) (e : Int) : Prop where
  ok : okE a b i j e = true
  best : V a b i j = cst e + V a b (i + di e) (j + dj e)
  first : ∀ e', e' < e → okE a b i j e' = true → V a b i j < cst e' + V a b (i + di e') (j + dj e')
theorem FB.uniq {a b : List Int} {i j : Nat} {e f : Int} (h : FB a b i j e) (g : FB a b i j f) : e = f := by
  rcases Int.lt_trichotomy e f with x | x | x
  · have := g.first e x h.ok; have := h.best; omega
  · exact x
  · have := h.first f x g.ok; have := g.best; omega

/-! tables -/
def cell (t : List (List Int)) (i j : Nat) : Int := (t.getD i []).getD j 0
structure Shape (m n : Nat) (t : List (List Int)) : Prop where
  len : t.length = m + 1
  row : ∀ i, i ≤ m → (t.getD i []).length = n + 1
structure Upd (m n : Nat) (t' t : List (List Int)) (i j : Nat) (v : Int) : Prop where
  shape : Shape m n t'
  here : cell t' i j = v
  else_ : ∀ k l, ¬(k = i ∧ l = j) → cell t' k l = cell t k l
theorem getD_set {α : Type} {l : List α} {i k : Nat} {v d : α} (h : i < l.length) : (l.set i v).getD k d = if k = i then v else l.getD k d := by
  rw [List.getD_eq_getElem?_getD, List.getD_eq_getElem?_getD, List.getElem?_set]
  by_cases e : k = i
  · subst e; simp [h]
  · simp [e, Ne.symm e]
theorem upd_set {m n : Nat} {t : List (List Int)} {i j : Nat} (v : Int) (h : Shape m n t) (hi : i ≤ m) (hj : j ≤ n) : Upd m n (t.set i ((t.getD i []).set j v)) t i j v := by
  have hl := h.len
  have hr := h.row i hi
  have hc : ∀ k l, cell (t.set i ((t.getD i []).set j v)) k l = if k = i ∧ l = j then v else cell t k l := by
    intro k l
    unfold cell
    rw [getD_set (by omega)]
    by_cases e : k = i
    · subst e
      rw [if_pos rfl, getD_set (by omega)]
      by_cases e2 : l = j <;> simp [e2]
    · rw [if_neg e, if_neg (by omega)]
  refine ⟨⟨by simpa using hl, fun k hk => ?_⟩, by rw [hc, if_pos ⟨rfl, rfl⟩], fun k l hkl => by rw [hc, if_neg hkl]⟩
  rw [getD_set (by omega)]
  split
  · simpa using hr
  · exact h.row k hk
theorem Upd.again {m n : Nat} {t t1 t2 : List (List Int)} {i j : Nat} {v w : Int} (h : Upd m n t1 t i j v) (g : Upd m n t2 t1 i j w) : Upd m n t2 t i j w :=
  ⟨g.shape, g.here, fun k l hkl => by rw [g.else_ k l hkl, h.else_ k l hkl]⟩
theorem Upd.same {m n : Nat} {t : List (List Int)} {i j : Nat} (h : Shape m n t) : Upd m n t t i j (cell t i j) := ⟨h, rfl, fun _ _ _ => rfl⟩
theorem idx_row {m n : Nat} {t : List (List Int)} {i : Nat} (h : Shape m n t) (hi : i ≤ m) : idx t (i : Int) = some (t.getD i []) := idx_getD [] (by rw [h.len]; omega)
theorem idx_cell {m n : Nat} {t : List (List Int)} {i j : Nat} (h : Shape m n t) (hi : i ≤ m) (hj : j ≤ n) : idx (t.getD i []) (j : Int) = some (cell t i j) := idx_getD 0 (by rw [h.row i hi]; omega)
end Go.Gv.R
