/- Throwing (chapter 24): the commands of one switch. -/
import Derived.Test.YtpelfidmcpcmjaaPlr
namespace Go.Gv
theorem snocInd {α : Type} {P : List α → Prop} (h0 : P []) (h1 : ∀ l x, P l → P (l ++ [x])) (l : List α) : P l := by
  have : ∀ m : List α, P m.reverse := fun m => by
    induction m with
    | nil => exact h0
    | cons x t ih => rw [List.reverse_cons]; exact h1 _ _ ih
  have := this l.reverse
  rwa [List.reverse_reverse] at this
theorem find_filter {α : Type} (p : α → Bool) : ∀ L : List α, (L.filter p).find? p = L.find? p
  | [] => rfl
  | x :: t => by
    cases h : p x with
    | true => rw [List.filter_cons, if_pos h, List.find?_cons, List.find?_cons, h]
    | false =>
      rw [List.filter_cons, if_neg (by rw [h]; decide), List.find?_cons, h]
      exact find_filter p t
theorem lastS_filter (m : List T_Command) (st : List T_Throw) (e : Int) : lastS (m.filter (elC e)) st e = lastS m st e := by
  unfold lastS
  rw [← List.filter_reverse, find_filter]
theorem lastS_fold {st : List T_Throw} {e : Int} (A : List T_Command) : (∀ x ∈ A, x.Element = e) → lastS A st e = A.foldl (fun _ x => x.Side) (frs st e) := by
  refine snocInd (P := fun A => (∀ x ∈ A, x.Element = e) → lastS A st e = A.foldl (fun _ x => x.Side) (frs st e)) (fun _ => rfl) (fun l x _ h => ?_) A
  rw [lastS_snoc, if_pos (h x (List.mem_append_right _ List.mem_cons_self)), List.foldl_append]; rfl
/-- planned cuts -/
structure Pln (l : List (List T_Span)) (r : List Int) (th : Int) (st : List T_Throw) : Prop where
  ll : l.length ≤ 8
  ct : ∀ a ∈ l, Cut a
  th0 : 0 ≤ th ∧ th ≤ 2500
  rl : r.length = l.length
  rb : ∀ i, i < l.length → th ≤ rk r i ∧ rk r i ≤ 1000000
  sp : ∀ i j, i < j → j < l.length → sepJ l th r i j (rk r j)
  sl : st.length ≤ 2
  sb : ∀ x ∈ st, (x.Element = 2 ∨ x.Element = 4) ∧ (x.Side = 1 ∨ x.Side = 2)
  su : st.Pairwise (fun x y => x.Element ≠ y.Element)
  pa : ∀ a ∈ l, Par a
theorem Pln.ck {l : List (List T_Span)} {r : List Int} {th : Int} {st : List T_Throw} (p : Pln l r th st) {l' : List (List T_Span)} (hl : l'.length = l.length) (hg : ∀ a ∈ l', Good a) : ck24 l' r th st = 0 := by
  have h0 := p.ll
  have h1 := p.th0
  have h2 := p.rl
  have h3 := p.sl
  unfold ck24
  rw [if_neg (by omega)]
  have a1 : soundB l' th = true := by
    unfold soundB
    rw [inT_iff.2 ⟨h1.1, by omega⟩, Bool.and_true, List.all_eq_true]
    exact fun a ha => goodB_T (hg a ha)
  have a2 : okT r = true := by
    unfold okT
    rw [Bool.not_eq_true', List.any_eq_false]
    intro i hi hb
    have hi := List.mem_range.1 hi
    have b1 := p.rb i (by omega)
    have : badT r i = false := by
      refine borF (borF (decide_eq_false (by omega)) (decide_eq_false (by omega))) ?_
      by_cases hp : 0 < i
      · have b2 := (p.sp (i - 1) i (by omega) (by omega)).1
        exact bandF2 (decide_eq_false (by omega))
      · exact bandF (decide_eq_false hp)
    rw [this] at hb; cases hb
  have a3 : okS st = true := by
    unfold okS
    refine band (decide_eq_true (by omega)) ?_
    rw [Bool.not_eq_true', List.any_eq_false]
    intro i hi hb
    have hi := List.mem_range.1 hi
    have hx : st[i] = sk st i := by unfold sk; rw [List.getD_eq_getElem?_getD, List.getElem?_eq_getElem hi]; rfl
    have hs := p.sb _ (List.getElem_mem hi)
    rw [hx] at hs
    have : badS st i = false := by
      refine borF (borF (decide_eq_false (by omega)) ?_) (bnotIf ?_)
      · unfold dupS
        rw [List.any_eq_false]
        intro j hj he
        have hj := List.mem_range.1 hj
        have hy : st[j] = sk st j := by unfold sk; rw [List.getD_eq_getElem?_getD, List.getElem?_eq_getElem (by omega)]; rfl
        have := List.pairwise_iff_getElem.1 p.su j i (by omega) hi hj
        rw [hx, hy] at this
        exact this (of_decide_eq_true he)
      · rcases hs.2 with h | h
        · exact borT (decide_eq_true h)
        · exact borT2 (decide_eq_true h)
    rw [this] at hb; cases hb
  rw [a1, a2, a3, decide_eq_true (by omega)]; rfl
/-! one switch -/
def fe (l : List (List T_Span)) (e : Int) (k : Nat) : Option T_Span := (lk l k).find? (elS e)
def stE (l : List (List T_Span)) (r : List Int) (st : List T_Throw) (e : Int) (F : List T_Command) (k : Nat) : List T_Command :=
  match fe l e k with
  | none => F
  | some s => if s.Side = 0 ∨ lastS F st e = s.Side then F else F ++ [⟨tmE l r e k, e, s.Side, (k : Int)⟩]
def chE (l : List (List T_Span)) (r : List Int) (st : List T_Throw) (e : Int) : Nat → List T_Command
  | 0 => []
  | k + 1 => stE l r st e (chE l r st e k) k
section
variable {l : List (List T_Span)} {r : List Int} {th : Int} {st : List T_Throw}
theorem fe_mem {e : Int} {k : Nat} {s : T_Span} (h : fe l e k = some s) : s ∈ lk l k ∧ s.Element = e := ⟨List.mem_of_find?_eq_some h, of_decide_eq_true (show elS e s = true from List.find?_some (p := elS e) h)⟩
theorem fe_lt {e : Int} {k : Nat} {s : T_Span} (h : fe l e k = some s) : k < l.length := by
  by_cases hk : k < l.length
  · exact hk
  · have := (fe_mem h).1
    unfold lk at this
    rw [List.getD_eq_getElem?_getD, List.getElem?_eq_none (by omega)] at this
    simp at this
theorem chE_none {e : Int} {k : Nat} (h : fe l e k = none) : chE l r st e (k + 1) = chE l r st e k := by show stE l r st e _ k = _; unfold stE; rw [h]
theorem chE_some {e : Int} {k : Nat} {s : T_Span} (h : fe l e k = some s) : chE l r st e (k + 1) = if s.Side = 0 ∨ lastS (chE l r st e k) st e = s.Side then chE l r st e k else chE l r st e k ++ [⟨tmE l r e k, e, s.Side, (k : Int)⟩] := by show stE l r st e _ k = _; unfold stE; rw [h]
theorem tmE_none {e : Int} {k : Nat} (h : fe l e k = none) : tmE l r e (k + 1) = tmE l r e k := by unfold fe at h; rw [tmE, h]
theorem tmE_some {e : Int} {k : Nat} {s : T_Span} (h : fe l e k = some s) : tmE l r e (k + 1) = max (tmE l r e k) (rk r k + s.To) := by unfold fe at h; rw [tmE, h]
theorem tm_mono {e : Int} {j : Nat} : ∀ {k : Nat}, j ≤ k → tmE l r e j ≤ tmE l r e k := fun {k} h => by
  induction k with
  | zero => have : j = 0 := by omega
            rw [this]; exact Int.le_refl _
  | succ k ih =>
    by_cases e1 : j = k + 1
    · rw [e1]; exact Int.le_refl _
    · have := ih (by omega)
      cases h1 : fe l e k with
      | none => rw [tmE_none h1]; exact this
      | some s => rw [tmE_some h1]; omega
theorem tm_ge {e : Int} {j k : Nat} {s : T_Span} (h : fe l e j = some s) (hjk : j < k) : rk r j + s.To ≤ tmE l r e k := by
  have := tm_mono (l := l) (r := r) (e := e) (show j + 1 ≤ k from hjk)
  rw [tmE_some h] at this
  omega
theorem Pln.span (p : Pln l r th st) {e : Int} {k : Nat} {s : T_Span} (h : fe l e k = some s) : (1 ≤ e ∧ 0 ≤ s.Side ∧ s.Side ≤ 2) ∧ (0 ≤ s.From ∧ s.From < s.To ∧ s.To ≤ 100000) ∧ (Int.tmod e 2 = 0 → s.Side = 1 ∨ s.Side = 2) ∧ (¬ Int.tmod e 2 = 0 → s.Side = 0) := by
  obtain ⟨h1, h2⟩ := fe_mem h
  have hk := fe_lt h
  obtain ⟨i, hi, rfl⟩ := List.getElem_of_mem h1
  have a1 := (p.ct _ (lk_mem hk)).at_ i hi
  have a2 := p.pa _ (lk_mem hk) i hi
  unfold ParS at a2
  rw [h2] at a1 a2
  exact ⟨⟨a1.1.1, a1.1.2.2.1, a1.1.2.2.2⟩, a1.2, a2.1, a2.2⟩
/-- the separation of two cuts on a switch -/
theorem Pln.sep (p : Pln l r th st) {e : Int} {j k : Nat} {s t : T_Span} (hs : fe l e j = some s) (ht : fe l e k = some t) (hjk : j < k) : rk r j + s.To ≤ rk r k + t.From ∧ (s.Side ≠ 0 → t.Side ≠ 0 → s.Side ≠ t.Side → rk r j + s.To + th ≤ rk r k + t.From) := by
  have h := (p.sp j k hjk (fe_lt ht)).2 s (fe_mem hs).1 t (fe_mem ht).1 ((fe_mem hs).2.trans (fe_mem ht).2.symm)
  have h1 := ready_le s t p.th0.1
  refine ⟨by omega, fun c1 c2 c3 => ?_⟩
  have : apart s t = true := band (band (bnotIt (decide_eq_false c1)) (bnotIt (decide_eq_false c2))) (bnotIt (decide_eq_false c3))
  unfold ready at h
  rw [this, cond_true] at h
  omega
/-- the last cut on a switch -/
theorem Pln.lastc (p : Pln l r th st) (e : Int) : ∀ k, ((∀ j, j < k → fe l e j = none) ∧ chE l r st e k = [] ∧ tmE l r e k = 0) ∨ ∃ j s, j < k ∧ fe l e j = some s ∧ tmE l r e k = rk r j + s.To ∧ (s.Side ≠ 0 → lastS (chE l r st e k) st e = s.Side)
  | 0 => .inl ⟨fun j h => absurd h (Nat.not_lt_zero _), rfl, rfl⟩
  | k + 1 => by
    have ih := p.lastc e k
    cases h : fe l e k with
    | none =>
      rw [chE_none h, tmE_none h]
      rcases ih with ⟨a, b, c⟩ | ⟨j, s, a, b, c, d⟩
      · refine .inl ⟨fun j hj => ?_, b, c⟩
        by_cases e1 : j = k
        · rw [e1]; exact h
        · exact a j (by omega)
      · exact .inr ⟨j, s, by omega, b, c, d⟩
    | some s =>
      have hsp := p.span h
      have hr := p.rb k (fe_lt h)
      have hth := p.th0
      refine .inr ⟨k, s, by omega, h, ?_, fun hs => ?_⟩
      · rw [tmE_some h]
        rcases ih with ⟨a, b, c⟩ | ⟨j, s', a, b, c, d⟩
        · omega
        · have := (p.sep b h a).1; omega
      · rw [chE_some h]
        by_cases c : s.Side = 0 ∨ lastS (chE l r st e k) st e = s.Side
        · rw [if_pos c]; exact c.resolve_left hs
        · rw [if_neg c, lastS_snoc, if_pos rfl]
theorem Pln.room (p : Pln l r th st) {e : Int} {k : Nat} {s : T_Span} (h : fe l e k = some s) (hs : s.Side ≠ 0) (hl : lastS (chE l r st e k) st e ≠ s.Side) : tmE l r e k + th ≤ rk r k + s.From := by
  have hsp := p.span h
  have hr := p.rb k (fe_lt h)
  rcases p.lastc e k with ⟨_, _, c⟩ | ⟨j, s', a, b, c, d⟩
  · omega
  · have hs' := p.span b
    have : s'.Side ≠ 0 := by
      by_cases ev : Int.tmod e 2 = 0
      · have := hs'.2.2.1 ev; omega
      · exact absurd (hsp.2.2.2 ev) hs
    have h2 := (p.sep b h a).2 this hs (by rw [← d this]; exact hl)
    omega
theorem Pln.tmb (p : Pln l r th st) (e : Int) (k : Nat) : 0 ≤ tmE l r e k ∧ tmE l r e k ≤ 2000000 := by
  rcases p.lastc e k with ⟨_, _, c⟩ | ⟨j, s, a, b, c, _⟩
  · omega
  · have := p.span b
    have := p.rb j (fe_lt b)
    have := p.th0
    omega
theorem Pln.slow (p : Pln l r th st) (e : Int) : ∀ k, slE l e k = false
  | 0 => rfl
  | k + 1 => by
    have ih := p.slow e k
    cases h : fe l e k with
    | none => unfold fe at h; rw [slE, h]; exact ih
    | some s =>
      have := p.span h
      unfold fe at h
      rw [slE, h]
      exact borF ih (decide_eq_false (by omega))
/-- what the commands of a switch are -/
theorem Pln.memE (p : Pln l r th st) {e : Int} : ∀ {k : Nat} {x : T_Command}, x ∈ chE l r st e k → x.Element = e ∧ ∃ j s, j < k ∧ x.Cut = (j : Int) ∧ fe l e j = some s ∧ x.Side = s.Side ∧ s.Side ≠ 0 ∧ x.Time = tmE l r e j ∧ tmE l r e j + th ≤ rk r j + s.From
  | 0, x, h => by simp [chE] at h
  | k + 1, x, h => by
    cases hf : fe l e k with
    | none =>
      rw [chE_none hf] at h
      obtain ⟨a, j, s, b, c⟩ := p.memE h
      exact ⟨a, j, s, by omega, c⟩
    | some s =>
      rw [chE_some hf] at h
      by_cases c : s.Side = 0 ∨ lastS (chE l r st e k) st e = s.Side
      · rw [if_pos c] at h
        obtain ⟨a, j, s, b, c⟩ := p.memE h
        exact ⟨a, j, s, by omega, c⟩
      · rw [if_neg c] at h
        rcases List.mem_append.1 h with h | h
        · obtain ⟨a, j, s, b, c⟩ := p.memE h
          exact ⟨a, j, s, by omega, c⟩
        · have c1 : s.Side ≠ 0 := fun h => c (.inl h)
          have c2 : lastS (chE l r st e k) st e ≠ s.Side := fun h => c (.inr h)
          have := List.mem_singleton.1 h
          subst this
          exact ⟨rfl, k, s, by omega, rfl, hf, rfl, c1, rfl, p.room hf c1 c2⟩
theorem Pln.ascE (p : Pln l r th st) (e : Int) : ∀ k, (chE l r st e k).Pairwise fun x y => x.Time ≤ y.Time
  | 0 => List.Pairwise.nil
  | k + 1 => by
    have ih := p.ascE e k
    cases hf : fe l e k with
    | none => rw [chE_none hf]; exact ih
    | some s =>
      rw [chE_some hf]
      by_cases c : s.Side = 0 ∨ lastS (chE l r st e k) st e = s.Side
      · rw [if_pos c]; exact ih
      · rw [if_neg c]
        refine List.pairwise_append.2 ⟨ih, List.pairwise_singleton _ _, fun x hx y hy => ?_⟩
        have := List.mem_singleton.1 hy
        subst this
        obtain ⟨_, j, s', h1, _, _, _, _, h2, _⟩ := p.memE hx
        rw [h2]
        exact tm_mono (by omega)
theorem Pln.preE (p : Pln l r th st) (e : Int) (k : Nat) : ∀ d, ∃ B, chE l r st e (k + d) = chE l r st e k ++ B ∧ ∀ y ∈ B, ∃ i, k ≤ i ∧ y.Time = tmE l r e i
  | 0 => ⟨[], by simp, by simp⟩
  | d + 1 => by
    obtain ⟨B, h1, h2⟩ := p.preE e k d
    show ∃ B, chE l r st e (k + d + 1) = _ ∧ _
    cases hf : fe l e (k + d) with
    | none => rw [chE_none hf]; exact ⟨B, h1, h2⟩
    | some s =>
      rw [chE_some hf]
      by_cases c : s.Side = 0 ∨ lastS (chE l r st e (k + d)) st e = s.Side
      · rw [if_pos c]; exact ⟨B, h1, h2⟩
      · rw [if_neg c, h1]
        refine ⟨B ++ [⟨tmE l r e (k + d), e, s.Side, ((k + d : Nat) : Int)⟩], by rw [List.append_assoc], fun y hy => ?_⟩
        rcases List.mem_append.1 hy with h | h
        · exact h2 y h
        · have := List.mem_singleton.1 h
          subst this
          exact ⟨k + d, by omega, rfl⟩
/-- a place in the commands of a switch -/
theorem Pln.splitE (p : Pln l r th st) {e : Int} : ∀ {k : Nat} {A B : List T_Command} {x : T_Command}, chE l r st e k = A ++ x :: B → ∃ j s, j < k ∧ x.Cut = (j : Int) ∧ A = chE l r st e j ∧ fe l e j = some s ∧ x.Side = s.Side ∧ s.Side ≠ 0 ∧ lastS A st e ≠ s.Side ∧ x.Time + th ≤ rk r j + s.From ∧ ∀ y ∈ B, ∃ i, j < i ∧ y.Time = tmE l r e i
  | 0, A, B, x, h => by
    have := congrArg List.length h
    simp [chE] at this
  | k + 1, A, B, x, h => by
    have old : chE l r st e k = A ++ x :: B → ∃ j s, j < k + 1 ∧ x.Cut = (j : Int) ∧ A = chE l r st e j ∧ fe l e j = some s ∧ x.Side = s.Side ∧ s.Side ≠ 0 ∧ lastS A st e ≠ s.Side ∧ x.Time + th ≤ rk r j + s.From ∧ ∀ y ∈ B, ∃ i, j < i ∧ y.Time = tmE l r e i := fun h => by
      obtain ⟨j, s, a, b⟩ := p.splitE h
      exact ⟨j, s, by omega, b⟩
    cases hf : fe l e k with
    | none => rw [chE_none hf] at h; exact old h
    | some s =>
      rw [chE_some hf] at h
      by_cases c : s.Side = 0 ∨ lastS (chE l r st e k) st e = s.Side
      · rw [if_pos c] at h; exact old h
      · rw [if_neg c] at h
        have c1 : s.Side ≠ 0 := fun h => c (.inl h)
        have c2 : lastS (chE l r st e k) st e ≠ s.Side := fun h => c (.inr h)
        rcases List.eq_nil_or_concat B with rfl | ⟨B', y, rfl⟩
        · obtain ⟨h1, h2⟩ := List.append_inj' h rfl
          injection h2 with h2
          subst h2
          exact ⟨k, s, by omega, rfl, h1.symm, hf, rfl, c1, by rw [← h1]; exact c2, p.room hf c1 c2, by simp⟩
        · rw [List.concat_eq_append] at h ⊢
          have h3 : A ++ x :: (B' ++ [y]) = (A ++ x :: B') ++ [y] := by simp
          rw [h3] at h
          obtain ⟨h1, h2⟩ := List.append_inj' h rfl
          injection h2 with h2
          obtain ⟨j, s', a, b1, b2, b3, b4, b5, b6, b7, b8⟩ := p.splitE h1
          refine ⟨j, s', by omega, b1, b2, b3, b4, b5, b6, b7, fun z hz => ?_⟩
          rcases List.mem_append.1 hz with h | h
          · exact b8 z h
          · have := List.mem_singleton.1 h
            rw [this, ← h2]
            exact ⟨k, a, rfl⟩
theorem svs {th a b : Int} (hab : a < b) (h0 : 0 ≤ th) : ∀ (A B : List T_Command) (m f : Int), (∀ x ∈ A, x.Time + th ≤ a ∧ m ≤ x.Time) → A.Pairwise (fun x y => x.Time ≤ y.Time) → (∀ x ∈ B, b ≤ x.Time) → sv th a b (A ++ B) m f = some (A.foldl (fun _ x => x.Side) f)
  | [], [], m, f, _, _, _ => rfl
  | [], x :: B, m, f, hA, hP, hB => by
    have := hB x List.mem_cons_self
    rw [List.nil_append, sv, if_neg (by omega), if_neg (by omega)]
    exact svs hab h0 [] B m f hA hP (fun y hy => hB y (List.mem_cons_of_mem _ hy))
  | x :: A, B, m, f, hA, hP, hB => by
    have := hA x List.mem_cons_self
    obtain ⟨p1, p2⟩ := List.pairwise_cons.1 hP
    rw [List.cons_append, sv, if_neg (by omega), if_pos this]
    exact svs hab h0 A B x.Time x.Side (fun y hy => ⟨(hA y (List.mem_cons_of_mem _ hy)).1, p1 y hy⟩) p2 hB
/-- the commands of the cuts ahead are done before a cut enters -/
theorem Pln.early (p : Pln l r th st) {e : Int} {k : Nat} {s : T_Span} (h : fe l e k = some s) {x : T_Command} : (x ∈ chE l r st e k ∨ x ∈ chE l r st e (k + 1)) → x.Time + th ≤ rk r k + s.From ∧ -1 ≤ x.Time := fun hx => by
  obtain ⟨j, s', a, b, c1, c2⟩ : ∃ j s', j ≤ k ∧ fe l e j = some s' ∧ x.Time = tmE l r e j ∧ tmE l r e j + th ≤ rk r j + s'.From := by
    rcases hx with hx | hx
    · obtain ⟨_, j, s', a, _, b, _, _, c, d⟩ := p.memE hx
      exact ⟨j, s', by omega, b, c, d⟩
    · obtain ⟨_, j, s', a, _, b, _, _, c, d⟩ := p.memE hx
      exact ⟨j, s', by omega, b, c, d⟩
  have h1 := p.tmb e j
  have h2 := p.span b
  by_cases e1 : j = k
  · subst e1
    rw [b] at h
    injection h with h
    subst h
    omega
  · have := (p.sep b h (by omega)).1
    omega
theorem Pln.served (p : Pln l r th st) {e : Int} {k n : Nat} {s : T_Span} (h : fe l e k = some s) (hn : k < n) (hs : s.Side ≠ 0) {a b : Int} (ha : rk r k + s.From ≤ a) (hab : a < b) (hb : b ≤ rk r k + s.To) : sv th a b (chE l r st e n) (-1) (frs st e) = some s.Side := by
  obtain ⟨B, h1, h2⟩ := p.preE e (k + 1) (n - (k + 1))
  rw [show k + 1 + (n - (k + 1)) = n by omega] at h1
  rw [h1, svs hab p.th0.1 _ _ _ _ (fun x hx => by have := p.early h (.inr hx); omega) (p.ascE e _) (fun y hy => by
    obtain ⟨i, hi, e1⟩ := h2 y hy
    have := tm_ge (r := r) h (show k < i by omega)
    omega), ← lastS_fold _ (fun x hx => (p.memE hx).1)]
  congr 1
  rw [chE_some h]
  by_cases c : s.Side = 0 ∨ lastS (chE l r st e k) st e = s.Side
  · rw [if_pos c]; exact c.resolve_left hs
  · rw [if_neg c, lastS_snoc, if_pos rfl]
theorem Pln.needed (p : Pln l r th st) {e : Int} {n : Nat} {A B : List T_Command} {x : T_Command} (h : chE l r st e n = A ++ x :: B) : ∃ j s, j < n ∧ x.Cut = (j : Int) ∧ fe l e j = some s ∧ s.Side ≠ 0 ∧ ∃ v, sv th (rk r j + s.From) (rk r j + s.To) (A ++ B) (-1) (frs st e) = some v ∧ v ≠ s.Side := by
  obtain ⟨j, s, a, b1, b2, b3, b4, b5, b6, b7, b8⟩ := p.splitE h
  have hsp := p.span b3
  have hall : ∀ y ∈ A, y.Element = e := fun y hy => by
    rw [b2] at hy
    exact (p.memE hy).1
  refine ⟨j, s, a, b1, b3, b5, A.foldl (fun _ x => x.Side) (frs st e), svs (by omega) p.th0.1 A B _ _ (fun y hy => ?_) (by rw [b2]; exact p.ascE e j) (fun y hy => ?_), by rw [← lastS_fold A hall]; exact b6⟩
  · rw [b2] at hy
    have := p.early b3 (.inl hy)
    omega
  · obtain ⟨i, hi, e1⟩ := b8 y hy
    have := tm_ge (r := r) b3 hi
    omega
end
end Go.Gv
