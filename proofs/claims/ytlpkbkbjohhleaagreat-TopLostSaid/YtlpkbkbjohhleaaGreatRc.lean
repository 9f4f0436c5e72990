/- What Align answers: the table of the least costs to the end, and the script along the first of the best edits. -/
import Derived.Test.YtlpkbkbjohhleaaGreatRb
namespace Go.Gv.R

theorem FB_of {a b : List Int} {i j x : Nat} {w : Int} (hi : i ≤ a.length) (hj : j ≤ b.length) (hne : ¬(i = a.length ∧ j = b.length)) (h1 : okE a b i j w = true) (h2 : x = cst w + V a b (i + di w) (j + dj w)) (h3 : ∀ e', okE a b i j e' = true → x ≤ cst e' + V a b (i + di e') (j + dj e')) (h4 : ∀ e', e' < w → okE a b i j e' = true → x < cst e' + V a b (i + di e') (j + dj e')) : x = V a b i j ∧ FB a b i j w := by
  have hx : x = V a b i j := by
    apply Nat.le_antisymm
    · obtain ⟨e, he, hv⟩ := V_ex hi hj hne
      rw [hv]; exact h3 e he
    · rw [h2]; exact V_le h1 hi hj
  subst hx
  exact ⟨rfl, h1, h2, h4⟩

/-- the state of the search at a place, when the edits below e are tried -/
def Srch (a b : List Int) (i j : Nat) (none_ : Int) (e : Int) (v w : Int) : Prop :=
  (v = none_ ∧ ∀ e', e' < e → okE a b i j e' = false) ∨
  ∃ x : Nat, v = x ∧ w < e ∧ okE a b i j w = true ∧ x = cst w + V a b (i + di w) (j + dj w) ∧ (∀ e', e' < e → okE a b i j e' = true → x ≤ cst e' + V a b (i + di e') (j + dj e')) ∧ ∀ e', e' < w → okE a b i j e' = true → x < cst e' + V a b (i + di e') (j + dj e')
theorem Srch.zero (a b : List Int) {i j : Nat} (n w : Int) (hi : i ≤ a.length) (hj : j ≤ b.length) : Srch a b i j n 0 n w :=
  .inl ⟨rfl, fun e' he => by
    cases h : okE a b i j e' with
    | false => rfl
    | true => have := (ok_range h hi hj).1; omega⟩
theorem Srch.skip {a b : List Int} {i j : Nat} {n e v w : Int} (h : Srch a b i j n e v w) (ho : okE a b i j e = false) : Srch a b i j n (e + 1) v w := by
  have key : ∀ e', e' < e + 1 → okE a b i j e' = true → e' < e := fun e' h1 h2 => by
    have : e' ≠ e := fun x => by subst x; rw [ho] at h2; cases h2
    omega
  rcases h with ⟨h1, h2⟩ | ⟨x, h1, h2, h3, h4, h5, h6⟩
  · refine .inl ⟨h1, fun e' he => ?_⟩
    cases hx : okE a b i j e' with
    | false => rfl
    | true => rw [h2 e' (key e' he hx)] at hx; cases hx
  · exact .inr ⟨x, h1, by omega, h3, h4, fun e' he ho' => h5 e' (key e' he ho') ho', h6⟩
theorem Srch.keep {a b : List Int} {i j : Nat} {n e v w : Int} (h : Srch a b i j n e v w) (hle : ∀ x : Nat, v = x → x ≤ cst e + V a b (i + di e) (j + dj e)) (hn : v ≠ n) : Srch a b i j n (e + 1) v w := by
  rcases h with ⟨h1, h2⟩ | ⟨x, h1, h2, h3, h4, h5, h6⟩
  · exact absurd h1 hn
  · refine .inr ⟨x, h1, by omega, h3, h4, fun e' he ho' => ?_, h6⟩
    by_cases hx : e' = e
    · subst hx; exact hle x h1
    · exact h5 e' (by omega) ho'
theorem Srch.take {a b : List Int} {i j : Nat} {n e v w : Int} (h : Srch a b i j n e v w) (ho : okE a b i j e = true) (hlt : v = n ∨ ∀ x : Nat, v = x → cst e + V a b (i + di e) (j + dj e) < x) (hnn : ∀ x : Nat, v = n → (x : Int) = n → False ∨ cst e + V a b (i + di e) (j + dj e) < x) : Srch a b i j n (e + 1) ((cst e + V a b (i + di e) (j + dj e) : Nat) : Int) e := by
  refine .inr ⟨_, rfl, by omega, ho, rfl, ?_, ?_⟩
  · intro e' he ho'
    by_cases hx : e' = e
    · subst hx; exact Nat.le_refl _
    · rcases h with ⟨h1, h2⟩ | ⟨x, h1, h2, h3, h4, h5, h6⟩
      · rw [h2 e' (by omega)] at ho'; cases ho'
      · have := h5 e' (by omega) ho'
        rcases hlt with h | h
        · rcases hnn x h (h1.symm.trans h) with h | h
          · cases h
          · omega
        · have := h x h1; omega
  · intro e' he ho'
    rcases h with ⟨h1, h2⟩ | ⟨x, h1, h2, h3, h4, h5, h6⟩
    · rw [h2 e' (by omega)] at ho'; cases ho'
    · have := h5 e' (by omega) ho'
      rcases hlt with h | h
      · rcases hnn x h (h1.symm.trans h) with h | h
        · cases h
        · omega
      · have := h x h1; omega
theorem Srch.done {a b : List Int} {i j : Nat} {n v w : Int} (hi : i ≤ a.length) (hj : j ≤ b.length) (hne : ¬(i = a.length ∧ j = b.length)) (h : Srch a b i j n 5 v w) : v = V a b i j ∧ FB a b i j w := by
  rcases h with ⟨h1, h2⟩ | ⟨x, h1, h2, h3, h4, h5, h6⟩
  · obtain ⟨e, he⟩ := ok_some hi hj hne
    have := (ok_range he hi hj).1
    rw [h2 e (by omega)] at he; cases he
  · obtain ⟨hx, hf⟩ := FB_of hi hj hne h3 h4 (fun e' ho' => h5 e' (by have := (ok_range ho' hi hj).1; omega) ho') h6
    exact ⟨by rw [h1, hx], hf⟩

theorem al13 (N : Nat) (hN : 200 ≤ N) (a b : List Int) (ha : a.length ≤ 96) (hb : b.length ≤ 96) {i j : Nat} (hi : i ≤ a.length) (hj : j ≤ b.length) (hne : ¬(i = a.length ∧ j = b.length)) (t c : List (List Int)) (ht : Shape a.length b.length t) (hc : Shape a.length b.length c) (hmax : cell t i j = 9223372036854775807)
    (hV : ∀ e, okE a b i j e = true → cell t (i + di e) (j + dj e) = V a b (i + di e) (j + dj e)) : ∃ t' c', iterN (fun s : Int × List (List Int) × List (List Int) => reconcile_Align_l13 N a b i j s.1 s.2.1 s.2.2) N (0, t, c) = some (t', c') ∧ Upd a.length b.length t' t i j (V a b i j) ∧ ∃ w, FB a b i j w ∧ Upd a.length b.length c' c i j w := by
  obtain ⟨r, hr, hQ⟩ := iterN_run (f := fun s : Int × List (List Int) × List (List Int) => reconcile_Align_l13 N a b i j s.1 s.2.1 s.2.2)
    (I := fun s => ∃ e : Nat, s.1 = e ∧ e ≤ 5 ∧ ∃ v w, Upd a.length b.length s.2.1 t i j v ∧ Upd a.length b.length s.2.2 c i j w ∧ Srch a b i j 9223372036854775807 e v w)
    (Q := fun r => Upd a.length b.length r.1 t i j (V a b i j) ∧ ∃ w, FB a b i j w ∧ Upd a.length b.length r.2 c i j w)
    (fun s => 5 - s.1.toNat) (by
    rintro ⟨e', t1, c1⟩ ⟨e, rfl, he, v, w, u1, u2, hs⟩
    simp only at u1 u2 ⊢
    unfold reconcile_Align_l13
    by_cases h5 : e < 5
    · obtain ⟨x, y, hst, hxy⟩ := step_ok N a b (i := i) (j := j) (by omega) (by omega) (e : Int)
      cases ho : okE a b i j e with
      | false =>
        rw [ho] at hst
        exact .inl ⟨(((e + 1 : Nat) : Int), t1, c1), oit (decide_eq_true (by omega)) (obi hst (oit rfl (obi (inc_nat (by omega)) rfl))), ⟨e + 1, rfl, h5, v, w, u1, u2, hs.skip ho⟩, by simp only; omega⟩
      | true =>
        rw [ho] at hst
        obtain ⟨rfl, rfl⟩ := hxy ho
        have hrg := ok_range ho hi hj
        have hb := V_bound (a := a) (b := b) hrg.2.1 hrg.2.2.1
        have hpos := hrg.2.2.2.1
        have hnx : cell t1 (i + di e) (j + dj e) = V a b (i + di e) (j + dj e) := by
          rw [u1.else_ _ _ (by omega)]; exact hV _ ho
        have hnew : in64 (((cst e : Nat) : Int) + cell t1 (i + di e) (j + dj e)) = some ((cst e + V a b (i + di e) (j + dj e) : Nat) : Int) := by rw [hnx]; exact in64_nat (by omega) (by omega)
        by_cases hlt : ((cst e + V a b (i + di e) (j + dj e) : Nat) : Int) < cell t1 i j
        · refine .inl ⟨(((e + 1 : Nat) : Int), t1.set i ((t1.getD i []).set j ((cst e + V a b (i + di e) (j + dj e) : Nat) : Int)), c1.set i ((c1.getD i []).set j e)), oit (decide_eq_true (by omega)) (obi hst (oif rfl (obi (idx_row u1.shape hrg.2.1) (obi (idx_cell u1.shape hrg.2.1 hrg.2.2.1) (obi (cost_ok N hrg.1) (obi hnew (obi (idx_row u1.shape hi) (obi (idx_cell u1.shape hi hj) (oit (decide_eq_true hlt) (obi (idx_row u1.shape hi) (obi (idx_row u2.shape hi) (obi (idx_cell u1.shape hi hj) (obi (idx_cell u2.shape hi hj) (obi (inc_nat (by omega)) (by simp only [Int.toNat_natCast]))))))))))))))), ⟨e + 1, rfl, h5, _, _, u1.again (upd_set _ u1.shape hi hj), u2.again (upd_set _ u2.shape hi hj), hs.take ho ?_ ?_⟩, by simp only; omega⟩
          · rw [u1.here] at hlt
            exact .inr fun x hx => by omega
          · intro x hx hx2
            right; omega
        · refine .inl ⟨(((e + 1 : Nat) : Int), t1, c1), oit (decide_eq_true (by omega)) (obi hst (oif rfl (obi (idx_row u1.shape hrg.2.1) (obi (idx_cell u1.shape hrg.2.1 hrg.2.2.1) (obi (cost_ok N hrg.1) (obi hnew (obi (idx_row u1.shape hi) (obi (idx_cell u1.shape hi hj) (oif (decide_eq_false hlt) (obi (inc_nat (by omega)) rfl)))))))))), ⟨e + 1, rfl, h5, v, w, u1, u2, hs.keep ?_ ?_⟩, by simp only; omega⟩
          · rw [u1.here] at hlt
            intro x hx; omega
          · rw [u1.here] at hlt
            omega
    · obtain rfl : e = 5 := by omega
      obtain ⟨hv, hf⟩ := hs.done hi hj hne
      subst hv
      exact .inr ⟨(t1, c1), oif (decide_eq_false (by omega)) rfl, u1, w, hf, u2⟩) N (0, t, c) ⟨0, rfl, by omega, _, _, Upd.same ht, Upd.same hc, by rw [hmax]; exact Srch.zero _ _ _ _ hi hj⟩ (by simp; omega)
  exact ⟨r.1, r.2, hr, hQ⟩

/-- rows from ii on are done, and row ii - 1 from jj on; all else holds z -/
structure Done (a b : List Int) (z : Int) (t c : List (List Int)) (ii jj : Nat) : Prop where
  st : Shape a.length b.length t
  sc : Shape a.length b.length c
  done : ∀ k l, k ≤ a.length → l ≤ b.length → (ii ≤ k ∨ (k + 1 = ii ∧ jj ≤ l)) → cell t k l = V a b k l ∧ (¬(k = a.length ∧ l = b.length) → FB a b k l (cell c k l))
  left : ∀ k l, k ≤ a.length → l ≤ b.length → ¬(ii ≤ k ∨ (k + 1 = ii ∧ jj ≤ l)) → cell t k l = z
theorem Done.nextOk {a b : List Int} {z : Int} {t c : List (List Int)} {i j : Nat} (h : Done a b z t c (i + 1) (j + 1)) (hi : i ≤ a.length) (hj : j ≤ b.length) : ∀ e, okE a b i j e = true → cell t (i + di e) (j + dj e) = V a b (i + di e) (j + dj e) := by
  intro e ho
  have hrg := ok_range ho hi hj
  have hx : 1 ≤ di e ∨ (di e = 0 ∧ 1 ≤ dj e) := by have := hrg.2.2.2.1; omega
  exact (h.done _ _ hrg.2.1 hrg.2.2.1 (by rcases hx with h | ⟨h, h'⟩ <;> omega)).1
theorem Done.step {a b : List Int} {z : Int} {t c t' c' : List (List Int)} {i j : Nat} {w : Int} (h : Done a b z t c (i + 1) (j + 1)) (u1 : Upd a.length b.length t' t i j (V a b i j)) (u2 : Upd a.length b.length c' c i j w) (hf : ¬(i = a.length ∧ j = b.length) → FB a b i j w) : Done a b z t' c' (i + 1) j := by
  refine ⟨u1.shape, u2.shape, fun k l hk hl hkl => ?_, fun k l hk hl hkl => ?_⟩
  · by_cases e : k = i ∧ l = j
    · obtain ⟨rfl, rfl⟩ := e
      rw [u1.here, u2.here]
      exact ⟨rfl, hf⟩
    · rw [u1.else_ _ _ e, u2.else_ _ _ e]
      exact h.done k l hk hl (by omega)
  · rw [u1.else_ _ _ (by omega)]
    exact h.left k l hk hl (by omega)
theorem Done.row {a b : List Int} {z : Int} {t c : List (List Int)} {i : Nat} (h : Done a b z t c (i + 1) 0) : Done a b z t c i (b.length + 1) :=
  ⟨h.st, h.sc, fun k l hk hl hkl => h.done k l hk hl (by omega), fun k l hk hl hkl => h.left k l hk hl (by omega)⟩

theorem al12 (N : Nat) (hN : 200 ≤ N) (a b : List Int) (ha : a.length ≤ 96) (hb : b.length ≤ 96) {i : Nat} (hi : i ≤ a.length) (t c : List (List Int)) (h : Done a b 0 t c (i + 1) (b.length + 1)) : ∃ t' c', iterN (fun s : Int × List (List Int) × List (List Int) => reconcile_Align_l12 N a b i s.1 s.2.1 s.2.2) N ((b.length : Int), t, c) = some (t', c') ∧ Done a b 0 t' c' i (b.length + 1) := by
  obtain ⟨r, hr, hQ⟩ := iterN_run (f := fun s : Int × List (List Int) × List (List Int) => reconcile_Align_l12 N a b i s.1 s.2.1 s.2.2)
    (I := fun s => ∃ j : Nat, s.1 = (j : Int) - 1 ∧ j ≤ b.length + 1 ∧ Done a b 0 s.2.1 s.2.2 (i + 1) j)
    (Q := fun r => Done a b 0 r.1 r.2 (i + 1) 0)
    (fun s => (s.1 + 1).toNat) (by
    rintro ⟨j', t1, c1⟩ ⟨j1, rfl, hj, hd⟩
    simp only at hd ⊢
    unfold reconcile_Align_l12
    cases j1 with
    | zero => exact .inr ⟨(t1, c1), oif (decide_eq_false (by omega)) rfl, hd⟩
    | succ j =>
      have hj' : j ≤ b.length := by omega
      rw [show (((j + 1 : Nat) : Int) - 1) = (j : Int) by omega]
      by_cases hend : i = a.length ∧ j = b.length
      · have hu : Upd a.length b.length t1 t1 i j (V a b i j) := by
          have := Upd.same (i := i) (j := j) hd.st
          rw [hd.left i j hi hj' (by omega)] at this
          obtain ⟨rfl, rfl⟩ := hend
          rw [V_end]; exact this
        exact .inl ⟨((j : Int) - 1, t1, c1), oit (decide_eq_true (by omega)) (oit (band (decide_eq_true (by omega)) (decide_eq_true (by omega))) (obi (in64_ok (by omega)) rfl)), ⟨j, rfl, by omega, hd.step hu (Upd.same hd.sc) (fun h => absurd hend h)⟩, by simp only; omega⟩
      · have u0 := upd_set (i := i) (j := j) 9223372036854775807 hd.st hi hj'
        obtain ⟨t2, c2, e2, u1, w, hf, u2⟩ := al13 N hN a b ha hb hi hj' hend _ c1 u0.shape hd.sc u0.here (fun e ho => by
          have hpos := ok_pos ho
          rw [u0.else_ _ _ (by omega)]; exact hd.nextOk hi hj' e ho)
        refine .inl ⟨((j : Int) - 1, t2, c2), oit (decide_eq_true (by omega)) (oif ?_ (obi (idx_row hd.st hi) (obi (idx_cell hd.st hi hj') (obi (x := (t2, c2)) (by simp only [Int.toNat_natCast]; exact e2) (obi (in64_ok (by omega)) rfl))))), ⟨j, rfl, by omega, hd.step (u0.again u1) u2 (fun _ => hf)⟩, by simp only; omega⟩
        rw [Bool.eq_false_iff]
        intro hx
        simp only [Bool.and_eq_true, decide_eq_true_eq] at hx
        omega) N ((b.length : Int), t, c) ⟨b.length + 1, by simp only; omega, by omega, h⟩ (by simp only; omega)
  exact ⟨r.1, r.2, hr, hQ.row⟩
theorem al9 (N : Nat) (hN : 200 ≤ N) (a b : List Int) (ha : a.length ≤ 96) (hb : b.length ≤ 96) (t c : List (List Int)) (h : Done a b 0 t c (a.length + 1) (b.length + 1)) : ∃ t' c', iterN (fun s : Int × List (List Int) × List (List Int) => reconcile_Align_l9 N a b s.1 s.2.1 s.2.2) N ((a.length : Int), t, c) = some (t', c') ∧ Done a b 0 t' c' 0 (b.length + 1) := by
  obtain ⟨r, hr, hQ⟩ := iterN_run (f := fun s : Int × List (List Int) × List (List Int) => reconcile_Align_l9 N a b s.1 s.2.1 s.2.2)
    (I := fun s => ∃ i : Nat, s.1 = (i : Int) - 1 ∧ i ≤ a.length + 1 ∧ Done a b 0 s.2.1 s.2.2 i (b.length + 1))
    (Q := fun r => Done a b 0 r.1 r.2 0 (b.length + 1))
    (fun s => (s.1 + 1).toNat) (by
    rintro ⟨i', t1, c1⟩ ⟨i1, rfl, hi, hd⟩
    simp only at hd ⊢
    unfold reconcile_Align_l9
    cases i1 with
    | zero => exact .inr ⟨(t1, c1), oif (decide_eq_false (by omega)) rfl, hd⟩
    | succ i =>
      rw [show (((i + 1 : Nat) : Int) - 1) = (i : Int) by omega]
      obtain ⟨t2, c2, e2, h2⟩ := al12 N hN a b ha hb (by omega : i ≤ a.length) t1 c1 hd
      exact .inl ⟨((i : Int) - 1, t2, c2), oit (decide_eq_true (by omega)) (obi e2 (obi (in64_ok (by omega)) rfl)), ⟨i, rfl, by omega, h2⟩, by simp only; omega⟩) N ((a.length : Int), t, c) ⟨a.length + 1, by simp only; omega, by omega, h⟩ (by simp only; omega)
  exact ⟨r.1, r.2, hr, hQ⟩

/-- the script along the first of the best edits -/
inductive Canon (a b : List Int) : Nat → Nat → List Int → Prop
  | nil : Canon a b a.length b.length []
  | cons {i j : Nat} {e : Int} {s : List Int} : FB a b i j e → Canon a b (i + di e) (j + dj e) s → Canon a b i j (e :: s)
theorem not_ok_end {a b : List Int} {e : Int} (h : okE a b a.length b.length e = true) : False := by
  have := ok_range h (Nat.le_refl _) (Nat.le_refl _)
  omega
theorem Canon.uniq {a b : List Int} {i j : Nat} {s s' : List Int} (h : Canon a b i j s) (g : Canon a b i j s') : s = s' := by
  induction h generalizing s' with
  | nil =>
    cases g with
    | nil => rfl
    | cons hf _ => exact (not_ok_end hf.ok).elim
  | cons hf hc ih =>
    cases g with
    | nil => exact (not_ok_end hf.ok).elim
    | cons hf' hc' =>
      have := hf.uniq hf'
      subst this
      rw [ih hc']

theorem al14 (N : Nat) (hN : 200 ≤ N) (a b : List Int) (ha : a.length ≤ 96) (hb : b.length ≤ 96) (t c : List (List Int)) (h : Done a b 0 t c 0 (b.length + 1)) : ∃ s, iterN (fun s : Int × Int × List Int => reconcile_Align_l14 N a b (t, c) s.1 s.2.1 s.2.2) N (0, 0, []) = some s ∧ Path a b 0 0 s a.length b.length (V a b 0 0) ∧ Canon a b 0 0 s := by
  obtain ⟨r, hr, hQ⟩ := iterN_run (f := fun s : Int × Int × List Int => reconcile_Align_l14 N a b (t, c) s.1 s.2.1 s.2.2)
    (I := fun s => ∃ i j x : Nat, s.1 = i ∧ s.2.1 = j ∧ i ≤ a.length ∧ j ≤ b.length ∧ Path a b 0 0 s.2.2 i j x ∧ x + V a b i j = V a b 0 0 ∧ ∀ s', Canon a b i j s' → Canon a b 0 0 (s.2.2 ++ s'))
    (Q := fun r => Path a b 0 0 r a.length b.length (V a b 0 0) ∧ Canon a b 0 0 r)
    (fun s => (a.length - s.1.toNat) + (b.length - s.2.1.toNat)) (by
    rintro ⟨i', j', l⟩ ⟨i, j, x, rfl, rfl, hi, hj, hp, hx, hcn⟩
    simp only at hp hcn ⊢
    unfold reconcile_Align_l14
    by_cases hend : i = a.length ∧ j = b.length
    · obtain ⟨rfl, rfl⟩ := hend
      rw [V_end] at hx
      refine .inr ⟨l, oif (borF (decide_eq_false (by omega)) (decide_eq_false (by omega))) rfl, by rw [← hx]; exact hp, ?_⟩
      have := hcn [] Canon.nil
      simpa using this
    · obtain ⟨_, hf⟩ := h.done i j hi hj (by omega)
      have hf := hf hend
      obtain ⟨x', y', hst, hxy⟩ := step_ok N a b (i := i) (j := j) (by omega) (by omega) (cell c i j)
      rw [hf.ok] at hst
      obtain ⟨rfl, rfl⟩ := hxy hf.ok
      have hrg := ok_range hf.ok hi hj
      have hm := hp.mono
      have hbest := hf.best
      refine .inl ⟨(((i + di (cell c i j) : Nat) : Int), ((j + dj (cell c i j) : Nat) : Int), l ++ [cell c i j]), oit ?_ (obi (idx_row h.sc hi) (obi (idx_cell h.sc hi hj) (obi (app_ok (by simp; omega) (by simp; omega)) (obi hst rfl)))), ⟨i + di (cell c i j), j + dj (cell c i j), x + cst (cell c i j), rfl, rfl, hrg.2.1, hrg.2.2.1, hp.trans (Path.one hf.ok), by omega, ?_⟩, by simp only; omega⟩
      · simp only [Bool.or_eq_true, decide_eq_true_eq]; omega
      · intro s' hs'
        rw [List.append_assoc]
        exact hcn _ (Canon.cons hf hs')) N (0, 0, []) ⟨0, 0, 0, rfl, rfl, by omega, by omega, Path.nil _ _, by omega, fun s' h => h⟩ (by simp; omega)
  exact ⟨r, hr, hQ⟩

theorem align_ok (N : Nat) (hN : 200 ≤ N) (a b : List Int) (ha : a.length ≤ 96) (hb : b.length ≤ 96) : ∃ s, reconcile_Align N a b = some (s, ((V a b 0 0 : Nat) : Int), 0) ∧ Path a b 0 0 s a.length b.length (V a b 0 0) ∧ Canon a b 0 0 s := by
  obtain ⟨t, et, st, ct⟩ := table_ok N hN a b ha hb 0
  obtain ⟨t2, c2, e2, h2⟩ := al9 N hN a b ha hb t t ⟨st, st, fun k l hk hl h => by omega, fun k l hk hl _ => ct k l hk hl⟩
  obtain ⟨s, es, hp, hc⟩ := al14 N hN a b ha hb t2 c2 h2
  refine ⟨s, ?_, hp, hc⟩
  have h00 := (h2.done 0 0 (by omega) (by omega) (by omega)).1
  unfold reconcile_Align
  exact obi (long_ok N a b ha hb) (oif rfl (obi et (obi et (obi e2 (obi es (obi (idx_row (i := 0) h2.st (by omega)) (obi (idx_cell (i := 0) (j := 0) h2.st (by omega) (by omega)) (congrArg some (Prod.ext rfl (Prod.ext h00 rfl))))))))))
theorem align_long (N : Nat) (a b : List Int) (h : 96 < a.length ∨ 96 < b.length) : reconcile_Align N a b = some ([], 0, 3) := by
  unfold reconcile_Align
  exact obi (x := true) (congrArg some (by simp only [Bool.or_eq_true, decide_eq_true_eq]; omega)) (oit rfl rfl)
end Go.Gv.R
