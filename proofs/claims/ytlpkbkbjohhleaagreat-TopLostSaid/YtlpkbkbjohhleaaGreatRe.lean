/- What Cost, Potential and Verify answer. -/
import Derived.Test.YtlpkbkbjohhleaaGreatRd
namespace Go.Gv.R

theorem first_anyP {ρ : Type} (n : Nat) (P : Nat → Prop) (c : ρ) (f : Int → Option (Int ⊕ (ρ ⊕ Unit)))
    (h : ∀ (i : Nat), i < n → (P i ∧ f (i : Int) = some (.inr (.inl c))) ∨ (¬ P i ∧ f (i : Int) = some (.inl ((i + 1 : Nat) : Int))))
    (he : f (n : Int) = some (.inr (.inr ()))) (N : Nat) (hN : n < N) :
    (iterN f N 0 = some (.inl c) ∧ ∃ i, i < n ∧ P i) ∨ (iterN f N 0 = some (.inr ()) ∧ ∀ i, i < n → ¬ P i) := by
  obtain ⟨q, hq, hQ⟩ := iterN_run (f := f) (I := fun s => ∃ i : Nat, s = i ∧ i ≤ n ∧ ∀ (j : Nat), j < i → ¬ P j)
    (Q := fun q => (q = .inl c ∧ ∃ i, i < n ∧ P i) ∨ (q = .inr () ∧ ∀ i, i < n → ¬ P i)) (fun s => n - s.toNat) (by
    rintro s ⟨i, rfl, hi, hall⟩
    by_cases hc : i < n
    · rcases h i hc with ⟨hp, hf⟩ | ⟨hp, hf⟩
      · exact .inr ⟨_, hf, .inl ⟨rfl, i, hc, hp⟩⟩
      · exact .inl ⟨_, hf, ⟨i + 1, rfl, hc, fun j hji => by
          by_cases e : j = i
          · subst e; exact hp
          · exact hall j (by omega)⟩, by omega⟩
    · have : i = n := by omega
      subst this
      exact .inr ⟨_, he, .inr ⟨rfl, fun j hj => hall j hj⟩⟩) N 0 ⟨0, rfl, Nat.zero_le _, fun _ h => absurd h (Nat.not_lt_zero _)⟩ (by simp; omega)
  rcases hQ with ⟨rfl, h⟩ | ⟨rfl, h⟩
  · exact .inl ⟨hq, h⟩
  · exact .inr ⟨hq, h⟩

/-! Cost -/
def costF (a b : List Int) : Nat → Nat → Nat → List Int → Int × Int
  | i, j, c, [] => if i = a.length ∧ j = b.length then ((c : Int), 0) else (0, 1)
  | i, j, c, e :: s => bif okE a b i j e then costF a b (i + di e) (j + dj e) (c + cst e) s else (0, 1)
theorem costF_cons (a b : List Int) (i j c : Nat) (e : Int) (s : List Int) : costF a b i j c (e :: s) = bif okE a b i j e then costF a b (i + di e) (j + dj e) (c + cst e) s else (0, 1) := rfl
theorem costF_path {a b : List Int} {i j k l c : Nat} {s : List Int} (h : Path a b i j s k l c) : k = a.length → l = b.length → ∀ c0, costF a b i j c0 s = (((c0 + c : Nat) : Int), 0) := by
  induction h with
  | nil => intro h1 h2 c0; unfold costF; rw [if_pos ⟨h1, h2⟩]; rfl
  | @cons i j e s k l c ho _ ih => intro h1 h2 c0; rw [costF_cons, ho]; have := ih h1 h2 (c0 + cst e); simp only [cond_true]; rw [this, Nat.add_assoc]
def Bef (i j : Nat) (e : Int) (i' j' : Nat) (e' : Int) : Prop := i' < i ∨ (i' = i ∧ (j' < j ∨ (j' = j ∧ e' < e)))
structure PInv (a b : List Int) (inf : Int) (t : List (List Int)) (i j : Nat) (e : Int) : Prop where
  st : Shape a.length b.length t
  zero : cell t 0 0 = 0
  val : ∀ k l, k ≤ a.length → l ≤ b.length →
    (cell t k l = inf ∧ ¬(k = 0 ∧ l = 0) ∧ ∀ i' j' e', i' ≤ a.length → j' ≤ b.length → Bef i j e i' j' e' → okE a b i' j' e' = true → ¬(i' + di e' = k ∧ j' + dj e' = l)) ∨
    ∃ x : Nat, cell t k l = x ∧ U a b k l ≤ x ∧ ∀ i' j' e', i' ≤ a.length → j' ≤ b.length → Bef i j e i' j' e' → okE a b i' j' e' = true → i' + di e' = k → j' + dj e' = l → x ≤ U a b i' j' + cst e'
theorem PInv.at_ {a b : List Int} {inf : Int} {t : List (List Int)} {i j : Nat} {e : Int} (h : PInv a b inf t i j e) {k l : Nat} (hk : k ≤ a.length) (hl : l ≤ b.length) (hb : k < i ∨ (k = i ∧ l ≤ j)) : cell t k l = U a b k l := by
  by_cases h0 : k = 0 ∧ l = 0
  · obtain ⟨rfl, rfl⟩ := h0
    rw [h.zero, U_zero]; rfl
  · obtain ⟨i', j', e', ho, rfl, rfl, hu⟩ := U_ex hk hl h0
    have hp := ok_pos ho
    have hbef : Bef i j e i' j' e' := by unfold Bef; omega
    rcases h.val _ _ hk hl with ⟨_, _, h3⟩ | ⟨x, h1, h2, h3⟩
    · exact absurd ⟨rfl, rfl⟩ (h3 i' j' e' (by omega) (by omega) hbef ho)
    · have := h3 i' j' e' (by omega) (by omega) hbef ho rfl rfl
      rw [h1]; omega
theorem bef_succ {i j i' j' : Nat} {e e' : Int} (h : Bef i j (e + 1) i' j' e') : Bef i j e i' j' e' ∨ (i' = i ∧ j' = j ∧ e' = e) := by unfold Bef at *; omega
theorem PInv.skip {a b : List Int} {inf : Int} {t : List (List Int)} {i j : Nat} {e : Int} (h : PInv a b inf t i j e) (ho : okE a b i j e = false) : PInv a b inf t i j (e + 1) := by
  have key : ∀ i' j' e', Bef i j (e + 1) i' j' e' → okE a b i' j' e' = true → Bef i j e i' j' e' := fun i' j' e' hb ho' => by
    rcases bef_succ hb with h | ⟨rfl, rfl, rfl⟩
    · exact h
    · rw [ho] at ho'; cases ho'
  refine ⟨h.st, h.zero, fun k l hk hl => ?_⟩
  rcases h.val k l hk hl with ⟨h1, h2, h3⟩ | ⟨x, h1, h2, h3⟩
  · exact .inl ⟨h1, h2, fun i' j' e' hi hj hb ho' => h3 i' j' e' hi hj (key i' j' e' hb ho') ho'⟩
  · exact .inr ⟨x, h1, h2, fun i' j' e' hi hj hb ho' => h3 i' j' e' hi hj (key i' j' e' hb ho') ho'⟩
theorem PInv.other {a b : List Int} {inf : Int} {t t' : List (List Int)} {i j : Nat} {e v : Int} (h : PInv a b inf t i j e) (hi : i ≤ a.length) (hj : j ≤ b.length) (ho : okE a b i j e = true) (u : Upd a.length b.length t' t (i + di e) (j + dj e) v)
    (hv : ∃ x : Nat, v = x ∧ U a b (i + di e) (j + dj e) ≤ x ∧ ∀ i' j' e', i' ≤ a.length → j' ≤ b.length → Bef i j (e + 1) i' j' e' → okE a b i' j' e' = true → i' + di e' = i + di e → j' + dj e' = j + dj e → x ≤ U a b i' j' + cst e') : PInv a b inf t' i j (e + 1) := by
  have hp := ok_pos ho
  refine ⟨u.shape, by rw [u.else_ _ _ (by omega)]; exact h.zero, fun k l hk hl => ?_⟩
  by_cases hkl : k = i + di e ∧ l = j + dj e
  · obtain ⟨rfl, rfl⟩ := hkl
    rw [u.here]; exact .inr hv
  · rw [u.else_ _ _ hkl]
    rcases h.val k l hk hl with ⟨h1, h2, h3⟩ | ⟨x, h1, h2, h3⟩
    · refine .inl ⟨h1, h2, fun i' j' e' hi' hj' hb ho' hx => ?_⟩
      rcases bef_succ hb with hb | ⟨rfl, rfl, rfl⟩
      · exact h3 i' j' e' hi' hj' hb ho' hx
      · exact hkl ⟨hx.1.symm, hx.2.symm⟩
    · refine .inr ⟨x, h1, h2, fun i' j' e' hi' hj' hb ho' hx hy => ?_⟩
      rcases bef_succ hb with hb | ⟨rfl, rfl, rfl⟩
      · exact h3 i' j' e' hi' hj' hb ho' hx hy
      · exact absurd ⟨hx.symm, hy.symm⟩ hkl
theorem PInv.take {a b : List Int} {inf : Int} {t t' : List (List Int)} {i j : Nat} {e v : Int} (h : PInv a b inf t i j e) (hi : i ≤ a.length) (hj : j ≤ b.length) (ho : okE a b i j e = true) (u : Upd a.length b.length t' t (i + di e) (j + dj e) v)
    (hv : v = ((U a b i j + cst e : Nat) : Int)) (hle : ∀ x : Nat, cell t (i + di e) (j + dj e) = x → U a b i j + cst e ≤ x) : PInv a b inf t' i j (e + 1) := by
  have hrg := ok_range ho hi hj
  refine h.other hi hj ho u ⟨_, hv, U_le ho hi hj, fun i' j' e' hi' hj' hb ho' hx hy => ?_⟩
  rcases bef_succ hb with hb | ⟨rfl, rfl, rfl⟩
  · rcases h.val _ _ hrg.2.1 hrg.2.2.1 with ⟨_, _, h3⟩ | ⟨x, h1, h2, h3⟩
    · exact absurd ⟨hx, hy⟩ (h3 i' j' e' hi' hj' hb ho')
    · have := h3 i' j' e' hi' hj' hb ho' hx hy
      have := hle x h1
      omega
  · exact Nat.le_refl _
theorem PInv.keep {a b : List Int} {inf : Int} {t t' : List (List Int)} {i j : Nat} {e v : Int} (h : PInv a b inf t i j e) (hi : i ≤ a.length) (hj : j ≤ b.length) (ho : okE a b i j e = true) (u : Upd a.length b.length t' t (i + di e) (j + dj e) v)
    (hv : v = cell t (i + di e) (j + dj e)) (hne : v ≠ inf) (hle : v ≤ ((U a b i j + cst e : Nat) : Int)) : PInv a b inf t' i j (e + 1) := by
  have hrg := ok_range ho hi hj
  rcases h.val _ _ hrg.2.1 hrg.2.2.1 with ⟨h1, _⟩ | ⟨x, h1, h2, h3⟩
  · exact absurd (hv.trans h1) hne
  · refine h.other hi hj ho u ⟨x, hv.trans h1, h2, fun i' j' e' hi' hj' hb ho' hx hy => ?_⟩
    rcases bef_succ hb with hb | ⟨rfl, rfl, rfl⟩
    · exact h3 i' j' e' hi' hj' hb ho' hx hy
    · rw [hv, h1] at hle; omega
theorem PInv.weak {a b : List Int} {inf : Int} {t : List (List Int)} {i j i2 j2 : Nat} {e e2 : Int} (h : PInv a b inf t i j e) (hw : ∀ i' j' e', i' ≤ a.length → j' ≤ b.length → Bef i2 j2 e2 i' j' e' → 0 ≤ e' → e' ≤ 4 → Bef i j e i' j' e') : PInv a b inf t i2 j2 e2 := by
  refine ⟨h.st, h.zero, fun k l hk hl => ?_⟩
  have key : ∀ i' j' e', i' ≤ a.length → j' ≤ b.length → Bef i2 j2 e2 i' j' e' → okE a b i' j' e' = true → Bef i j e i' j' e' := fun i' j' e' hi hj hb ho => by
    have := ok_range ho hi hj
    exact hw i' j' e' hi hj hb this.1.1 this.1.2
  rcases h.val k l hk hl with ⟨h1, h2, h3⟩ | ⟨x, h1, h2, h3⟩
  · exact .inl ⟨h1, h2, fun i' j' e' hi hj hb ho' => h3 i' j' e' hi hj (key i' j' e' hi hj hb ho') ho'⟩
  · exact .inr ⟨x, h1, h2, fun i' j' e' hi hj hb ho' => h3 i' j' e' hi hj (key i' j' e' hi hj hb ho') ho'⟩

theorem pot13 (N : Nat) (hN : 200 ≤ N) (a b : List Int) (ha : a.length ≤ 96) (hb : b.length ≤ 96) {i j : Nat} (hi : i ≤ a.length) (hj : j ≤ b.length) (t : List (List Int)) (h : PInv a b 9223372036854775807 t i j 0) : ∃ t', iterN (fun s : Int × List (List Int) => reconcile_Potential_l13 N a b i j s.1 s.2) N (0, t) = some t' ∧ PInv a b 9223372036854775807 t' i (j + 1) 0 := by
  obtain ⟨r, hr, hQ⟩ := iterN_run (f := fun s : Int × List (List Int) => reconcile_Potential_l13 N a b i j s.1 s.2)
    (I := fun s => ∃ e : Nat, s.1 = e ∧ e ≤ 5 ∧ PInv a b 9223372036854775807 s.2 i j e)
    (Q := fun r => PInv a b 9223372036854775807 r i j 5)
    (fun s => 5 - s.1.toNat) (by
    rintro ⟨e', t1⟩ ⟨e, rfl, he, hp⟩
    simp only at hp ⊢
    unfold reconcile_Potential_l13
    by_cases h5 : e < 5
    · obtain ⟨x, y, hst, hxy⟩ := step_ok N a b (i := i) (j := j) (by omega) (by omega) (e : Int)
      cases ho : okE a b i j e with
      | false =>
        rw [ho] at hst
        exact .inl ⟨(((e + 1 : Nat) : Int), t1), oit (decide_eq_true (by omega)) (obi hst (oif rfl (obi (inc_nat (by omega)) rfl))), ⟨e + 1, rfl, h5, hp.skip ho⟩, by simp only; omega⟩
      | true =>
        rw [ho] at hst
        obtain ⟨rfl, rfl⟩ := hxy ho
        have hrg := ok_range ho hi hj
        have hbd := U_bound (a := a) (b := b) hi hj
        have hnow : cell t1 i j = U a b i j := hp.at_ hi hj (.inr ⟨rfl, Nat.le_refl _⟩)
        have hnew : in64 (cell t1 i j + ((cst e : Nat) : Int)) = some ((U a b i j + cst e : Nat) : Int) := by rw [hnow]; exact in64_nat (by omega) (by omega)
        refine .inl ⟨(((e + 1 : Nat) : Int), t1.set (i + di e) ((t1.getD (i + di e) []).set (j + dj e) (min (cell t1 (i + di e) (j + dj e)) ((U a b i j + cst e : Nat) : Int)))), oit (decide_eq_true (by omega)) (obi hst (oit rfl (obi (idx_row hp.st hrg.2.1) (obi (idx_row hp.st hrg.2.1) (obi (idx_cell hp.st hrg.2.1 hrg.2.2.1) (obi (idx_row hp.st hi) (obi (idx_cell hp.st hi hj) (obi (cost_ok N hrg.1) (obi hnew (obi (idx_cell hp.st hrg.2.1 hrg.2.2.1) (obi (inc_nat (by omega)) (by simp only [Int.toNat_natCast])))))))))))), ⟨e + 1, rfl, h5, ?_⟩, by simp only; omega⟩
        have u := upd_set (min (cell t1 (i + di e) (j + dj e)) ((U a b i j + cst e : Nat) : Int)) hp.st hrg.2.1 hrg.2.2.1
        by_cases hle : ((U a b i j + cst e : Nat) : Int) ≤ cell t1 (i + di e) (j + dj e)
        · exact hp.take hi hj ho u (by omega) (fun x hx => by omega)
        · exact hp.keep hi hj ho u (by omega) (by omega) (by omega)
    · obtain rfl : e = 5 := by omega
      exact .inr ⟨t1, oif (decide_eq_false (by omega)) rfl, hp⟩) N (0, t) ⟨0, rfl, by omega, h⟩ (by simp; omega)
  exact ⟨r, hr, hQ.weak fun i' j' e' _ _ hb _ _ => by unfold Bef at *; omega⟩
theorem pot12 (N : Nat) (hN : 200 ≤ N) (a b : List Int) (ha : a.length ≤ 96) (hb : b.length ≤ 96) {i : Nat} (hi : i ≤ a.length) (x : List Int) (hx : x.length = b.length + 1) (t : List (List Int)) (h : PInv a b 9223372036854775807 t i 0 0) : ∃ t', iterN (fun s : Int × List (List Int) => reconcile_Potential_l12 N a b i x s.1 s.2) N (0, t) = some t' ∧ PInv a b 9223372036854775807 t' (i + 1) 0 0 := by
  obtain ⟨r, hr, hQ⟩ := iterN_run (f := fun s : Int × List (List Int) => reconcile_Potential_l12 N a b i x s.1 s.2)
    (I := fun s => ∃ j : Nat, s.1 = j ∧ j ≤ b.length + 1 ∧ PInv a b 9223372036854775807 s.2 i j 0)
    (Q := fun r => PInv a b 9223372036854775807 r i (b.length + 1) 0)
    (fun s => b.length + 1 - s.1.toNat) (by
    rintro ⟨j', t1⟩ ⟨j, rfl, hj, hp⟩
    simp only at hp ⊢
    unfold reconcile_Potential_l12
    by_cases hc : j < b.length + 1
    · obtain ⟨t2, e2, h2⟩ := pot13 N hN a b ha hb hi (by omega : j ≤ b.length) t1 hp
      exact .inl ⟨(((j + 1 : Nat) : Int), t2), oit (decide_eq_true (by omega)) (obi e2 (obi (inc_nat (by omega)) rfl)), ⟨j + 1, rfl, hc, h2⟩, by simp only; omega⟩
    · obtain rfl : j = b.length + 1 := by omega
      exact .inr ⟨t1, oif (decide_eq_false (by omega)) rfl, hp⟩) N (0, t) ⟨0, rfl, by omega, h⟩ (by simp; omega)
  exact ⟨r, hr, hQ.weak fun i' j' e' _ _ hb _ _ => by unfold Bef at *; omega⟩
theorem pot_ok (N : Nat) (hN : 200 ≤ N) (a b : List Int) (ha : a.length ≤ 96) (hb : b.length ≤ 96) : ∃ p, reconcile_Potential N a b = some (p, 0) ∧ Shape a.length b.length p ∧ ∀ k l, k ≤ a.length → l ≤ b.length → cell p k l = U a b k l := by
  obtain ⟨t, et, st, ct⟩ := table_ok N hN a b ha hb 9223372036854775807
  have u := upd_set (i := 0) (j := 0) 0 st (Nat.zero_le _) (Nat.zero_le _)
  have h0 : PInv a b 9223372036854775807 (t.set 0 ((t.getD 0 []).set 0 0)) 0 0 0 := by
    refine ⟨u.shape, u.here, fun k l hk hl => ?_⟩
    have hno : ∀ {i' j' : Nat} {e' : Int}, okE a b i' j' e' = true → i' ≤ a.length → j' ≤ b.length → ¬ Bef 0 0 0 i' j' e' := fun ho hi hj hb => by
      have := ok_range ho hi hj
      unfold Bef at hb; omega
    by_cases hkl : k = 0 ∧ l = 0
    · obtain ⟨rfl, rfl⟩ := hkl
      exact .inr ⟨0, u.here, by rw [U_zero]; exact Nat.le_refl _, fun i' j' e' hi hj hb ho => absurd hb (hno ho hi hj)⟩
    · exact .inl ⟨by rw [u.else_ k l hkl]; exact ct k l hk hl, hkl, fun i' j' e' hi hj hb ho => absurd hb (hno ho hi hj)⟩
  obtain ⟨r, hr, hQ⟩ := iterN_run (f := fun s : Int × List (List Int) => reconcile_Potential_l9 N a b t (t.getD 0 []) s.1 s.2)
    (I := fun s => ∃ i : Nat, s.1 = i ∧ i ≤ a.length + 1 ∧ PInv a b 9223372036854775807 s.2 i 0 0)
    (Q := fun r => PInv a b 9223372036854775807 r (a.length + 1) 0 0)
    (fun s => a.length + 1 - s.1.toNat) (by
    rintro ⟨i', t1⟩ ⟨i, rfl, hi, hp⟩
    simp only at hp ⊢
    unfold reconcile_Potential_l9
    have hlen : (List.length (List.set t (Int.toNat 0) (List.set (t.getD 0 []) (Int.toNat 0) 0))) = a.length + 1 := by rw [List.length_set, st.len]
    by_cases hc : i < a.length + 1
    · obtain ⟨t2, e2, h2⟩ := pot12 N hN a b ha hb (by omega : i ≤ a.length) (t1.getD i []) (hp.st.row i (by omega)) t1 hp
      exact .inl ⟨(((i + 1 : Nat) : Int), t2), oit (decide_eq_true (by rw [hlen]; omega)) (obi (idx_row hp.st (by omega)) (obi e2 (obi (inc_nat (by omega)) rfl))), ⟨i + 1, rfl, hc, h2⟩, by simp only; omega⟩
    · obtain rfl : i = a.length + 1 := by omega
      exact .inr ⟨t1, oif (decide_eq_false (by rw [hlen]; omega)) rfl, hp⟩) N (0, t.set 0 ((t.getD 0 []).set 0 0)) ⟨0, rfl, by omega, h0⟩ (by simp; omega)
  refine ⟨r, ?_, hQ.st, fun k l hk hl => hQ.at_ hk hl (.inl (by omega))⟩
  unfold reconcile_Potential
  exact obi (long_ok N a b ha hb) (oif rfl (obi et (obi (idx_row (i := 0) st (Nat.zero_le _)) (obi (idx_cell (i := 0) (j := 0) st (Nat.zero_le _) (Nat.zero_le _)) (obi hr rfl)))))
theorem pot_long (N : Nat) (a b : List Int) (h : 96 < a.length ∨ 96 < b.length) : reconcile_Potential N a b = some ([], 3) := by
  unfold reconcile_Potential
  exact obi (x := true) (congrArg some (by simp only [Bool.or_eq_true, decide_eq_true_eq]; omega)) (oit rfl rfl)
end Go.Gv.R
