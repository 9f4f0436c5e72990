/- Separation: critical chains. -/
import Derived.Test.YtgabhhciodicoaaPlb
namespace Go.Gv

theorem reverse_eq (N : Nat) (hN : 200 ≤ N) (l : List Int) (hl : l.length ≤ 100) : g_slices_Reverse_int_int N l = some l.reverse := by
  obtain ⟨q, hq, rfl⟩ := iterN_run (f := fun s : Int × Int × List Int => g_slices_Reverse_int_int_l1 N s.1 s.2.1 s.2.2)
    (I := fun s => ∃ i : Nat, s.1 = i ∧ 2 * i ≤ l.length + 1 ∧ s.2.1 = (l.length : Int) - 1 - i ∧ s.2.2.length = l.length ∧ ∀ (m : Nat) (h : m < s.2.2.length) (h2 : m < l.length), s.2.2[m] = if m < i ∨ l.length ≤ m + i then l[l.length - 1 - m] else l[m])
    (Q := fun q => q = l.reverse) (fun s => 150 - s.1.toNat) (by
    rintro ⟨i', j', b⟩ ⟨i, rfl, hi, rfl, hb, hall⟩
    simp only at hb hall ⊢
    unfold g_slices_Reverse_int_int_l1
    by_cases h : (i : Int) < (l.length : Int) - 1 - i
    · have ej : ((l.length : Int) - 1 - i) = ((l.length - 1 - i : Nat) : Int) := by omega
      rw [ej]
      have hib : i < b.length := by omega
      have hjb : l.length - 1 - i < b.length := by omega
      have hne : i ≠ l.length - 1 - i := by omega
      have e1 : b[i] = l[i] := by rw [hall i hib (by omega), if_neg (by omega)]
      have e2 : b[l.length - 1 - i] = l[l.length - 1 - i] := by rw [hall _ hjb (by omega), if_neg (by omega)]
      refine .inl ⟨(((i + 1 : Nat) : Int), ((l.length - 1 - i : Nat) : Int) - 1, (b.set i b[l.length - 1 - i]).set (l.length - 1 - i) b[i]), oit (decide_eq_true (by omega)) (obi (idx_nat hjb) (obi (idx_nat hib) (obi (idx_nat hib) (obi (idx_nat (by simp; omega)) (obi (inc_nat (by omega)) (obi (in64_ok (by omega)) (by rw [Int.toNat_natCast, Int.toNat_natCast]))))))), ⟨i + 1, rfl, by omega, by simp only; omega, by simp [hb], fun m hm hm2 => ?_⟩, by simp only; omega⟩
      simp only [List.getElem_set]
      by_cases m1 : l.length - 1 - i = m
      · subst m1
        rw [if_pos rfl, if_pos (by omega), e1]
        congr 1
        omega
      · rw [if_neg m1]
        by_cases m2 : i = m
        · subst m2
          rw [if_pos rfl, if_pos (by omega), e2]
        · rw [if_neg m2, hall m (by omega) hm2]
          by_cases c : m < i ∨ l.length ≤ m + i
          · rw [if_pos c, if_pos (by omega)]
          · rw [if_neg c, if_neg (by omega)]
    · refine .inr ⟨_, oif (decide_eq_false h) rfl, ?_⟩
      apply List.ext_getElem (by simp [hb])
      intro m h1 h2
      rw [hall m h1 (by omega), List.getElem_reverse]
      by_cases c : m < i ∨ l.length ≤ m + i
      · rw [if_pos c]
      · rw [if_neg c]
        congr 1
        omega) N (0, (l.length : Int) - 1, l) ⟨0, rfl, by omega, by simp, rfl, fun m h h2 => by rw [if_neg (by simp only at h; omega)]⟩ (by simp only; omega)
  unfold g_slices_Reverse_int_int
  exact obi (in64_ok (by omega)) (obi hq rfl)

/-- A chain of cuts: each gap is the difference of the releases. -/
def Lk (l : List (List T_Span)) (th : Int) (R : List Int) : List Nat → Prop
  | [] => True
  | [x] => x < R.length
  | x :: y :: r => (x < y ∧ (R[x]?).getD 0 + lg l th x y = (R[y]?).getD 0) ∧ Lk l th R (y :: r)
theorem Lk.lt {l : List (List T_Span)} {th : Int} {R : List Int} : ∀ {c : List Nat}, Lk l th R c → ∀ x ∈ c, x < R.length
  | [x], h, y, hy => by have := List.mem_singleton.1 hy; subst this; exact h
  | x :: y :: r, h, z, hz => by
    rcases List.mem_cons.1 hz with rfl | hz
    · have := Lk.lt h.2 y List.mem_cons_self
      have := h.1.1
      omega
    · exact Lk.lt h.2 z hz
theorem Lk.at_ {l : List (List T_Span)} {th : Int} {R : List Int} : ∀ {c : List Nat}, Lk l th R c → ∀ (i : Nat) (h : i + 1 < c.length), c[i] < c[i + 1] ∧ (R[c[i]]?).getD 0 + lg l th c[i] c[i + 1] = (R[c[i + 1]]?).getD 0
  | [], _, i, h => by simp at h
  | [x], _, i, h => by simp at h
  | x :: y :: r, hk, 0, h => hk.1
  | x :: y :: r, hk, i + 1, h => by
    have := Lk.at_ hk.2 i (by simpa using h)
    simpa using this
theorem Lk.le_last {l : List (List T_Span)} {th : Int} {R : List Int} {c : List Nat} (h : Lk l th R c) : ∀ (i j : Nat) (hi : i < c.length) (hj : j < c.length), i ≤ j → c[i] ≤ c[j] := by
  intro i j hi hj hij
  induction j with
  | zero => have : i = 0 := by omega
            subst this; exact Nat.le_refl _
  | succ j ih =>
    by_cases e : i = j + 1
    · subst e; exact Nat.le_refl _
    · have h1 := ih (by omega) (by omega)
      have h2 := (h.at_ j hj).1
      omega
theorem Lk.len {l : List (List T_Span)} {th : Int} {R : List Int} {c : List Nat} (h : Lk l th R c) (i : Nat) (hi : i < c.length) : i ≤ c[i] := by
  induction i with
  | zero => omega
  | succ i ih =>
    have h1 := ih (by omega)
    have h2 := (h.at_ i hi).1
    omega

theorem critical_eq {l : List (List T_Span)} (f : Fine l) {th : Int} (h0 : 0 ≤ th) (h1 : th ≤ 3000) {R : List Int} (hr : separation_released 200 l th = some (mat l th, R, 0)) (hrel : IsRel l th R) {k : Nat} (hk : k < l.length) :
    ∃ (x : Nat) (c : List Nat), separation_Critical 200 l th (k : Int) = some ((x :: c).map (fun m : Nat => (m : Int)), 0) ∧ Lk l th R (x :: c) ∧ (R[x]?).getD 0 = 0 ∧ (x :: c)[c.length]'(by simp) = k := by
  have hl := f.len
  have hR := hrel.len
  have step : ∀ (m : Nat) (hm : m < R.length), R[m] ≠ 0 → ∃ j, iterN (fun s : Int => separation_Critical_l4 200 (mat l th, R, 0) (m : Int) (row l th m) s) 200 0 = some ((j : Nat) : Int) ∧ j < m ∧ (R[j]?).getD 0 + lg l th j m = (R[m]?).getD 0 := fun m hm hne => by
    have hb := hrel.bd f m hm
    have hrl := row_len l th m
    obtain ⟨q, hq, hQ⟩ := iterN_run (f := fun s : Int => separation_Critical_l4 200 (mat l th, R, 0) (m : Int) (row l th m) s)
      (I := fun s => ∃ i : Nat, s = i ∧ i ≤ m ∧ ∀ (j : Nat) (h : j < R.length), j < i → R[j] + lg l th j m ≠ R[m]) (Q := fun q => ∃ j : Nat, q = (j : Int) ∧ j < m ∧ (R[j]?).getD 0 + lg l th j m = (R[m]?).getD 0) (fun s => m - s.toNat) (by
      rintro s ⟨i, rfl, hi, hall⟩
      unfold separation_Critical_l4
      by_cases h : i < m
      · have hiR : i < R.length := by omega
        have hbi := hrel.bd f i hiR
        have hlg := f.lg_le h0 h1 (j := i) (k := m) (by omega) (by omega)
        have hx : idx (row l th m) (i : Int) = some (lg l th i m) := by rw [idx_nat (by omega), row_get l th h]
        by_cases e : R[i] + lg l th i m = R[m]
        · exact .inr ⟨_, oit (decide_eq_true (by omega)) (obi hx (obi (idx_nat hiR) (obi (in64_ok (by omega)) (obi (idx_nat hm) (oit (decide_eq_true e) rfl))))), i, rfl, h, by simp [hiR, hm, e]⟩
        · exact .inl ⟨_, oit (decide_eq_true (by omega)) (obi hx (obi (idx_nat hiR) (obi (in64_ok (by omega)) (obi (idx_nat hm) (oif (decide_eq_false e) (obi (inc_nat (by omega)) rfl)))))), ⟨i + 1, rfl, h, fun j hj hji => by
            by_cases ej : j = i
            · subst ej; exact e
            · exact hall j hj (by omega)⟩, by omega⟩
      · exfalso
        rcases (hrel.max m hm).one with e | ⟨j, hj, hjm, e⟩
        · exact hne e
        · exact hall j hj (by omega) e) 200 0 ⟨0, rfl, Nat.zero_le _, fun _ _ h => absurd h (Nat.not_lt_zero _)⟩ (by simp; omega)
    obtain ⟨j, rfl, hj, e⟩ := hQ
    exact ⟨j, hq, hj, e⟩
  obtain ⟨q, hq, x, c, rfl, hc, hx0, hlast⟩ := iterN_run (f := fun s : Int × List Int => separation_Critical_l3 200 (mat l th, R, 0) s.1 s.2)
    (I := fun s => ∃ (x : Nat) (c : List Nat), s.1 = x ∧ s.2 = (x :: c).reverse.map (fun m : Nat => (m : Int)) ∧ Lk l th R (x :: c) ∧ (x :: c)[c.length]'(by simp) = k)
    (Q := fun q => ∃ (x : Nat) (c : List Nat), q = (x :: c).reverse.map (fun m : Nat => (m : Int)) ∧ Lk l th R (x :: c) ∧ (R[x]?).getD 0 = 0 ∧ (x :: c)[c.length]'(by simp) = k) (fun s => s.1.toNat) (by
    rintro ⟨x', ch⟩ ⟨x, c, rfl, rfl, hc, hlast⟩
    simp only
    unfold separation_Critical_l3
    have hxR := hc.lt x List.mem_cons_self
    have hlen : (x :: c).length ≤ 11 := by
      have h2 := hc.len c.length (by simp)
      have h3 := hc.lt _ (List.getElem_mem (show c.length < (x :: c).length by simp))
      simp only [List.length_cons]
      omega
    by_cases hz : R[x] = 0
    · exact .inr ⟨_, obi (idx_nat hxR) (oif (by simp [hz]) rfl), x, c, rfl, hc, by simp [hxR, hz], hlast⟩
    · obtain ⟨j, hj, hjx, e⟩ := step x hxR hz
      have hxm : idx (mat l th) (x : Int) = some (row l th x) := by rw [idx_nat (by rw [mat_len]; omega), mat_get l th (by omega)]
      refine .inl ⟨((j : Int), (j :: x :: c).reverse.map (fun m : Nat => (m : Int))), obi (idx_nat hxR) (oit (by simp [hz]) (obi hxm (obi hj (obi (app_ok (by simp only [List.length_map, List.length_reverse, List.length_cons, List.length_nil] at hlen ⊢; omega) (by simp only [List.length_map, List.length_reverse, List.length_cons, List.length_nil] at hlen ⊢; omega)) (by simp))))), ⟨j, x :: c, rfl, rfl, ⟨⟨hjx, e⟩, hc⟩, by simpa using hlast⟩, by simp only; omega⟩) 200 ((k : Int), [(k : Int)]) ⟨k, [], rfl, by simp, show k < R.length by omega, rfl⟩ (by simp only; omega)
  refine ⟨x, c, ?_, hc, hx0, hlast⟩
  have hlen : (x :: c).length ≤ 11 := by
    have h2 := hc.len c.length (by simp)
    have h3 := hc.lt _ (List.getElem_mem (show c.length < (x :: c).length by simp))
    simp only [List.length_cons]
    omega
  unfold separation_Critical
  refine obi hr (oif rfl (oif (borF (decide_eq_false (by omega)) (decide_eq_false (by omega))) (obi hq (obi (reverse_eq 200 (by omega) _ (by simp only [List.length_map, List.length_reverse]; omega)) ?_))))
  rw [← List.map_reverse, List.reverse_reverse]

theorem SeparationProves_true (t : List Int) (k0' : Int) : law23_SeparationProves 200 t k0' = some true := by
  obtain ⟨k, l, hl, k0, k1, hl9, f⟩ := lists_ok t 9 (by omega)
  obtain ⟨th, hth, thm⟩ := pick_ok 200 t (k := k) (v := [0, 800, 2500]) (by omega) (by omega) (by simp) (by simp)
  have ht := thr3 thm
  obtain ⟨R, hr, hR, hrel⟩ := released_eq f (th := th) (by omega) (by omega)
  have hlen := hrel.len
  unfold law23_SeparationProves
  refine obi rfl (obi hl (obi hth ?_))
  by_cases hz : l.length = 0
  · have hcr : separation_Critical 200 l th 0 = some ([], 2) := by
      unfold separation_Critical
      exact obi hr (oif rfl (oit (borT2 (decide_eq_true (by omega))) rfl))
    exact oit (decide_eq_true (by simp only; omega)) (obi hcr (obi (gO_T rfl sane_ok) rfl))
  refine oif (decide_eq_false (by simp only; omega)) ?_
  obtain ⟨m, hm, m0, m1⟩ := place_ok 200 k0' (n := (l.length : Int)) (by omega) (by omega)
  obtain ⟨m, rfl⟩ : ∃ j : Nat, m = j := ⟨m.toNat, by omega⟩
  have hml : m < l.length := by omega
  obtain ⟨x, c, hcr, hc, hx0, hlast⟩ := critical_eq f (th := th) (by omega) (by omega) hr hrel hml
  obtain ⟨C, hC⟩ : ∃ C, C = x :: c := ⟨_, rfl⟩
  rw [← hC] at hcr hc
  have hCl : C.length = c.length + 1 := by rw [hC]; rfl
  have hlastC : C[c.length]'(by omega) = m := by subst hC; exact hlast
  have hC0 : C[0]'(by omega) = x := by subst hC; rfl
  have hml2 : (C.map (fun m : Nat => (m : Int))).length = C.length := by simp
  have hxC : ∀ (i : Nat) (h : i < C.length), idx (C.map (fun m : Nat => (m : Int))) (i : Int) = some ((C[i] : Nat) : Int) := fun i h => by rw [idx_nat (by omega), List.getElem_map]
  have hclt := hc.lt
  have hlen11 : C.length ≤ 11 := by
    have h2 := hc.len c.length (by omega)
    have h3 := hclt _ (List.getElem_mem (show c.length < C.length by omega))
    omega
  have hdec : (((!decide ((0 : Int) = 0)) || decide (((C.map (fun m : Nat => (m : Int))).length : Int) = 0)) || (!decide ((R.length : Int) = (l.length : Int)))) = false := borF (borF rfl (decide_eq_false (by omega))) (by rw [hlen]; simp)
  have hdec2 : (!(((!decide ((0 : Int) = 0)) || decide (((C.map (fun m : Nat => (m : Int))).length : Int) = 0)) || (!decide ((R.length : Int) = (l.length : Int))))) = true := by rw [hdec]; rfl
  obtain ⟨q, hq, rfl⟩ := iterN_run (f := fun s : Int × Int => law23_SeparationProves_l1 200 (k, l) (k + 1, th) (m : Int) (C.map (fun m : Nat => (m : Int)), 0) s.1 s.2)
    (I := fun s => ∃ (i : Nat) (h : i < C.length), s.2 = (i : Int) + 1 ∧ s.1 = (R[C[i]]?).getD 0) (Q := fun q => q = .inr ((R[m]?).getD 0)) (fun s => C.length - s.2.toNat) (by
    rintro ⟨sum, i'⟩ ⟨i, hi, rfl, rfl⟩
    simp only
    unfold law23_SeparationProves_l1
    by_cases h : i + 1 < C.length
    · obtain ⟨hlt, he⟩ := hc.at_ i h
      have c1 := hclt _ (List.getElem_mem hi)
      have c2 := hclt _ (List.getElem_mem h)
      have hle := hc.le_last (i + 1) c.length h (by omega) (by omega)
      rw [hlastC] at hle
      have r1 := hrel.bd f _ c1
      have r2 := hrel.bd f _ c2
      have g1 := f.good _ (List.getElem_mem (show C[i] < l.length by omega))
      have g2 := f.good _ (List.getElem_mem (show C[i + 1] < l.length by omega))
      have hgap := rfgap g1 g2 (f.slow (List.getElem_mem (show C[i] < l.length by omega))) (th := th) (by omega) (by omega)
      rw [← lg_eq (th := th) (show C[i] < l.length by omega) (show C[i + 1] < l.length by omega)] at hgap
      have e0 : ((i : Int) + 1) - 1 = (i : Int) := by omega
      have hin : in64 (((i : Int) + 1) - 1) = some (i : Int) := by rw [e0]; exact in64_ok (by omega)
      have hx2 : idx (C.map (fun m : Nat => (m : Int))) ((i : Int) + 1) = some ((C[i + 1] : Nat) : Int) := hxC (i + 1) h
      simp only [List.getElem?_eq_getElem c1, List.getElem?_eq_getElem c2, Option.getD_some] at he ⊢
      have d0 : decide (((C[i] : Nat) : Int) < 0) = false := decide_eq_false (by omega)
      have d1 : decide (((C[i + 1] : Nat) : Int) ≤ ((C[i] : Nat) : Int)) = false := decide_eq_false (by omega)
      have d2 : decide ((m : Int) < ((C[i + 1] : Nat) : Int)) = false := decide_eq_false (by omega)
      refine .inl ⟨(R[C[i + 1]], ((i + 1 : Nat) : Int) + 1), oit (decide_eq_true (by omega)) (obi hin (obi (hxC i hi) (obi (gO_T (by rw [d0]; rfl) hin) (obi (gO_T (by rw [d0]; rfl) (hxC i hi)) (obi (gO_T (by rw [d0]; rfl) hx2) (obi (gO_T (by rw [d0, d1]; rfl) hx2) (oif (borF (borF d0 d1) d2) (obi hin (obi (hxC i hi) (obi (idx_nat (by omega)) (obi hx2 (obi (idx_nat (by omega)) (obi hgap (obi (x := R[C[i + 1]]) (by rw [in64_ok (by omega), he]) (obi (in64_ok (by omega)) rfl))))))))))))))), ⟨i + 1, h, rfl, by simp [c2]⟩, by simp only; omega⟩
    · have : i = c.length := by omega
      subst this
      refine .inr ⟨_, oif (decide_eq_false (by simp only; omega)) rfl, ?_⟩
      rw [hlastC]) 200 (0, 1) ⟨0, by omega, by simp, by rw [hC0, hx0]⟩ (by simp only; omega)
  have hmR : m < R.length := by omega
  refine obi hm (obi hR (obi hcr (obi (gO_T hdec2 (in64_nat (n := c.length) (by simp only; omega) (by omega))) (obi (gO_T hdec2 (hxC c.length (by omega))) (oif (borF hdec (by rw [hlastC]; simp)) (obi hq ?_))))))
  simp only
  have e : (R[m]?).getD 0 = R[m] := by simp [hmR]
  rw [e]
  refine obi (idx_nat hmR) (obi (gO_T (decide_eq_true rfl) sane_ok) ?_)
  simp
end Go.Gv
