/- The reference: its edits, tables, Align, Cost, Potential. -/
import Derived.Test.YtlfinhdanjbmcaaPlg
namespace Go.Gv

theorem edit_ok (N : Nat) (a b : List Int) {i j : Nat} (hi : i ≤ 1000000) (hj : j ≤ 1000000) (e : Int) : ∃ x y c, r08_edit N a b i j e = some (x, y, c, okE a b i j e) ∧ (okE a b i j e = true → x = ((i + di e : Nat) : Int) ∧ y = ((j + dj e : Nat) : Int) ∧ c = ((cst e : Nat) : Int)) := by
  unfold r08_edit
  by_cases e0 : e = 0
  · subst e0
    refine ⟨_, _, _, oit rfl (obi (inc_nat (by omega)) (obi (inc_nat (by omega)) (obi (gO_idx fun h => ?_) (obi (gO_idx fun h => ?_) (congrArg some (Prod.ext rfl (Prod.ext rfl (Prod.ext rfl ?_)))))))), fun _ => ⟨rfl, rfl, rfl⟩⟩
    · simp at h; omega
    · simp at h; omega
    · show _ = okE a b i j 0
      unfold okE; rw [if_pos rfl]
      simp only [dnat]
      cases (decide (i < a.length) && decide (j < b.length)) <;> simp
  by_cases e1 : e = 1
  · subst e1
    refine ⟨_, _, _, oif rfl (oit rfl (obi (inc_nat (by omega)) (obi (inc_nat (by omega)) (obi (gO_idx fun h => ?_) (obi (gO_idx fun h => ?_) (congrArg some (Prod.ext rfl (Prod.ext rfl (Prod.ext rfl ?_))))))))), fun _ => ⟨rfl, rfl, rfl⟩⟩
    · simp at h; omega
    · simp at h; omega
    · show _ = okE a b i j 1
      unfold okE; rw [if_neg (by decide), if_pos rfl]
      simp only [dnat]
      cases (decide (i < a.length) && decide (j < b.length)) <;> simp
  by_cases e2 : e = 2
  · subst e2
    exact ⟨_, _, _, oif rfl (oif rfl (oit rfl (obi (inc_nat (by omega)) (congrArg some (Prod.ext rfl (Prod.ext rfl (Prod.ext rfl (by unfold okE; rw [if_neg (by decide), if_neg (by decide), if_pos rfl]; exact dnat _ _)))))))), fun _ => ⟨rfl, rfl, rfl⟩⟩
  by_cases e3 : e = 3
  · subst e3
    exact ⟨_, _, _, oif rfl (oif rfl (oif rfl (oit rfl (obi (inc_nat (by omega)) (congrArg some (Prod.ext rfl (Prod.ext rfl (Prod.ext rfl (by unfold okE; rw [if_neg (by decide), if_neg (by decide), if_neg (by decide), if_pos rfl]; exact dnat _ _))))))))), fun _ => ⟨rfl, rfl, rfl⟩⟩
  by_cases e4 : e = 4
  · subst e4
    have hin : ∀ {g : Bool} {n : Nat}, n ≤ 1000000 → g = true → gO g (in64 ((n : Int) + 1)) = some ((n + 1 : Nat) : Int) := fun hn hg => gO_T hg (inc_nat (by omega))
    have hix : ∀ {g : Bool} {l : List Int} {n : Nat}, g = true → n < l.length → gO g (idx l (n : Int)) = some (l.getD n 0) := fun hg hn => gO_T hg (idx_getD 0 hn)
    have eok : okE a b i j 4 = ((((decide (i + 1 < a.length) && decide (j + 1 < b.length)) && decide (a.getD i 0 = b.getD (j + 1) 0)) && decide (a.getD (i + 1) 0 = b.getD j 0)) && !decide (a.getD i 0 = a.getD (i + 1) 0)) := by
      unfold okE; rw [if_neg (by decide), if_neg (by decide), if_neg (by decide), if_neg (by decide), if_pos rfl]
    rw [eok]
    by_cases c1 : i + 1 < a.length
    · have d1 : decide (((i + 1 : Nat) : Int) < (a.length : Int)) = true := decide_eq_true (by omega)
      by_cases c2 : j + 1 < b.length
      · have d2 : (decide (((i + 1 : Nat) : Int) < (a.length : Int)) && decide (((j + 1 : Nat) : Int) < (b.length : Int))) = true := band d1 (decide_eq_true (by omega))
        by_cases c3 : a.getD i 0 = b.getD (j + 1) 0
        · have d3 := band d2 (decide_eq_true c3)
          by_cases c4 : a.getD (i + 1) 0 = b.getD j 0
          · have d4 := band d3 (decide_eq_true c4)
            refine ⟨_, _, _, oif rfl (oif rfl (oif rfl (oif rfl (oit rfl (obi (two_nat (by omega)) (obi (two_nat (by omega)) (obi (inc_nat (by omega)) (obi (hin hj d1) (obi (hix d2 (by omega)) (obi (hin hj d2) (obi (hix d2 c2) (obi (hin hi d3) (obi (hix d3 c1) (obi (hix d3 (by omega)) (obi (hix d4 (by omega)) (obi (hin hi d4) (obi (hix d4 c1) (congrArg some (Prod.ext rfl (Prod.ext rfl (Prod.ext rfl ?_))))))))))))))))))))), fun _ => ⟨rfl, rfl, rfl⟩⟩
            simp only [dnat]
          · have d4 := bandF2 (a := (decide (((i + 1 : Nat) : Int) < (a.length : Int)) && decide (((j + 1 : Nat) : Int) < (b.length : Int))) && decide (a.getD i 0 = b.getD (j + 1) 0)) (decide_eq_false c4)
            refine ⟨_, _, _, oif rfl (oif rfl (oif rfl (oif rfl (oit rfl (obi (two_nat (by omega)) (obi (two_nat (by omega)) (obi (inc_nat (by omega)) (obi (hin hj d1) (obi (hix d2 (by omega)) (obi (hin hj d2) (obi (hix d2 c2) (obi (hin hi d3) (obi (hix d3 c1) (obi (hix d3 (by omega)) (obi (gO_F d4) (obi (gO_F d4) (obi (gO_F d4) (congrArg some (Prod.ext rfl (Prod.ext rfl (Prod.ext rfl ?_))))))))))))))))))))), fun h => ?_⟩
            · simp only [dnat] at d4 ⊢; exact (bandF d4).trans (bandF d4).symm
            · simp only [dnat] at d4; rw [bandF d4] at h; cases h
        · have d3 := bandF2 (a := decide (((i + 1 : Nat) : Int) < (a.length : Int)) && decide (((j + 1 : Nat) : Int) < (b.length : Int))) (decide_eq_false c3)
          refine ⟨_, _, _, oif rfl (oif rfl (oif rfl (oif rfl (oit rfl (obi (two_nat (by omega)) (obi (two_nat (by omega)) (obi (inc_nat (by omega)) (obi (hin hj d1) (obi (hix d2 (by omega)) (obi (hin hj d2) (obi (hix d2 c2) (obi (gO_F d3) (obi (gO_F d3) (obi (gO_F d3) (obi (gO_F (bandF d3)) (obi (gO_F (bandF d3)) (obi (gO_F (bandF d3)) (congrArg some (Prod.ext rfl (Prod.ext rfl (Prod.ext rfl ?_))))))))))))))))))))), fun h => ?_⟩
          · simp only [dnat] at d3 ⊢; exact (bandF (bandF d3)).trans (bandF (bandF d3)).symm
          · simp only [dnat] at d3; rw [bandF (bandF d3)] at h; cases h
      · have d2 := bandF2 (a := decide (((i + 1 : Nat) : Int) < (a.length : Int))) (b := decide (((j + 1 : Nat) : Int) < (b.length : Int))) (decide_eq_false (by omega))
        refine ⟨_, _, _, oif rfl (oif rfl (oif rfl (oif rfl (oit rfl (obi (two_nat (by omega)) (obi (two_nat (by omega)) (obi (inc_nat (by omega)) (obi (hin hj d1) (obi (gO_F d2) (obi (gO_F d2) (obi (gO_F d2) (obi (gO_F (bandF d2)) (obi (gO_F (bandF d2)) (obi (gO_F (bandF d2)) (obi (gO_F (bandF (bandF d2))) (obi (gO_F (bandF (bandF d2))) (obi (gO_F (bandF (bandF d2))) (congrArg some (Prod.ext rfl (Prod.ext rfl (Prod.ext rfl ?_))))))))))))))))))))), fun h => ?_⟩
        · simp only [dnat] at d2 ⊢; exact (bandF (bandF (bandF d2))).trans (bandF (bandF (bandF d2))).symm
        · simp only [dnat] at d2; rw [bandF (bandF (bandF d2))] at h; cases h
    · have d1 : decide (((i + 1 : Nat) : Int) < (a.length : Int)) = false := decide_eq_false (by omega)
      refine ⟨_, _, _, oif rfl (oif rfl (oif rfl (oif rfl (oit rfl (obi (two_nat (by omega)) (obi (two_nat (by omega)) (obi (inc_nat (by omega)) (obi (gO_F d1) (obi (gO_F (bandF d1)) (obi (gO_F (bandF d1)) (obi (gO_F (bandF d1)) (obi (gO_F (bandF (bandF d1))) (obi (gO_F (bandF (bandF d1))) (obi (gO_F (bandF (bandF d1))) (obi (gO_F (bandF (bandF (bandF d1)))) (obi (gO_F (bandF (bandF (bandF d1)))) (obi (gO_F (bandF (bandF (bandF d1)))) (congrArg some (Prod.ext rfl (Prod.ext rfl (Prod.ext rfl ?_))))))))))))))))))))), fun h => ?_⟩
      · simp only [dnat] at d1 ⊢; exact (bandF (bandF (bandF (bandF d1)))).trans (bandF (bandF (bandF (bandF d1)))).symm
      · simp only [dnat] at d1; rw [bandF (bandF (bandF (bandF d1)))] at h; cases h
  · exact ⟨0, 0, 0, oif (decide_eq_false e0) (oif (decide_eq_false e1) (oif (decide_eq_false e2) (oif (decide_eq_false e3) (oif (decide_eq_false e4) (congrArg some (Prod.ext rfl (Prod.ext rfl (Prod.ext rfl (by unfold okE; rw [if_neg e0, if_neg e1, if_neg e2, if_neg e3, if_neg e4]))))))))), fun h => by unfold okE at h; rw [if_neg e0, if_neg e1, if_neg e2, if_neg e3, if_neg e4] at h; cases h⟩
theorem rlong_ok (N : Nat) (a b : List Int) (ha : a.length ≤ 96) (hb : b.length ≤ 96) : r08_long N a b = some false :=
  congrArg some (borF (decide_eq_false (by omega)) (decide_eq_false (by omega)))

theorem rtable_ok (N : Nat) (hN : 200 ≤ N) (a b : List Int) (ha : a.length ≤ 96) (hb : b.length ≤ 96) : ∃ t, r08_table N a b = some t ∧ Shape a.length b.length t ∧ ∀ i j, i ≤ a.length → j ≤ b.length → cell t i j = -1 := by
  obtain ⟨r, hr, hQ⟩ := iterN_run (f := fun s : Int × List Int => r08_table_l5 N b s.1 s.2)
    (I := fun s => ∃ j : Nat, s.1 = j ∧ j ≤ b.length + 1 ∧ s.2 = List.replicate j (-1)) (Q := fun r => r = List.replicate (b.length + 1) (-1)) (fun s => b.length + 1 - s.1.toNat) (by
    rintro ⟨j', x⟩ ⟨j, rfl, hj, rfl⟩
    simp only
    unfold r08_table_l5
    by_cases hc : j < b.length + 1
    · exact .inl ⟨(((j + 1 : Nat) : Int), List.replicate (j + 1) (-1)), oit (decide_eq_true (by omega)) (obi (app_ok (by simp; omega) (by simp; omega)) (obi (inc_nat (by omega)) (by rw [List.replicate_succ']))), ⟨j + 1, rfl, hc, rfl⟩, by simp only; omega⟩
    · obtain rfl : j = b.length + 1 := by omega
      exact .inr ⟨_, oif (decide_eq_false (by omega)) rfl, rfl⟩) N (0, []) ⟨0, rfl, by omega, rfl⟩ (by simp only; omega)
  subst hQ
  obtain ⟨r2, hr2, hQ2⟩ := iterN_run (f := fun s : Int × List (List Int) => r08_table_l4 N a b s.1 s.2)
    (I := fun s => ∃ j : Nat, s.1 = j ∧ j ≤ a.length + 1 ∧ s.2 = List.replicate j (List.replicate (b.length + 1) (-1))) (Q := fun r => r = List.replicate (a.length + 1) (List.replicate (b.length + 1) (-1))) (fun s => a.length + 1 - s.1.toNat) (by
    rintro ⟨j', x⟩ ⟨j, rfl, hj, rfl⟩
    simp only
    unfold r08_table_l4
    by_cases hc : j < a.length + 1
    · exact .inl ⟨(((j + 1 : Nat) : Int), List.replicate (j + 1) (List.replicate (b.length + 1) (-1))), oit (decide_eq_true (by omega)) (obi hr (obi (app_ok (by simp; omega) (by simp; omega)) (obi (inc_nat (by omega)) (by rw [List.replicate_succ' (n := j)])))), ⟨j + 1, rfl, hc, rfl⟩, by simp only; omega⟩
    · obtain rfl : j = a.length + 1 := by omega
      exact .inr ⟨_, oif (decide_eq_false (by omega)) rfl, rfl⟩) N (0, []) ⟨0, rfl, by omega, rfl⟩ (by simp only; omega)
  subst hQ2
  have hrow : ∀ i, i ≤ a.length → (List.replicate (a.length + 1) (List.replicate (b.length + 1) (-1 : Int))).getD i [] = List.replicate (b.length + 1) (-1) := fun i hi => by
    rw [List.getD_eq_getElem?_getD, List.getElem?_replicate, if_pos (by omega)]; rfl
  refine ⟨_, obi hr2 rfl, ⟨by simp, fun i hi => by rw [hrow i hi]; simp⟩, fun i j hi hj => ?_⟩
  unfold cell
  rw [hrow i hi, getD_rep (by omega)]

theorem ral13 (N : Nat) (hN : 200 ≤ N) (a b : List Int) (ha : a.length ≤ 96) (hb : b.length ≤ 96) {i j : Nat} (hi : i ≤ a.length) (hj : j ≤ b.length) (hne : ¬(i = a.length ∧ j = b.length)) (t c : List (List Int)) (ht : Shape a.length b.length t) (hc : Shape a.length b.length c) (hmax : cell t i j = -1)
    (hV : ∀ e, okE a b i j e = true → cell t (i + di e) (j + dj e) = V a b (i + di e) (j + dj e)) : ∃ t' c', iterN (fun s : Int × List (List Int) × List (List Int) => r08_Align_l13 N a b i j s.1 s.2.1 s.2.2) N (0, t, c) = some (t', c') ∧ Upd a.length b.length t' t i j (V a b i j) ∧ ∃ w, FB a b i j w ∧ Upd a.length b.length c' c i j w := by
  obtain ⟨r, hr, hQ⟩ := iterN_run (f := fun s : Int × List (List Int) × List (List Int) => r08_Align_l13 N a b i j s.1 s.2.1 s.2.2)
    (I := fun s => ∃ e : Nat, s.1 = e ∧ e ≤ 5 ∧ ∃ v w, Upd a.length b.length s.2.1 t i j v ∧ Upd a.length b.length s.2.2 c i j w ∧ Srch a b i j (-1) e v w)
    (Q := fun r => Upd a.length b.length r.1 t i j (V a b i j) ∧ ∃ w, FB a b i j w ∧ Upd a.length b.length r.2 c i j w)
    (fun s => 5 - s.1.toNat) (by
    rintro ⟨e', t1, c1⟩ ⟨e, rfl, he, v, w, u1, u2, hs⟩
    simp only at u1 u2 ⊢
    unfold r08_Align_l13
    by_cases h5 : e < 5
    · obtain ⟨x, y, z, hst, hxy⟩ := edit_ok N a b (i := i) (j := j) (by omega) (by omega) (e : Int)
      cases ho : okE a b i j e with
      | false =>
        rw [ho] at hst
        exact .inl ⟨(((e + 1 : Nat) : Int), t1, c1), oit (decide_eq_true (by omega)) (obi hst (obi (gO_F rfl) (obi (gO_F rfl) (obi (gO_F rfl) (obi (gO_F rfl) (obi (gO_F rfl) (obi (gO_F rfl) (obi (gO_F rfl) (oif rfl (obi (inc_nat (by omega)) rfl)))))))))), ⟨e + 1, rfl, h5, v, w, u1, u2, hs.skip ho⟩, by simp only; omega⟩
      | true =>
        rw [ho] at hst
        obtain ⟨rfl, rfl, rfl⟩ := hxy ho
        have hrg := ok_range ho hi hj
        have hb := V_bound (a := a) (b := b) hrg.2.1 hrg.2.2.1
        have hpos := hrg.2.2.2.1
        have hnx : cell t1 (i + di e) (j + dj e) = V a b (i + di e) (j + dj e) := by
          rw [u1.else_ _ _ (by omega)]; exact hV _ ho
        have hnew : in64 (((cst e : Nat) : Int) + cell t1 (i + di e) (j + dj e)) = some ((cst e + V a b (i + di e) (j + dj e) : Nat) : Int) := by rw [hnx]; exact in64_nat (by omega) (by omega)
        have tail : (cell t1 i j < 0 ∨ ((cst e + V a b (i + di e) (j + dj e) : Nat) : Int) < cell t1 i j) → ∃ s' : Int × List (List Int) × List (List Int), (Option.bind (idx t1 (i : Int)) fun x3721 => Option.bind (idx c1 (i : Int)) fun x3726 => Option.bind (idx t1 ((i + di e : Nat) : Int)) fun x3731 => Option.bind (idx x3731 ((j + dj e : Nat) : Int)) fun x3736 => Option.bind (in64 (((cst e : Nat) : Int) + x3736)) fun x3739 => Option.bind (idx x3721 (j : Int)) fun x3742 => Option.bind (idx x3726 (j : Int)) fun x3748 => Option.bind (in64 ((e : Int) + 1)) fun x3754 => (some (.inl (x3754, (List.set t1 (Int.toNat (i : Int)) (List.set x3721 (Int.toNat (j : Int)) x3739)), (List.set c1 (Int.toNat (i : Int)) (List.set x3726 (Int.toNat (j : Int)) (e : Int))))) : Option ((Int × List (List Int) × List (List Int)) ⊕ (List (List Int) × List (List Int))))) = some (.inl s') ∧ (∃ e2 : Nat, s'.1 = e2 ∧ e2 ≤ 5 ∧ ∃ v w, Upd a.length b.length s'.2.1 t i j v ∧ Upd a.length b.length s'.2.2 c i j w ∧ Srch a b i j (-1) e2 v w) ∧ 5 - s'.1.toNat < 5 - (e : Int).toNat := by
          intro hlt
          refine ⟨(((e + 1 : Nat) : Int), t1.set i ((t1.getD i []).set j ((cst e + V a b (i + di e) (j + dj e) : Nat) : Int)), c1.set i ((c1.getD i []).set j e)), obi (idx_row u1.shape hi) (obi (idx_row u2.shape hi) (obi (idx_row u1.shape hrg.2.1) (obi (idx_cell u1.shape hrg.2.1 hrg.2.2.1) (obi hnew (obi (idx_cell u1.shape hi hj) (obi (idx_cell u2.shape hi hj) (obi (inc_nat (by omega)) (by simp only [Int.toNat_natCast])))))))), ⟨e + 1, rfl, h5, _, _, u1.again (upd_set _ u1.shape hi hj), u2.again (upd_set _ u2.shape hi hj), hs.take ho ?_ ?_⟩, by simp only; omega⟩
          · rw [u1.here] at hlt
            right; intro x hx; omega
          · intro x hx hx2; left; omega
        by_cases hneg : cell t1 i j < 0
        · obtain ⟨s', h1, h2, h3⟩ := tail (.inl hneg)
          exact .inl ⟨s', oit (decide_eq_true (by omega)) (obi hst (obi (gO_T rfl (idx_row u1.shape hi)) (obi (gO_T rfl (idx_cell u1.shape hi hj)) (obi (gO_F (bandF2 (bnotIf (decide_eq_true hneg)))) (obi (gO_F (bandF2 (bnotIf (decide_eq_true hneg)))) (obi (gO_F (bandF2 (bnotIf (decide_eq_true hneg)))) (obi (gO_F (bandF2 (bnotIf (decide_eq_true hneg)))) (obi (gO_F (bandF2 (bnotIf (decide_eq_true hneg)))) (oit (band rfl (borT (decide_eq_true hneg))) h1))))))))), h2, h3⟩
        · have g : (true && !decide (cell t1 i j < 0)) = true := band rfl (bnotIt (decide_eq_false hneg))
          by_cases hlt : ((cst e + V a b (i + di e) (j + dj e) : Nat) : Int) < cell t1 i j
          · obtain ⟨s', h1, h2, h3⟩ := tail (.inr hlt)
            exact .inl ⟨s', oit (decide_eq_true (by omega)) (obi hst (obi (gO_T rfl (idx_row u1.shape hi)) (obi (gO_T rfl (idx_cell u1.shape hi hj)) (obi (gO_T g (idx_row u1.shape hrg.2.1)) (obi (gO_T g (idx_cell u1.shape hrg.2.1 hrg.2.2.1)) (obi (gO_T g hnew) (obi (gO_T g (idx_row u1.shape hi)) (obi (gO_T g (idx_cell u1.shape hi hj)) (oit (band rfl (borT2 (decide_eq_true hlt))) h1))))))))), h2, h3⟩
          · refine .inl ⟨(((e + 1 : Nat) : Int), t1, c1), oit (decide_eq_true (by omega)) (obi hst (obi (gO_T rfl (idx_row u1.shape hi)) (obi (gO_T rfl (idx_cell u1.shape hi hj)) (obi (gO_T g (idx_row u1.shape hrg.2.1)) (obi (gO_T g (idx_cell u1.shape hrg.2.1 hrg.2.2.1)) (obi (gO_T g hnew) (obi (gO_T g (idx_row u1.shape hi)) (obi (gO_T g (idx_cell u1.shape hi hj)) (oif (bandF2 (borF (decide_eq_false hneg) (decide_eq_false hlt))) (obi (inc_nat (by omega)) rfl)))))))))), ⟨e + 1, rfl, h5, v, w, u1, u2, hs.keep ?_ ?_⟩, by simp only; omega⟩
            · rw [u1.here] at hlt
              intro x hx; omega
            · rw [u1.here] at hneg
              omega
    · obtain rfl : e = 5 := by omega
      obtain ⟨hv, hf⟩ := hs.done hi hj hne
      subst hv
      exact .inr ⟨(t1, c1), oif (decide_eq_false (by omega)) rfl, u1, w, hf, u2⟩) N (0, t, c) ⟨0, rfl, by omega, _, _, Upd.same ht, Upd.same hc, by rw [hmax]; exact Srch.zero _ _ _ _ hi hj⟩ (by simp; omega)
  exact ⟨r.1, r.2, hr, hQ⟩
end Go.Gv
