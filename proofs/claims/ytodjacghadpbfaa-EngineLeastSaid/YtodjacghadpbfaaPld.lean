/- Engines (chapter 39): EngineProves, EngineLeast and EngineTurns. -/
import Derived.Test.YtodjacghadpbfaaPlc
namespace Go.Gv
theorem tasks_val {l : List T_Task} {T : Int} (hl : l.length ≤ 64) (h : ∀ x ∈ l, 0 ≤ x.From ∧ x.From < 200 ∧ x.From < x.To ∧ x.To ≤ 300) (h0 : 0 ≤ T) (h1 : T ≤ 10080) : Val l T := ⟨hl, h0, h1, fun x hx => by have := h x hx; omega⟩
theorem IsA.check {l : List T_Task} {T : Int} {out : List Int} {m : Nat} (h : IsA l T out m) : chk l T out = true :=
  chk_iff.2 ⟨h.len, fun i hi => by
    obtain ⟨e, he, _⟩ := h.lo i hi
    exact ⟨by omega, fun k hk eq => h.prop i k hi (by omega) (by omega) eq⟩⟩
theorem EngineProves_true (t : List Int) (T0 : Int) : law39_EngineProves 5000 t T0 = some true := by
  have hN : 5000 ≤ 5000 := Nat.le_refl _
  obtain ⟨k', l, hl, _, _, hlen, hx⟩ := tasks_ok hN t (k := 0) (by omega) (by omega) (n := 30) (by omega)
  obtain ⟨T, hT, t0, t1⟩ := place_ok 5000 T0 (n := 80) (by omega) (by omega)
  have v := tasks_val (T := T) (by omega) hx t0 (by omega)
  obtain ⟨out, m, W, h1, _, hA, h3, _, h4, h5, h6, h7⟩ := witnesses hN v
  have hc := Check_eq hN v out
  rw [hA.check] at hc
  have hol := hA.len
  have l1 : iterN (fun s : Int => law39_EngineProves_l1 5000 (out, (m : Int), 0) s) 5000 0 = some (.inr ()) := by
    refine runN1 (f := fun s : Int => law39_EngineProves_l1 5000 (out, (m : Int), 0) s) out.length (fun i u => u = i) _ ?_ ?_ 5000 (by omega) 0 rfl
    · rintro i _ hi rfl
      obtain ⟨e, he, hem⟩ := hA.lo i (by omega)
      have e1 := idx_out hi
      rw [he] at e1
      exact ⟨_, oit (decide_eq_true (by simp only; omega)) (obi e1 (obi (gO_T (bnotIt (decide_eq_false (by omega))) e1) (oif (borF (decide_eq_false (by omega)) (decide_eq_false (by simp only; omega))) (obi (inc_nat (by omega)) rfl)))), rfl⟩
    · rintro _ rfl
      exact oif (decide_eq_false (by simp only; omega)) rfl
  have l2 : iterN (fun s : Int => law39_EngineProves_l2 5000 (k', l) T W s) 5000 0 = some (.inr ()) := by
    refine runN1 (f := fun s : Int => law39_EngineProves_l2 5000 (k', l) T W s) W.2.1.length (fun i u => u = i) _ ?_ ?_ 5000 (by omega) 0 rfl
    · rintro i _ hi rfl
      have hm : m ≠ 0 := by omega
      have hw := h7 hm
      rw [wL_full] at hw
      obtain ⟨F, hF⟩ : ∃ F, F = inL l T W.1 := ⟨_, rfl⟩
      rw [← hF] at hw
      have hFl : F.length = W.2.1.length := by rw [hw, List.length_map]
      have hFs : F.Pairwise (· < ·) := by rw [hF]; exact (List.pairwise_lt_range).filter _
      have e1 : ∀ q : Nat, (h : q < F.length) → idx W.2.1 (q : Int) = some ((F[q] : Nat) : Int) := fun q h => by
        rw [hw]; exact idx_some_of (by rw [List.getElem?_map, List.getElem?_eq_getElem h]; rfl)
      have hin := List.getElem_mem (show i < F.length by omega)
      obtain ⟨x, hxe⟩ : ∃ x, x = F[i]'(by omega) := ⟨_, rfl⟩
      rw [← hxe] at hin
      rw [hF] at hin
      obtain ⟨x0, x1, x2⟩ := inL_mem.1 hin
      have ei := e1 i (by omega)
      rw [← hxe] at ei
      have vx := v.tk x0
      have a2 : decide ((x : Int) < 0) = false := decide_eq_false (by omega)
      have a3 : decide ((List.length l : Int) ≤ (x : Int)) = false := decide_eq_false (by omega)
      have a4 : decide (W.1 < (tk l x).From) = false := decide_eq_false (by omega)
      have a5 : decide ((tk l x).To + T ≤ W.1) = false := decide_eq_false (by omega)
      have ea : in64 ((tk l x).To + T) = some ((tk l x).To + T) := in64_ok (by omega)
      unfold law39_EngineProves_l2
      by_cases h0 : i = 0
      · have z : decide (0 < (i : Int)) = false := decide_eq_false (by omega)
        have z1 : ∀ b, (decide (0 < (i : Int)) && b) = false := fun b => bandF z
        exact ⟨_, oit (decide_eq_true (by omega)) (obi (gO_F z) (obi (gO_F z) (obi (gO_F z) (obi (gO_T (bnotIt (z1 _)) ei) (obi (gO_T (bnotIt (borF (z1 _) a2)) ei) (obi (gO_T (bnotIt (borF (borF (z1 _) a2) a3)) ei) (obi (gO_T (bnotIt (borF (borF (z1 _) a2) a3)) (idx_tk x0)) (obi (gO_T (bnotIt (borF (borF (borF (z1 _) a2) a3) a4)) ei) (obi (gO_T (bnotIt (borF (borF (borF (z1 _) a2) a3) a4)) (idx_tk x0)) (obi (gO_T (bnotIt (borF (borF (borF (z1 _) a2) a3) a4)) ea) (oif (borF (borF (borF (borF (z1 _) a2) a3) a4) a5) (obi (inc_nat (by omega)) rfl)))))))))))), rfl⟩
      · have z : decide (0 < (i : Int)) = true := decide_eq_true (by omega)
        have em : in64 ((i : Int) - 1) = some ((i - 1 : Nat) : Int) := in64_nat (by omega) (by omega)
        have e2 := e1 (i - 1) (by omega)
        have hlt := List.pairwise_iff_getElem.1 hFs (i - 1) i (by omega) (by omega) (by omega)
        rw [← hxe] at hlt
        have z1 : (decide (0 < (i : Int)) && decide ((x : Int) ≤ ((F[i - 1]'(by omega) : Nat) : Int))) = false := bandF2 (decide_eq_false (by omega))
        exact ⟨_, oit (decide_eq_true (by omega)) (obi (gO_T z ei) (obi (gO_T z em) (obi (gO_T z e2) (obi (gO_T (bnotIt z1) ei) (obi (gO_T (bnotIt (borF z1 a2)) ei) (obi (gO_T (bnotIt (borF (borF z1 a2) a3)) ei) (obi (gO_T (bnotIt (borF (borF z1 a2) a3)) (idx_tk x0)) (obi (gO_T (bnotIt (borF (borF (borF z1 a2) a3) a4)) ei) (obi (gO_T (bnotIt (borF (borF (borF z1 a2) a3) a4)) (idx_tk x0)) (obi (gO_T (bnotIt (borF (borF (borF z1 a2) a3) a4)) ea) (oif (borF (borF (borF (borF z1 a2) a3) a4) a5) (obi (inc_nat (by omega)) rfl)))))))))))), rfl⟩
    · rintro _ rfl
      exact oif (decide_eq_false (by omega)) rfl
  unfold law39_EngineProves
  refine obi rfl (obi hl (obi hT (obi h1 (obi hc (obi h3 (oif ?_ (obi l1 (obi l2 (obi sane_ok rfl)))))))))
  exact borF (borF (borF (borF (borF rfl rfl) (bnotIf (decide_eq_true h4))) rfl) (bnotIf (decide_eq_true (by simp only; omega)))) (bnotIf (decide_eq_true (by simp only; omega)))

/-! how many engines are different -/
def frB (z : List Int) (i : Nat) : Bool := (List.range i).all fun j => !decide (z.getD j 0 = z.getD i 0)
def frC (z : List Int) (n : Nat) : Nat := ((List.range n).filter (frB z)).length
theorem first_of (z : List Int) : ∀ i : Nat, ∃ j, j ≤ i ∧ z.getD j 0 = z.getD i 0 ∧ frB z j = true := by
  intro i
  induction i using Nat.strongRecOn with
  | _ i ih =>
    cases h : frB z i with
    | true => exact ⟨i, Nat.le_refl _, rfl, h⟩
    | false =>
      obtain ⟨j, hj, hp⟩ := List.all_eq_false.1 h
      have hj := List.mem_range.1 hj
      have he : z.getD j 0 = z.getD i 0 := by simpa using hp
      obtain ⟨k, h1, h2, h3⟩ := ih j hj
      exact ⟨k, by omega, by rw [h2, he], h3⟩
theorem fr_ge {z : List Int} {n : Nat} {F : List Nat} (hF : F.Nodup) (hn : ∀ x ∈ F, x < n) (hz : ∀ x ∈ F, ∀ y ∈ F, z.getD x 0 = z.getD y 0 → x = y) : F.length ≤ frC z n := by
  have h1 : (F.map fun x => z.getD x 0).Nodup := nodup_map_on hF hz
  have h2 : (F.map fun x => z.getD x 0) ⊆ ((List.range n).filter (frB z)).map fun x => z.getD x 0 := fun e he => by
    obtain ⟨x, hx, rfl⟩ := List.mem_map.1 he
    obtain ⟨j, h1, h2, h3⟩ := first_of z x
    exact List.mem_map.2 ⟨j, List.mem_filter.2 ⟨List.mem_range.2 (by have := hn x hx; omega), h3⟩, h2⟩
  have := h1.length_le_of_subset h2
  simpa [frC] using this
theorem count_ok (z : List Int) (hz : z.length ≤ 100) : iterN (fun s : Int × Int => law39_EngineLeast_l17 5000 z s.1 s.2) 5000 (0, 0) = some (frC z z.length : Int) := by
  have h18 : ∀ i : Nat, i < z.length → iterN (fun s : Bool × Int => law39_EngineLeast_l18 5000 z i s.1 s.2) 5000 (true, 0) = some (frB z i) := fun i hi => by
    refine runN1 (f := fun s : Bool × Int => law39_EngineLeast_l18 5000 z i s.1 s.2) i (fun j u => u.2 = j ∧ u.1 = (List.range j).all fun k => !decide (z.getD k 0 = z.getD i 0)) _ ?_ ?_ 5000 (by omega) (true, 0) ⟨rfl, rfl⟩
    · rintro j ⟨b, j'⟩ hj ⟨rfl, rfl⟩
      simp only
      unfold law39_EngineLeast_l18
      have nx : (List.range (j + 1)).all (fun k => !decide (z.getD k 0 = z.getD i 0)) = ((List.range j).all (fun k => !decide (z.getD k 0 = z.getD i 0)) && !decide (z.getD j 0 = z.getD i 0)) := by
        rw [List.range_succ, List.all_append]; simp
      cases hb : (List.range j).all (fun k => !decide (z.getD k 0 = z.getD i 0)) with
      | true => exact ⟨_, oit (decide_eq_true (by omega)) (obi (gO_T rfl (idx_out (by omega))) (obi (gO_T rfl (idx_out hi)) (obi (inc_nat (by omega)) rfl))), rfl, by simp only; rw [nx, hb]⟩
      | false => exact ⟨_, oit (decide_eq_true (by omega)) (obi (gO_F rfl) (obi (gO_F rfl) (obi (inc_nat (by omega)) rfl))), rfl, by simp only; rw [nx, hb]; rfl⟩
    · rintro ⟨b, j'⟩ ⟨rfl, rfl⟩
      exact oif (decide_eq_false (by simp)) rfl
  have nx : ∀ i : Nat, frC z (i + 1) = frC z i + bif frB z i then 1 else 0 := fun i => by
    unfold frC
    rw [List.range_succ, List.filter_append, List.length_append]
    cases h : frB z i
    · rw [List.filter_cons, if_neg (by simp [h])]; rfl
    · rw [List.filter_cons, if_pos h]; rfl
  have le : ∀ i : Nat, frC z i ≤ i := fun i => Nat.le_trans (List.length_filter_le _ _) (by simp)
  refine runN1 (f := fun s : Int × Int => law39_EngineLeast_l17 5000 z s.1 s.2) z.length (fun i u => u.2 = i ∧ u.1 = (frC z i : Int)) _ ?_ ?_ 5000 (by omega) (0, 0) ⟨rfl, rfl⟩
  · rintro i ⟨c, i'⟩ hi ⟨rfl, rfl⟩
    simp only
    unfold law39_EngineLeast_l17
    have := le i
    cases hb : frB z i with
    | true => exact ⟨_, oit (decide_eq_true (by omega)) (obi (h18 i hi) (oit hb (obi (inc_nat (by omega)) (obi (inc_nat (by omega)) rfl)))), rfl, by simp only; rw [nx, hb]; rfl⟩
    | false => exact ⟨_, oit (decide_eq_true (by omega)) (obi (h18 i hi) (oif hb (obi (inc_nat (by omega)) rfl))), rfl, by simp only; rw [nx, hb]; rfl⟩
  · rintro ⟨c, i'⟩ ⟨rfl, rfl⟩
    exact oif (decide_eq_false (by simp)) rfl
/-- no assignment that passes the check has fewer engines -/
theorem IsA.least {l : List T_Task} {T : Int} {out : List Int} {m : Nat} (h : IsA l T out m) {z : List Int} (hz : chk l T z = true) : m ≤ frC z z.length := by
  obtain ⟨h1, h2⟩ := chk_iff.1 hz
  rcases h.cl with h0 | ⟨i, hi, hc⟩
  · omega
  · rw [h1, ← hc]
    refine fr_ge (inL_nodup l T _) (fun x hx => (inL_mem.1 hx).1) fun x hx y hy e => ?_
    obtain ⟨x0, x1, x2⟩ := inL_mem.1 hx
    obtain ⟨y0, y1, y2⟩ := inL_mem.1 hy
    have ex : exc T (tk l x) (tk l y) = true := exc_iff.2 ⟨by omega, by omega⟩
    rcases Nat.lt_trichotomy x y with c | c | c
    · have := (h2 y y0).2 x c e.symm
      rw [exc_symm, ex] at this; cases this
    · exact c
    · have := (h2 x x0).2 y c e
      rw [ex] at this; cases this
theorem EngineLeast_true (t : List Int) (T0 : Int) (a : List Int) : law39_EngineLeast 5000 t T0 a = some true := by
  have hN : 5000 ≤ 5000 := Nat.le_refl _
  obtain ⟨k', l, hl, hk0, hk1, hlen, hx⟩ := tasks_ok hN t (k := 0) (by omega) (by omega) (n := 9) (by omega)
  obtain ⟨T, hT, t0, t1⟩ := place_ok 5000 T0 (n := 80) (by omega) (by omega)
  have v := tasks_val (T := T) (by omega) hx t0 (by omega)
  obtain ⟨o, out, m, _, _, _, h1, _, hA⟩ := assigns hN v
  obtain ⟨⟨x, y⟩, hr, hxl, hyl, hy1, hy2⟩ := runN (f := fun s : Int × Int × List Int × List Int => law39_EngineLeast_l4 5000 t a (k', l) T s.1 s.2.1 s.2.2.1 s.2.2.2) l.length
    (fun i u => u.1 = i ∧ u.2.1 = k' + 2 * i ∧ u.2.2.1.length = i ∧ u.2.2.2.length = i ∧ (∀ j : Nat, j < i → 0 ≤ u.2.2.2.getD j 0 ∧ u.2.2.2.getD j 0 ≤ 3 + j) ∧ ∀ j k : Nat, j < i → k < j → u.2.2.2.getD j 0 = u.2.2.2.getD k 0 → exc T (tk l k) (tk l j) = false)
    (fun r => r.1.length = l.length ∧ r.2.length = l.length ∧ (∀ j : Nat, j < l.length → 0 ≤ r.2.getD j 0 ∧ r.2.getD j 0 ≤ 3 + j) ∧ ∀ j k : Nat, j < l.length → k < j → r.2.getD j 0 = r.2.getD k 0 → exc T (tk l k) (tk l j) = false) (by
      rintro i ⟨i', kk, x, y⟩ hi ⟨rfl, rfl, hxl, hyl, hy1, hy2⟩
      simp only at hxl hyl hy1 hy2 ⊢
      left
      obtain ⟨p, hp, p0, p1⟩ := next_ok 5000 t (k := k' + 2 * i) (n := 6) (by omega) (by omega) (by omega) (by omega)
      have hxx : ∃ x2, (bif decide (0 < (List.length a : Int)) then (Option.bind (rem64 (i : Int) (List.length a : Int)) fun x797 => Option.bind (idx a x797) fun x800 => Option.bind (yardgen_Place 5000 x800 6) fun r803 => Option.bind (idx (x ++ [p]) (i : Int)) fun x809 => some (List.set (x ++ [p]) (Int.toNat (i : Int)) r803)) else some (x ++ [p])) = some x2 ∧ x2.length = i + 1 := by
        by_cases ha : 0 < a.length
        · have m1 := Int.tmod_lt_of_pos (i : Int) (show (0 : Int) < a.length by omega)
          have m2 := Int.tmod_nonneg (a.length : Int) (show (0 : Int) ≤ i by omega)
          obtain ⟨r, hr⟩ : ∃ r : Nat, Int.tmod (i : Int) a.length = r := ⟨(Int.tmod (i : Int) a.length).toNat, by omega⟩
          have e1 : rem64 (i : Int) (a.length : Int) = some (r : Int) := by unfold rem64; rw [if_neg (by omega), hr]
          obtain ⟨q, hq, _, _⟩ := place_ok 5000 (a[r]'(by omega)) (n := 6) (by omega) (by omega)
          exact ⟨_, oit (decide_eq_true (by omega)) (obi e1 (obi (idx_nat (by omega)) (obi hq (obi (idx_nat (by simp; omega)) rfl)))), by simp [hxl]⟩
        · exact ⟨_, oif (decide_eq_false (by omega)) rfl, by simp [hxl]⟩
      obtain ⟨x2, hx2, hx2l⟩ := hxx
      obtain ⟨w, hw, w0, w1⟩ := next_ok 5000 t (k := k' + 2 * i + 1) (n := 4) (by omega) (by omega) (by omega) (by omega)
      obtain ⟨r, hr, e, rfl, q1, q2⟩ := iterN_run (f := fun s : Int × Int => law39_EngineLeast_l5 5000 (k', l) T i y s.1 s.2)
        (I := fun s => ∃ e j : Nat, s.1 = e ∧ s.2 = j ∧ e ≤ 3 + i ∧ j ≤ i ∧ ∀ k : Nat, k < j → ¬ (y.getD k 0 = (e : Int) ∧ exc T (tk l k) (tk l i) = true))
        (Q := fun r => ∃ e : Nat, r = (e : Int) ∧ e ≤ 3 + i ∧ ∀ k : Nat, k < i → ¬ (y.getD k 0 = (e : Int) ∧ exc T (tk l k) (tk l i) = true)) (fun s => (4 + i - s.1.toNat) * 66 + (i - s.2.toNat)) (by
        rintro ⟨e', j'⟩ ⟨e, j, rfl, rfl, q1, q2, q3⟩
        simp only
        unfold law39_EngineLeast_l5
        by_cases hj : j < i
        · have a1 : idx y (j : Int) = some (y.getD j 0) := idx_out (by omega)
          have hyj := hy1 j hj
          have hjl : j < l.length := by omega
          by_cases he : y.getD j 0 = (e : Int)
          · have z : decide (y.getD j 0 = (e : Int)) = true := decide_eq_true he
            cases hc : exc T (tk l j) (tk l i) with
            | true => exact .inl ⟨_, oit (decide_eq_true (by omega)) (obi a1 (obi (gO_T z (idx_tk hjl)) (obi (gO_T z (idx_tk hi)) (obi (gO_T z (exc_eq 5000 v hjl hi)) (oit (band z hc) (obi (inc_nat (by omega)) (obi rfl rfl))))))), ⟨e + 1, 0, rfl, rfl, by omega, by omega, fun k h => absurd h (Nat.not_lt_zero _)⟩, by simp only; omega⟩
            | false =>
              refine .inl ⟨_, oit (decide_eq_true (by omega)) (obi a1 (obi (gO_T z (idx_tk hjl)) (obi (gO_T z (idx_tk hi)) (obi (gO_T z (exc_eq 5000 v hjl hi)) (oif (bandF2 hc) (obi (inc_nat (by omega)) rfl)))))), ⟨e, j + 1, rfl, rfl, q1, hj, fun k h => ?_⟩, by simp only; omega⟩
              by_cases ee : k = j
              · subst ee; exact fun c => by rw [hc] at c; exact absurd c.2 (by decide)
              · exact q3 k (by omega)
          · have z : decide (y.getD j 0 = (e : Int)) = false := decide_eq_false he
            refine .inl ⟨_, oit (decide_eq_true (by omega)) (obi a1 (obi (gO_F z) (obi (gO_F z) (obi (gO_F z) (oif (bandF z) (obi (inc_nat (by omega)) rfl)))))), ⟨e, j + 1, rfl, rfl, q1, hj, fun k h => ?_⟩, by simp only; omega⟩
            by_cases ee : k = j
            · subst ee; exact fun c => he c.1
            · exact q3 k (by omega)
        · obtain rfl : j = i := by omega
          exact .inr ⟨_, oif (decide_eq_false (by omega)) rfl, e, rfl, q1, q3⟩) 5000 (w, 0) ⟨w.toNat, 0, by simp only; omega, rfl, by omega, by omega, fun _ h => absurd h (Nat.not_lt_zero _)⟩ (by simp only; omega)
      have gl : ∀ k : Nat, k < i → (y ++ [(e : Int)]).getD k 0 = y.getD k 0 := fun k hk => by
        rw [List.getD_eq_getElem?_getD, List.getD_eq_getElem?_getD, List.getElem?_append_left (by omega)]
      have gi : (y ++ [(e : Int)]).getD i 0 = (e : Int) := by
        rw [List.getD_eq_getElem?_getD, List.getElem?_append_right (by omega), hyl]; simp
      refine ⟨_, oit (decide_eq_true (by simp only; omega)) (obi hp (obi (app_ok (by simp only [List.length_cons, List.length_nil]; omega) (by simp only [List.length_cons, List.length_nil]; omega)) (obi hx2 (obi hw (obi hr (obi (app_ok (by simp only [List.length_cons, List.length_nil]; omega) (by simp only [List.length_cons, List.length_nil]; omega)) (obi (inc_nat (by omega)) rfl))))))), rfl, by simp only; omega, hx2l, by simp [hyl], fun j hj => ?_, fun j k hj hk => ?_⟩
      · simp only
        by_cases ee : j = i
        · subst ee; rw [gi]; omega
        · rw [gl j (by omega)]; exact hy1 j (by omega)
      · simp only
        by_cases ee : j = i
        · subst ee
          rw [gi, gl k hk]
          intro h
          have := q2 k hk
          cases hc : exc T (tk l k) (tk l j) with
          | false => rfl
          | true => exact absurd ⟨h.symm, hc⟩ this
        · rw [gl j (by omega), gl k (by omega)]; exact hy2 j k (by omega) hk) (by
      rintro ⟨i', kk, x, y⟩ ⟨rfl, _, h1, h2, h3, h4⟩
      exact ⟨(x, y), oif (decide_eq_false (by simp)) rfl, h1, h2, h3, h4⟩) 5000 (by omega) (0, k', [], []) ⟨rfl, by simp, rfl, rfl, fun j h => absurd h (Nat.not_lt_zero _), fun j k h => absurd h (Nat.not_lt_zero _)⟩
  simp only at hxl hyl hy1 hy2
  have hyc : chk l T y = true := chk_iff.2 ⟨hyl, fun i hi => ⟨(hy1 i hi).1, fun k hk e => by rw [exc_symm]; exact hy2 i k hi hk e⟩⟩
  have one : ∀ z : List Int, z.length ≤ 100 → (((!decide ((chk l T z, (0 : Int)).2 = 0)) || ((chk l T z, (0 : Int)).1 && decide ((frC z z.length : Int) < ((out, (m : Int), (0 : Int)) : List Int × Int × Int).2.1)))) = false := fun z _ => by
    refine borF rfl ?_
    cases hc : chk l T z with
    | false => rfl
    | true => exact bandF2 (decide_eq_false (by have := hA.least hc; simp only; omega))
  have l14 : iterN (fun s : Int => law39_EngineLeast_l14 5000 (k', l) T (out, (m : Int), 0) (x, y) s) 5000 0 = some (.inr ()) := by
    refine runN1 (f := fun s : Int => law39_EngineLeast_l14 5000 (k', l) T (out, (m : Int), 0) (x, y) s) 2 (fun i u => u = i) _ ?_ ?_ 5000 (by omega) 0 rfl
    · rintro i _ hi rfl
      rcases (show i = 0 ∨ i = 1 by omega) with rfl | rfl
      · exact ⟨_, oit rfl (obi (x := x) rfl (obi (Check_eq hN v x) (obi (count_ok x (by omega)) (oif (one x (by omega)) (obi rfl rfl))))), rfl⟩
      · exact ⟨_, oit rfl (obi (x := y) rfl (obi (Check_eq hN v y) (obi (count_ok y (by omega)) (oif (one y (by omega)) (obi rfl rfl))))), rfl⟩
    · rintro _ rfl
      exact oif rfl rfl
  have hcy := Check_eq hN v y
  rw [hyc] at hcy
  unfold law39_EngineLeast
  exact obi rfl (obi hl (obi hT (obi h1 (oif rfl (obi hr (obi l14 (obi hcy (obi (gO_T rfl sane_ok) rfl))))))))

/-! greater turns, more tasks -/
theorem IsA.mono {l : List T_Task} {T T' : Int} {out out' : List Int} {m m' : Nat} (h : IsA l T out m) (h' : IsA l T' out' m') (hT : T ≤ T') : m ≤ m' := by
  rcases h.cl with h0 | ⟨i, hi, hc⟩
  · omega
  · have h1 := h'.most (tk l i).From
    have : (inL l T (tk l i).From).length ≤ (inL l T' (tk l i).From).length := (inL_nodup l T _).length_le_of_subset fun x hx => by
      obtain ⟨x0, x1, x2⟩ := inL_mem.1 hx
      exact inL_mem.2 ⟨x0, x1, by omega⟩
    omega
theorem tk_app {l : List T_Task} {x : T_Task} {i : Nat} (h : i < l.length) : tk (l ++ [x]) i = tk l i := by
  unfold tk; rw [List.getD_eq_getElem?_getD, List.getD_eq_getElem?_getD, List.getElem?_append_left h]
theorem IsA.more {l : List T_Task} {x : T_Task} {T : Int} {out out' : List Int} {m m' : Nat} (h : IsA l T out m) (h' : IsA (l ++ [x]) T out' m') : m ≤ m' ∧ m' ≤ m + 1 := by
  constructor
  · rcases h.cl with h0 | ⟨i, hi, hc⟩
    · omega
    · have h1 := h'.most (tk l i).From
      have : (inL l T (tk l i).From).length ≤ (inL (l ++ [x]) T (tk l i).From).length := (inL_nodup l T _).length_le_of_subset fun y hy => by
        obtain ⟨y0, y1, y2⟩ := inL_mem.1 hy
        exact inL_mem.2 ⟨by simp; omega, by rw [tk_app y0]; exact y1, by rw [tk_app y0]; exact y2⟩
      omega
  · rcases h'.cl with h0 | ⟨i, hi, hc⟩
    · omega
    · obtain ⟨t, ht⟩ : ∃ t, t = (tk (l ++ [x]) i).From := ⟨_, rfl⟩
      rw [← ht] at hc
      have h1 := h.most t
      have : (inL (l ++ [x]) T t).length ≤ (l.length :: inL l T t).length := (inL_nodup _ T _).length_le_of_subset fun y hy => by
        obtain ⟨y0, y1, y2⟩ := inL_mem.1 hy
        rw [List.length_append, List.length_singleton] at y0
        by_cases e : y = l.length
        · rw [e]; exact List.mem_cons_self
        · have y3 : y < l.length := by omega
          rw [tk_app y3] at y1 y2
          exact List.mem_cons_of_mem _ (inL_mem.2 ⟨y3, y1, y2⟩)
      rw [List.length_cons] at this
      omega
theorem max_from (l : List T_Task) : ∀ n : Nat, 0 < n → ∃ i, i < n ∧ ∀ j, j < n → (tk l j).From ≤ (tk l i).From
  | 0, h => by omega
  | 1, _ => ⟨0, by omega, fun j hj => by obtain rfl : j = 0 := by omega
                                         exact Int.le_refl _⟩
  | n + 2, _ => by
    obtain ⟨i, hi, h⟩ := max_from l (n + 1) (by omega)
    by_cases c : (tk l (n + 1)).From ≤ (tk l i).From
    · exact ⟨i, by omega, fun j hj => by
        by_cases e : j = n + 1
        · subst e; exact c
        · exact h j (by omega)⟩
    · exact ⟨n + 1, by omega, fun j hj => by
        by_cases e : j = n + 1
        · subst e; exact Int.le_refl _
        · have := h j (by omega); omega⟩
theorem IsA.all {l : List T_Task} {out : List Int} {m : Nat} (v : Val l 10080) (h : IsA l 10080 out m) : m = l.length := by
  by_cases h0 : l.length = 0
  · rw [h.zero.2 (List.eq_nil_of_length_eq_zero h0), h0]
  · have hle : m ≤ l.length := by
      rcases h.cl with h1 | ⟨i, hi, hc⟩
      · omega
      · rw [← hc]
        exact Nat.le_trans (List.length_filter_le _ _) (by simp)
    obtain ⟨i, hi, hmax⟩ := max_from l l.length (by omega)
    have h1 := h.most (tk l i).From
    have : (List.range l.length).length ≤ (inL l 10080 (tk l i).From).length := List.nodup_range.length_le_of_subset fun j hj => by
      have hj := List.mem_range.1 hj
      have v1 := v.tk hj
      have v2 := v.tk hi
      exact inL_mem.2 ⟨hj, hmax j hj, by omega⟩
    rw [List.length_range] at this
    omega
theorem EngineTurns_true (t : List Int) (T0 M0 : Int) : law39_EngineTurns 5000 t T0 M0 = some true := by
  have hN : 5000 ≤ 5000 := Nat.le_refl _
  obtain ⟨k', l, hl, hk0, hk1, hlen, hx⟩ := tasks_ok hN t (k := 0) (by omega) (by omega) (n := 20) (by omega)
  obtain ⟨T, hT, t0, t1⟩ := place_ok 5000 T0 (n := 80) (by omega) (by omega)
  obtain ⟨M, hM, m0, m1⟩ := place_ok 5000 M0 (n := 80) (by omega) (by omega)
  obtain ⟨r, hr, r0, r1⟩ := next_ok 5000 t (k := k') (n := 200) (by omega) (by omega) (by omega) (by omega)
  have v1 := tasks_val (T := T) (by omega) hx t0 (by omega)
  have v2 := tasks_val (T := T + M) (by omega) hx (by omega) (by omega)
  have v3 : Val (l ++ [T_Task.mk r 300]) T := tasks_val (by simp; omega) (fun x h => by
    rcases List.mem_append.1 h with h | h
    · exact hx x h
    · simp at h; rw [h]; simp only; omega) t0 (by omega)
  have v4 := tasks_val (T := 10080) (by omega) hx (by omega) (by omega)
  obtain ⟨_, _, a, _, _, _, ha, _, hA⟩ := assigns hN v1
  obtain ⟨_, _, b, _, _, _, hb, _, hB⟩ := assigns hN v2
  obtain ⟨_, _, c, _, _, _, hc, _, hC⟩ := assigns hN v3
  obtain ⟨_, _, d, _, _, _, hd, _, hD⟩ := assigns hN v4
  have q1 := hA.mono hB (by omega)
  have q2 := hA.more hC
  have q3 := hD.all v4
  have hbound : a ≤ l.length := by
    rcases hA.cl with h1 | ⟨i, hi, hc⟩
    · omega
    · rw [← hc]; exact Nat.le_trans (List.length_filter_le _ _) (by simp)
  unfold law39_EngineTurns
  have g1 : (((((decide ((0 : Int) = 0) && decide ((0 : Int) = 0)) && decide ((0 : Int) = 0)) && decide ((0 : Int) = 0)) && decide ((a : Int) ≤ (b : Int))) && decide ((a : Int) ≤ (c : Int))) = true := band (band rfl (decide_eq_true (by omega))) (decide_eq_true (by omega))
  have g2 : (((((((decide ((0 : Int) = 0) && decide ((0 : Int) = 0)) && decide ((0 : Int) = 0)) && decide ((0 : Int) = 0)) && decide ((a : Int) ≤ (b : Int))) && decide ((a : Int) ≤ (c : Int))) && decide ((c : Int) ≤ ((a + 1 : Nat) : Int))) && decide ((d : Int) = (List.length l : Int))) = true := band (band g1 (decide_eq_true (by omega))) (decide_eq_true (by omega))
  refine obi rfl (obi hl (obi hT (obi hM (obi ha (obi (in64_ok (by omega)) (obi hb (obi (app_ok (by simp only [List.length_nil]; omega) (by simp only [List.length_nil]; omega)) (obi hr (obi (app_ok (by simp only [List.length_append, List.length_cons, List.length_nil]; omega) (by simp only [List.length_append, List.length_cons, List.length_nil]; omega)) (obi (by rw [List.nil_append]; exact hc) (obi hd (obi (gO_T g1 (inc_nat (by omega))) (obi (gO_T g2 sane_ok) ?_)))))))))))))
  exact congrArg some (band g2 rfl)
end Go.Gv
