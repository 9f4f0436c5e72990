/- Crews (chapter 40): CrewFits. -/
import Derived.Test.YthoabchofjcigaaPlg
namespace Go.Gv
theorem obx {α β : Type} {m : Option α} {f : α → Option β} {x : α} {Q : β → Prop} (h : m = some x) (k : ∃ b, f x = some b ∧ Q b) : ∃ b, Option.bind m f = some b ∧ Q b := by subst h; exact k
theorem oitx {α : Type} {b : Bool} {x y : Option α} {Q : α → Prop} (h : b = true) (k : ∃ r, x = some r ∧ Q r) : ∃ r, (bif b then x else y) = some r ∧ Q r := by subst h; exact k
theorem oifx {α : Type} {b : Bool} {x y : Option α} {Q : α → Prop} (h : b = false) (k : ∃ r, y = some r ∧ Q r) : ∃ r, (bif b then x else y) = some r ∧ Q r := by subst h; exact k
theorem obe {α β : Type} {m : Option α} {f : α → Option β} {P : α → Prop} {Q : β → Prop} (h : ∃ a, m = some a ∧ P a) (g : ∀ a, P a → ∃ b, f a = some b ∧ Q b) : ∃ b, Option.bind m f = some b ∧ Q b := by
  obtain ⟨a, rfl, h⟩ := h
  exact g a h
/-- both checks -/
def chkR (d : List T_Task) (c : List T_Crew) (p : List T_Pair) (u w : List Int) : Bool × Int := if vC d c = 0 then (chkB d c p u w, 0) else (false, vC d c)
theorem Check_any {N : Nat} (hN : 2000 ≤ N) (d : List T_Task) (c : List T_Crew) {p : List T_Pair} {u w : List Int} (hp : p.length ≤ 200) (hu : u.length ≤ 200) (hw : w.length ≤ 200) : crew_Check N d c p u w = some (chkR d c p u w) := by
  unfold chkR
  by_cases h : vC d c = 0
  · rw [if_pos h]; exact Check_eq hN (vC_zero.1 h) hp hu hw
  · rw [if_neg h]; exact obi (check_eq hN d c) (oit (bnotIt (decide_eq_false h)) rfl)
theorem rCheck_any {N : Nat} (hN : 2000 ≤ N) (d : List T_Task) (c : List T_Crew) {p : List T_Pair} {u w : List Int} (hp : p.length ≤ 200) (hu : u.length ≤ 200) (hw : w.length ≤ 200) : r40_Check N d c p u w = some (chkR d c p u w) := by
  unfold chkR
  by_cases h : vC d c = 0
  · rw [if_pos h]; exact rCheck_eq hN (vC_zero.1 h) hp hu hw
  · rw [if_neg h]; exact obi (rValid_eq hN d c) (oit (bnotIt (decide_eq_false h)) rfl)
/-- bounds of what is checked in one turn -/
structure FB (k : Int) (j : Int × List T_Task × List T_Crew × List T_Pair × List Int) : Prop where
  k0 : 0 ≤ j.1
  k1 : j.1 ≤ k + 450
  xl : j.2.1.length ≤ 7
  yl : j.2.2.1.length ≤ 6
  al : j.2.2.2.1.length ≤ 100
  ul : j.2.2.2.2.length ≤ 100
  xs : ∀ x ∈ j.2.1, -1000000 ≤ x.From ∧ x.From ≤ 1000000 ∧ -1000000 ≤ x.To ∧ x.To ≤ 1000000
theorem fit_loop {N : Nat} (hN : 2000 ≤ N) (t : List Int) {k : Int} (hk : 0 ≤ k) (hk2 : k ≤ 100000) {j : Int × List T_Task × List T_Crew × List T_Pair × List Int} (hj : FB k j) :
    ∃ r, iterN (fun s : Int × Int => law40_CrewFits_l4 N t j s.1 s.2) N (0, j.1) = some r ∧ ∃ k' : Int, r = .inr k' ∧ 0 ≤ k' ∧ k' ≤ k + 460 := by
  obtain ⟨k0, k1, xl, yl, al, ul, xs⟩ := hj
  refine runN (f := fun s : Int × Int => law40_CrewFits_l4 N t j s.1 s.2) j.2.1.length (fun i s => s.1 = i ∧ 0 ≤ s.2 ∧ s.2 ≤ j.1 + i) _ ?_ ?_ N (by omega) (0, j.1) ⟨rfl, k0, by simp⟩
  · rintro i ⟨i', q⟩ hi ⟨rfl, h0, h1⟩
    simp only at h0 h1 ⊢
    unfold law40_CrewFits_l4
    by_cases hc : 0 < j.2.2.1.length
    · obtain ⟨m, hm, m0, m1⟩ := next_ok N t (k := q) (n := (j.2.2.1.length : Int)) (by omega) (by omega) (by omega) (by omega)
      obtain ⟨b, rfl⟩ : ∃ b : Nat, m = b := ⟨m.toNat, by omega⟩
      have e1 := idx_nat (show b < j.2.2.1.length by omega)
      have e2 := idx_nat hi
      have hs := xs _ (List.getElem_mem hi)
      refine .inl ⟨_, oit (band (decide_eq_true (by omega)) (decide_eq_true (by omega))) (obi hm (obi e1 (obi e2 (obi e2 (obi (fits_eq N _ hs) (obi (rfits_eq N _ hs) (oif (bnotIf (by simp)) (obi (inc_nat (by omega)) rfl)))))))), rfl, by simp only; omega, by simp only; omega⟩
    · exact .inr ⟨_, oif (bandF2 (decide_eq_false (by omega))) rfl, q, rfl, by omega, by omega⟩
  · rintro ⟨i', q⟩ ⟨rfl, h0, h1⟩
    simp only at h0 h1
    exact ⟨_, oif (bandF (decide_eq_false (by simp))) rfl, q, rfl, by omega, by omega⟩
theorem fits_turn (t : List Int) {k : Int} (i : Nat) (hi : i < 4) (hk : 0 ≤ k) (hk2 : k ≤ 50000) :
    ∃ r, law40_CrewFits_l3 2000 t i k = some r ∧ ∃ k' : Int, r = .inl (((i + 1 : Nat) : Int), k') ∧ 0 ≤ k' ∧ k' ≤ k + 460 := by
  have hN : 2000 ≤ 2000 := Nat.le_refl _
  obtain ⟨k0, x, y, hm, hk0, hk1, hmade⟩ := made_ok hN t (k := k) hk (by omega) (n := 6) (m := 5) (by omega) (by omega)
  have v := hmade.val (by omega) (by omega)
  have hdl := hmade.dl
  have hcl := hmade.cl
  obtain ⟨does, of, hma, hmat, hA⟩ := assigns hN v
  obtain ⟨F, B, hC, hcov⟩ := cover_ok hN v hma hmat
  obtain ⟨a, ha⟩ : ∃ a, a = pr of x.length := ⟨_, rfl⟩
  obtain ⟨u, hu⟩ : ∃ u, u = iL x.length fun i => !F.getD i false := ⟨_, rfl⟩
  obtain ⟨w, hw⟩ : ∃ w, w = iL y.length fun k => B.getD k false := ⟨_, rfl⟩
  have hul : u.length ≤ x.length := by rw [hu]; exact iL_len _ _
  have hwl : w.length ≤ y.length := by rw [hw]; exact iL_len _ _
  have hal : a.length ≤ x.length := by rw [ha, pr_len]; exact mcount_le _ _
  have hxs : ∀ z ∈ x, -1000000 ≤ z.From ∧ z.From ≤ 1000000 ∧ -1000000 ≤ z.To ∧ z.To ≤ 1000000 := fun z hz => by have := hmade.ok z hz; omega
  rw [← hu, ← hw] at hC
  rw [← ha] at hA
  have e1 : app 16 [] a = some a := app_ok (by simp only [List.length_nil]; omega) (by simp only [List.length_nil]; omega)
  have e2 : app 8 [] u = some u := app_ok (by simp only [List.length_nil]; omega) (by simp only [List.length_nil]; omega)
  have e3 : app 8 [] w = some w := app_ok (by simp only [List.length_nil]; omega) (by simp only [List.length_nil]; omega)
  unfold law40_CrewFits_l3
  refine oitx (decide_eq_true (by omega)) (obx hm (obx hA (obx hC (obx e1 (obx e2 (obx e3 (obe (P := FB k) ?_ fun j hj => ?_)))))))
  · simp only
    by_cases h1 : i = 1
    · refine oitx (decide_eq_true (by omega)) ?_
      by_cases h0 : 0 < a.length
      · obtain ⟨p, hp, p0, p1⟩ := next_ok 2000 t (k := k0) (n := (a.length : Int)) (by omega) (by omega) (by omega) (by omega)
        obtain ⟨b, rfl⟩ : ∃ b : Nat, p = b := ⟨p.toNat, by omega⟩
        obtain ⟨q, hq, q0, q1⟩ := next_ok 2000 t (k := k0 + 1) (n := 7) (by omega) (by omega) (by omega) (by omega)
        obtain ⟨z, hz, z0, z1⟩ := next_ok 2000 t (k := k0 + 1 + 1) (n := 6) (by omega) (by omega) (by omega) (by omega)
        refine oitx (decide_eq_true (by omega)) (obx hp (obx hq (obx (in64_ok (by simp only; omega)) (obx hz (obx (in64_ok (by simp only; omega)) (obx (idx_nat (show b < a.length by omega)) ⟨_, rfl, ?_⟩))))))
        exact ⟨by simp only; omega, by simp only; omega, by simp only; omega, by simp only; omega, by simp only [List.length_set]; omega, by simp only; omega, hxs⟩
      · exact oifx (decide_eq_false (by omega)) ⟨_, rfl, by simp only; omega, by simp only; omega, by simp only; omega, by simp only; omega, by simp only; omega, by simp only; omega, hxs⟩
    · refine oifx (decide_eq_false (by omega)) ?_
      by_cases h2 : i = 2
      · obtain ⟨p, hp, pm⟩ := pick_ok 2000 t (k := k0) (v := [-1, (x.length : Int) - 1, (x.length : Int)]) (by omega) (by omega) (by simp) (by simp)
        have e4 : app 8 u [p] = some (u ++ [p]) := app_ok (by simp only [List.length_cons, List.length_nil]; omega) (by simp only [List.length_cons, List.length_nil]; omega)
        exact oitx (decide_eq_true (by omega)) (obx (in64_ok (by omega)) (obx hp (obx e4 ⟨_, rfl, by simp only; omega, by simp only; omega, by simp only; omega, by simp only; omega, by simp only; omega, by simp only [List.length_append, List.length_cons, List.length_nil]; omega, hxs⟩)))
      · have h3 : i = 0 ∨ i = 3 := by omega
        refine oifx (decide_eq_false (by omega)) ?_
        rcases h3 with h3 | h3
        · exact oifx (decide_eq_false (by omega)) ⟨_, rfl, by simp only; omega, by simp only; omega, by simp only; omega, by simp only; omega, by simp only; omega, by simp only; omega, hxs⟩
        · obtain ⟨p, hp, pm⟩ := pick_ok 2000 t (k := k0) (v := [-1, 5, 9]) (by omega) (by omega) (by simp) (by simp)
          obtain ⟨q, hq, qm⟩ := pick_ok 2000 t (k := k0 + 1) (v := [9, 10080, 10081]) (by omega) (by omega) (by simp) (by simp)
          obtain ⟨r, hr, rm⟩ := pick_ok 2000 t (k := k0 + 1 + 1) (v := [3, 4]) (by omega) (by omega) (by simp) (by simp)
          obtain ⟨s, hs, sm⟩ := pick_ok 2000 t (k := k0 + 1 + 1 + 1) (v := [0, 1, 10080, 10081]) (by omega) (by omega) (by simp) (by simp)
          have pm : p = -1 ∨ p = 5 ∨ p = 9 := by simpa using pm
          have qm : q = 9 ∨ q = 10080 ∨ q = 10081 := by simpa using qm
          have e4 : app 16 x [T_Task.mk p q] = some (x ++ [T_Task.mk p q]) := app_ok (by simp only [List.length_cons, List.length_nil]; omega) (by simp only [List.length_cons, List.length_nil]; omega)
          have e5 : app 24 y [T_Crew.mk 3 r s] = some (y ++ [T_Crew.mk 3 r s]) := app_ok (by simp only [List.length_cons, List.length_nil]; omega) (by simp only [List.length_cons, List.length_nil]; omega)
          refine oitx (decide_eq_true (by omega)) (obx hp (obx hq (obx e4 (obx hr (obx hs (obx e5 ⟨_, rfl, by simp only; omega, by simp only; omega, by simp only [List.length_append, List.length_cons, List.length_nil]; omega, by simp only [List.length_append, List.length_cons, List.length_nil]; omega, by simp only; omega, by simp only; omega, fun z hz => ?_⟩))))))
          rcases List.mem_append.1 hz with h | h
          · exact hxs z h
          · simp at h; rw [h]; simp only; omega
  · have hj2 := hj
    obtain ⟨k0, k1, xl, yl, al, ul, xs⟩ := hj2
    refine obx (Check_any hN _ _ (by omega) (by omega) (by omega)) (obx (rCheck_any hN _ _ (by omega) (by omega) (by omega)) (oifx (borF (bnotIf (by simp)) (bnotIf (decide_eq_true rfl))) (obe (fit_loop hN t hk (by omega) hj) ?_)))
    rintro r ⟨k', rfl, h0, h1⟩
    exact obx (inc_nat (by omega)) ⟨_, rfl, k', rfl, h0, h1⟩
theorem Assign_any {N : Nat} (hN : 2000 ≤ N) (d : List T_Task) (c : List T_Crew) : ∃ l, crew_Assign N d c = some (l, vC d c) := by
  by_cases h : vC d c = 0
  · obtain ⟨_, _, _, _, hA⟩ := assigns hN (vC_zero.1 h)
    rw [h]; exact ⟨_, hA⟩
  · exact ⟨_, assign_bad hN h⟩
theorem Cover_any {N : Nat} (hN : 2000 ≤ N) (d : List T_Task) (c : List T_Crew) : ∃ l w, crew_Cover N d c = some (l, w, vC d c) := by
  by_cases h : vC d c = 0
  · obtain ⟨_, _, hma, hmat, _⟩ := assigns hN (vC_zero.1 h)
    obtain ⟨_, _, hC, _⟩ := cover_ok hN (vC_zero.1 h) hma hmat
    rw [h]; exact ⟨_, _, hC⟩
  · exact ⟨_, _, cover_bad hN h⟩
theorem CrewFits_true (t : List Int) (d : List T_Task) (c : List T_Crew) (p : List T_Pair) : law40_CrewFits 2000 t d c p = some true := by
  have hN : 2000 ≤ 2000 := Nat.le_refl _
  have l3 : iterN (fun s : Int × Int => law40_CrewFits_l3 2000 t s.1 s.2) 2000 (0, 0) = some (.inr ()) := by
    refine runN1 (f := fun s : Int × Int => law40_CrewFits_l3 2000 t s.1 s.2) 4 (fun i s => s.1 = i ∧ 0 ≤ s.2 ∧ s.2 ≤ 460 * i) _ ?_ ?_ 2000 (by omega) (0, 0) ⟨rfl, Int.le_refl _, by simp⟩
    · rintro i ⟨i', k⟩ hi ⟨rfl, h0, h1⟩
      simp only at h0 h1 ⊢
      obtain ⟨r, hr, k', rfl, q0, q1⟩ := fits_turn t i hi h0 (by omega)
      exact ⟨_, hr, rfl, q0, by simp only; omega⟩
    · rintro ⟨i', k⟩ ⟨rfl, _⟩
      exact oif (decide_eq_false (by simp)) rfl
  unfold law40_CrewFits
  refine obi rfl (obi l3 ?_)
  simp only
  cases hb : ((decide (80 < (List.length d : Int)) || decide (40 < (List.length c : Int))) || decide (80 < (List.length p : Int))) with
  | true => exact oit rfl (obi sane_ok rfl)
  | false =>
    have hp := of_decide_eq_false (borr hb)
    obtain ⟨l1, hA⟩ := Assign_any hN d c
    obtain ⟨l2, w2, hC⟩ := Cover_any hN d c
    refine oif rfl (obi (Check_any hN d c (by omega) (by simp) (by simp)) (obi (rCheck_any hN d c (by omega) (by simp) (by simp)) (obi hA (obi hC (obi (rValid_eq hN d c) ?_)))))
    have g : (((((chkR d c p [] []).1 == (chkR d c p [] []).1) && decide ((chkR d c p [] []).2 = (chkR d c p [] []).2)) && decide (vC d c = vC d c)) && decide (vC d c = vC d c)) = true := by simp
    exact obi (gO_T g sane_ok) (congrArg some (band g rfl))
end Go.Gv
