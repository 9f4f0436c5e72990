/- Throwing (chapter 24): the reference's insertion; Commands are equal. -/
import Derived.Test.YtpelfidmcpcmjaaPlj
namespace Go.Gv
theorem ins36 {N : Nat} {made out : List T_Command} {i : Nat} (hi : i < made.length) (hN : out.length < N) (hl : out.length ≤ 2000) :
    ∃ j : Nat, iterN (fun s : Int => r24_Commands_l36 N made (i : Int) out s) N (out.length : Int) = some (j : Int) ∧ j ≤ out.length ∧ (∀ p, j ≤ p → p < out.length → (kc made i).Time < (kc out p).Time) ∧ (0 < j → (kc out (j - 1)).Time ≤ (kc made i).Time) := by
  obtain ⟨q, hq, j, rfl, h1, h2, h3⟩ := iterN_run (f := fun s : Int => r24_Commands_l36 N made (i : Int) out s)
    (I := fun s => ∃ j : Nat, s = j ∧ j ≤ out.length ∧ ∀ p, j ≤ p → p < out.length → (kc made i).Time < (kc out p).Time)
    (Q := fun q => ∃ j : Nat, q = (j : Int) ∧ j ≤ out.length ∧ (∀ p, j ≤ p → p < out.length → (kc made i).Time < (kc out p).Time) ∧ (0 < j → (kc out (j - 1)).Time ≤ (kc made i).Time)) (fun s => s.toNat) (by
    rintro s ⟨j, rfl, hj, hall⟩
    unfold r24_Commands_l36
    by_cases h0 : 0 < j
    · have g : decide (0 < (j : Int)) = true := decide_eq_true (by omega)
      have s1 : in64 ((j : Int) - 1) = some ((j - 1 : Nat) : Int) := in64_nat (by omega) (by omega)
      by_cases hc : (kc made i).Time < (kc out (j - 1)).Time
      · refine .inl ⟨((j - 1 : Nat) : Int), obi (gO_T g s1) (obi (gO_T g (idx_kc (by omega))) (obi (gO_T g (idx_kc hi)) (oit (band g (decide_eq_true hc)) (obi s1 rfl)))), ⟨j - 1, rfl, by omega, fun p hp hp2 => ?_⟩, by omega⟩
        by_cases e : p = j - 1
        · rw [e]; exact hc
        · exact hall p (by omega) hp2
      · exact .inr ⟨_, obi (gO_T g s1) (obi (gO_T g (idx_kc (by omega))) (obi (gO_T g (idx_kc hi)) (oif (bandF2 (decide_eq_false hc)) rfl))), j, rfl, hj, hall, fun _ => by omega⟩
    · have g : decide (0 < (j : Int)) = false := decide_eq_false (by omega)
      exact .inr ⟨_, obi (gO_F g) (obi (gO_F g) (obi (gO_F g) (oif (bandF g) rfl))), j, rfl, hj, hall, fun h => absurd h h0⟩) N (out.length : Int) ⟨out.length, rfl, Nat.le_refl _, fun p h1 h2 => by omega⟩ (by simp; omega)
  exact ⟨j, hq, h1, h2, h3⟩
theorem kc_getElem {c : List T_Command} {i : Nat} (h : i < c.length) : kc c i = c[i] := by unfold kc; rw [List.getD_eq_getElem?_getD, List.getElem?_eq_getElem h]; rfl
theorem ins_ok {out : List T_Command} {x : T_Command} {j : Nat} (ha : AscK keyT out) (hj : j ≤ out.length) (h1 : ∀ p, j ≤ p → p < out.length → x.Time < (kc out p).Time) (h2 : 0 < j → (kc out (j - 1)).Time ≤ x.Time) :
    AscK keyT (out.take j ++ (x :: out.drop j)) ∧ Same keyT (out ++ [x]) (out.take j ++ (x :: out.drop j)) := by
  have hd : ∀ y ∈ out.drop j, x.Time < y.Time := fun y hy => by
    obtain ⟨p, hp, rfl⟩ := List.getElem_of_mem hy
    rw [List.getElem_drop]
    have := h1 (j + p) (by omega) (by simp at hp; omega)
    rw [kc_getElem (by simp at hp; omega)] at this
    exact this
  have ht : ∀ y ∈ out.take j, y.Time ≤ x.Time := fun y hy => by
    obtain ⟨p, hp, rfl⟩ := List.mem_take_iff_getElem.1 hy
    have hj0 : 0 < j := by omega
    have := h2 hj0
    rw [kc_getElem (by omega)] at this
    by_cases e : p = j - 1
    · subst e; exact this
    · have := List.pairwise_iff_getElem.1 ha p (j - 1) (by omega) (by omega) (by omega)
      unfold keyT at this
      omega
  have hsplit := List.take_append_drop j out
  constructor
  · unfold AscK at ha ⊢
    rw [← hsplit, List.pairwise_append] at ha
    refine List.pairwise_append.2 ⟨ha.1, List.pairwise_cons.2 ⟨fun y hy => by have := hd y hy; unfold keyT; omega, ha.2.1⟩, fun y hy z hz => ?_⟩
    rcases List.mem_cons.1 hz with rfl | hz
    · exact ht y hy
    · have a := ht y hy
      have b := hd z hz
      unfold keyT; omega
  · intro t
    rw [List.filter_append, List.filter_cons]
    conv => rhs; rw [List.filter_append]; arg 1; rw [← hsplit, List.filter_append]
    by_cases e : keyT x = t
    · have : (out.drop j).filter (fun y => decide (keyT y = t)) = [] := List.filter_eq_nil_iff.2 fun y hy h => by
        have a := hd y hy
        have b := of_decide_eq_true h
        unfold keyT at b e
        omega
      rw [this]
      simp [e]
    · simp [e]
end Go.Gv
