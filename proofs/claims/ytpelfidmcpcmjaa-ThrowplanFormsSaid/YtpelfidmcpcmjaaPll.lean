/- Throwing (chapter 24): both Commands are equal. -/
import Derived.Test.YtpelfidmcpcmjaaPlk
namespace Go.Gv
theorem ins_loop {N : Nat} (hN : 2000 ≤ N) {made : List T_Command} (hm : made.length ≤ 1024) : ∃ out, iterN (fun s : Int × List T_Command => r24_Commands_l35 N made s.1 s.2) N (0, []) = some out ∧ Same keyT made out ∧ AscK keyT out := by
  refine runN (f := fun s : Int × List T_Command => r24_Commands_l35 N made s.1 s.2) made.length (fun i s => s.1 = i ∧ s.2.length = i ∧ Same keyT (made.take i) s.2 ∧ AscK keyT s.2) _ ?_ ?_ N (by omega) (0, []) ⟨rfl, rfl, fun t => rfl, List.Pairwise.nil⟩
  · rintro i ⟨i', out⟩ hi ⟨rfl, hl, hs, ha⟩
    simp only at hl hs ha ⊢
    obtain ⟨j, hj, j1, j2, j3⟩ := ins36 (N := N) (made := made) (out := out) hi (by omega) (by omega)
    obtain ⟨b1, b2⟩ := ins_ok ha j1 j2 j3
    have s1 : slc out 0 (j : Int) = some (out.take j) := by
      have := slc_nat (l := out) (a := 0) (b := j) (by omega) j1
      rw [List.drop_zero] at this
      exact this
    have s2 : slc out (j : Int) (out.length : Int) = some (out.drop j) := by
      rw [slc_nat j1 (Nat.le_refl _), List.take_of_length_le (Nat.le_refl _)]
    have a1 : app 32 [kc made i] (out.drop j) = some (kc made i :: out.drop j) := app_ok (by simp only [List.length_cons, List.length_nil, List.length_drop]; omega) (by simp only [List.length_cons, List.length_nil, List.length_drop]; omega)
    have a2 : appC 32 (out.take j) (kc made i :: out.drop j) = some (out.take j ++ (kc made i :: out.drop j)) := by
      unfold appC
      rw [if_neg (by simp)]
      exact app_ok (by simp only [List.length_cons, List.length_take, List.length_drop]; omega) (by simp only [List.length_cons, List.length_take, List.length_drop]; omega)
    unfold r24_Commands_l35
    refine .inl ⟨_, oit (decide_eq_true (by omega)) (obi hj (obi s1 (obi (idx_kc hi) (obi s2 (obi a1 (obi a2 (obi (inc_nat (by omega)) rfl))))))), rfl, ?_, ?_, b1⟩
    · simp only [List.length_append, List.length_cons, List.length_take, List.length_drop]; omega
    · have htk : made.take (i + 1) = made.take i ++ [kc made i] := by rw [List.take_succ_eq_append_getElem hi, kc_getElem hi]
      rw [htk]
      refine Same.trans (fun t => ?_) b2
      rw [List.filter_append, List.filter_append, hs t]
  · rintro ⟨i', out⟩ ⟨rfl, hl, hs, ha⟩
    simp only at hl hs ha
    rw [List.take_length] at hs
    exact ⟨_, oif (decide_eq_false (by simp)) rfl, hs, ha⟩
theorem Commands_both {N : Nat} (hN : 2000 ≤ N) {l : List (List T_Span)} {r : List Int} {th : Int} {st : List T_Throw} (hr : r.length < N) (hr2 : r.length ≤ 17592186044416) :
    ∃ q, throwplan_Commands N l r th st = some q ∧ r24_Commands N l r th st = some q ∧ q.1.length ≤ 1024 := by
  by_cases hck : ¬ ck24 l r th st = 0
  · refine ⟨([], ck24 l r th st), ?_, ?_, by simp⟩
    · unfold throwplan_Commands
      exact obi (check_eq hN l r th st) (oit (bnotIt (decide_eq_false hck)) rfl)
    · unfold r24_Commands
      exact obi (rcheck_eq hN l r th st hr hr2) (oit (bnotIt (decide_eq_false hck)) rfl)
  have hck := Classical.not_not.1 hck
  have v := v24 hck
  have hll := v.ll
  have hc0 : r24_check N l r th st = some 0 := by rw [rcheck_eq hN l r th st hr hr2, hck]
  obtain ⟨q, hq, hQ⟩ := runN (f := fun s : Int × List T_Command => r24_Commands_l24 N l r th st s.1 s.2) l.length
    (fun i s => s.1 = i ∧ s.2.length ≤ 1024 ∧ allO l r th st ((List.range l.length).drop i) s.2 = allO l r th st (List.range l.length) [])
    (fun q => (∃ e, allO l r th st (List.range l.length) [] = .inr e ∧ q = .inl ([], e)) ∨ ∃ made, allO l r th st (List.range l.length) [] = .inl made ∧ made.length ≤ 1024 ∧ q = .inr made) (by
    rintro k ⟨k', md⟩ hk ⟨rfl, hm, hV⟩
    simp only at hm hV ⊢
    rw [drop_range hk, allO] at hV
    obtain ⟨q, hq, hQ⟩ := rrow hN v hk hm
    unfold r24_Commands_l24
    rcases hQ with ⟨e, a1, rfl⟩ | ⟨m', a1, a2, rfl⟩
    · rw [a1] at hV
      exact .inr ⟨_, oit (decide_eq_true (by omega)) (obi hq rfl), .inl ⟨e, hV.symm, rfl⟩⟩
    · rw [a1] at hV
      exact .inl ⟨_, oit (decide_eq_true (by omega)) (obi hq (obi (inc_nat (by omega)) rfl)), rfl, a2, hV⟩) (by
    rintro ⟨k', md⟩ ⟨rfl, hm, hV⟩
    simp only at hm hV
    rw [List.drop_of_length_le (by simp), allO] at hV
    exact ⟨_, oif (decide_eq_false (by simp)) rfl, .inr ⟨md, hV.symm, hm, rfl⟩⟩) N (by omega) (0, []) ⟨rfl, by simp, rfl⟩
  rcases Commands_eq hN v hck with ⟨e, a1, _, a3⟩ | ⟨made, out, a1, a2, a3, a4, a5, a6⟩
  · rcases hQ with ⟨e', b1, rfl⟩ | ⟨m', b1, _, rfl⟩
    · rw [a1] at b1
      injection b1 with b1
      subst b1
      exact ⟨_, a3, obi hc0 (oif rfl (obi hq rfl)), by simp⟩
    · rw [a1] at b1; cases b1
  · rcases hQ with ⟨e', b1, rfl⟩ | ⟨m', b1, b2, rfl⟩
    · rw [a1] at b1; cases b1
    · rw [a1] at b1
      injection b1 with b1
      subst b1
      obtain ⟨out', c1, c2, c3⟩ := ins_loop hN a2
      have : out' = out := sorted_one a6 c3 (fun t => (c2 t).trans (a5 t).symm)
      rw [this] at c1
      exact ⟨_, a3, obi hc0 (oif rfl (obi hq (obi c1 rfl))), by simp only; omega⟩
end Go.Gv
