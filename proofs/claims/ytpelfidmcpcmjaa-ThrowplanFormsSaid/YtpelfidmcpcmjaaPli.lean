/- Throwing (chapter 24): the reference's Commands. -/
import Derived.Test.YtpelfidmcpcmjaaPlh
namespace Go.Gv
theorem r30 {N : Nat} {made : List T_Command} (hN : made.length < N) (hm : made.length ≤ 1024) (st : List T_Throw) (x : T_Span) : iterN (fun s : Int × Int => r24_Commands_l30 N made x s.1 s.2) N (frs st x.Element, 0) = some (lastS made st x.Element) := by
  refine runN1 (f := fun s : Int × Int => r24_Commands_l30 N made x s.1 s.2) made.length (fun i s => s.2 = i ∧ s.1 = lastS (made.take i) st x.Element) _ ?_ ?_ N hN _ ⟨rfl, rfl⟩
  · rintro i ⟨sd, i'⟩ hi ⟨rfl, rfl⟩
    have hx : made[i] = kc made i := by unfold kc; rw [List.getD_eq_getElem?_getD, List.getElem?_eq_getElem hi]; rfl
    have htk : made.take (i + 1) = made.take i ++ [kc made i] := by rw [List.take_succ_eq_append_getElem hi, hx]
    unfold r24_Commands_l30
    by_cases he : (kc made i).Element = x.Element
    · refine ⟨_, oit (decide_eq_true (by omega)) (obi (idx_kc hi) (oit (decide_eq_true he) (obi (idx_kc hi) (obi (inc_nat (by omega)) rfl)))), rfl, ?_⟩
      rw [htk, lastS_snoc, if_pos he]
    · refine ⟨_, oit (decide_eq_true (by omega)) (obi (idx_kc hi) (oif (decide_eq_false he) (obi (inc_nat (by omega)) rfl))), rfl, ?_⟩
      rw [htk, lastS_snoc, if_neg he]
  · rintro ⟨sd, i'⟩ ⟨rfl, rfl⟩
    rw [List.take_length]
    exact oif (decide_eq_false (by simp)) rfl
theorem find_elS {a : List T_Span} (g : Good a) (e : Int) : (∃ (j : Nat) (h : j < a.length), findE a e = j ∧ a.find? (elS e) = some a[j]) ∨ (findE a e = -1 ∧ a.find? (elS e) = none) := by
  rcases find_cases g e with ⟨j, h, h1, h2, h3⟩ | ⟨h1, h2⟩
  · refine .inl ⟨j, h, h1, ?_⟩
    cases hf : a.find? (elS e) with
    | none =>
      have := List.find?_eq_none.1 hf _ (List.getElem_mem h)
      exact absurd (decide_eq_true h2) this
    | some s =>
      have hs : elS e s = true := List.find?_some hf
      rw [h3 s (List.mem_of_find?_eq_some hf) (of_decide_eq_true hs)]
  · exact .inr ⟨h1, List.find?_eq_none.2 fun s hs h => h2 s hs (of_decide_eq_true h)⟩
theorem r31 {N : Nat} (hN : 2000 ≤ N) {l : List (List T_Span)} {r : List Int} {th : Int} {st : List T_Throw} (v : V24 l r th st) {k : Nat} (hk : k ≤ l.length) (x : T_Span) : iterN (fun s : Bool × Int × Int => r24_Commands_l31 N l r (k : Int) x s.1 s.2.1 s.2.2) N (false, 0, 0) = some (slE l x.Element k, tmE l r x.Element k) := by
  have hll := v.ll
  have hrl := v.rl
  refine runN1 (f := fun s : Bool × Int × Int => r24_Commands_l31 N l r (k : Int) x s.1 s.2.1 s.2.2) k (fun i s => s.2.1 = i ∧ s.1 = slE l x.Element i ∧ s.2.2 = tmE l r x.Element i) _ ?_ ?_ N (by omega) _ ⟨rfl, rfl, rfl⟩
  · rintro i ⟨b, i', m⟩ hi ⟨rfl, rfl, rfl⟩
    have hil : i < l.length := by omega
    have g := v.gd _ (lk_mem hil)
    have hlen := g.len
    have hrb := v.rb i (by omega)
    have el := idx_lk hil
    have er : idx r (i : Int) = some (rk r i) := idx_rk (by omega)
    have hf := find_eq N (lk l i) (by omega) (by omega) x.Element
    have t0 : decide ((i : Int) < (k : Int)) = true := decide_eq_true (by omega)
    have inc : in64 ((i : Int) + 1) = some ((i + 1 : Nat) : Int) := inc_nat (by omega)
    unfold r24_Commands_l31
    rcases find_elS g x.Element with ⟨j, hj, h1, h2⟩ | ⟨h1, h2⟩
    · rw [h1] at hf
      have hs := g.mem (List.getElem_mem hj)
      have ej : idx (lk l i) (j : Int) = some (lk l i)[j] := idx_nat hj
      have f1 : in64 (rk r i + (lk l i)[j].To) = some (rk r i + (lk l i)[j].To) := in64_ok (by omega)
      cases hb : slE l x.Element i with
      | true =>
        refine ⟨_, oit t0 (obi el (obi hf (oit (decide_eq_true (by omega)) (obi (gO_F rfl) (obi (gO_F rfl) (obi er (obi el (obi ej (obi f1 (obi inc rfl)))))))))), rfl, ?_, ?_⟩
        · simp only [slE, h2, hb, Bool.true_or]
        · simp only [tmE, h2]
      | false =>
        refine ⟨_, oit t0 (obi el (obi hf (oit (decide_eq_true (by omega)) (obi (gO_T rfl el) (obi (gO_T rfl ej) (obi er (obi el (obi ej (obi f1 (obi inc rfl)))))))))), rfl, ?_, ?_⟩
        · simp only [slE, h2, hb]
        · simp only [tmE, h2]
    · rw [h1] at hf
      refine ⟨_, oit t0 (obi el (obi hf (oif (decide_eq_false (by decide)) (obi inc rfl)))), rfl, ?_, ?_⟩
      · simp only [slE, h2]
      · simp only [tmE, h2]
  · rintro ⟨b, i', m⟩ ⟨rfl, rfl, rfl⟩
    exact oif (decide_eq_false (by simp)) rfl
end Go.Gv
