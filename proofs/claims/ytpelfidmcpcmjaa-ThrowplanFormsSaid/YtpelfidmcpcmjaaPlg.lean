/- Throwing (chapter 24): the program's Commands. -/
import Derived.Test.YtpelfidmcpcmjaaPlf
namespace Go.Gv
theorem drop_pk2 {a : List T_Span} {i : Nat} (h : i < a.length) : a.drop i = pk2 a i :: a.drop (i + 1) := by
  rw [List.drop_eq_getElem_cons h]
  unfold pk2
  rw [List.getD_eq_getElem?_getD, List.getElem?_eq_getElem h]; rfl
theorem row_loop {N : Nat} (hN : 2000 ≤ N) {l : List (List T_Span)} {r : List Int} {th : Int} {st : List T_Throw} (v : V24 l r th st) {side until_ : List (Int × Int)} {slow : List (Int × Bool)} {made : List T_Command} {k : Nat} (hk : k < l.length) (hm : made.length ≤ 1024)
    (h1 : ∀ e, (mget side e).getD 1 = lastS made st e) (h2 : ∀ e, (mget until_ e).getD 0 = tmE l r e k) (h3 : ∀ e, (mget slow e).getD false = slE l e k) :
    ∃ q, iterN (fun s : Int × (List (Int × Int)) × (List (Int × Int)) × (List (Int × Bool)) × List T_Command => throwplan_Commands_l8 N r th (k : Int) (lk l k) s.1 s.2.1 s.2.2.1 s.2.2.2.1 s.2.2.2.2) N (0, side, until_, slow, made) = some q ∧
      ((∃ e, rowO l r th st k (lk l k) made = .inr e ∧ e ≠ 0 ∧ q = .inl ([], e)) ∨ ∃ m' side', rowO l r th st k (lk l k) made = .inl m' ∧ m'.length ≤ 1024 ∧ (∀ e, (mget side' e).getD 1 = lastS m' st e) ∧ q = .inr (side', until_, slow, m')) := by
  have hlen := (v.gd _ (lk_mem hk)).len
  have hrl := v.rl
  have hrb := v.rb k (by omega)
  have er : idx r (k : Int) = some (rk r k) := idx_rk (by omega)
  refine runN (f := fun s : Int × (List (Int × Int)) × (List (Int × Int)) × (List (Int × Bool)) × List T_Command => throwplan_Commands_l8 N r th (k : Int) (lk l k) s.1 s.2.1 s.2.2.1 s.2.2.2.1 s.2.2.2.2) (lk l k).length
    (fun i s => s.1 = i ∧ s.2.2.1 = until_ ∧ s.2.2.2.1 = slow ∧ s.2.2.2.2.length ≤ 1024 ∧ (∀ e, (mget s.2.1 e).getD 1 = lastS s.2.2.2.2 st e) ∧ rowO l r th st k ((lk l k).drop i) s.2.2.2.2 = rowO l r th st k (lk l k) made) _ ?_ ?_ N (by omega) (0, side, until_, slow, made) ⟨rfl, rfl, rfl, hm, h1, rfl⟩
  · rintro i ⟨i', sd, un, sl, md⟩ hi ⟨rfl, rfl, rfl, hm, h1, hV⟩
    simp only at hm h1 hV ⊢
    have hs := v.span hk hi
    have f1 : in64 (rk r k + (pk2 (lk l k) i).From) = some (rk r k + (pk2 (lk l k) i).From) := in64_ok (by omega)
    rw [drop_pk2 hi, rowO] at hV
    unfold throwplan_Commands_l8
    rcases serve_eq (N := N) v hk hm h1 h2 h3 (pk2 (lk l k) i) with ⟨e, a1, a2, a3⟩ | ⟨m', sd', a1, a2, a3, a4⟩
    · rw [a1] at hV
      exact .inr ⟨_, oit (decide_eq_true (by omega)) (obi (idx_pk2 hi) (obi er (obi f1 (obi a3 (oit (bnotIt (decide_eq_false a2)) rfl))))), .inl ⟨e, hV.symm, a2, rfl⟩⟩
    · rw [a1] at hV
      exact .inl ⟨_, oit (decide_eq_true (by omega)) (obi (idx_pk2 hi) (obi er (obi f1 (obi a4 (oif (bnotIf (decide_eq_true rfl)) (obi (inc_nat (by omega)) rfl)))))), rfl, rfl, rfl, a2, a3, hV⟩
  · rintro ⟨i', sd, un, sl, md⟩ ⟨rfl, rfl, rfl, hm, h1, hV⟩
    simp only at hm h1 hV
    rw [List.drop_length, rowO] at hV
    exact ⟨_, oif (decide_eq_false (by simp)) rfl, .inr ⟨md, sd, hV.symm, hm, h1, rfl⟩⟩
theorem until_loop {N : Nat} (hN : 2000 ≤ N) {l : List (List T_Span)} {r : List Int} {th : Int} {st : List T_Throw} (v : V24 l r th st) {until_ : List (Int × Int)} {slow : List (Int × Bool)} {k : Nat} (hk : k < l.length)
    (h2 : ∀ e, (mget until_ e).getD 0 = tmE l r e k) (h3 : ∀ e, (mget slow e).getD false = slE l e k) :
    ∃ q, iterN (fun s : Int × (List (Int × Int)) × (List (Int × Bool)) => throwplan_Commands_l9 N r (k : Int) (lk l k) s.1 s.2.1 s.2.2) N (0, until_, slow) = some q ∧ (∀ e, (mget q.1 e).getD 0 = tmE l r e (k + 1)) ∧ ∀ e, (mget q.2 e).getD false = slE l e (k + 1) := by
  have hg := v.gd _ (lk_mem hk)
  have hlen := hg.len
  have hrl := v.rl
  have hrb := v.rb k (by omega)
  have er : idx r (k : Int) = some (rk r k) := idx_rk (by omega)
  refine runN (f := fun s : Int × (List (Int × Int)) × (List (Int × Bool)) => throwplan_Commands_l9 N r (k : Int) (lk l k) s.1 s.2.1 s.2.2) (lk l k).length
    (fun i s => s.1 = i ∧ (∀ e, (mget s.2.1 e).getD 0 = match ((lk l k).take i).find? (elS e) with | none => tmE l r e k | some s => max (tmE l r e k) (rk r k + s.To)) ∧ ∀ e, (mget s.2.2 e).getD false = match ((lk l k).take i).find? (elS e) with | none => slE l e k | some s => slE l e k || decide (s.To = 1000000000)) _ ?_ ?_ N (by omega) (0, until_, slow) ⟨rfl, fun e => by simpa using h2 e, fun e => by simpa using h3 e⟩
  · rintro i ⟨i', un, sl⟩ hi ⟨rfl, hu, hsl⟩
    simp only at hu hsl ⊢
    have hs := v.span hk hi
    have hx : (lk l k)[i] = pk2 (lk l k) i := by unfold pk2; rw [List.getD_eq_getElem?_getD, List.getElem?_eq_getElem hi]; rfl
    have f1 : in64 (rk r k + (pk2 (lk l k) i).To) = some (rk r k + (pk2 (lk l k) i).To) := in64_ok (by omega)
    have hnone : ((lk l k).take i).find? (elS (pk2 (lk l k) i).Element) = none := List.find?_eq_none.2 fun x hx' h => by
      obtain ⟨j, hj, rfl⟩ := List.mem_take_iff_getElem.1 hx'
      have e1 := of_decide_eq_true h
      rw [← hx] at e1
      have := hg.uniq j i (by omega) hi e1; omega
    have ht : ∀ e, ((lk l k).take (i + 1)).find? (elS e) = if (pk2 (lk l k) i).Element = e then some (pk2 (lk l k) i) else ((lk l k).take i).find? (elS e) := fun e => by
      rw [List.take_succ_eq_append_getElem hi, List.find?_append, hx]
      by_cases he : (pk2 (lk l k) i).Element = e
      · rw [if_pos he, ← he, hnone]
        have : elS (pk2 (lk l k) i).Element (pk2 (lk l k) i) = true := decide_eq_true rfl
        simp [List.find?, this]
      · rw [if_neg he]
        have : elS e (pk2 (lk l k) i) = false := decide_eq_false he
        simp [List.find?, this]
    have u0 := hu (pk2 (lk l k) i).Element
    have s0 := hsl (pk2 (lk l k) i).Element
    rw [hnone] at u0 s0
    simp only at u0 s0
    refine .inl ⟨_, oit (decide_eq_true (by omega)) (obi (idx_pk2 hi) (obi er (obi f1 (obi (inc_nat (by omega)) rfl)))), rfl, fun e => ?_, fun e => ?_⟩
    · simp only
      rw [mget_mset, ht, u0]
      by_cases he : (pk2 (lk l k) i).Element = e
      · rw [if_pos he, if_pos he, Option.getD_some, he]
      · rw [if_neg he, if_neg he]; exact hu e
    · simp only
      rw [mget_mset, ht, s0]
      by_cases he : (pk2 (lk l k) i).Element = e
      · rw [if_pos he, if_pos he, Option.getD_some, he]
      · rw [if_neg he, if_neg he]; exact hsl e
  · rintro ⟨i', un, sl⟩ ⟨rfl, hu, hsl⟩
    rw [List.take_length] at hu hsl
    exact ⟨_, oif (decide_eq_false (by simp)) rfl, fun e => hu e, fun e => hsl e⟩
end Go.Gv
