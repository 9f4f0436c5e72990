/- Throwing (chapter 24): Commands, what the program makes. -/
import Derived.Test.YtpelfidmcpcmjaaPle
namespace Go.Gv
def elS (e : Int) (x : T_Span) : Bool := decide (x.Element = e)
/-- the side by the last command of a switch -/
def lastS (made : List T_Command) (st : List T_Throw) (e : Int) : Int := ((made.reverse.find? (elC e)).map (·.Side)).getD (frs st e)
theorem lastS_snoc (made : List T_Command) (st : List T_Throw) (e : Int) (x : T_Command) : lastS (made ++ [x]) st e = if x.Element = e then x.Side else lastS made st e := by
  unfold lastS
  rw [List.reverse_append, List.reverse_singleton, List.singleton_append, List.find?_cons]
  by_cases h : x.Element = e
  · rw [if_pos h, show elC e x = true from decide_eq_true h]; rfl
  · rw [if_neg h, show elC e x = false from decide_eq_false h]
/-- until when a switch is occupied by the cuts ahead of k, and whether it may be so for good -/
def tmE (l : List (List T_Span)) (r : List Int) (e : Int) : Nat → Int
  | 0 => 0
  | k + 1 => match (lk l k).find? (elS e) with | none => tmE l r e k | some s => max (tmE l r e k) (rk r k + s.To)
def slE (l : List (List T_Span)) (e : Int) : Nat → Bool
  | 0 => false
  | k + 1 => match (lk l k).find? (elS e) with | none => slE l e k | some s => slE l e k || decide (s.To = 1000000000)
/-- what one span adds: the commands, or an error -/
def srvO (l : List (List T_Span)) (r : List Int) (th : Int) (st : List T_Throw) (made : List T_Command) (k : Nat) (s : T_Span) : List T_Command ⊕ Int :=
  if s.Side = 0 ∨ lastS made st s.Element = s.Side then .inl made
  else if slE l s.Element k = true then .inr 24
  else if 1000000000 < tmE l r s.Element k then .inr 4
  else if rk r k + s.From < tmE l r s.Element k + th then .inr 21
  else if made.length = 1024 then .inr 3
  else .inl (made ++ [⟨tmE l r s.Element k, s.Element, s.Side, (k : Int)⟩])
def rowO (l : List (List T_Span)) (r : List Int) (th : Int) (st : List T_Throw) (k : Nat) : List T_Span → List T_Command → List T_Command ⊕ Int
  | [], m => .inl m
  | s :: t, m => match srvO l r th st m k s with | .inr e => .inr e | .inl m' => rowO l r th st k t m'
def allO (l : List (List T_Span)) (r : List Int) (th : Int) (st : List T_Throw) : List Nat → List T_Command → List T_Command ⊕ Int
  | [], m => .inl m
  | k :: t, m => match rowO l r th st k (lk l k) m with | .inr e => .inr e | .inl m' => allO l r th st t m'
theorem tm_bound {l : List (List T_Span)} {r : List Int} {th : Int} {st : List T_Throw} (v : V24 l r th st) (e : Int) : ∀ k, k ≤ l.length → 0 ≤ tmE l r e k ∧ tmE l r e k ≤ 2000000000
  | 0, _ => by simp [tmE]
  | k + 1, hk => by
    have ih := tm_bound v e k (by omega)
    have hrb := v.rb k (by have := v.rl; omega)
    unfold tmE
    cases h : (lk l k).find? (elS e) with
    | none => exact ih
    | some s =>
      have hs := (v.gd _ (lk_mem (show k < l.length by omega))).mem (List.mem_of_find?_eq_some h)
      simp only
      omega
theorem serve_eq {N : Nat} {l : List (List T_Span)} {r : List Int} {th : Int} {st : List T_Throw} (v : V24 l r th st) {side until_ : List (Int × Int)} {slow : List (Int × Bool)} {made : List T_Command} {k : Nat} (hk : k < l.length) (hm : made.length ≤ 1024)
    (h1 : ∀ e, (mget side e).getD 1 = lastS made st e) (h2 : ∀ e, (mget until_ e).getD 0 = tmE l r e k) (h3 : ∀ e, (mget slow e).getD false = slE l e k) (s : T_Span) :
    (∃ e, srvO l r th st made k s = .inr e ∧ e ≠ 0 ∧ planner_serve N th side until_ slow made (k : Int) s (rk r k + s.From) = some (side, until_, slow, made, e)) ∨
    ∃ m' side', srvO l r th st made k s = .inl m' ∧ m'.length ≤ 1024 ∧ (∀ e, (mget side' e).getD 1 = lastS m' st e) ∧ planner_serve N th side until_ slow made (k : Int) s (rk r k + s.From) = some (side', until_, slow, m', 0) := by
  have hs : throwplan_side N side s.Element = some (lastS made st s.Element) := by rw [side_eq, h1]
  have htm := tm_bound v s.Element k (by omega)
  have hth := v.th0
  unfold planner_serve srvO
  by_cases c0 : s.Side = 0
  · rw [if_pos (.inl c0)]
    exact .inr ⟨made, side, rfl, hm, h1, obi (gO_F (bnotIf (decide_eq_true c0))) (oit (borT (decide_eq_true c0)) rfl)⟩
  by_cases c1 : lastS made st s.Element = s.Side
  · rw [if_pos (.inr c1)]
    exact .inr ⟨made, side, rfl, hm, h1, obi (gO_T (bnotIt (decide_eq_false c0)) hs) (oit (borT2 (decide_eq_true c1)) rfl)⟩
  rw [if_neg (fun h => h.elim c0 c1)]
  have pre : ∀ R : Option (List (Int × Int) × List (Int × Int) × List (Int × Bool) × List T_Command × Int), (bif slE l s.Element k then some (side, until_, slow, made, 24) else (bif decide (1000000000 < tmE l r s.Element k) then some (side, until_, slow, made, 4) else (
      Option.bind (in64 (tmE l r s.Element k + th)) fun x150 => bif decide (rk r k + s.From < x150) then some (side, until_, slow, made, 21) else (
      bif decide ((List.length made : Int) = 1024) then some (side, until_, slow, made, 3) else (
      Option.bind (app 32 made ([(T_Command.mk (tmE l r s.Element k) s.Element s.Side (k : Int))])) fun l181 => some ((mset side s.Element s.Side), until_, slow, l181, 0)))))) = R →
      planner_serve N th side until_ slow made (k : Int) s (rk r k + s.From) = R := fun R hR => by
    unfold planner_serve
    refine obi (gO_T (bnotIt (decide_eq_false c0)) hs) (oif (borF (decide_eq_false c0) (decide_eq_false c1)) ?_)
    rw [h3, h2]
    exact hR
  have pre := fun R hR => by have := pre R hR; unfold planner_serve at this; exact this
  cases c2 : slE l s.Element k with
  | true =>
    rw [if_pos rfl]
    exact .inl ⟨24, rfl, by decide, pre _ (oit c2 rfl)⟩
  | false =>
  rw [if_neg (by decide)]
  by_cases c3 : 1000000000 < tmE l r s.Element k
  · rw [if_pos c3]
    exact .inl ⟨4, rfl, by decide, pre _ (oif c2 (oit (decide_eq_true c3) rfl))⟩
  rw [if_neg c3]
  have a1 : in64 (tmE l r s.Element k + th) = some (tmE l r s.Element k + th) := in64_ok (by omega)
  by_cases c4 : rk r k + s.From < tmE l r s.Element k + th
  · rw [if_pos c4]
    exact .inl ⟨21, rfl, by decide, pre _ (oif c2 (oif (decide_eq_false c3) (obi a1 (oit (decide_eq_true c4) rfl))))⟩
  rw [if_neg c4]
  by_cases c5 : made.length = 1024
  · rw [if_pos c5]
    exact .inl ⟨3, rfl, by decide, pre _ (oif c2 (oif (decide_eq_false c3) (obi a1 (oif (decide_eq_false c4) (oit (decide_eq_true (by omega)) rfl)))))⟩
  rw [if_neg c5]
  refine .inr ⟨_, mset side s.Element s.Side, rfl, by simp only [List.length_append, List.length_cons, List.length_nil]; omega, fun e => ?_, pre _ (oif c2 (oif (decide_eq_false c3) (obi a1 (oif (decide_eq_false c4) (oif (decide_eq_false (by omega)) (obi (app_ok (by simp only [List.length_cons, List.length_nil]; omega) (by simp only [List.length_cons, List.length_nil]; omega)) rfl))))))⟩
  rw [mget_mset, lastS_snoc]
  by_cases he : s.Element = e
  · rw [if_pos he, if_pos he]; rfl
  · rw [if_neg he, if_neg he]; exact h1 e
end Go.Gv
