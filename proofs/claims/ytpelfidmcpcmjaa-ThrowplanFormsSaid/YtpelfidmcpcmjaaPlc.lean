/- Throwing (chapter 24): Safe. -/
import Derived.Test.YtpelfidmcpcmjaaPlb
namespace Go.Gv
structure V24 (l : List (List T_Span)) (r : List Int) (th : Int) (st : List T_Throw) : Prop where
  ll : l.length ≤ 96
  gd : ∀ a ∈ l, Good a
  th0 : 0 ≤ th ∧ th ≤ 1000000000
  rl : r.length = l.length
  rb : ∀ i, i < r.length → (0 ≤ rk r i ∧ rk r i ≤ 1000000000) ∧ (0 < i → rk r (i - 1) ≤ rk r i)
  sl : st.length ≤ 128
  sb : ∀ i, i < st.length → 0 ≤ (sk st i).Element ∧ ((sk st i).Side = 1 ∨ (sk st i).Side = 2) ∧ ∀ j, j < i → (sk st j).Element ≠ (sk st i).Element
theorem v24 {l : List (List T_Span)} {r : List Int} {th : Int} {st : List T_Throw} (h : ck24 l r th st = 0) : V24 l r th st := by
  unfold ck24 at h
  by_cases h0 : 96 < l.length
  · rw [if_pos h0] at h; cases h
  rw [if_neg h0] at h
  cases hb : ((soundB l th && decide (r.length = l.length)) && (okT r && okS st)) with
  | false => rw [hb] at h; cases h
  | true =>
    have h1 := bandl (bandl hb)
    have h2 := of_decide_eq_true (bandr (bandl hb))
    have h3 := bandl (bandr hb)
    have h4 := bandr (bandr hb)
    unfold soundB at h1
    have h5 := inT_iff.1 (bandr h1)
    have h6 := bnott (show (!(List.range r.length).any (badT r)) = true from h3)
    have h7 := bnott (bandr (show (decide (st.length ≤ 128) && !(List.range st.length).any (badS st)) = true from h4))
    have h8 := of_decide_eq_true (bandl (show (decide (st.length ≤ 128) && !(List.range st.length).any (badS st)) = true from h4))
    refine ⟨by omega, fun a ha => goodB_iff.1 (List.all_eq_true.1 (bandl h1) a ha), h5, h2, fun i hi => ?_, h8, fun i hi => ?_⟩
    · have := List.any_eq_false.1 h6 i (List.mem_range.2 hi)
      have h9 : badT r i = false := by simpa using this
      have a1 := of_decide_eq_false (borl (borl h9))
      have a2 := of_decide_eq_false (borr (borl h9))
      refine ⟨⟨by omega, by omega⟩, fun hp => ?_⟩
      have a3 := borr h9
      rw [decide_eq_true hp, Bool.true_and] at a3
      have := of_decide_eq_false a3
      omega
    · have := List.any_eq_false.1 h7 i (List.mem_range.2 hi)
      have h9 : badS st i = false := by simpa using this
      have a1 := of_decide_eq_false (borl (borl h9))
      have a2 : dupS st i = false := borr (borl h9)
      have a3 := bnotf (borr h9)
      refine ⟨by omega, ?_, fun j hj e => ?_⟩
      · unfold sdB at a3
        rw [Bool.or_eq_true, decide_eq_true_eq, decide_eq_true_eq] at a3
        exact a3
      · have := List.any_eq_false.1 a2 j (List.mem_range.2 hj)
        simp [e] at this
/-! sides at the beginning -/
def elB (e : Int) (x : T_Throw) : Bool := decide (x.Element = e)
def frO (st : List T_Throw) (e : Int) : Option Int := (st.find? (elB e)).map (·.Side)
def frs (st : List T_Throw) (e : Int) : Int := (frO st e).getD 1
theorem first_eq {N : Nat} (hN : 2000 ≤ N) {st : List T_Throw} (hl : st.length ≤ 128) (e : Int) : r24_First N st e = some (frs st e) := by
  obtain ⟨q, hq, rfl⟩ := runN (f := fun s : Int => r24_First_l1 N st e s) st.length (fun i s => s = i ∧ ∀ x ∈ st.take i, elB e x = false) (fun q => q = match frO st e with | none => .inr () | some x => .inl x) (by
    rintro i s hi ⟨rfl, hall⟩
    unfold r24_First_l1
    have hx : st[i] = sk st i := by unfold sk; rw [List.getD_eq_getElem?_getD, List.getElem?_eq_getElem hi]; rfl
    cases hb : elB e (sk st i) with
    | true =>
      refine .inr ⟨_, oit (decide_eq_true (by omega)) (obi (idx_sk hi) (oit hb (obi (idx_sk hi) rfl))), ?_⟩
      have : st.find? (elB e) = some (sk st i) := by
        rw [List.find?_eq_some_iff_getElem]
        refine ⟨hb, i, hi, hx, fun j hj => ?_⟩
        rw [hall st[j] (List.mem_take_iff_getElem.2 ⟨j, by omega, rfl⟩)]; rfl
      unfold frO
      rw [this]; rfl
    | false =>
      refine .inl ⟨_, oit (decide_eq_true (by omega)) (obi (idx_sk hi) (oif hb (obi (inc_nat (by omega)) rfl))), rfl, fun x hx' => ?_⟩
      rw [List.take_succ_eq_append_getElem hi] at hx'
      rcases List.mem_append.1 hx' with h | h
      · exact hall x h
      · simp at h; rw [h, hx]; exact hb) (by
    rintro s ⟨rfl, hall⟩
    rw [List.take_length] at hall
    refine ⟨_, oif (decide_eq_false (by omega)) rfl, ?_⟩
    have : st.find? (elB e) = none := List.find?_eq_none.2 fun x hx => by rw [hall x hx]; decide
    unfold frO
    rw [this]; rfl) N (by omega) 0 ⟨rfl, fun x h => by simp at h⟩
  unfold r24_First
  refine obi hq ?_
  unfold frs
  cases frO st e <;> rfl
theorem sides_eq {N : Nat} (hN : 2000 ≤ N) {l : List (List T_Span)} {r : List Int} {th : Int} {st : List T_Throw} (v : V24 l r th st) : ∃ m, throwplan_sides N st = some m ∧ ∀ e, mget m e = frO st e := by
  have hl := v.sl
  obtain ⟨m, hm, h⟩ := runN (f := fun s : Int × List (Int × Int) => throwplan_sides_l1 N st s.1 s.2) st.length (fun i s => s.1 = i ∧ ∀ e, mget s.2 e = frO (st.take i) e) (fun m => ∀ e, mget m e = frO st e) (by
    rintro i ⟨i', m⟩ hi ⟨rfl, hm⟩
    simp only at hm ⊢
    have hx : st[i] = sk st i := by unfold sk; rw [List.getD_eq_getElem?_getD, List.getElem?_eq_getElem hi]; rfl
    refine .inl ⟨_, oit (decide_eq_true (by omega)) (obi (idx_sk hi) (obi (inc_nat (by omega)) rfl)), rfl, fun e => ?_⟩
    simp only
    rw [mget_mset, hm]
    unfold frO
    rw [List.take_succ_eq_append_getElem hi, List.find?_append, hx]
    by_cases he : (sk st i).Element = e
    · rw [if_pos he]
      have : (st.take i).find? (elB e) = none := List.find?_eq_none.2 fun x hx' h => by
        obtain ⟨j, hj, rfl⟩ := List.mem_take_iff_getElem.1 hx'
        have hj' : j < i := by omega
        have e2 := (v.sb i hi).2.2 j hj'
        have e3 : sk st j = st[j]'(by omega) := by unfold sk; rw [List.getD_eq_getElem?_getD, List.getElem?_eq_getElem (by omega)]; rfl
        rw [e3, he] at e2
        exact e2 (of_decide_eq_true h)
      rw [this]
      have : elB e (sk st i) = true := decide_eq_true he
      simp [List.find?, this]
    · rw [if_neg he]
      have : elB e (sk st i) = false := decide_eq_false he
      simp [List.find?, this]) (by
    rintro ⟨i', m⟩ ⟨rfl, hm⟩
    rw [List.take_length] at hm
    exact ⟨m, oif (decide_eq_false (by simp)) rfl, hm⟩) N (by omega) (0, []) ⟨rfl, fun e => by simp [mget, frO]⟩
  exact ⟨m, obi hm rfl, h⟩
theorem side_eq {N : Nat} (m : List (Int × Int)) (e : Int) : throwplan_side N m e = some ((mget m e).getD 1) := by
  unfold throwplan_side
  cases h : mget m e with
  | none => exact oif rfl rfl
  | some x => exact oit rfl rfl
/-! serving -/
def kc (c : List T_Command) (i : Nat) : T_Command := c.getD i default
theorem idx_kc {c : List T_Command} {i : Nat} (h : i < c.length) : idx c (i : Int) = some (kc c i) := idx_getD _ h
theorem drop_kc {c : List T_Command} {i : Nat} (h : i < c.length) : c.drop i = kc c i :: c.drop (i + 1) := by
  rw [List.drop_eq_getElem_cons h]
  unfold kc
  rw [List.getD_eq_getElem?_getD, List.getElem?_eq_getElem h]; rfl
def sv (th a b : Int) : List T_Command → Int → Int → Option Int
  | [], _, s => some s
  | x :: t, m, s => if x.Time < b ∧ a < x.Time + th then none else if x.Time + th ≤ a ∧ m ≤ x.Time then sv th a b t x.Time x.Side else sv th a b t m s
/-- a command in range -/
def badC (x : T_Command) : Bool := ((decide (x.Time < 0) || decide (1000000000 < x.Time)) || decide (x.Element < 0)) || !sdB x.Side
theorem serves_eq {N : Nat} {c : List T_Command} (hN : c.length < N) (hc : c.length ≤ 100000) {th : Int} (h0 : 0 ≤ th ∧ th ≤ 1000000000) (hT : ∀ x ∈ c, 0 ≤ x.Time ∧ x.Time ≤ 1000000000) (f w a b : Int) :
    throwplan_serves N c th f w a b = some (match sv th a b c (-1) f with | none => false | some s => decide (s = w)) := by
  obtain ⟨q, hq, rfl⟩ := runN (f := fun s : Int × Int × Int => throwplan_serves_l1 N c th a b s.1 s.2.1 s.2.2) c.length (fun i s => s.2.2 = i ∧ sv th a b (c.drop i) s.1 s.2.1 = sv th a b c (-1) f) (fun q => q = match sv th a b c (-1) f with | none => .inl false | some s => .inr s) (by
    rintro i ⟨m, s, i'⟩ hi ⟨rfl, hv⟩
    simp only at hv ⊢
    have hx : kc c i ∈ c := by unfold kc; rw [List.getD_eq_getElem?_getD, List.getElem?_eq_getElem hi]; exact List.getElem_mem hi
    have hb := hT _ hx
    rw [drop_kc hi, sv] at hv
    have a1 : in64 ((kc c i).Time + th) = some ((kc c i).Time + th) := in64_ok (by omega)
    unfold throwplan_serves_l1
    by_cases c1 : (kc c i).Time < b ∧ a < (kc c i).Time + th
    · rw [if_pos c1] at hv
      rw [← hv]
      exact .inr ⟨_, oit (decide_eq_true (by omega)) (obi (idx_kc hi) (obi (gO_T (decide_eq_true c1.1) a1) (oit (band (decide_eq_true c1.1) (decide_eq_true c1.2)) rfl))), rfl⟩
    · rw [if_neg c1] at hv
      have step : ∀ R : Option ((Int × Int × Int) ⊕ (Bool ⊕ Int)), (bif (decide ((kc c i).Time + th ≤ a) && decide (m ≤ (kc c i).Time)) then (some (.inl ((kc c i).Time, (kc c i).Side, ((i + 1 : Nat) : Int)))) else (some (.inl (m, s, ((i + 1 : Nat) : Int))))) = R → (bif decide ((i : Int) < (List.length c : Int)) then (
          Option.bind (idx c i) fun x106 => Option.bind (gO (decide (x106.Time < b)) (in64 (x106.Time + th))) fun x118 =>
          bif (decide (x106.Time < b) && decide (a < x118)) then (some (.inr (Sum.inl false))) else (
          Option.bind (in64 (x106.Time + th)) fun x126 =>
          bif (decide (x126 ≤ a) && decide (m ≤ x106.Time)) then (Option.bind (in64 ((i : Int) + 1)) fun x140 => some (.inl (x106.Time, x106.Side, x140))) else (
          Option.bind (in64 ((i : Int) + 1)) fun x143 => some (.inl (m, s, x143))))) else (some (.inr (Sum.inr s)))) = R := fun R hR => by
        refine oit (decide_eq_true (by omega)) (obi (idx_kc hi) ?_)
        have tail : (Option.bind (in64 ((kc c i).Time + th)) fun x126 =>
          bif (decide (x126 ≤ a) && decide (m ≤ (kc c i).Time)) then (Option.bind (in64 ((i : Int) + 1)) fun x140 => some (.inl ((kc c i).Time, (kc c i).Side, x140))) else (
          Option.bind (in64 ((i : Int) + 1)) fun x143 => some (.inl (m, s, x143)))) = R := by
          refine obi a1 ?_
          rw [← hR]
          cases (decide ((kc c i).Time + th ≤ a) && decide (m ≤ (kc c i).Time)) with
          | true => exact oit rfl (obi (inc_nat (by omega)) rfl)
          | false => exact oif rfl (obi (inc_nat (by omega)) rfl)
        by_cases c2 : (kc c i).Time < b
        · exact obi (gO_T (decide_eq_true c2) a1) (oif (bandF2 (decide_eq_false (by omega))) tail)
        · exact obi (gO_F (decide_eq_false c2)) (oif (bandF (decide_eq_false c2)) tail)
      left
      by_cases c3 : (kc c i).Time + th ≤ a ∧ m ≤ (kc c i).Time
      · rw [if_pos c3] at hv
        exact ⟨_, step _ (oit (band (decide_eq_true c3.1) (decide_eq_true c3.2)) rfl), rfl, hv⟩
      · rw [if_neg c3] at hv
        refine ⟨_, step _ (oif ?_ rfl), rfl, hv⟩
        by_cases c4 : (kc c i).Time + th ≤ a
        · exact bandF2 (decide_eq_false (by omega))
        · exact bandF (decide_eq_false c4)) (by
    rintro ⟨m, s, i'⟩ ⟨rfl, hv⟩
    rw [List.drop_length, sv] at hv
    simp only at hv
    rw [← hv]
    exact ⟨_, oif (decide_eq_false (by simp)) rfl, rfl⟩) N hN (-1, f, 0) ⟨rfl, rfl⟩
  unfold throwplan_serves
  refine obi hq ?_
  cases sv th a b c (-1) f <;> rfl
end Go.Gv
