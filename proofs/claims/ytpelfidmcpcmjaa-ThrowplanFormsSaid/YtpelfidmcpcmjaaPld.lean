/- Throwing (chapter 24): Safe, and the reference's Safe. -/
import Derived.Test.YtpelfidmcpcmjaaPlc
namespace Go.Gv
def elC (e : Int) (x : T_Command) : Bool := decide (x.Element = e)
theorem kc_mem {c : List T_Command} {i : Nat} (hi : i < c.length) : kc c i ∈ c := by unfold kc; rw [List.getD_eq_getElem?_getD, List.getElem?_eq_getElem hi]; exact List.getElem_mem hi
theorem rserves_eq {N : Nat} (hN2 : 2000 ≤ N) {c : List T_Command} (hN : c.length < N) (hc : c.length ≤ 100000) {st : List T_Throw} (hst : st.length ≤ 128) {th : Int} (h0 : 0 ≤ th ∧ th ≤ 1000000000) (hT : ∀ x ∈ c, 0 ≤ x.Time ∧ x.Time ≤ 1000000000) (p : T_Span) (a b : Int) :
    r24_Serves N c st p a b th = some (match sv th a b (c.filter (elC p.Element)) (-1) (frs st p.Element) with | none => false | some s => decide (s = p.Side)) := by
  obtain ⟨q, hq, rfl⟩ := runN (f := fun s : Int × Int × Int => r24_Serves_l1 N c p a b th s.1 s.2.1 s.2.2) c.length (fun i s => s.2.2 = i ∧ sv th a b ((c.drop i).filter (elC p.Element)) s.2.1 s.1 = sv th a b (c.filter (elC p.Element)) (-1) (frs st p.Element)) (fun q => q = match sv th a b (c.filter (elC p.Element)) (-1) (frs st p.Element) with | none => .inl false | some s => .inr s) (by
    rintro i ⟨s, m, i'⟩ hi ⟨rfl, hv⟩
    simp only at hv ⊢
    have hb := hT _ (kc_mem hi)
    rw [drop_kc hi, List.filter_cons] at hv
    have a1 : in64 ((kc c i).Time + th) = some ((kc c i).Time + th) := in64_ok (by omega)
    have e1 := idx_kc hi
    have inc : in64 ((i : Int) + 1) = some ((i + 1 : Nat) : Int) := inc_nat (by omega)
    have t0 : decide ((i : Int) < (List.length c : Int)) = true := decide_eq_true (by omega)
    unfold r24_Serves_l1
    by_cases he : ¬ (kc c i).Element = p.Element
    · rw [if_neg (show ¬ elC p.Element (kc c i) = true from fun h => he (of_decide_eq_true h))] at hv
      exact .inl ⟨_, oit t0 (obi e1 (oit (bnotIt (decide_eq_false he)) (obi inc rfl))), rfl, hv⟩
    have he := Classical.not_not.1 he
    have g0 : (!decide ((kc c i).Element = p.Element)) = false := bnotIf (decide_eq_true he)
    rw [if_pos (show elC p.Element (kc c i) = true from decide_eq_true he), sv] at hv
    by_cases c1 : (kc c i).Time < b ∧ a < (kc c i).Time + th
    · rw [if_pos c1] at hv
      rw [← hv]
      exact .inr ⟨_, oit t0 (obi e1 (oif g0 (obi e1 (obi (gO_T (decide_eq_true c1.1) e1) (obi (gO_T (decide_eq_true c1.1) a1) (oit (band (decide_eq_true c1.1) (decide_eq_true c1.2)) rfl)))))), rfl⟩
    · rw [if_neg c1] at hv
      left
      by_cases c3 : (kc c i).Time + th ≤ a
      · by_cases c4 : m ≤ (kc c i).Time
        · rw [if_pos ⟨c3, c4⟩] at hv
          by_cases c2 : (kc c i).Time < b
          · exact ⟨_, oit t0 (obi e1 (oif g0 (obi e1 (obi (gO_T (decide_eq_true c2) e1) (obi (gO_T (decide_eq_true c2) a1) (oif (bandF2 (decide_eq_false (by omega))) (obi e1 (obi a1 (obi (gO_T (decide_eq_true c3) e1) (oit (band (decide_eq_true c3) (decide_eq_true c4)) (obi e1 (obi e1 (obi inc rfl))))))))))))), rfl, hv⟩
          · exact ⟨_, oit t0 (obi e1 (oif g0 (obi e1 (obi (gO_F (decide_eq_false c2)) (obi (gO_F (decide_eq_false c2)) (oif (bandF (decide_eq_false c2)) (obi e1 (obi a1 (obi (gO_T (decide_eq_true c3) e1) (oit (band (decide_eq_true c3) (decide_eq_true c4)) (obi e1 (obi e1 (obi inc rfl))))))))))))), rfl, hv⟩
        · rw [if_neg (fun h => c4 h.2)] at hv
          by_cases c2 : (kc c i).Time < b
          · exact ⟨_, oit t0 (obi e1 (oif g0 (obi e1 (obi (gO_T (decide_eq_true c2) e1) (obi (gO_T (decide_eq_true c2) a1) (oif (bandF2 (decide_eq_false (by omega))) (obi e1 (obi a1 (obi (gO_T (decide_eq_true c3) e1) (oif (bandF2 (decide_eq_false c4)) (obi inc rfl))))))))))), rfl, hv⟩
          · exact ⟨_, oit t0 (obi e1 (oif g0 (obi e1 (obi (gO_F (decide_eq_false c2)) (obi (gO_F (decide_eq_false c2)) (oif (bandF (decide_eq_false c2)) (obi e1 (obi a1 (obi (gO_T (decide_eq_true c3) e1) (oif (bandF2 (decide_eq_false c4)) (obi inc rfl))))))))))), rfl, hv⟩
      · rw [if_neg (fun h => c3 h.1)] at hv
        by_cases c2 : (kc c i).Time < b
        · exact ⟨_, oit t0 (obi e1 (oif g0 (obi e1 (obi (gO_T (decide_eq_true c2) e1) (obi (gO_T (decide_eq_true c2) a1) (oif (bandF2 (decide_eq_false (by omega))) (obi e1 (obi a1 (obi (gO_F (decide_eq_false c3)) (oif (bandF (decide_eq_false c3)) (obi inc rfl))))))))))), rfl, hv⟩
        · exact ⟨_, oit t0 (obi e1 (oif g0 (obi e1 (obi (gO_F (decide_eq_false c2)) (obi (gO_F (decide_eq_false c2)) (oif (bandF (decide_eq_false c2)) (obi e1 (obi a1 (obi (gO_F (decide_eq_false c3)) (oif (bandF (decide_eq_false c3)) (obi inc rfl))))))))))), rfl, hv⟩) (by
    rintro ⟨s, m, i'⟩ ⟨rfl, hv⟩
    rw [List.drop_length, List.filter_nil, sv] at hv
    simp only at hv
    rw [← hv]
    exact ⟨_, oif (decide_eq_false (by simp)) rfl, rfl⟩) N hN (frs st p.Element, -1, 0) ⟨rfl, rfl⟩
  unfold r24_Serves
  refine obi (first_eq hN2 hst _) (obi hq ?_)
  cases sv th a b (c.filter (elC p.Element)) (-1) (frs st p.Element) <;> rfl
/-! Safe -/
def pk2 (a : List T_Span) (i : Nat) : T_Span := a.getD i default
theorem idx_pk2 {a : List T_Span} {i : Nat} (h : i < a.length) : idx a (i : Int) = some (pk2 a i) := idx_getD _ h
def lk (l : List (List T_Span)) (k : Nat) : List T_Span := l.getD k []
theorem idx_lk {l : List (List T_Span)} {k : Nat} (h : k < l.length) : idx l (k : Int) = some (lk l k) := idx_getD _ h
theorem lk_mem {l : List (List T_Span)} {k : Nat} (h : k < l.length) : lk l k ∈ l := by unfold lk; rw [List.getD_eq_getElem?_getD, List.getElem?_eq_getElem h]; exact List.getElem_mem h
theorem pk2_mem {a : List T_Span} {i : Nat} (h : i < a.length) : pk2 a i ∈ a := by unfold pk2; rw [List.getD_eq_getElem?_getD, List.getElem?_eq_getElem h]; exact List.getElem_mem h
def srv (st : List T_Throw) (c : List T_Command) (th : Int) (p : T_Span) (a b : Int) : Bool := match sv th a b (c.filter (elC p.Element)) (-1) (frs st p.Element) with | none => false | some s => decide (s = p.Side)
def badP (l : List (List T_Span)) (r : List Int) (th : Int) (st : List T_Throw) (c : List T_Command) (k i : Nat) : Bool := (!decide ((pk2 (lk l k) i).Side = 0)) && !srv st c th (pk2 (lk l k) i) (rk r k + (pk2 (lk l k) i).From) (rk r k + (pk2 (lk l k) i).To)
def rowP (l : List (List T_Span)) (r : List Int) (th : Int) (st : List T_Throw) (c : List T_Command) (k : Nat) : Bool := (List.range (lk l k).length).any (badP l r th st c k)
def safeB (l : List (List T_Span)) (r : List Int) (th : Int) (st : List T_Throw) (c : List T_Command) : Bool := !(List.range l.length).any (rowP l r th st c)
def sfR (l : List (List T_Span)) (r : List Int) (th : Int) (st : List T_Throw) (c : List T_Command) : Bool × Int :=
  if ck24 l r th st ≠ 0 then (false, ck24 l r th st) else if 1024 < c.length then (false, 3) else bif c.any badC then (false, 1) else (safeB l r th st c, 0)
theorem V24.span {l : List (List T_Span)} {r : List Int} {th : Int} {st : List T_Throw} (v : V24 l r th st) {k i : Nat} (hk : k < l.length) (hi : i < (lk l k).length) : (0 ≤ (pk2 (lk l k) i).From ∧ (pk2 (lk l k) i).From < (pk2 (lk l k) i).To ∧ (pk2 (lk l k) i).To ≤ 1000000000) ∧ (lk l k).length ≤ 128 := by
  have g := v.gd _ (lk_mem hk)
  exact ⟨(g.mem (pk2_mem hi)).2, g.len⟩
theorem badC_f {c : List T_Command} (h : c.any badC = false) : ∀ x ∈ c, (0 ≤ x.Time ∧ x.Time ≤ 1000000000) ∧ 0 ≤ x.Element ∧ sdB x.Side = true := fun x hx => by
  have := List.any_eq_false.1 h x hx
  have h9 : badC x = false := by simpa using this
  have a1 := of_decide_eq_false (borl (borl (borl h9)))
  have a2 := of_decide_eq_false (borr (borl (borl h9)))
  have a3 := of_decide_eq_false (borr (borl h9))
  exact ⟨by omega, by omega, bnotf (borr h9)⟩
theorem Safe_eq {N : Nat} (hN : 2000 ≤ N) (l : List (List T_Span)) (r : List Int) (th : Int) (st : List T_Throw) (c : List T_Command) : throwplan_Safe N l r th st c = some (sfR l r th st c) := by
  unfold throwplan_Safe sfR
  refine obi (check_eq hN l r th st) ?_
  by_cases hck : ¬ ck24 l r th st = 0
  · rw [if_pos hck]; exact oit (bnotIt (decide_eq_false hck)) rfl
  have hck := Classical.not_not.1 hck
  rw [if_neg (fun h => h hck), hck]
  have v := v24 hck
  refine oif rfl ?_
  by_cases hcl : 1024 < c.length
  · rw [if_pos hcl]; exact oit (decide_eq_true (by omega)) rfl
  rw [if_neg hcl]
  refine oif (decide_eq_false (by omega)) ?_
  obtain ⟨q, hq, hQ⟩ := runN (f := fun s : Int × List (Int × List T_Command) => throwplan_Safe_l1 N c s.1 s.2) c.length (fun i s => s.1 = i ∧ (∀ e, Option.getD (mget s.2 e) [] = (c.take i).filter (elC e)) ∧ (c.take i).any badC = false) (fun q => (c.any badC = true ∧ q = .inl (false, 1)) ∨ (c.any badC = false ∧ ∃ m, q = .inr m ∧ ∀ e, Option.getD (mget m e) [] = c.filter (elC e))) (by
    rintro i ⟨i', m⟩ hi ⟨rfl, hm, hb⟩
    simp only at hm ⊢
    have e1 := idx_kc hi
    have t0 : decide ((i : Int) < (List.length c : Int)) = true := decide_eq_true (by omega)
    have hx : c[i] = kc c i := by unfold kc; rw [List.getD_eq_getElem?_getD, List.getElem?_eq_getElem hi]; rfl
    have hl : throwplan_lies N (kc c i).Side = some (sdB (kc c i).Side) := rfl
    have htk : c.take (i + 1) = c.take i ++ [kc c i] := by rw [List.take_succ_eq_append_getElem hi, hx]
    unfold throwplan_Safe_l1
    cases hbad : badC (kc c i) with
    | true =>
      have hany : c.any badC = true := List.any_eq_true.2 ⟨_, kc_mem hi, hbad⟩
      cases c1 : ((decide ((kc c i).Time < 0) || decide (1000000000 < (kc c i).Time)) || decide ((kc c i).Element < 0)) with
      | true => exact .inr ⟨_, oit t0 (obi e1 (obi (gO_F (bnotIf c1)) (oit (borT c1) rfl))), .inl ⟨hany, rfl⟩⟩
      | false =>
        have : sdB (kc c i).Side = false := by
          unfold badC at hbad
          rw [c1, Bool.false_or] at hbad
          exact bnott hbad
        rw [this] at hl
        exact .inr ⟨_, oit t0 (obi e1 (obi (gO_T (bnotIt c1) hl) (oit (borT2 rfl) rfl))), .inl ⟨hany, rfl⟩⟩
    | false =>
      have c1 := borl hbad
      have c2 : sdB (kc c i).Side = true := bnotf (borr hbad)
      rw [c2] at hl
      have hlen : (Option.getD (mget m (kc c i).Element) []).length ≤ 1024 := by
        rw [hm]
        have := List.length_filter_le (elC (kc c i).Element) (c.take i)
        have : (c.take i).length ≤ i := by simp; omega
        omega
      refine .inl ⟨_, oit t0 (obi e1 (obi (gO_T (bnotIt c1) hl) (oif (borF c1 rfl) (obi (app_ok (by simp only [List.length_cons, List.length_nil]; omega) (by simp only [List.length_cons, List.length_nil]; omega)) (obi (inc_nat (by omega)) rfl))))), rfl, fun e => ?_, ?_⟩
      · simp only
        rw [mget_mset, htk, List.filter_append]
        by_cases he : (kc c i).Element = e
        · rw [if_pos he, Option.getD_some, hm, he]
          have : elC e (kc c i) = true := decide_eq_true he
          simp [List.filter_cons, this]
        · rw [if_neg he, hm]
          have : elC e (kc c i) = false := decide_eq_false he
          simp [List.filter_cons, this]
      · rw [htk, List.any_append, hb]; simp [hbad]) (by
    rintro ⟨i', m⟩ ⟨rfl, hm, hb⟩
    rw [List.take_length] at hm hb
    exact ⟨.inr m, oif (decide_eq_false (by simp)) rfl, .inr ⟨hb, m, rfl, hm⟩⟩) N (by omega) (0, []) ⟨rfl, fun e => by simp [mget], rfl⟩
  refine obi hq ?_
  rcases hQ with ⟨h1, rfl⟩ | ⟨h1, m, rfl, hm⟩
  · rw [h1]; rfl
  rw [h1]
  obtain ⟨ms, hms, hmget⟩ := sides_eq hN v
  refine obi hms ?_
  have hb := badC_f h1
  have hll := v.ll
  have hrl := v.rl
  have l5 : ∀ k : Nat, k < l.length → iterN (fun s : Int => throwplan_Safe_l5 N r th m ms k (lk l k) s) N 0 = some (bif rowP l r th st c k then .inl (false, 0) else .inr ()) := fun k hk => by
    have hrb := v.rb k (by omega)
    have er : idx r (k : Int) = some (rk r k) := idx_rk (by omega)
    have go : ∀ (i : Nat) (h : i < (lk l k).length) (R : Option (Int ⊕ ((Bool × Int) ⊕ Unit))), (bif badP l r th st c k i then some (.inr (Sum.inl (false, 0))) else (Option.bind (in64 ((i : Int) + 1)) fun x => some (.inl x))) = R → throwplan_Safe_l5 N r th m ms k (lk l k) i = R := fun i hi R hR => by
      have hs := v.span hk hi
      unfold throwplan_Safe_l5
      refine oit (decide_eq_true (by omega)) (obi (idx_pk2 hi) ?_)
      cases c0 : decide ((pk2 (lk l k) i).Side = 0) with
      | true =>
        have : badP l r th st c k i = false := bandF (bnotIf c0)
        rw [this, cond_false] at hR
        exact obi (gO_F rfl) (obi (gO_F rfl) (obi (gO_F rfl) (obi (gO_F rfl) (obi (gO_F rfl) (obi (gO_F rfl) (oif rfl hR))))))
      | false =>
        have f1 : in64 (rk r k + (pk2 (lk l k) i).From) = some (rk r k + (pk2 (lk l k) i).From) := in64_ok (by omega)
        have f2 : in64 (rk r k + (pk2 (lk l k) i).To) = some (rk r k + (pk2 (lk l k) i).To) := in64_ok (by omega)
        have f3 : throwplan_side N ms (pk2 (lk l k) i).Element = some (frs st (pk2 (lk l k) i).Element) := by rw [side_eq, hmget]; rfl
        have f4 := serves_eq (N := N) (c := c.filter (elC (pk2 (lk l k) i).Element)) (by have := List.length_filter_le (elC (pk2 (lk l k) i).Element) c; omega) (by have := List.length_filter_le (elC (pk2 (lk l k) i).Element) c; omega) v.th0 (fun x hx => (hb x (List.mem_filter.1 hx).1).1) (frs st (pk2 (lk l k) i).Element) (pk2 (lk l k) i).Side (rk r k + (pk2 (lk l k) i).From) (rk r k + (pk2 (lk l k) i).To)
        rw [← hm] at f4
        have hbp : badP l r th st c k i = !srv st c th (pk2 (lk l k) i) (rk r k + (pk2 (lk l k) i).From) (rk r k + (pk2 (lk l k) i).To) := by unfold badP; rw [c0]; rfl
        rw [hbp] at hR
        refine obi (gO_T rfl er) (obi (gO_T rfl f1) (obi (gO_T rfl er) (obi (gO_T rfl f2) (obi (gO_T rfl f3) (obi (gO_T rfl f4) ?_)))))
        rw [hm]
        exact hR
    have hlen := (v.gd _ (lk_mem hk)).len
    exact any_range (n := (lk l k).length) _ _ _ (fun i h hp => go i h _ (oit hp rfl)) (fun i h hp => go i h _ (oif hp (obi (inc_nat (by omega)) rfl))) (oif (decide_eq_false (by omega)) rfl) N (by omega)
  refine obi (any_range (n := l.length) (rowP l r th st c) (false, 0) (throwplan_Safe_l4 N l r th m ms) (fun k hk hp => ?_) (fun k hk hp => ?_) ?_ N (by omega)) ?_
  · have := l5 k hk
    rw [hp, cond_true] at this
    exact oit (decide_eq_true (by omega)) (obi (idx_lk hk) (obi this rfl))
  · have := l5 k hk
    rw [hp, cond_false] at this
    exact oit (decide_eq_true (by omega)) (obi (idx_lk hk) (obi this (obi (inc_nat (by omega)) rfl)))
  · exact oif (decide_eq_false (by omega)) rfl
  · unfold safeB
    cases (List.range l.length).any (rowP l r th st c) <;> rfl
end Go.Gv
