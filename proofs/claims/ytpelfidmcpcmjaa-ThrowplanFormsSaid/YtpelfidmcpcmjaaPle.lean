/- Throwing (chapter 24): the reference's Safe. -/
import Derived.Test.YtpelfidmcpcmjaaPld
namespace Go.Gv
theorem rSafe_eq {N : Nat} (hN : 2000 ≤ N) (l : List (List T_Span)) (r : List Int) (th : Int) (st : List T_Throw) (c : List T_Command) (hr : r.length < N) (hr2 : r.length ≤ 17592186044416) : r24_Safe N l r th st c = some (sfR l r th st c) := by
  unfold r24_Safe sfR
  refine obi (rcheck_eq hN l r th st hr hr2) ?_
  by_cases hck : ¬ ck24 l r th st = 0
  · rw [if_pos hck]; exact oit (bnotIt (decide_eq_false hck)) rfl
  have hck := Classical.not_not.1 hck
  rw [if_neg (fun h => h hck), hck]
  have v := v24 hck
  refine oif rfl ?_
  by_cases hcl : 1024 < c.length
  · rw [if_pos hcl]; exact oit (decide_eq_true (by omega)) rfl
  rw [if_neg hcl]
  refine oif (decide_eq_false (by omega)) ?_
  have go1 : ∀ (i : Nat) (hi : i < c.length) (R : Option (Int ⊕ ((Bool × Int) ⊕ Unit))), (bif badC c[i] then some (.inr (Sum.inl (false, 1))) else (Option.bind (in64 ((i : Int) + 1)) fun x => some (.inl x))) = R → r24_Safe_l1 N c i = R := fun i hi R hR => by
    have e1 := idx_nat hi
    unfold r24_Safe_l1
    refine oit (decide_eq_true (by omega)) (obi e1 ?_)
    cases c1 : decide (c[i].Time < 0) with
    | true =>
      have : badC c[i] = true := borT (borT (borT c1))
      rw [this, cond_true] at hR
      exact obi (gO_F rfl) (obi (gO_F rfl) (obi (gO_F rfl) (obi (gO_F rfl) (oit rfl hR))))
    | false =>
      refine obi (gO_T rfl e1) ?_
      cases c2 : decide (1000000000 < c[i].Time) with
      | true =>
        have : badC c[i] = true := borT (borT (borT2 c2))
        rw [this, cond_true] at hR
        exact obi (gO_F rfl) (obi (gO_F rfl) (obi (gO_F rfl) (oit rfl hR)))
      | false =>
        refine obi (gO_T rfl e1) ?_
        cases c3 : decide (c[i].Element < 0) with
        | true =>
          have : badC c[i] = true := borT (borT2 c3)
          rw [this, cond_true] at hR
          exact obi (gO_F rfl) (obi (gO_F rfl) (oit rfl hR))
        | false =>
          refine obi (gO_T rfl e1) ?_
          cases c4 : decide (c[i].Side = 1) with
          | true =>
            have hs : sdB c[i].Side = true := borT c4
            have : badC c[i] = false := borF (borF (borF c1 c2) c3) (bnotIf hs)
            rw [this, cond_false] at hR
            exact obi (gO_F rfl) (oif rfl hR)
          | false =>
            refine obi (gO_T rfl e1) ?_
            cases c5 : decide (c[i].Side = 2) with
            | true =>
              have hs : sdB c[i].Side = true := borT2 c5
              have : badC c[i] = false := borF (borF (borF c1 c2) c3) (bnotIf hs)
              rw [this, cond_false] at hR
              exact oif rfl hR
            | false =>
              have hs : sdB c[i].Side = false := borF c4 c5
              have : badC c[i] = true := borT2 (bnotIt hs)
              rw [this, cond_true] at hR
              exact oit rfl hR
  refine obi (first_any c badC (false, 1) (f := r24_Safe_l1 N c) (fun i h hp => go1 i h _ (oit hp rfl)) (fun i h hp => go1 i h _ (oif hp (obi (inc_nat (by omega)) rfl))) (oif (decide_eq_false (by omega)) rfl) N (by omega)) ?_
  cases h1 : c.any badC with
  | true => rfl
  | false =>
  have hb := badC_f h1
  have hll := v.ll
  have hrl := v.rl
  have l5 : ∀ k : Nat, k < l.length → iterN (fun s : Int => r24_Safe_l5 N l r th st c k s) N 0 = some (bif rowP l r th st c k then .inl (false, 0) else .inr ()) := fun k hk => by
    have hrb := v.rb k (by omega)
    have er : idx r (k : Int) = some (rk r k) := idx_rk (by omega)
    have el := idx_lk hk
    have go : ∀ (i : Nat) (h : i < (lk l k).length) (R : Option (Int ⊕ ((Bool × Int) ⊕ Unit))), (bif badP l r th st c k i then some (.inr (Sum.inl (false, 0))) else (Option.bind (in64 ((i : Int) + 1)) fun x => some (.inl x))) = R → r24_Safe_l5 N l r th st c k i = R := fun i hi R hR => by
      have hs := v.span hk hi
      unfold r24_Safe_l5
      refine obi el (oit (decide_eq_true (by omega)) (obi el (obi (idx_pk2 hi) ?_)))
      cases c0 : decide ((pk2 (lk l k) i).Side = 0) with
      | true =>
        have : badP l r th st c k i = false := bandF (bnotIf c0)
        rw [this, cond_false] at hR
        exact obi (gO_F rfl) (obi (gO_F rfl) (obi (gO_F rfl) (obi (gO_F rfl) (obi (gO_F rfl) (oif rfl hR)))))
      | false =>
        have f1 : in64 (rk r k + (pk2 (lk l k) i).From) = some (rk r k + (pk2 (lk l k) i).From) := in64_ok (by omega)
        have f2 : in64 (rk r k + (pk2 (lk l k) i).To) = some (rk r k + (pk2 (lk l k) i).To) := in64_ok (by omega)
        have f4 := rserves_eq hN (c := c) (by omega) (by omega) v.sl v.th0 (fun x hx => (hb x hx).1) (pk2 (lk l k) i) (rk r k + (pk2 (lk l k) i).From) (rk r k + (pk2 (lk l k) i).To)
        have hbp : badP l r th st c k i = !srv st c th (pk2 (lk l k) i) (rk r k + (pk2 (lk l k) i).From) (rk r k + (pk2 (lk l k) i).To) := by unfold badP; rw [c0]; rfl
        rw [hbp] at hR
        exact obi (gO_T rfl er) (obi (gO_T rfl f1) (obi (gO_T rfl er) (obi (gO_T rfl f2) (obi (gO_T rfl f4) hR))))
    have hlen := (v.gd _ (lk_mem hk)).len
    exact any_range (n := (lk l k).length) _ _ _ (fun i h hp => go i h _ (oit hp rfl)) (fun i h hp => go i h _ (oif hp (obi (inc_nat (by omega)) rfl))) (obi el (oif (decide_eq_false (by omega)) rfl)) N (by omega)
  refine obi (any_range (n := l.length) (rowP l r th st c) (false, 0) (r24_Safe_l4 N l r th st c) (fun k hk hp => ?_) (fun k hk hp => ?_) ?_ N (by omega)) ?_
  · have := l5 k hk
    rw [hp, cond_true] at this
    exact oit (decide_eq_true (by omega)) (obi this rfl)
  · have := l5 k hk
    rw [hp, cond_false] at this
    exact oit (decide_eq_true (by omega)) (obi this (obi (inc_nat (by omega)) rfl))
  · exact oif (decide_eq_false (by omega)) rfl
  · unfold safeB
    cases (List.range l.length).any (rowP l r th st c) <;> rfl
end Go.Gv
