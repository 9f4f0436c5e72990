/- Throwing (chapter 24): ThrowplanSafe, ThrowplanInside, ThrowplanNeeded, ThrowplanForms. -/
import Derived.Test.YtpelfidmcpcmjaaPlt
namespace Go.Gv
theorem ThrowplanSafe_all {N : Nat} (hN : 2000 ≤ N) (t : List Int) : law24_ThrowplanSafe N t = some true := by
  obtain ⟨k, l, r, th, st, hp, k0, k1, p⟩ := planned_pln hN t (k := 0) (by omega) (by omega)
  obtain ⟨out, hc, ho, _, hF⟩ := p.cmds hN
  have hs := p.safe_within hN ho hF (l' := l) rfl (fun a h => (p.ct a h).good) (fun k _ i hi => ⟨hi, rfl, rfl, Int.le_refl _, Int.le_refl _⟩)
  unfold law24_ThrowplanSafe
  exact obi rfl (obi hp (obi hc (obi hs (obi (gO_T rfl (sane_ok hN)) rfl))))
/-! within -/
def W (s t : T_Span) : Prop := t.Element = s.Element ∧ t.Side = s.Side ∧ s.From ≤ t.From ∧ t.From < t.To ∧ t.To ≤ s.To
theorem getD_snoc {α : Type} {b : List α} {x d : α} {j : Nat} : (b ++ [x]).getD j d = if j < b.length then b.getD j d else if j = b.length then x else d := by
  rw [List.getD_eq_getElem?_getD, List.getD_eq_getElem?_getD]
  by_cases h : j < b.length
  · rw [if_pos h, List.getElem?_append_left h]
  · rw [if_neg h, List.getElem?_append_right (by omega)]
    by_cases e : j = b.length
    · rw [if_pos e, e]; simp
    · rw [if_neg e, List.getElem?_eq_none (by simp; omega)]; rfl
theorem within_ok {N : Nat} (hN : 2000 ≤ N) (t : List Int) {k : Int} (h0 : 0 ≤ k) (h1 : k ≤ 100000) {a : List T_Span} (ha : Cut a) : ∃ k' b, yardgen_Within N t k a = some (k', b) ∧ k ≤ k' ∧ k' ≤ k + 12 ∧ b.length = a.length ∧ ∀ j, j < a.length → W (pk2 a j) (pk2 b j) := by
  have hl := ha.len
  obtain ⟨⟨k', b⟩, hq, q1, q2, q3, q4⟩ := runN (f := fun s : Int × Int × List T_Span => yardgen_Within_l1 N t a s.1 s.2.1 s.2.2) a.length
    (fun i s => s.1 = i ∧ (k ≤ s.2.1 ∧ s.2.1 ≤ k + 2 * i) ∧ s.2.2.length = i ∧ ∀ j, j < i → W (pk2 a j) (pk2 s.2.2 j))
    (fun q => k ≤ q.1 ∧ q.1 ≤ k + 12 ∧ q.2.length = a.length ∧ ∀ j, j < a.length → W (pk2 a j) (pk2 q.2 j)) (by
    rintro i ⟨i', m, b⟩ hi ⟨rfl, ⟨m0, m1⟩, hb, hw⟩
    simp only at m0 m1 hb hw ⊢
    left
    have hs := ha.at_ i hi
    have hx : a[i] = pk2 a i := by unfold pk2; rw [List.getD_eq_getElem?_getD, List.getElem?_eq_getElem hi]; rfl
    rw [hx] at hs
    obtain ⟨u, hu, u0, u1⟩ := next_ok N t (k := m) (n := (pk2 a i).To - (pk2 a i).From) (by omega) (by omega) (by omega) (by omega)
    obtain ⟨v, hv, v0, v1⟩ := next_ok N t (k := m + 1) (n := (pk2 a i).To - ((pk2 a i).From + u)) (by omega) (by omega) (by omega) (by omega)
    unfold yardgen_Within_l1
    refine ⟨_, oit (decide_eq_true (by omega)) (obi (idx_pk2 hi) (obi (in64_ok (by omega)) (obi hu (obi (in64_ok (by simp only; omega)) (obi (in64_ok (by simp only; omega)) (obi (in64_ok (by simp only; omega)) (obi hv (obi (in64_ok (by simp only; omega)) (obi (app_ok (by simp only [List.length_cons, List.length_nil]; omega) (by simp only [List.length_cons, List.length_nil]; omega)) (obi (inc_nat (by omega)) rfl)))))))))), rfl, ⟨by simp only; omega, by simp only; omega⟩, by simp only [List.length_append, List.length_cons, List.length_nil]; omega, fun j hj => ?_⟩
    simp only
    generalize hz : T_Span.mk (pk2 a i).Element (pk2 a i).Side ((pk2 a i).From + u) ((pk2 a i).From + u + 1 + v) = z
    have e : pk2 (b ++ [z]) j = if j < b.length then pk2 b j else if j = b.length then z else default := getD_snoc
    by_cases ej : j < i
    · rw [e, if_pos (by omega)]
      exact hw j ej
    · rw [e, if_neg (by omega), if_pos (by omega)]
      have : j = i := by omega
      subst this
      rw [← hz]
      exact ⟨rfl, rfl, by simp only; omega, by simp only; omega, by simp only; omega⟩) (by
    rintro ⟨i', m, b⟩ ⟨rfl, ⟨m0, m1⟩, hb, hw⟩
    simp only at m0 m1 hb hw
    exact ⟨_, oif (decide_eq_false (by simp)) rfl, m0, by simp only; omega, hb, hw⟩) N (by omega) (0, k, []) ⟨rfl, ⟨Int.le_refl _, by simp⟩, rfl, fun j h => absurd h (Nat.not_lt_zero _)⟩
  exact ⟨k', b, obi hq rfl, q1, q2, q3, q4⟩
theorem good_within {a b : List T_Span} (ga : Good a) (hl : b.length = a.length) (hw : ∀ j, j < a.length → W (pk2 a j) (pk2 b j)) : Good b := by
  have eb : ∀ (j : Nat) (h : j < b.length), b[j] = pk2 b j := fun j h => by unfold pk2; rw [List.getD_eq_getElem?_getD, List.getElem?_eq_getElem h]; rfl
  have ea : ∀ (j : Nat) (h : j < a.length), a[j] = pk2 a j := fun j h => by unfold pk2; rw [List.getD_eq_getElem?_getD, List.getElem?_eq_getElem h]; rfl
  refine ⟨by have := ga.len; omega, fun i hi => ?_, fun i j hi hj e => ?_⟩
  · have h1 := ga.at i (by omega)
    obtain ⟨w1, w2, w3, w4, w5⟩ := hw i (by omega)
    rw [eb i hi]
    rw [ea i (by omega)] at h1
    exact decide_eq_true (by omega)
  · refine ga.uniq i j (by omega) (by omega) ?_
    rw [ea i (by omega), ea j (by omega), ← (hw i (by omega)).1, ← (hw j (by omega)).1, ← eb i hi, ← eb j hj, e]
theorem ThrowplanInside_all {N : Nat} (hN : 2000 ≤ N) (t : List Int) : law24_ThrowplanInside N t = some true := by
  obtain ⟨k, l, r, th, st, hp, k0, k1, p⟩ := planned_pln hN t (k := 0) (by omega) (by omega)
  obtain ⟨out, hc, ho, _, hF⟩ := p.cmds hN
  have hll := p.ll
  obtain ⟨l', hq, q1, q2⟩ := runN (f := fun s : Int × Int × List (List T_Span) => law24_ThrowplanInside_l1 N t (k, l, r, th, st) s.1 s.2.1 s.2.2) l.length
    (fun i s => s.1 = i ∧ (0 ≤ s.2.1 ∧ s.2.1 ≤ 1100 + 12 * i) ∧ s.2.2.length = i ∧ ∀ j, j < i → (lk s.2.2 j).length = (lk l j).length ∧ ∀ q, q < (lk l j).length → W (pk2 (lk l j) q) (pk2 (lk s.2.2 j) q))
    (fun q => q.length = l.length ∧ ∀ j, j < l.length → (lk q j).length = (lk l j).length ∧ ∀ i, i < (lk l j).length → W (pk2 (lk l j) i) (pk2 (lk q j) i)) (by
    rintro i ⟨i', m, b⟩ hi ⟨rfl, ⟨m0, m1⟩, hb, hw⟩
    simp only at m0 m1 hb hw ⊢
    left
    obtain ⟨k', a, ha, a0, a1, a2, a3⟩ := within_ok hN t (k := m) (by omega) (by omega) (p.ct _ (lk_mem hi))
    unfold law24_ThrowplanInside_l1
    refine ⟨_, oit (decide_eq_true (by simp only; omega)) (obi (idx_lk hi) (obi ha (obi (app_ok (by simp only [List.length_cons, List.length_nil]; omega) (by simp only [List.length_cons, List.length_nil]; omega)) (obi (inc_nat (by omega)) rfl)))), rfl, ⟨by simp only; omega, by simp only; omega⟩, by simp only [List.length_append, List.length_cons, List.length_nil]; omega, fun j hj => ?_⟩
    simp only
    have e : lk (b ++ [a]) j = if j < b.length then lk b j else if j = b.length then a else [] := getD_snoc
    by_cases ej : j < i
    · rw [e, if_pos (by omega)]
      exact hw j ej
    · rw [e, if_neg (by omega), if_pos (by omega)]
      have : j = i := by omega
      subst this
      exact ⟨a2, a3⟩) (by
    rintro ⟨i', m, b⟩ ⟨rfl, ⟨m0, m1⟩, hb, hw⟩
    exact ⟨_, oif (decide_eq_false (by simp)) rfl, hb, hw⟩) N (by omega) (0, k, []) ⟨rfl, ⟨by simp only; omega, by simp only; omega⟩, rfl, fun j h => absurd h (Nat.not_lt_zero _)⟩
  have hs := p.safe_within hN ho hF (l' := l') q1 (fun a h => by
    obtain ⟨j, hj, rfl⟩ := List.getElem_of_mem h
    have e : l'[j] = lk l' j := by unfold lk; rw [List.getD_eq_getElem?_getD, List.getElem?_eq_getElem hj]; rfl
    rw [e]
    obtain ⟨b1, b2⟩ := q2 j (by omega)
    exact good_within (p.ct _ (lk_mem (by omega))).good b1 b2) (fun k hk i hi => by
    obtain ⟨b1, b2⟩ := q2 k hk
    obtain ⟨w1, w2, w3, w4, w5⟩ := b2 i (by omega)
    exact ⟨by omega, w1, w2, w3, w5⟩)
  unfold law24_ThrowplanInside
  exact obi rfl (obi hp (obi hc (obi hq (obi hs (obi (gO_T rfl (sane_ok hN)) rfl)))))
theorem place_ok (N : Nat) {v : Int} {n : Nat} (hn : 0 < n) (hn2 : n ≤ 100000) : ∃ i : Nat, i < n ∧ yardgen_Place N v n = some (i : Int) := by
  have h1 := Int.tmod_lt_of_pos v (show (0 : Int) < n by omega)
  have h2 := Int.lt_tmod_of_pos v (show (0 : Int) < n by omega)
  have hr : rem64 v (n : Int) = some (Int.tmod v n) := rem64_ok (by omega)
  unfold yardgen_Place
  by_cases hneg : Int.tmod v n < 0
  · obtain ⟨i, hi⟩ : ∃ i : Nat, Int.tmod v n + n = i := ⟨(Int.tmod v n + n).toNat, by omega⟩
    exact ⟨i, by omega, oif (decide_eq_false (by omega)) (obi hr (oit (decide_eq_true hneg) (obi (in64_ok (by omega)) (by rw [hi]))))⟩
  · obtain ⟨i, hi⟩ : ∃ i : Nat, Int.tmod v n = i := ⟨(Int.tmod v n).toNat, by omega⟩
    exact ⟨i, by omega, oif (decide_eq_false (by omega)) (obi hr (oif (decide_eq_false hneg) (by rw [hi])))⟩
theorem ThrowplanNeeded_all {N : Nat} (hN : 2000 ≤ N) (t : List Int) (v : Int) : law24_ThrowplanNeeded N t v = some true := by
  obtain ⟨k, l, r, th, st, hp, k0, k1, p⟩ := planned_pln hN t (k := 0) (by omega) (by omega)
  obtain ⟨out, hc, ho, _, hF⟩ := p.cmds hN
  unfold law24_ThrowplanNeeded
  refine obi rfl (obi hp (obi hc (oif (bnotIf (decide_eq_true rfl)) ?_)))
  by_cases h0 : out.length = 0
  · exact oit (decide_eq_true (by simp only; omega)) (obi (sane_ok hN) rfl)
  · obtain ⟨i, hi, hv⟩ := place_ok N (v := v) (n := out.length) (by omega) (by omega)
    have hs := p.safe_less hN ho hF hi
    have s1 : slc out 0 (i : Int) = some (out.take i) := by
      have := slc_nat (l := out) (a := 0) (b := i) (by omega) (by omega)
      rw [List.drop_zero] at this
      exact this
    have s2 : slc out ((i + 1 : Nat) : Int) (out.length : Int) = some (out.drop (i + 1)) := by
      rw [slc_nat (by omega) (Nat.le_refl _), List.take_of_length_le (Nat.le_refl _)]
    have a1 : app 32 [] (out.take i) = some (out.take i) := app_ok (b := 32) (l := []) (r := out.take i) (by simp only [List.length_take, List.length_nil]; omega) (by simp only [List.length_take, List.length_nil]; omega)
    have a2 : app 32 (out.take i) (out.drop (i + 1)) = some (out.take i ++ out.drop (i + 1)) := app_ok (by simp only [List.length_take, List.length_drop]; omega) (by simp only [List.length_take, List.length_drop]; omega)
    exact oif (decide_eq_false (by simp only; omega)) (obi hv (obi s1 (obi (inc_nat (by omega)) (obi s2 (obi a1 (obi a2 (obi hs (obi (gO_T rfl (sane_ok hN)) rfl))))))))
/-! the form -/
theorem forms4 {N : Nat} {c : List T_Command} {k : Int} (hN : c.length < N) (hc : c.length ≤ 100000) (st : List T_Throw) {i : Nat} (hi : i < c.length) : iterN (fun s : Int × Int => law24_ThrowplanForms_l4 N (c, k) (i : Int) s.1 s.2) N (frs st (kc c i).Element, 0) = some (lastS (c.take i) st (kc c i).Element) := by
  refine runN1 (f := fun s : Int × Int => law24_ThrowplanForms_l4 N (c, k) (i : Int) s.1 s.2) i (fun m s => s.2 = m ∧ s.1 = lastS (c.take m) st (kc c i).Element) _ ?_ ?_ N (by omega) _ ⟨rfl, rfl⟩
  · rintro m ⟨sd, m'⟩ hm ⟨rfl, hs⟩
    simp only at hs ⊢
    have e1 := idx_kc (c := c) (i := m) (by omega)
    have e2 := idx_kc hi
    have htk : c.take (m + 1) = c.take m ++ [kc c m] := by rw [List.take_succ_eq_append_getElem (show m < c.length by omega), kc_getElem (show m < c.length by omega)]
    have h3 := lastS_snoc (c.take m) st (kc c i).Element (kc c m)
    unfold law24_ThrowplanForms_l4
    by_cases he : (kc c m).Element = (kc c i).Element
    · rw [if_pos he] at h3
      exact ⟨_, oit (decide_eq_true (by omega)) (obi e1 (obi e2 (oit (decide_eq_true he) (obi e1 (obi (inc_nat (by omega)) rfl))))), rfl, by simp only; rw [htk, h3]⟩
    · rw [if_neg he] at h3
      exact ⟨_, oit (decide_eq_true (by omega)) (obi e1 (obi e2 (oif (decide_eq_false he) (obi (inc_nat (by omega)) rfl)))), rfl, by simp only; rw [htk, h3]; exact hs⟩
  · rintro ⟨sd, m'⟩ ⟨rfl, hs⟩
    simp only at hs ⊢
    rw [← hs]
    exact oif (decide_eq_false (by omega)) rfl
theorem forms3 {N : Nat} (hN : 2000 ≤ N) {k : Int} {l : List (List T_Span)} {r : List Int} {th : Int} {st : List T_Throw} (p : Pln l r th st) {c : List T_Command} (hc : c.length ≤ 1024) (ha : AscK keyT c) (hF : ∀ e, c.filter (elC e) = chE l r st e l.length) {i : Nat} (hi : i < c.length) :
    law24_ThrowplanForms_l3 N (k, l, r, th, st) (c, 0) (i : Int) = some (.inl ((i + 1 : Nat) : Int)) := by
  have e1 := idx_kc hi
  have hx : c[i] = kc c i := (kc_getElem hi).symm
  have hs := filter_split hi hx (elC (kc c i).Element) (decide_eq_true rfl)
  rw [hF] at hs
  obtain ⟨j, s, hj, b1, b2, b3, b4, b5, b6, b7, _⟩ := p.splitE hs
  rw [b2, ← b2, lastS_filter] at b6
  have eL : idx l (kc c i).Cut = some (lk l j) := by rw [b1]; exact idx_lk hj
  have eR : idx r (kc c i).Cut = some (rk r j) := by rw [b1]; exact idx_rk (by rw [p.rl]; exact hj)
  have hg := (p.ct _ (lk_mem hj)).good
  have hgl := hg.len
  obtain ⟨q, hq, f1, f2⟩ : ∃ (q : Nat) (h : q < (lk l j).length), findE (lk l j) (kc c i).Element = q ∧ (lk l j)[q] = s := by
    rcases find_elS hg (kc c i).Element with ⟨q, hq, f1, f2⟩ | ⟨_, f2⟩
    · unfold fe at b3
      rw [b3] at f2
      injection f2 with f2
      exact ⟨q, hq, f1, f2.symm⟩
    · unfold fe at b3
      rw [b3] at f2; cases f2
  have eF : r23_Find N (lk l j) (kc c i).Element = some (q : Int) := by rw [find_eq N _ (by omega) (by omega), f1]
  have eS : idx (lk l j) (q : Int) = some s := by rw [idx_nat hq, f2]
  have hsd := p.span b3
  have hrb := p.rb j hj
  have hth := p.th0
  obtain ⟨_, j', s', c1, c2, c3, c4, c5, c6, c7⟩ := p.memE (p.cmem hF (kc_mem hi))
  have htm := p.tmb (kc c i).Element j'
  have hfs := first_eq hN (st := st) (by have := p.sl; omega) (kc c i).Element
  have h4 := forms4 (N := N) (c := c) (k := 0) (by omega) (by omega) st hi
  have g1 : (!decide ((q : Int) < 0)) = true := bnotIt (decide_eq_false (by omega))
  have g2 : (!decide (lastS (c.take i) st (kc c i).Element = (kc c i).Side)) = true := bnotIt (decide_eq_false (by rw [b4]; exact b6))
  have g3 : (decide ((kc c i).Cut < 0) || decide ((List.length l : Int) ≤ (kc c i).Cut)) = false := borF (decide_eq_false (by omega)) (decide_eq_false (by omega))
  have tail : (Option.bind (idx c i) fun x647 =>
 Option.bind (idx l x647.Cut) fun x650 =>
 Option.bind (idx c i) fun x655 =>
 Option.bind (r23_Find N x650 x655.Element) fun r658 =>
 Option.bind (gO (!decide (r658 < 0)) (idx c i)) fun x672 =>
 Option.bind (gO (!decide (r658 < 0)) (idx l x672.Cut)) fun x678 =>
 Option.bind (gO (!decide (r658 < 0)) (idx x678 r658)) fun x686 =>
 Option.bind (gO (!decide (r658 < 0)) (idx c i)) fun x694 =>
 bif (decide (r658 < 0) || (!decide (x686.Side = x694.Side))) then (
 some (.inr (Sum.inl false))) else (
 Option.bind (idx c i) fun x703 =>
 Option.bind (r24_First N st x703.Element) fun r706 =>
 Option.bind (iterN (fun s : Int × Int => law24_ThrowplanForms_l4 N (c, 0) (i : Int) s.1 s.2) N (r706, 0)) fun r769 =>
 Option.bind (idx c i) fun x805 =>
 Option.bind (gO (!decide (r769 = x805.Side)) (idx c i)) fun x811 =>
 Option.bind (gO (!decide (r769 = x805.Side)) (in64 (x811.Time + th))) fun x818 =>
 Option.bind (gO (!decide (r769 = x805.Side)) (idx c i)) fun x825 =>
 Option.bind (gO (!decide (r769 = x805.Side)) (idx r x825.Cut)) fun x831 =>
 Option.bind (gO (!decide (r769 = x805.Side)) (idx c i)) fun x839 =>
 Option.bind (gO (!decide (r769 = x805.Side)) (idx l x839.Cut)) fun x845 =>
 Option.bind (gO (!decide (r769 = x805.Side)) (idx x845 r658)) fun x853 =>
 Option.bind (gO (!decide (r769 = x805.Side)) (in64 (x831 + x853.From))) fun x859 =>
 bif (decide (r769 = x805.Side) || decide (x859 < x818)) then (
 some (.inr (Sum.inl false))) else (
 Option.bind (in64 ((i : Int) + 1)) fun x866 =>
 some (.inl x866)))) = (some (.inl ((i + 1 : Nat) : Int)) : Option (Int ⊕ (Bool ⊕ Unit))) :=
    obi e1 (obi eL (obi e1 (obi eF (obi (gO_T g1 e1) (obi (gO_T g1 eL) (obi (gO_T g1 eS) (obi (gO_T g1 e1) (oif (borF (decide_eq_false (by omega)) (bnotIf (decide_eq_true b4.symm)))
      (obi e1 (obi hfs (obi h4 (obi e1 (obi (gO_T g2 e1) (obi (gO_T g2 (in64_ok (by omega))) (obi (gO_T g2 e1) (obi (gO_T g2 eR) (obi (gO_T g2 e1) (obi (gO_T g2 eL) (obi (gO_T g2 eS) (obi (gO_T g2 (in64_ok (by omega)))
        (oif (borF (bnott g2) (decide_eq_false (by omega))) (obi (inc_nat (by omega)) rfl))))))))))))))))))))))
  unfold law24_ThrowplanForms_l3
  refine oit (decide_eq_true (by simp only; omega)) (obi e1 (obi (gO_T (bnotIt (decide_eq_false (by omega))) e1) ?_))
  by_cases h0 : 0 < i
  · have g4 : ((!(decide ((kc c i).Cut < 0) || decide ((List.length l : Int) ≤ (kc c i).Cut))) && decide (0 < (i : Int))) = true := band (bnotIt g3) (decide_eq_true (by omega))
    have hle : (kc c (i - 1)).Time ≤ (kc c i).Time := by
      have := List.pairwise_iff_getElem.1 ha (i - 1) i (by omega) hi (by omega)
      rw [hx, ← kc_getElem] at this
      exact this
    have hi1 : i - 1 < c.length := by omega
    have e0 : idx c ((i - 1 : Nat) : Int) = some (kc c (i - 1)) := idx_kc hi1
    have hn : ¬ (kc c i).Time < (kc c (i - 1)).Time := by omega
    exact obi (gO_T g4 e1) (obi (gO_T g4 (sub1 h0 (by omega))) (obi (gO_T g4 e0) (oif (borF g3 (bandF2 (decide_eq_false hn))) tail)))
  · have g4 : ((!(decide ((kc c i).Cut < 0) || decide ((List.length l : Int) ≤ (kc c i).Cut))) && decide (0 < (i : Int))) = false := bandF2 (decide_eq_false (by omega))
    exact obi (gO_F g4) (obi (gO_F g4) (obi (gO_F g4) (oif (borF g3 (bandF (decide_eq_false (by omega)))) tail)))
theorem ThrowplanForms_all {N : Nat} (hN : 2000 ≤ N) (t : List Int) : law24_ThrowplanForms N t = some true := by
  obtain ⟨k, l, r, th, st, hp, k0, k1, p⟩ := planned_pln hN t (k := 0) (by omega) (by omega)
  obtain ⟨out, hc, ho, ha, hF⟩ := p.cmds hN
  have hq : iterN (fun s : Int => law24_ThrowplanForms_l3 N (k, l, r, th, st) (out, 0) s) N 0 = some (.inr ()) := by
    refine runN1 (f := fun s : Int => law24_ThrowplanForms_l3 N (k, l, r, th, st) (out, 0) s) out.length (fun i s => s = i) _ ?_ ?_ N (by omega) 0 rfl
    · rintro i s hi rfl
      exact ⟨_, forms3 hN p ho ha hF hi, rfl⟩
    · rintro s rfl
      exact oif (decide_eq_false (by simp)) rfl
  unfold law24_ThrowplanForms
  exact obi rfl (obi hp (obi hc (oif (bnotIf (decide_eq_true rfl)) (obi hq (obi (sane_ok hN) rfl)))))
theorem ThrowplanSafe_true (t : List Int) : law24_ThrowplanSafe 5000 t = some true := ThrowplanSafe_all (by omega) t
theorem ThrowplanInside_true (t : List Int) : law24_ThrowplanInside 5000 t = some true := ThrowplanInside_all (by omega) t
theorem ThrowplanNeeded_true (t : List Int) (i : Int) : law24_ThrowplanNeeded 5000 t i = some true := ThrowplanNeeded_all (by omega) t i
theorem ThrowplanForms_true (t : List Int) : law24_ThrowplanForms 5000 t = some true := ThrowplanForms_all (by omega) t
end Go.Gv
