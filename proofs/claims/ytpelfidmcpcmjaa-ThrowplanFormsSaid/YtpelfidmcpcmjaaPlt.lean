/- Throwing (chapter 24): the commands of planned cuts. -/
import Derived.Test.YtpelfidmcpcmjaaPls
namespace Go.Gv
section
variable {l : List (List T_Span)} {r : List Int} {th : Int} {st : List T_Throw}
theorem uniqP {a : List T_Span} (g : Good a) : a.Pairwise fun x y => x.Element ≠ y.Element := List.pairwise_iff_getElem.2 fun i j hi hj h e => by
  have := g.uniq i j hi hj e
  omega
theorem elC_new (e : Int) (c : T_Command) : [c].filter (elC e) = if c.Element = e then [c] else [] := by
  by_cases h : c.Element = e
  · rw [if_pos h, List.filter_cons, if_pos (show elC e c = true from decide_eq_true h)]; rfl
  · rw [if_neg h, List.filter_cons, if_neg (by rw [show elC e c = false from decide_eq_false h]; decide)]; rfl
theorem Pln.row (p : Pln l r th st) {k : Nat} (hk : k < l.length) : ∀ (ss pre : List T_Span) (m : List T_Command), lk l k = pre ++ ss → m.length ≤ 6 * k + pre.length → (∀ e, m.filter (elC e) = bif pre.any (elS e) then chE l r st e (k + 1) else chE l r st e k) →
    ∃ m', rowO l r th st k ss m = .inl m' ∧ m'.length ≤ 6 * (k + 1) ∧ ∀ e, m'.filter (elC e) = chE l r st e (k + 1)
  | [], pre, m, hl, hm, hF => by
    rw [List.append_nil] at hl
    have := (p.ct _ (lk_mem hk)).len
    refine ⟨m, rfl, by rw [hl] at this; omega, fun e => ?_⟩
    rw [hF]
    cases h : pre.any (elS e) with
    | true => rfl
    | false =>
      have : fe l e k = none := by
        unfold fe
        rw [hl, List.find?_eq_none]
        exact List.any_eq_false.1 h
      rw [cond_false, chE_none this]
  | s :: t, pre, m, hl, hm, hF => by
    have hg := (p.ct _ (lk_mem hk)).good
    have hu := uniqP hg
    rw [hl] at hu
    have hnot : pre.any (elS s.Element) = false := List.any_eq_false.2 fun x hx h => (List.pairwise_append.1 hu).2.2 x hx s List.mem_cons_self (of_decide_eq_true h)
    have hf : fe l s.Element k = some s := by
      unfold fe
      rw [hl, List.find?_append, List.find?_eq_none.2 (List.any_eq_false.1 hnot), List.find?_cons, show elS s.Element s = true from decide_eq_true rfl]; rfl
    have h0 := hF s.Element
    rw [hnot, cond_false] at h0
    have hls : lastS m st s.Element = lastS (chE l r st s.Element k) st s.Element := by rw [← h0, lastS_filter]
    have hl' : lk l k = (pre ++ [s]) ++ t := by rw [hl]; simp
    have hany : ∀ e, (pre ++ [s]).any (elS e) = (pre.any (elS e) || decide (s.Element = e)) := fun e => by rw [List.any_append]; simp [elS]
    have hlen : (pre ++ [s]).length = pre.length + 1 := by simp
    have htm := p.tmb s.Element k
    have htot := (p.ct _ (lk_mem hk)).len
    rw [hl] at htot
    simp only [List.length_append, List.length_cons] at htot
    have hll := p.ll
    by_cases c : s.Side = 0 ∨ lastS (chE l r st s.Element k) st s.Element = s.Side
    · have hs : srvO l r th st m k s = .inl m := by unfold srvO; rw [hls, if_pos c]
      obtain ⟨m', a1, a2⟩ := p.row hk t (pre ++ [s]) m hl' (by rw [hlen]; omega) (fun e => by
        rw [hany, hF]
        by_cases he : s.Element = e
        · subst he
          rw [hnot, decide_eq_true rfl, chE_some hf, if_pos c]; rfl
        · rw [decide_eq_false he, Bool.or_false])
      exact ⟨m', by rw [rowO, hs]; exact a1, a2⟩
    · have c1 : s.Side ≠ 0 := fun h => c (.inl h)
      have c2 : lastS (chE l r st s.Element k) st s.Element ≠ s.Side := fun h => c (.inr h)
      have hroom := p.room hf c1 c2
      have hs : srvO l r th st m k s = .inl (m ++ [⟨tmE l r s.Element k, s.Element, s.Side, (k : Int)⟩]) := by
        unfold srvO
        rw [hls, if_neg c, p.slow, if_neg (by decide), if_neg (by omega), if_neg (by omega), if_neg (by omega)]
      obtain ⟨m', a1, a2⟩ := p.row hk t (pre ++ [s]) (m ++ [⟨tmE l r s.Element k, s.Element, s.Side, (k : Int)⟩]) hl' (by simp only [List.length_append, List.length_cons, List.length_nil]; omega) (fun e => by
        rw [hany, List.filter_append, elC_new, hF]
        by_cases he : s.Element = e
        · subst he
          rw [hnot, decide_eq_true rfl, chE_some hf, if_neg c, if_pos rfl]; rfl
        · rw [decide_eq_false he, Bool.or_false, if_neg he, List.append_nil])
      exact ⟨m', by rw [rowO, hs]; exact a1, a2⟩
theorem Pln.all (p : Pln l r th st) : ∀ (d k : Nat) (m : List T_Command), k + d = l.length → m.length ≤ 6 * k → (∀ e, m.filter (elC e) = chE l r st e k) → ∃ m', allO l r th st (List.range' k d) m = .inl m' ∧ ∀ e, m'.filter (elC e) = chE l r st e l.length
  | 0, k, m, h, _, hF => ⟨m, rfl, by rw [← h]; exact hF⟩
  | d + 1, k, m, h, hm, hF => by
    obtain ⟨m1, a1, a2, a3⟩ := p.row (show k < l.length by omega) (lk l k) [] m rfl (by simpa using hm) (fun e => by rw [hF]; rfl)
    obtain ⟨m2, b1, b2⟩ := p.all d (k + 1) m1 (by omega) a2 a3
    refine ⟨m2, ?_, b2⟩
    rw [List.range'_succ, allO, a1]
    exact b1
theorem Pln.cmds {N : Nat} (hN : 2000 ≤ N) (p : Pln l r th st) : ∃ out, throwplan_Commands N l r th st = some (out, 0) ∧ out.length ≤ 1024 ∧ AscK keyT out ∧ ∀ e, out.filter (elC e) = chE l r st e l.length := by
  have hck := p.ck (l' := l) rfl (fun a h => (p.ct a h).good)
  obtain ⟨m, a1, a2⟩ := p.all l.length 0 [] (by omega) (by simp) (fun e => rfl)
  rw [← List.range_eq_range'] at a1
  rcases Commands_eq hN (v24 hck) hck with ⟨e, b1, _, _⟩ | ⟨made, out, b1, b2, b3, b4, b5, b6⟩
  · rw [a1] at b1; cases b1
  · rw [a1] at b1
    injection b1 with b1
    subst b1
    refine ⟨out, b3, by omega, b6, fun e => ?_⟩
    rw [← a2 e]
    refine sorted_one (key := keyT) ?_ ?_ (fun t => ?_)
    · rw [a2]; exact p.ascE e _
    · exact List.Pairwise.filter _ b6
    · have := b5 t
      rw [List.filter_filter, List.filter_filter]
      have h1 : ∀ L : List T_Command, L.filter (fun a => decide (keyT a = t) && elC e a) = (L.filter (fun a => decide (keyT a = t))).filter (elC e) := fun L => by
        rw [List.filter_filter]
        congr 1
        funext a
        exact Bool.and_comm _ _
      rw [h1, h1, this]
theorem Pln.cmem (p : Pln l r th st) {out : List T_Command} (h : ∀ e, out.filter (elC e) = chE l r st e l.length) {x : T_Command} (hx : x ∈ out) : x ∈ chE l r st x.Element l.length := by
  rw [← h]
  exact List.mem_filter.2 ⟨hx, decide_eq_true rfl⟩
theorem Pln.okC (p : Pln l r th st) {out : List T_Command} (h : ∀ e, out.filter (elC e) = chE l r st e l.length) {c : List T_Command} (hc : ∀ x ∈ c, x ∈ out) : c.any badC = false := List.any_eq_false.2 fun x hx hb => by
  obtain ⟨_, j, s, a, _, b, c1, c2, c3, _⟩ := p.memE (p.cmem h (hc x hx))
  have h1 := p.tmb x.Element j
  have h2 := p.span b
  have : badC x = false := by
    refine borF (borF (borF (decide_eq_false (by omega)) (decide_eq_false (by omega))) (decide_eq_false (by omega))) (bnotIf ?_)
    unfold sdB
    rw [c1]
    by_cases e1 : s.Side = 1
    · exact borT (decide_eq_true e1)
    · exact borT2 (decide_eq_true (by omega))
  rw [this] at hb; cases hb
theorem fe_pk2 {k i : Nat} (g : Good (lk l k)) (hi : i < (lk l k).length) : fe l (pk2 (lk l k) i).Element k = some (pk2 (lk l k) i) := by
  unfold fe
  have hx : pk2 (lk l k) i = (lk l k)[i] := by unfold pk2; rw [List.getD_eq_getElem?_getD, List.getElem?_eq_getElem hi]; rfl
  rw [hx, List.find?_eq_some_iff_getElem]
  refine ⟨decide_eq_true rfl, i, hi, rfl, fun j hj => ?_⟩
  rw [bnotIt]
  exact decide_eq_false fun e => by have := g.uniq j i (by omega) hi e; omega
theorem Pln.safe_within {N : Nat} (hN : 2000 ≤ N) (p : Pln l r th st) {out : List T_Command} (ho : out.length ≤ 1024) (h : ∀ e, out.filter (elC e) = chE l r st e l.length) {l' : List (List T_Span)} (hl : l'.length = l.length) (hg : ∀ a ∈ l', Good a)
    (hw : ∀ k, k < l.length → ∀ i, i < (lk l' k).length → i < (lk l k).length ∧ (pk2 (lk l' k) i).Element = (pk2 (lk l k) i).Element ∧ (pk2 (lk l' k) i).Side = (pk2 (lk l k) i).Side ∧ (pk2 (lk l k) i).From ≤ (pk2 (lk l' k) i).From ∧ (pk2 (lk l' k) i).To ≤ (pk2 (lk l k) i).To) :
    throwplan_Safe N l' r th st out = some (true, 0) := by
  rw [Safe_eq hN]
  unfold sfR
  rw [p.ck hl hg, if_neg (fun h => h rfl), if_neg (by omega), p.okC h (fun _ h => h), cond_false]
  have : safeB l' r th st out = true := by
    unfold safeB
    rw [Bool.not_eq_true', List.any_eq_false]
    intro k hk hb
    have hk := List.mem_range.1 hk
    rw [hl] at hk
    obtain ⟨i, hi, hb⟩ := List.any_eq_true.1 hb
    have hi := List.mem_range.1 hi
    obtain ⟨w1, w2, w3, w4, w5⟩ := hw k hk i hi
    have g := (p.ct _ (lk_mem hk)).good
    have hf := fe_pk2 g w1
    have hb1 := bandl hb
    have hb2 := bnott (bandr hb)
    have hs : (pk2 (lk l' k) i).Side ≠ 0 := of_decide_eq_false (bnott hb1)
    have hto := ((hg _ (lk_mem (show k < l'.length by omega))).mem (pk2_mem hi)).2
    rw [← w2] at hf
    have := p.served hf hk (by rw [← w3]; exact hs) (a := rk r k + (pk2 (lk l' k) i).From) (b := rk r k + (pk2 (lk l' k) i).To) (by omega) (by omega) (by omega)
    unfold srv at hb2
    rw [h, this] at hb2
    exact of_decide_eq_false hb2 w3.symm
  rw [this]
theorem filter_split {c : List T_Command} {i : Nat} (hi : i < c.length) {x : T_Command} (hx : c[i] = x) (q : T_Command → Bool) (hq : q x = true) : c.filter q = (c.take i).filter q ++ x :: (c.drop (i + 1)).filter q := by
  have h : c.take i ++ x :: c.drop (i + 1) = c := by rw [← hx, ← List.drop_eq_getElem_cons hi, List.take_append_drop]
  rw [← List.filter_cons_of_pos hq, ← List.filter_append, h]
theorem Pln.safe_less {N : Nat} (hN : 2000 ≤ N) (p : Pln l r th st) {out : List T_Command} (ho : out.length ≤ 1024) (h : ∀ e, out.filter (elC e) = chE l r st e l.length) {i : Nat} (hi : i < out.length) :
    throwplan_Safe N l r th st (out.take i ++ out.drop (i + 1)) = some (false, 0) := by
  have hlen : (out.take i ++ out.drop (i + 1)).length ≤ 1024 := by simp only [List.length_append, List.length_take, List.length_drop]; omega
  rw [Safe_eq hN]
  unfold sfR
  rw [p.ck rfl (fun a h => (p.ct a h).good), if_neg (fun h => h rfl), if_neg (by omega), p.okC h (fun x hx => by
    rcases List.mem_append.1 hx with hx | hx
    · exact List.mem_of_mem_take hx
    · exact List.mem_of_mem_drop hx), cond_false]
  obtain ⟨x, hx⟩ : ∃ x, out[i] = x := ⟨_, rfl⟩
  have hs := filter_split hi hx (elC x.Element) (decide_eq_true rfl)
  rw [h] at hs
  obtain ⟨j, s, a, b1, b2, b3, v, b4, b5⟩ := p.needed hs
  have hg := (p.ct _ (lk_mem a)).good
  obtain ⟨m1, m2⟩ := fe_mem b2
  obtain ⟨q, hq, hqe⟩ := List.getElem_of_mem m1
  have hx2 : pk2 (lk l j) q = s := by unfold pk2; rw [List.getD_eq_getElem?_getD, List.getElem?_eq_getElem hq, hqe]; rfl
  have : safeB l r th st (out.take i ++ out.drop (i + 1)) = false := by
    unfold safeB
    rw [Bool.not_eq_false', List.any_eq_true]
    refine ⟨j, List.mem_range.2 a, List.any_eq_true.2 ⟨q, List.mem_range.2 hq, ?_⟩⟩
    unfold badP srv
    rw [hx2, m2, List.filter_append, b4]
    exact band (bnotIt (decide_eq_false b3)) (bnotIt (decide_eq_false b5))
  rw [this]
theorem planned_pln {N : Nat} (hN : 2000 ≤ N) (t : List Int) {k : Int} (h0 : 0 ≤ k) (h1 : k ≤ 100000) : ∃ k' l r th st, law24_planned N t k = some (k', l, r, th, st) ∧ k ≤ k' ∧ k' ≤ k + 1100 ∧ Pln l r th st := by
  obtain ⟨k', l, r, th, st, a1, a2, a3, a4, a5, a6, a7, a8, a9, b1, b2, b3, b4⟩ := planned_ok hN t h0 h1
  exact ⟨k', l, r, th, st, a1, a2, a3, ⟨a4, a5, a6, a7, a8, a9, b1, b2, b3, b4⟩⟩
end
end Go.Gv
