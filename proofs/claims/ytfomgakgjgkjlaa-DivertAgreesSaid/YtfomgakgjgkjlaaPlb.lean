/- Diverting: the laws. -/
import Derived.Test.YtfomgakgjgkjlaaPla
namespace Go.Gv

/-- What the maker's pairs are like. -/
structure Made (n : Nat) (a b : List T_Span) : Prop where
  la : a.length = n
  lb : b.length = n
  ha : ∀ (j : Nat) (h : j < a.length), (a[j].Element = (j : Int) + 1 ∧ 0 ≤ a[j].Side ∧ a[j].Side ≤ 2) ∧ 0 ≤ a[j].From ∧ a[j].From < a[j].To ∧ a[j].To ≤ 100000
  hb : ∀ (j : Nat) (h : j < b.length), ((b[j].Element = (j : Int) + 1 ∨ b[j].Element = (j : Int) + 21) ∧ 0 ≤ b[j].Side ∧ b[j].Side ≤ 2) ∧ 0 ≤ b[j].From ∧ b[j].From < b[j].To ∧ b[j].To ≤ 100000
theorem Made.ga {n : Nat} {a b : List T_Span} (m : Made n a b) (hn : n ≤ 7) : Good a :=
  ⟨by have := m.la; omega, fun i h => decide_eq_true (by have := m.ha i h; omega), fun i j hi hj e => by have h1 := m.ha i hi; have h2 := m.ha j hj; omega⟩
theorem Made.gb {n : Nat} {a b : List T_Span} (m : Made n a b) (hn : n ≤ 7) : Good b :=
  ⟨by have := m.lb; omega, fun i h => decide_eq_true (by have := m.hb i h; omega), fun i j hi hj e => by have h1 := m.hb i hi; have h2 := m.hb j hj; have := m.lb; omega⟩

theorem snoc_all {α : Type} {l : List α} {x : α} {P : Nat → α → Prop} (h : ∀ (j : Nat) (h : j < l.length), P j l[j]) (hx : P l.length x) : ∀ (j : Nat) (h : j < (l ++ [x]).length), P j (l ++ [x])[j] := fun j hj => by
  by_cases e : j < l.length
  · rw [List.getElem_append_left e]; exact h j e
  · have : j = l.length := by simp at hj; omega
    subst this
    simpa using hx

theorem pair_ok (t : List Int) {k0 : Int} (hk0 : 0 ≤ k0) (hk1 : k0 ≤ 100000) : ∃ k a b, law31_pair 200 t k0 = some (k, a, b) ∧ k0 ≤ k ∧ k ≤ k0 + 200 ∧ Made 7 a b := by
  obtain ⟨g, hg, gm⟩ := pick_ok 200 t (k := k0) (v := [0, 1000, 6000, 12000]) (by omega) (by omega) (by simp) (by simp)
  have hg2 : 0 ≤ g ∧ g ≤ 12000 := by simp only [List.mem_cons, List.not_mem_nil, or_false] at gm; omega
  obtain ⟨s0, hs0, s1, s2⟩ := next_ok 200 t (k := k0 + 1) (n := 3000) (by omega) (by omega) (by omega) (by omega)
  obtain ⟨t0, ht0, t1, t2⟩ := next_ok 200 t (k := k0 + 1 + 1) (n := 3000) (by omega) (by omega) (by omega) (by omega)
  obtain ⟨part, hp, p1, p2⟩ := next_ok 200 t (k := k0 + 1 + 1 + 1) (n := 8) (by omega) (by omega) (by omega) (by omega)
  obtain ⟨q, hq, q1, q2, q3⟩ := iterN_run (f := fun s : Int × Int × Int × Int × List T_Span × List T_Span => law31_pair_l1 200 t (k0 + 1 + 1 + 1 + 1, part) s.1 s.2.1 s.2.2.1 s.2.2.2.1 s.2.2.2.2.1 s.2.2.2.2.2)
    (I := fun s => ∃ n : Nat, n ≤ 7 ∧ s.2.2.1 = (n : Int) + 1 ∧ (0 ≤ s.1 ∧ s.1 ≤ 3000 + 4000 * n) ∧ (0 ≤ s.2.1 ∧ s.2.1 ≤ 15000 + 3500 * n) ∧ (k0 ≤ s.2.2.2.1 ∧ s.2.2.2.1 ≤ k0 + 4 + 10 * n) ∧ Made n s.2.2.2.2.1 s.2.2.2.2.2)
    (Q := fun q => k0 ≤ q.1 ∧ q.1 ≤ k0 + 200 ∧ Made 7 q.2.1 q.2.2) (fun s => (8 - s.2.2.1).toNat) (by
    rintro ⟨s, u, e, k, a, b⟩ ⟨n, hn, he, ⟨hs1, hs2⟩, ⟨hu1, hu2⟩, ⟨hk1', hk2'⟩, hm⟩
    simp only at he hs1 hs2 hu1 hu2 hk1' hk2' hm ⊢
    subst he
    unfold law31_pair_l1
    by_cases h : n < 7
    · obtain ⟨x, hx, x0, x1⟩ := next_ok 200 t (k := k) (n := 9000) (by omega) (by omega) (by omega) (by omega)
      obtain ⟨y, hy, y0, y1⟩ := next_ok 200 t (k := k + 1) (n := 9000) (by omega) (by omega) (by omega) (by omega)
      obtain ⟨j, hj, j0, j1, j2, j3, j4, j5⟩ : ∃ j : Int × Int × Int, (bif decide ((Int.tmod ((n : Int) + 1) 2) = 0) then (
          Option.bind (Maker_Pick 200 t (k + 1 + 1) ([1, 2])) fun r2475 =>
          bif decide ((n : Int) + 1 = part) then (
          Option.bind (in64 (3 - r2475.2)) fun x2487 =>
          some (r2475.1, r2475.2, x2487)) else (
          some (r2475.1, r2475.2, r2475.2))) else (
          some (k + 1 + 1, 0, 0))) = some j ∧ k + 2 ≤ j.1 ∧ j.1 ≤ k + 3 ∧ 0 ≤ j.2.1 ∧ j.2.1 ≤ 2 ∧ 0 ≤ j.2.2 ∧ j.2.2 ≤ 2 := by
        by_cases c : Int.tmod ((n : Int) + 1) 2 = 0
        · obtain ⟨z, hz, zm⟩ := pick_ok 200 t (k := k + 1 + 1) (v := [1, 2]) (by omega) (by omega) (by simp) (by simp)
          have hz2 : 1 ≤ z ∧ z ≤ 2 := by simp only [List.mem_cons, List.not_mem_nil, or_false] at zm; omega
          by_cases c2 : (n : Int) + 1 = part
          · exact ⟨_, oit (decide_eq_true c) (obi hz (oit (decide_eq_true c2) (obi (in64_ok (by simp only; omega)) rfl))), by simp only; omega, by simp only; omega, by simp only; omega, by simp only; omega, by simp only; omega, by simp only; omega⟩
          · exact ⟨_, oit (decide_eq_true c) (obi hz (oif (decide_eq_false c2) rfl)), by simp only; omega, by simp only; omega, by simp only; omega, by simp only; omega, by simp only; omega, by simp only; omega⟩
        · exact ⟨_, oif (decide_eq_false c) rfl, by simp only; omega, by simp only; omega, by simp, by simp, by simp, by simp⟩
      obtain ⟨el, hel, e0⟩ : ∃ el : Int, (bif ((decide (part < (n : Int) + 1) && decide ((Int.tmod part 2) = 0)) && decide (0 < part)) then (
          Option.bind (in64 ((n : Int) + 1 + 20)) fun x2517 =>
          some x2517) else (
          some ((n : Int) + 1))) = some el ∧ (el = (n : Int) + 1 ∨ el = (n : Int) + 21) := by
        cases c : ((decide (part < (n : Int) + 1) && decide ((Int.tmod part 2) = 0)) && decide (0 < part)) with
        | true => exact ⟨_, oit rfl (obi (in64_ok (by omega)) rfl), .inr (by omega)⟩
        | false => exact ⟨_, oif rfl rfl, .inl rfl⟩
      obtain ⟨v, hv, v0, v1⟩ := next_ok 200 t (k := j.1) (n := 4000) (by omega) (by omega) (by omega) (by omega)
      obtain ⟨w, hw, w0, w1⟩ := next_ok 200 t (k := j.1 + 1) (n := 3500) (by omega) (by omega) (by omega) (by omega)
      have hla := hm.la
      have hlb := hm.lb
      refine .inl ⟨(s + v, u + w, (n : Int) + 1 + 1, j.1 + 1 + 1, a ++ [T_Span.mk ((n : Int) + 1) j.2.1 s (s + 1 + x)], b ++ [T_Span.mk el j.2.2 u (u + 1 + y)]),
        oit (decide_eq_true (by omega)) (obi (in64_ok (by omega)) (obi hx (obi (in64_ok (by simp only; omega)) (obi (in64_ok (by omega)) (obi hy (obi (in64_ok (by simp only; omega)) (obi hj (obi hel (obi (obi (app_ok (by simp; omega) (by simp; omega)) (obi (app_ok (by simp; omega) (by simp; omega)) rfl)) (obi hv (obi (in64_ok (by simp only; omega)) (obi hw (obi (in64_ok (by simp only; omega)) (obi (in64_ok (by omega)) rfl)))))))))))))),
        ⟨n + 1, h, by simp only; omega, ⟨by simp only; omega, by simp only; omega⟩, ⟨by simp only; omega, by simp only; omega⟩, ⟨by simp only; omega, by simp only; omega⟩, ⟨by simp; omega, by simp; omega, ?_, ?_⟩⟩, by simp only; omega⟩
      · exact snoc_all (P := fun (j : Nat) (s : T_Span) => (s.Element = (j : Int) + 1 ∧ 0 ≤ s.Side ∧ s.Side ≤ 2) ∧ 0 ≤ s.From ∧ s.From < s.To ∧ s.To ≤ 100000) hm.ha (by simp only; omega)
      · exact snoc_all (P := fun (j : Nat) (s : T_Span) => ((s.Element = (j : Int) + 1 ∨ s.Element = (j : Int) + 21) ∧ 0 ≤ s.Side ∧ s.Side ≤ 2) ∧ 0 ≤ s.From ∧ s.From < s.To ∧ s.To ≤ 100000) hm.hb (by simp only; omega)
    · have : n = 7 := by omega
      subst this
      exact .inr ⟨_, oif (decide_eq_false (by omega)) rfl, by simp only; omega, by simp only; omega, hm⟩) 200 (s0, g + t0, 1, k0 + 1 + 1 + 1 + 1, [], [])
    ⟨0, by omega, by simp, ⟨by simp only; omega, by simp only; omega⟩, ⟨by simp only; omega, by simp only; omega⟩, ⟨by simp only; omega, by simp only; omega⟩, ⟨rfl, rfl, fun j h => by simp at h, fun j h => by simp at h⟩⟩ (by simp only; omega)
  refine ⟨q.1, q.2.1, q.2.2, ?_, q1, q2, q3⟩
  unfold law31_pair
  exact obi hg (obi hs0 (obi ht0 (obi (in64_ok (by omega)) (obi hp (obi hq rfl)))))

theorem spoil_ok (t : List Int) {k : Int} (h0 : 0 ≤ k) (h1 : k ≤ 1000000) (l : List T_Span) (hl : l.length ≤ 100) (hb : ∀ s ∈ l, 0 ≤ s.To ∧ s.To ≤ 1000000) : ∃ k' l', yardgen_SpoilSpans 200 t k l = some (k', l') ∧ k ≤ k' ∧ k' ≤ k + 5 := by
  unfold yardgen_SpoilSpans
  have hap : app 32 [] l = some l := by rw [app_ok (by simp; omega) (by simp; omega), List.nil_append]
  by_cases hz : l.length = 0
  · obtain ⟨x, hx, _⟩ := pick_ok 200 t (k := k) (v := [5, 6]) (by omega) (by omega) (by simp) (by simp)
    exact ⟨_, _, obi hap (oit (decide_eq_true (by omega)) (obi hx rfl)), by simp only; omega, by simp only; omega⟩
  · obtain ⟨n, hn, n0, n1⟩ := next_ok 200 t (k := k) (n := l.length) (by omega) (by omega) (by omega) (by omega)
    obtain ⟨n, rfl⟩ : ∃ m : Nat, n = m := ⟨n.toNat, by omega⟩
    have hnl : n < l.length := by omega
    obtain ⟨c, hc, c0, c1⟩ := next_ok 200 t (k := k + 1) (n := 6) (by omega) (by omega) (by omega) (by omega)
    have hbn := hb _ (List.getElem_mem hnl)
    by_cases e0 : c = 0
    · obtain ⟨x, hx, _⟩ := pick_ok 200 t (k := k + 1 + 1) (v := [-1, (l[0]'(by omega)).Element, 127, 128]) (by omega) (by omega) (by simp) (by simp)
      exact ⟨_, _, obi hap (oif (decide_eq_false (by omega)) (obi hn (obi (idx_nat hnl) (obi hc (oit (decide_eq_true e0) (obi (idx_nat (i := 0) (by omega)) (obi hx rfl))))))), by simp only; omega, by simp only; omega⟩
    by_cases e1 : c = 1
    · obtain ⟨x, hx, _⟩ := pick_ok 200 t (k := k + 1 + 1) (v := [-1, 3, 0]) (by omega) (by omega) (by simp) (by simp)
      exact ⟨_, _, obi hap (oif (decide_eq_false (by omega)) (obi hn (obi (idx_nat hnl) (obi hc (oif (decide_eq_false e0) (oit (decide_eq_true e1) (obi hx rfl))))))), by simp only; omega, by simp only; omega⟩
    by_cases e2 : c = 2
    · obtain ⟨x, hx, _⟩ := pick_ok 200 t (k := k + 1 + 1) (v := [-1, l[n].To, l[n].To + 1]) (by omega) (by omega) (by simp) (by simp)
      exact ⟨_, _, obi hap (oif (decide_eq_false (by omega)) (obi hn (obi (idx_nat hnl) (obi hc (oif (decide_eq_false e0) (oif (decide_eq_false e1) (oit (decide_eq_true e2) (obi (in64_ok (by omega)) (obi hx rfl))))))))), by simp only; omega, by simp only; omega⟩
    by_cases e3 : c = 3
    · obtain ⟨x, hx, _⟩ := pick_ok 200 t (k := k + 1 + 1) (v := [1000000000, 1000000001, l[n].From]) (by omega) (by omega) (by simp) (by simp)
      exact ⟨_, _, obi hap (oif (decide_eq_false (by omega)) (obi hn (obi (idx_nat hnl) (obi hc (oif (decide_eq_false e0) (oif (decide_eq_false e1) (oif (decide_eq_false e2) (oit (decide_eq_true e3) (obi hx rfl))))))))), by simp only; omega, by simp only; omega⟩
    · exact ⟨_, _, obi hap (oif (decide_eq_false (by omega)) (obi hn (obi (idx_nat hnl) (obi hc (oif (decide_eq_false e0) (oif (decide_eq_false e1) (oif (decide_eq_false e2) (oif (decide_eq_false e3) rfl)))))))), by simp only; omega, by simp only; omega⟩

theorem gD_T {α : Type} {g : Bool} {d : α} {m : Option α} {x : α} (hg : g = true) (h : m = some x) : gD g d m = some x := by subst hg; exact h
theorem gD_F {α : Type} {g : Bool} {d : α} {m : Option α} (hg : g = false) : gD g d m = some d := by subst hg; rfl

theorem exact_step (t : List Int) (th now i k : Int) (hi : 0 ≤ i) (hi4 : i < 4) (hk : 0 ≤ k) (hk2 : k ≤ 300 * i) : ∃ k', law31_DivertExact_l1 200 t th now i k = some (.inl (i + 1, k')) ∧ 0 ≤ k' ∧ k' ≤ 300 * (i + 1) := by
  obtain ⟨k1, a, b, hp, p0, p1, hm⟩ := pair_ok t hk (by omega)
  have hba : ∀ s ∈ a, 0 ≤ s.To ∧ s.To ≤ 1000000 := fun s hs => by
    obtain ⟨j, hj, rfl⟩ := List.getElem_of_mem hs
    have := hm.ha j hj; omega
  have hbb : ∀ s ∈ b, 0 ≤ s.To ∧ s.To ≤ 1000000 := fun s hs => by
    obtain ⟨j, hj, rfl⟩ := List.getElem_of_mem hs
    have := hm.hb j hj; omega
  have fin : ∀ (k2 : Int) (x y : List T_Span), k1 ≤ k2 → k2 ≤ k1 + 20 → ∃ k', (Option.bind (Maker_Pick 200 t k2 ([0, 800, 2500])) fun r825 =>
      Option.bind (Maker_Next 200 t r825.1 20000) fun r831 =>
      Option.bind (Maker_Next 200 t r831.1 9) fun r837 =>
      Option.bind (in64 (r837.2 - 1)) fun x843 =>
      Option.bind (law31_exact 200 x y r825.2 r831.2 x843) fun r846 =>
      Option.bind (gD (!(!r846)) (r837.1, default) (Maker_Next 200 t r837.1 7)) fun r858 =>
      Option.bind (gO (!(!r846)) (law31_exact 200 x y th now r858.2)) fun r864 =>
      bif ((!r846) || (!r864)) then (
      some (.inr (Sum.inl false))) else (
      Option.bind (in64 (i + 1)) fun x874 =>
      some (.inl (x874, r858.1)))) = (some (.inl (i + 1, k')) : Option ((Int × Int) ⊕ (Bool ⊕ Int))) ∧ 0 ≤ k' ∧ k' ≤ 300 * (i + 1) := fun k2 x y e1 e2 => by
    obtain ⟨u, hu, _⟩ := pick_ok 200 t (k := k2) (v := [0, 800, 2500]) (by omega) (by omega) (by simp) (by simp)
    obtain ⟨v, hv, _, _⟩ := next_ok 200 t (k := k2 + 1) (n := 20000) (by omega) (by omega) (by omega) (by omega)
    obtain ⟨w, hw, _, _⟩ := next_ok 200 t (k := k2 + 1 + 1) (n := 9) (by omega) (by omega) (by omega) (by omega)
    obtain ⟨z, hz, _, _⟩ := next_ok 200 t (k := k2 + 1 + 1 + 1) (n := 7) (by omega) (by omega) (by omega) (by omega)
    exact ⟨_, obi hu (obi hv (obi hw (obi (in64_ok (by simp only; omega)) (obi (exact_ok x y _ _ _) (obi (gD_T rfl hz) (obi (gO_T rfl (exact_ok x y _ _ _)) (oif rfl (obi (in64_ok (by omega)) rfl)))))))), by simp only; omega, by simp only; omega⟩
  have ha := hm.la
  have hb := hm.lb
  unfold law31_DivertExact_l1
  by_cases c2 : i = 2
  · obtain ⟨k2, x, hx, x0, x1⟩ := spoil_ok t (k := k1) (by omega) (by omega) a (by omega) hba
    obtain ⟨k', h, h0, h1⟩ := fin k2 x b (by omega) (by omega)
    exact ⟨k', oit (decide_eq_true hi4) (obi hp (oit (decide_eq_true c2) (obi hx (oif (decide_eq_false (by omega)) h)))), h0, h1⟩
  · by_cases c3 : i = 3
    · obtain ⟨k2, y, hy, y0, y1⟩ := spoil_ok t (k := k1) (by omega) (by omega) b (by omega) hbb
      obtain ⟨k', h, h0, h1⟩ := fin k2 a y (by omega) (by omega)
      exact ⟨k', oit (decide_eq_true hi4) (obi hp (oif (decide_eq_false c2) (oit (decide_eq_true c3) (obi hy h)))), h0, h1⟩
    · obtain ⟨k', h, h0, h1⟩ := fin k1 a b (by omega) (by omega)
      exact ⟨k', oit (decide_eq_true hi4) (obi hp (oif (decide_eq_false c2) (oif (decide_eq_false c3) h))), h0, h1⟩

theorem DivertExact_true (t : List Int) (a b : List T_Span) (th now : Int) : law31_DivertExact 200 t a b th now = some true := by
  obtain ⟨q, hq, k, rfl, k0, k1⟩ := iterN_run (f := fun s : Int × Int => law31_DivertExact_l1 200 t th now s.1 s.2) (I := fun s => (0 ≤ s.1 ∧ s.1 ≤ 4) ∧ 0 ≤ s.2 ∧ s.2 ≤ 300 * s.1) (Q := fun q => ∃ k, q = .inr k ∧ 0 ≤ k ∧ k ≤ 1200) (fun s => (4 - s.1).toNat) (by
    rintro ⟨i, k⟩ ⟨⟨i0, i1⟩, k0, k1⟩
    simp only at i0 i1 k0 k1
    by_cases h : i < 4
    · obtain ⟨k', hk, h0, h1⟩ := exact_step t th now i k i0 h k0 k1
      exact .inl ⟨_, hk, ⟨⟨by simp only; omega, by simp only; omega⟩, h0, h1⟩, by simp only; omega⟩
    · refine .inr ⟨_, ?_, k, rfl, k0, by omega⟩
      unfold law31_DivertExact_l1
      exact oif (decide_eq_false h) rfl) 200 (0, 0) ⟨⟨by simp, by simp⟩, by simp, by simp⟩ (by simp)
  unfold law31_DivertExact
  refine obi rfl (obi hq ?_)
  simp only
  cases hc : (decide (140 < (a.length : Int)) || decide (140 < (b.length : Int))) with
  | true => exact obi (gD_F rfl) (obi (gO_F rfl) (obi (gO_F rfl) (obi (gO_F rfl) rfl)))
  | false =>
    obtain ⟨w, hw, _, _⟩ := next_ok 200 t (k := k) (n := 9) (by omega) (by omega) (by omega) (by omega)
    exact obi (gD_T rfl hw) (obi (gO_T rfl (in64_ok (by simp only; omega))) (obi (gO_T rfl (exact_ok a b _ _ _)) (obi (gO_T rfl sane_ok) rfl)))
end Go.Gv
