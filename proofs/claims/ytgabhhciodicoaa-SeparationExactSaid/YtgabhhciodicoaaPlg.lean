/- Separation: the law Exact. -/
import Derived.Test.YtgabhhciodicoaaPlf
namespace Go.Gv

theorem spans_okN (N : Nat) (hN : 200 ≤ N) (t : List Int) {k : Int} (h0 : 0 ≤ k) (h1 : k ≤ 1000000) : ∃ k' l, yardgen_Spans N t k 6 = some (k', l) ∧ k ≤ k' ∧ k' ≤ k + 30 ∧ Cut l := by
  obtain ⟨t0, ht0, t1, t2⟩ := next_ok N t (k := k) (n := 4000) (by omega) (by omega) (by omega) (by omega)
  obtain ⟨q, hq, q1, q2, q3⟩ := iterN_run (f := fun s : Int × Int × Int × List T_Span => yardgen_Spans_l1 N t 6 s.1 s.2.1 s.2.2.1 s.2.2.2)
    (I := fun s => ∃ n : Nat, n ≤ 6 ∧ s.2.1 = (n : Int) + 1 ∧ (0 ≤ s.1 ∧ s.1 ≤ 4000 + 5000 * n) ∧ (k ≤ s.2.2.1 ∧ s.2.2.1 ≤ k + 1 + 4 * n) ∧ Cut s.2.2.2 ∧ s.2.2.2.length ≤ n ∧ ∀ (j : Nat) (h : j < s.2.2.2.length), s.2.2.2[j].Element ≤ n)
    (Q := fun q => k ≤ q.1 ∧ q.1 ≤ k + 30 ∧ Cut q.2) (fun s => (7 - s.2.1).toNat) (by
    rintro ⟨u, e, m, l⟩ ⟨n, hn, he, ⟨u0, u1⟩, ⟨m0, m1⟩, hc, hl, hel⟩
    simp only at he u0 u1 m0 m1 hc hl hel ⊢
    subst he
    unfold yardgen_Spans_l1
    by_cases h : n < 6
    · have hc0 : (decide ((n : Int) + 1 ≤ 6) && decide ((l.length : Int) < 6)) = true := band (decide_eq_true (by omega)) (decide_eq_true (by omega))
      obtain ⟨x, hx, x0, x1⟩ := next_ok N t (k := m) (n := 4) (by omega) (by omega) (by omega) (by omega)
      by_cases hz : x = 0
      · exact .inl ⟨(u, (n : Int) + 1 + 1, m + 1, l), oit hc0 (obi hx (oit (decide_eq_true hz) (obi (in64_ok (by omega)) rfl))), ⟨n + 1, h, by simp only; omega, ⟨u0, by simp only; omega⟩, ⟨by simp only; omega, by simp only; omega⟩, hc, by simp only; omega, fun j hj => by have := hel j hj; simp only; omega⟩, by simp only; omega⟩
      · obtain ⟨y, hy, ym⟩ := pick_ok N t (k := m + 1) (v := [0, 1, 2]) (by omega) (by omega) (by simp) (by simp)
        have hy2 : 0 ≤ y ∧ y ≤ 2 := by simp only [List.mem_cons, List.not_mem_nil, or_false] at ym; omega
        obtain ⟨v, hv, v0, v1⟩ := next_ok N t (k := m + 1 + 1) (n := 9000) (by omega) (by omega) (by omega) (by omega)
        obtain ⟨w, hw, w0, w1⟩ := next_ok N t (k := m + 1 + 1 + 1) (n := 5000) (by omega) (by omega) (by omega) (by omega)
        refine .inl ⟨(u + w, (n : Int) + 1 + 1, m + 1 + 1 + 1 + 1, l ++ [T_Span.mk ((n : Int) + 1) y u (u + 1 + v)]), oit hc0 (obi hx (oif (decide_eq_false hz) (obi hy (obi (in64_ok (by omega)) (obi hv (obi (in64_ok (by simp only; omega)) (obi (app_ok (by simp; omega) (by simp; omega)) (obi hw (obi (in64_ok (by simp only; omega)) (obi (in64_ok (by omega)) rfl)))))))))),
          ⟨n + 1, h, by simp only; omega, ⟨by simp only; omega, by simp only; omega⟩, ⟨by simp only; omega, by simp only; omega⟩, ⟨by simp; omega, ?_, ?_⟩, by simp; omega, ?_⟩, by simp only; omega⟩
        · exact snoc_all (P := fun (_ : Nat) (s : T_Span) => (1 ≤ s.Element ∧ s.Element ≤ 6 ∧ 0 ≤ s.Side ∧ s.Side ≤ 2) ∧ 0 ≤ s.From ∧ s.From < s.To ∧ s.To ≤ 100000) hc.at_ (by simp only; omega)
        · intro i j hi hj hij
          simp only [List.length_append, List.length_cons, List.length_nil] at hi hj
          by_cases ej : j < l.length
          · rw [List.getElem_append_left (by omega), List.getElem_append_left ej]
            exact hc.asc i j (by omega) ej hij
          · have : j = l.length := by omega
            subst this
            rw [List.getElem_append_left (by omega)]
            have := hel i (by omega)
            simp
            omega
        · exact snoc_all (P := fun (_ : Nat) (s : T_Span) => s.Element ≤ ((n + 1 : Nat) : Int)) (fun j hj => by have := hel j hj; omega) (by simp only; omega)
    · exact .inr ⟨_, oif (bandF (decide_eq_false (by omega))) rfl, by simp only; omega, by simp only; omega, hc⟩) N (t0, 1, k + 1, [])
    ⟨0, by omega, by simp, ⟨by simp only; omega, by simp only; omega⟩, ⟨by simp only; omega, by simp only; omega⟩, ⟨by simp, fun j h => by simp at h, fun i j h => by simp at h⟩, by simp, fun j h => by simp at h⟩ (by simp only; omega)
  refine ⟨q.1, q.2, ?_, q1, q2, q3⟩
  unfold yardgen_Spans
  exact obi ht0 (obi hq rfl)

theorem sides_okN (N : Nat) (hN : 200 ≤ N) (t : List Int) {k : Int} (h0 : 0 ≤ k) (h1 : k ≤ 1000000) {l : List T_Span} (hc : Cut l) : ∃ k' l', iterN (fun s : Int × Int × List T_Span => yardgen_SpanLists_l5 N t s.1 s.2.1 s.2.2) N (0, k, l) = some (k', l') ∧ k ≤ k' ∧ k' ≤ k + 6 ∧ Cut l' := by
  have hl := hc.len
  obtain ⟨q, hq, q1, q2, q3⟩ := iterN_run (f := fun s : Int × Int × List T_Span => yardgen_SpanLists_l5 N t s.1 s.2.1 s.2.2)
    (I := fun s => ∃ i : Nat, s.1 = i ∧ i ≤ l.length ∧ (k ≤ s.2.1 ∧ s.2.1 ≤ k + i) ∧ s.2.2.length = l.length ∧ Cut s.2.2)
    (Q := fun q => k ≤ q.1 ∧ q.1 ≤ k + 6 ∧ Cut q.2) (fun s => l.length - s.1.toNat) (by
    rintro ⟨i', m, b⟩ ⟨i, rfl, hi, ⟨m0, m1⟩, hb, hcb⟩
    simp only at m0 m1 hb hcb ⊢
    unfold yardgen_SpanLists_l5
    by_cases h : i < l.length
    · have hib : i < b.length := by omega
      have hx := idx_nat hib
      have hset : ∀ sd : Int, 0 ≤ sd → sd ≤ 2 → Cut (b.set i (T_Span.mk b[i].Element sd b[i].From b[i].To)) := fun sd s0 s2 => by
        refine ⟨by simp; omega, fun j hj => ?_, fun p j hp hj hpj => ?_⟩
        · rw [List.getElem_set]
          split
          · have := hcb.at_ i hib; simp only; omega
          · exact hcb.at_ j _
        · have q : ∀ (m : Nat) (hm : m < (b.set i (T_Span.mk b[i].Element sd b[i].From b[i].To)).length), ((b.set i (T_Span.mk b[i].Element sd b[i].From b[i].To))[m]).Element = (b[m]'(by simpa using hm)).Element := fun m hm => by
            rw [List.getElem_set]
            split
            · rename_i e; subst e; rfl
            · rfl
          rw [q p hp, q j hj]
          exact hcb.asc p j _ _ hpj
      have hx2 : idx (b.set i (T_Span.mk b[i].Element 0 b[i].From b[i].To)) (i : Int) = some (T_Span.mk b[i].Element 0 b[i].From b[i].To) := by rw [idx_nat (by simp; omega), List.getElem_set_self]
      by_cases he : Int.tmod b[i].Element 2 = 0
      · obtain ⟨y, hy, ym⟩ := pick_ok N t (k := m) (v := [1, 2]) (by omega) (by omega) (by simp) (by simp)
        have hy2 : 1 ≤ y ∧ y ≤ 2 := by simp only [List.mem_cons, List.not_mem_nil, or_false] at ym; omega
        refine .inl ⟨(((i + 1 : Nat) : Int), m + 1, b.set i (T_Span.mk b[i].Element y b[i].From b[i].To)), oit (decide_eq_true (by omega)) (obi hx (obi (x := T_Span.mk b[i].Element 0 b[i].From b[i].To) (by rw [Int.toNat_natCast]; exact hx2) (oit (decide_eq_true he) (obi hy (obi (x := T_Span.mk b[i].Element 0 b[i].From b[i].To) (by rw [Int.toNat_natCast]; exact hx2) (obi (inc_nat (by omega)) ?_)))))), ⟨i + 1, rfl, h, ⟨by simp only; omega, by simp only; omega⟩, by simp; omega, hset y (by omega) (by omega)⟩, by simp only; omega⟩
        rw [Int.toNat_natCast, List.set_set]
      · exact .inl ⟨(((i + 1 : Nat) : Int), m, b.set i (T_Span.mk b[i].Element 0 b[i].From b[i].To)), oit (decide_eq_true (by omega)) (obi hx (obi (x := T_Span.mk b[i].Element 0 b[i].From b[i].To) (by rw [Int.toNat_natCast]; exact hx2) (oif (decide_eq_false he) (obi (inc_nat (by omega)) (by rw [Int.toNat_natCast]))))), ⟨i + 1, rfl, h, ⟨by simp only; omega, by simp only; omega⟩, by simp; omega, hset 0 (by omega) (by omega)⟩, by simp only; omega⟩
    · exact .inr ⟨_, oif (decide_eq_false (by omega)) rfl, by simp only; omega, by simp only; omega, hcb⟩) N (0, k, l) ⟨0, rfl, Nat.zero_le _, ⟨by simp, by simp⟩, rfl, hc⟩ (by simp only; omega)
  exact ⟨q.1, q.2, hq, q1, q2, q3⟩

theorem lists_okN (N : Nat) (hN : 200 ≤ N) (t : List Int) {k0 : Int} (hk0 : 0 ≤ k0) (hk1 : k0 ≤ 100000) (n : Nat) (hn : n ≤ 10) : ∃ k l, yardgen_SpanLists N t k0 n = some (k, l) ∧ k0 ≤ k ∧ k ≤ k0 + 1000 ∧ l.length ≤ n ∧ ∀ a ∈ l, Cut a := by
  obtain ⟨m, hm, m0, m1⟩ := next_ok N t (k := k0) (n := (n : Int) + 1) (by omega) (by omega) (by omega) (by omega)
  obtain ⟨m, rfl⟩ : ∃ j : Nat, m = j := ⟨m.toNat, by omega⟩
  obtain ⟨q, hq, q1, q2, q3, q4⟩ := iterN_run (f := fun s : Int × Int × List (List T_Span) => yardgen_SpanLists_l4 N t s.1 s.2.1 s.2.2)
    (I := fun s => (0 ≤ s.1 ∧ s.1 + s.2.2.length = m) ∧ (k0 ≤ s.2.1 ∧ s.2.1 ≤ k0 + 1 + 40 * s.2.2.length) ∧ ∀ a ∈ s.2.2, Cut a)
    (Q := fun q => k0 ≤ q.1 ∧ q.1 ≤ k0 + 1000 ∧ q.2.length ≤ m ∧ ∀ a ∈ q.2, Cut a) (fun s => s.1.toNat) (by
    rintro ⟨c, k, l⟩ ⟨⟨c0, c1⟩, ⟨ka, kb⟩, hall⟩
    simp only at c0 c1 ka kb hall ⊢
    unfold yardgen_SpanLists_l4
    by_cases h : 0 < c
    · obtain ⟨k2, a, ha, a0, a1, hca⟩ := spans_okN N hN t (k := k) (by omega) (by omega)
      obtain ⟨k3, b, hb, b0, b1, hcb⟩ := sides_okN N hN t (k := k2) (by omega) (by omega) hca
      refine .inl ⟨(c - 1, k3, l ++ [b]), oit (decide_eq_true h) (obi ha (obi hb (obi (app_ok (by simp; omega) (by simp; omega)) (obi (in64_ok (by omega)) rfl)))), ⟨⟨by simp only; omega, by simp; omega⟩, ⟨by simp only; omega, by simp; omega⟩, fun x hx => ?_⟩, by simp only; omega⟩
      rcases List.mem_append.1 hx with hx | hx
      · exact hall x hx
      · have := List.mem_singleton.1 hx
        subst this; exact hcb
    · exact .inr ⟨_, oif (decide_eq_false h) rfl, ka, by simp only; omega, by simp only; omega, hall⟩) N ((m : Int), k0 + 1, []) ⟨⟨by simp, by simp⟩, ⟨by simp only; omega, by simp only; omega⟩, by simp⟩ (by simp only; omega)
  refine ⟨q.1, q.2, ?_, q1, q2, by omega, q4⟩
  unfold yardgen_SpanLists
  exact obi (in64_ok (by omega)) (obi hm (obi hq rfl))


theorem spoil_ok (N : Nat) (t : List Int) {k : Int} (hk : 0 ≤ k) (hk2 : k ≤ 100000) {a : List T_Span} (ha : Cut a) : ∃ k' b, yardgen_SpoilSpans N t k a = some (k', b) ∧ k ≤ k' ∧ k' ≤ k + 4 := by
  have hl := ha.len
  have happ : app 32 [] a = some a := app_ok (b := 32) (l := []) (r := a) (by simp; omega) (by simp; omega)
  unfold yardgen_SpoilSpans
  by_cases h0 : a.length = 0
  · obtain ⟨x, hx, _⟩ := pick_ok N t (k := k) (v := [5, 6]) (by omega) (by omega) (by simp) (by simp)
    exact ⟨k + 1, _, obi happ (oit (decide_eq_true (by omega)) (obi hx rfl)), by omega, by omega⟩
  · obtain ⟨x, hx, x0, x1⟩ := next_ok N t (k := k) (n := (a.length : Int)) (by omega) (by omega) (by omega) (by omega)
    obtain ⟨i, rfl⟩ : ∃ i : Nat, x = i := ⟨x.toNat, by omega⟩
    have hi : i < a.length := by omega
    obtain ⟨y, hy, y0, y1⟩ := next_ok N t (k := k + 1) (n := 6) (by omega) (by omega) (by omega) (by omega)
    have hto := ha.at_ i hi
    have ne : decide ((a.length : Int) = 0) = false := decide_eq_false (by omega)
    by_cases c0 : y = 0
    · obtain ⟨v, hv, _⟩ := pick_ok N t (k := k + 1 + 1) (v := [(-1), a[0].Element, 127, 128]) (by omega) (by omega) (by simp) (by simp)
      exact ⟨k + 1 + 1 + 1, _, obi happ (oif ne (obi hx (obi (idx_nat hi) (obi hy (oit (decide_eq_true c0) (obi (idx_nat (i := 0) (by omega)) (obi hv rfl))))))), by omega, by omega⟩
    by_cases c1 : y = 1
    · obtain ⟨v, hv, _⟩ := pick_ok N t (k := k + 1 + 1) (v := [(-1), 3, 0]) (by omega) (by omega) (by simp) (by simp)
      exact ⟨k + 1 + 1 + 1, _, obi happ (oif ne (obi hx (obi (idx_nat hi) (obi hy (oif (decide_eq_false c0) (oit (decide_eq_true c1) (obi hv rfl))))))), by omega, by omega⟩
    by_cases c2 : y = 2
    · obtain ⟨v, hv, _⟩ := pick_ok N t (k := k + 1 + 1) (v := [(-1), a[i].To, a[i].To + 1]) (by omega) (by omega) (by simp) (by simp)
      exact ⟨k + 1 + 1 + 1, _, obi happ (oif ne (obi hx (obi (idx_nat hi) (obi hy (oif (decide_eq_false c0) (oif (decide_eq_false c1) (oit (decide_eq_true c2) (obi (in64_ok (by omega)) (obi hv rfl))))))))), by omega, by omega⟩
    by_cases c3 : y = 3
    · obtain ⟨v, hv, _⟩ := pick_ok N t (k := k + 1 + 1) (v := [1000000000, 1000000001, a[i].From]) (by omega) (by omega) (by simp) (by simp)
      exact ⟨k + 1 + 1 + 1, _, obi happ (oif ne (obi hx (obi (idx_nat hi) (obi hy (oif (decide_eq_false c0) (oif (decide_eq_false c1) (oif (decide_eq_false c2) (oit (decide_eq_true c3) (obi hv rfl))))))))), by omega, by omega⟩
    · exact ⟨k + 1 + 1, a, obi happ (oif ne (obi hx (obi (idx_nat hi) (obi hy (oif (decide_eq_false c0) (oif (decide_eq_false c1) (oif (decide_eq_false c2) (oif (decide_eq_false c3) rfl)))))))), by omega, by omega⟩

theorem sane_any (N : Nat) (hN : 200 ≤ N) : law23_sane N = some true := by
  have k1 : separation_Gap 200 [T_Span.mk 0 0 0 5000] [T_Span.mk 0 0 1000 6000] 800 = some (4000, 0) := by decide +kernel
  have k2 : separation_Gap 200 [T_Span.mk 0 1 0 5000] [T_Span.mk 0 2 1000 6000] 800 = some (4800, 0) := by decide +kernel
  have k3 : separation_Releases 200 [[T_Span.mk 0 1 0 5000], [T_Span.mk 0 2 1000 6000], [T_Span.mk 0 1 0 5000]] 800 = some ([0, 4800, 11600], 0) := by decide +kernel
  have k4 : separation_Critical 200 [[T_Span.mk 0 1 0 5000], [T_Span.mk 0 2 1000 6000], [T_Span.mk 0 1 0 5000]] 800 (2 : Nat) = some ([0, 1, 2], 0) := by decide +kernel
  have g1 := (gap_all N hN [T_Span.mk 0 0 0 5000] [T_Span.mk 0 0 1000 6000] 800).1
  rw [← (gap_all 200 (Nat.le_refl _) [T_Span.mk 0 0 0 5000] [T_Span.mk 0 0 1000 6000] 800).1, k1] at g1
  have g2 := (gap_all N hN [T_Span.mk 0 1 0 5000] [T_Span.mk 0 2 1000 6000] 800).1
  rw [← (gap_all 200 (Nat.le_refl _) [T_Span.mk 0 1 0 5000] [T_Span.mk 0 2 1000 6000] 800).1, k2] at g2
  rcases rel_all 200 (Nat.le_refl _) [[T_Span.mk 0 1 0 5000], [T_Span.mk 0 2 1000 6000], [T_Span.mk 0 1 0 5000]] 800 with ⟨R, o, _, h1, _⟩ | ⟨_, e, he, _, h1, _⟩
  · rw [k3] at h1
    obtain rfl : R = [0, 4800, 11600] := by
      have := congrArg Prod.fst (Option.some.inj h1)
      exact this.symm
    have g3 : separation_Releases N [[T_Span.mk 0 1 0 5000], [T_Span.mk 0 2 1000 6000], [T_Span.mk 0 1 0 5000]] 800 = some ([0, 4800, 11600], 0) := by
      rcases rel_all N hN [[T_Span.mk 0 1 0 5000], [T_Span.mk 0 2 1000 6000], [T_Span.mk 0 1 0 5000]] 800 with ⟨R', o', _, h1', _⟩ | ⟨hn, _⟩
      · rw [h1', Option.some.inj (o'.tm.symm.trans o.tm)]
      · exact absurd ⟨_, o⟩ hn
    obtain ⟨q, hq⟩ := crit_ok o (n := 2) (by simp)
    have g4 := (hq N hN).1
    have g4' := (hq 200 (Nat.le_refl _)).1
    rw [k4] at g4'
    rw [← Option.some.inj g4'] at g4
    unfold law23_sane
    exact obi g1 (obi (x := T_Span.mk 0 0 0 5000) rfl (obi (x := T_Span.mk 0 0 1000 6000) rfl (obi g2 (obi g3 (obi g4 (oit rfl (obi (ints_refl N hN [0, 4800, 11600] (by simp)) (oit rfl (obi (ints_refl N hN [0, 1, 2] (by simp)) rfl)))))))))
  · rw [k3] at h1
    have := congrArg Prod.snd (Option.some.inj h1)
    exact absurd this.symm he

theorem l4_loop (N : Nat) (hN : 200 ≤ N) (t : List Int) {k : Int} (hk : 0 ≤ k) (hk2 : k ≤ 100000) {q : List Int} (hq : q.length ≤ 100) (hb : ∀ x ∈ q, 0 ≤ x ∧ x ≤ 1000000000) : ∃ k' q', iterN (fun s : Int × Int × List Int => law23_SeparationExact_l4 N t s.1 s.2.1 s.2.2) N (0, k, q) = some (k', q') ∧ k ≤ k' ∧ k' ≤ k + 100 ∧ q'.length = q.length := by
  obtain ⟨r, hr, r1, r2, r3⟩ := iterN_run (f := fun s : Int × Int × List Int => law23_SeparationExact_l4 N t s.1 s.2.1 s.2.2)
    (I := fun s => ∃ i : Nat, s.1 = i ∧ i ≤ q.length ∧ (k ≤ s.2.1 ∧ s.2.1 ≤ k + i) ∧ s.2.2.length = q.length ∧ ∀ j, i ≤ j → s.2.2.getD j 0 = q.getD j 0)
    (Q := fun r => k ≤ r.1 ∧ r.1 ≤ k + 100 ∧ r.2.length = q.length) (fun s => q.length - s.1.toNat) (by
    rintro ⟨i', m, p⟩ ⟨i, rfl, hi, ⟨m0, m1⟩, hp, hall⟩
    simp only at m0 m1 hp hall ⊢
    unfold law23_SeparationExact_l4
    by_cases h : i < q.length
    · obtain ⟨v, hv, hvm⟩ := pick_ok N t (k := m) (v := [0, 0, 0, 5, (-1)]) (by omega) (by omega) (by simp) (by simp)
      have hvb : -1 ≤ v ∧ v ≤ 5 := by simp at hvm; omega
      have hpi := hall i (Nat.le_refl _)
      have hqi := hb _ (getD_mem (i := i) (d := 0) h)
      have hmul : -100 ≤ v * (i : Int) ∧ v * (i : Int) ≤ 500 := by
        have : v = 0 ∨ v = 5 ∨ v = -1 := by simp at hvm; omega
        rcases this with rfl | rfl | rfl <;> omega
      refine .inl ⟨(((i + 1 : Nat) : Int), m + 1, p.set i (p.getD i 0 + v * (i : Int))), oit (decide_eq_true (by omega)) (obi (idx_getD 0 (by omega)) (obi hv (obi (in64_ok (by simp only; omega)) (obi (in64_ok (by simp only; omega)) (obi (idx_getD 0 (by omega)) (obi (inc_nat (by omega)) (by simp only [Int.toNat_natCast]))))))), ⟨i + 1, rfl, h, ⟨by simp only; omega, by simp only; omega⟩, by simpa using hp, fun j hj => ?_⟩, by simp only; omega⟩
      simp only
      rw [List.getD_eq_getElem?_getD, List.getElem?_set, if_neg (by omega), ← List.getD_eq_getElem?_getD]
      exact hall j (by omega)
    · exact .inr ⟨(m, p), oif (decide_eq_false (by omega)) rfl, by simp only; omega, by simp only; omega, hp⟩) N (0, k, q) ⟨0, rfl, Nat.zero_le _, ⟨by simp, by simp⟩, rfl, fun _ _ => rfl⟩ (by simp only; omega)
  exact ⟨r.1, r.2, hr, r1, r2, r3⟩
theorem sx_step (N : Nat) (hN : 200 ≤ N) (t : List Int) (th kk : Int) (q : List Int) (hq : q.length < N) (hq2 : q.length ≤ 17592186044416) (i : Nat) (hi : i < 3) {k : Int} (hk : 0 ≤ k) (hk2 : k ≤ 2000 * i) : ∃ k', law23_SeparationExact_l3 N t th kk q i k = some (.inl (((i + 1 : Nat) : Int), k')) ∧ 0 ≤ k' ∧ k' ≤ 2000 * (i + 1) := by
  obtain ⟨k1, x, hx, k10, k11, hxl, hcut⟩ := lists_okN N hN t hk (by omega) 7 (by omega)
  obtain ⟨j, hj, j0, j1, jl⟩ : ∃ j : Int × List (List T_Span), (bif (decide ((i : Int) = 2) && decide (0 < (List.length x : Int))) then (
 Option.bind (idx x 0) fun x943 =>
 Option.bind (Maker_Next N t k1 (List.length x : Int)) fun r948 =>
 Option.bind (yardgen_SpoilSpans N t r948.1 x943) fun r954 =>
 Option.bind (idx x r948.2) fun _ =>
 some (r954.1, (List.set x (Int.toNat r948.2) r954.2))) else (
 some (k1, x))) = some j ∧ k1 ≤ j.1 ∧ j.1 ≤ k1 + 5 ∧ j.2.length ≤ 7 := by
    by_cases hc : (i : Int) = 2 ∧ 0 < (x.length : Int)
    · obtain ⟨y, hy, y0, y1⟩ := next_ok N t (k := k1) (n := (x.length : Int)) (by omega) (by omega) (by omega) (by omega)
      obtain ⟨y, rfl⟩ : ∃ m : Nat, y = m := ⟨y.toNat, by omega⟩
      obtain ⟨k2, b, hb, k20, k21⟩ := spoil_ok N t (k := k1 + 1) (by omega) (by omega) (hcut _ (List.getElem_mem (show 0 < x.length by omega)))
      exact ⟨(k2, _), oit (band (decide_eq_true hc.1) (decide_eq_true hc.2)) (obi (idx_nat (i := 0) (by omega)) (obi hy (obi hb (obi (idx_nat (by omega)) rfl)))), by simp only; omega, by simp only; omega, by simp; omega⟩
    · refine ⟨(k1, x), oif ?_ rfl, by simp only; omega, by simp only; omega, hxl⟩
      rw [Bool.eq_false_iff]
      simp only [ne_eq, Bool.and_eq_true, decide_eq_true_eq]
      exact hc
  obtain ⟨r, hr, hrl, hrb⟩ : ∃ r : List Int × Int, r23_Releases N j.2 800 = some r ∧ r.1.length ≤ 100 ∧ ∀ v ∈ r.1, 0 ≤ v ∧ v ≤ 1000000000 := by
    rcases rel_all N hN j.2 800 with ⟨R, o, _, _, h⟩ | ⟨_, e, _, _, _, h⟩
    · have h1 := tm_len o.tm
      have h2 := o.snd.len
      exact ⟨(R, 0), h, by simp only; omega, (tm_range o.snd (Nat.le_refl _) o.tm).1⟩
    · exact ⟨([], e), h, by simp, by simp⟩
  obtain ⟨k3, q', hl4, k30, k31, hql⟩ := l4_loop N hN t (k := j.1) (by omega) (by omega) hrl hrb
  obtain ⟨v, hv, _⟩ := pick_ok N t (k := k3) (v := [0, 800, 800, 1000000000, (-1), 1000000001]) (by omega) (by omega) (by simp) (by simp)
  obtain ⟨w, hw, w0, w1⟩ := next_ok N t (k := k3 + 1) (n := (j.2.length : Int) + 2) (by omega) (by omega) (by omega) (by omega)
  have e1 := exact_ok2 N hN j.2 (by omega) v (w - 1) q' (by omega) (by omega)
  have e2 := exact_ok2 N hN j.2 (by omega) th kk q hq hq2
  refine ⟨k3 + 1 + 1, ?_, by omega, by omega⟩
  unfold law23_SeparationExact_l3
  exact oit (decide_eq_true (by omega)) (obi hx (obi hj (obi hr (obi hl4 (obi hv (obi (in64_ok (by omega)) (obi hw (obi (in64_ok (by simp only; omega)) (obi e1 (obi (gO_T rfl e2) (oif rfl (obi (inc_nat (by omega)) rfl))))))))))))
theorem SeparationExact_all (N : Nat) (hN : 200 ≤ N) (t : List Int) (l : List (List T_Span)) (th k : Int) (q : List Int) (hq : q.length < N) (hq2 : q.length ≤ 17592186044416) : law23_SeparationExact N t l th k q = some true := by
  obtain ⟨r, hr, hQ⟩ := iterN_run (f := fun s : Int × Int => law23_SeparationExact_l3 N t th k q s.1 s.2)
    (I := fun s => ∃ i : Nat, s.1 = i ∧ i ≤ 3 ∧ 0 ≤ s.2 ∧ s.2 ≤ 2000 * i) (Q := fun r => r = .inr ()) (fun s => 3 - s.1.toNat) (by
    rintro ⟨i', m⟩ ⟨i, rfl, hi, hk, hk2⟩
    simp only at hk hk2 ⊢
    by_cases hc : i < 3
    · obtain ⟨k', h1, h2, h3⟩ := sx_step N hN t th k q hq hq2 i hc hk hk2
      exact .inl ⟨_, h1, ⟨i + 1, rfl, hc, h2, by simp only; omega⟩, by simp only; omega⟩
    · obtain rfl : i = 3 := by omega
      exact .inr ⟨.inr (), by unfold law23_SeparationExact_l3; exact oif (decide_eq_false (by omega)) rfl, rfl⟩) N (0, 0) ⟨0, rfl, by omega, by simp, by simp⟩ (by simp; omega)
  subst hQ
  have hs := sane_any N hN
  unfold law23_SeparationExact
  refine obi (x := 0) rfl (obi hr ?_)
  by_cases h110 : 110 < l.length
  · exact oit (decide_eq_true (by omega)) (obi hs rfl)
  · refine oif (decide_eq_false (by omega)) ?_
    rcases first_anyP l.length (fun i => 20 < (l.getD i []).length) (fun _ => true) (fun s => law23_SeparationExact_l5 N l s) (fun i hi => by
      unfold law23_SeparationExact_l5
      by_cases h : 20 < (l.getD i []).length
      · exact .inl ⟨h, oit (decide_eq_true (by omega)) (obi (idx_getD [] hi) (oit (decide_eq_true (by omega)) (obi hs rfl)))⟩
      · exact .inr ⟨h, oit (decide_eq_true (by omega)) (obi (idx_getD [] hi) (oif (decide_eq_false (by omega)) (obi (inc_nat (by omega)) rfl)))⟩) (by
      unfold law23_SeparationExact_l5
      exact oif (decide_eq_false (by omega)) rfl) N (by omega) with ⟨i, e, _⟩ | ⟨e, _⟩
    · exact obi e rfl
    · exact obi e (obi (exact_ok2 N hN l (by omega) th k q hq hq2) (obi (gO_T rfl hs) rfl))
theorem SeparationExact_sized (t : List Int) (l : List (List T_Span)) (th k : Int) (q : List Int) (_ : t.length ≤ 17592186044416) (hq : q.length ≤ 17592186044416) : law23_SeparationExact (q.length + 200) t l th k q = some true := SeparationExact_all (q.length + 200) (by omega) t l th k q (by omega) hq
end Go.Gv
