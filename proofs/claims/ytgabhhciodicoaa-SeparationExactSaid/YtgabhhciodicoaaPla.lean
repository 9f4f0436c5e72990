/- Separation: made lists of spans; the laws. -/
import Derived.Test.YtgabhhciodicoaaPh
namespace Go.Gv

theorem snoc_all {α : Type} {l : List α} {x : α} {P : Nat → α → Prop} (h : ∀ (j : Nat) (h : j < l.length), P j l[j]) (hx : P l.length x) : ∀ (j : Nat) (h : j < (l ++ [x]).length), P j (l ++ [x])[j] := fun j hj => by
  by_cases e : j < l.length
  · rw [List.getElem_append_left e]; exact h j e
  · have : j = l.length := by simp at hj; omega
    subst this
    simpa using hx

/-- Spans of one cut: the elements ascend from 1 on. -/
structure Cut (l : List T_Span) : Prop where
  len : l.length ≤ 6
  at_ : ∀ (j : Nat) (h : j < l.length), (1 ≤ l[j].Element ∧ l[j].Element ≤ 6 ∧ 0 ≤ l[j].Side ∧ l[j].Side ≤ 2) ∧ 0 ≤ l[j].From ∧ l[j].From < l[j].To ∧ l[j].To ≤ 100000
  asc : ∀ (i j : Nat) (hi : i < l.length) (hj : j < l.length), i < j → l[i].Element < l[j].Element
theorem Cut.good {l : List T_Span} (c : Cut l) : Good l :=
  ⟨by have := c.len; omega, fun i h => decide_eq_true (by have := c.at_ i h; omega), fun i j hi hj e => by
    rcases Nat.lt_trichotomy i j with h | h | h
    · have := c.asc i j hi hj h; omega
    · exact h
    · have := c.asc j i hj hi h; omega⟩
theorem Cut.to {l : List T_Span} (c : Cut l) : ∀ s ∈ l, s.To ≤ 100000 := fun s hs => by
  obtain ⟨j, hj, rfl⟩ := List.getElem_of_mem hs
  have := c.at_ j hj; omega

theorem spans_ok (t : List Int) {k : Int} (h0 : 0 ≤ k) (h1 : k ≤ 1000000) : ∃ k' l, yardgen_Spans 200 t k 6 = some (k', l) ∧ k ≤ k' ∧ k' ≤ k + 30 ∧ Cut l := by
  obtain ⟨t0, ht0, t1, t2⟩ := next_ok 200 t (k := k) (n := 4000) (by omega) (by omega) (by omega) (by omega)
  obtain ⟨q, hq, q1, q2, q3⟩ := iterN_run (f := fun s : Int × Int × Int × List T_Span => yardgen_Spans_l1 200 t 6 s.1 s.2.1 s.2.2.1 s.2.2.2)
    (I := fun s => ∃ n : Nat, n ≤ 6 ∧ s.2.1 = (n : Int) + 1 ∧ (0 ≤ s.1 ∧ s.1 ≤ 4000 + 5000 * n) ∧ (k ≤ s.2.2.1 ∧ s.2.2.1 ≤ k + 1 + 4 * n) ∧ Cut s.2.2.2 ∧ s.2.2.2.length ≤ n ∧ ∀ (j : Nat) (h : j < s.2.2.2.length), s.2.2.2[j].Element ≤ n)
    (Q := fun q => k ≤ q.1 ∧ q.1 ≤ k + 30 ∧ Cut q.2) (fun s => (7 - s.2.1).toNat) (by
    rintro ⟨u, e, m, l⟩ ⟨n, hn, he, ⟨u0, u1⟩, ⟨m0, m1⟩, hc, hl, hel⟩
    simp only at he u0 u1 m0 m1 hc hl hel ⊢
    subst he
    unfold yardgen_Spans_l1
    by_cases h : n < 6
    · have hc0 : (decide ((n : Int) + 1 ≤ 6) && decide ((l.length : Int) < 6)) = true := band (decide_eq_true (by omega)) (decide_eq_true (by omega))
      obtain ⟨x, hx, x0, x1⟩ := next_ok 200 t (k := m) (n := 4) (by omega) (by omega) (by omega) (by omega)
      by_cases hz : x = 0
      · exact .inl ⟨(u, (n : Int) + 1 + 1, m + 1, l), oit hc0 (obi hx (oit (decide_eq_true hz) (obi (in64_ok (by omega)) rfl))), ⟨n + 1, h, by simp only; omega, ⟨u0, by simp only; omega⟩, ⟨by simp only; omega, by simp only; omega⟩, hc, by simp only; omega, fun j hj => by have := hel j hj; simp only; omega⟩, by simp only; omega⟩
      · obtain ⟨y, hy, ym⟩ := pick_ok 200 t (k := m + 1) (v := [0, 1, 2]) (by omega) (by omega) (by simp) (by simp)
        have hy2 : 0 ≤ y ∧ y ≤ 2 := by simp only [List.mem_cons, List.not_mem_nil, or_false] at ym; omega
        obtain ⟨v, hv, v0, v1⟩ := next_ok 200 t (k := m + 1 + 1) (n := 9000) (by omega) (by omega) (by omega) (by omega)
        obtain ⟨w, hw, w0, w1⟩ := next_ok 200 t (k := m + 1 + 1 + 1) (n := 5000) (by omega) (by omega) (by omega) (by omega)
        refine .inl ⟨(u + w, (n : Int) + 1 + 1, m + 1 + 1 + 1 + 1, l ++ [T_Span.mk ((n : Int) + 1) y u (u + 1 + v)]), oit hc0 (obi hx (oif (decide_eq_false hz) (obi hy (obi (in64_ok (by omega)) (obi hv (obi (in64_ok (by simp only; omega)) (obi (app_ok (by simp; omega) (by simp; omega)) (obi hw (obi (in64_ok (by simp only; omega)) (obi (in64_ok (by omega)) rfl)))))))))),
          ⟨n + 1, h, by simp only; omega, ⟨by simp only; omega, by simp only; omega⟩, ⟨by simp only; omega, by simp only; omega⟩, ⟨by simp; omega, ?_, ?_⟩, by simp; omega, ?_⟩, by simp only; omega⟩
        · exact snoc_all (P := fun (_ : Nat) (s : T_Span) => (1 ≤ s.Element ∧ s.Element ≤ 6 ∧ 0 ≤ s.Side ∧ s.Side ≤ 2) ∧ 0 ≤ s.From ∧ s.From < s.To ∧ s.To ≤ 100000) hc.at_ (by simp only; omega)
        · intro i j hi hj hij
          simp only [List.length_append, List.length_cons, List.length_nil] at hi hj
          by_cases ej : j < l.length
          · rw [List.getElem_append_left (by omega), List.getElem_append_left ej]
            exact hc.asc i j (by omega) ej hij
          · have : j = l.length := by omega
            subst this
            rw [List.getElem_append_left (by omega)]
            have := hel i (by omega)
            simp
            omega
        · exact snoc_all (P := fun (_ : Nat) (s : T_Span) => s.Element ≤ ((n + 1 : Nat) : Int)) (fun j hj => by have := hel j hj; omega) (by simp only; omega)
    · exact .inr ⟨_, oif (bandF (decide_eq_false (by omega))) rfl, by simp only; omega, by simp only; omega, hc⟩) 200 (t0, 1, k + 1, [])
    ⟨0, by omega, by simp, ⟨by simp only; omega, by simp only; omega⟩, ⟨by simp only; omega, by simp only; omega⟩, ⟨by simp, fun j h => by simp at h, fun i j h => by simp at h⟩, by simp, fun j h => by simp at h⟩ (by simp only; omega)
  refine ⟨q.1, q.2, ?_, q1, q2, q3⟩
  unfold yardgen_Spans
  exact obi ht0 (obi hq rfl)

theorem sides_ok (t : List Int) {k : Int} (h0 : 0 ≤ k) (h1 : k ≤ 1000000) {l : List T_Span} (hc : Cut l) : ∃ k' l', iterN (fun s : Int × Int × List T_Span => yardgen_SpanLists_l5 200 t s.1 s.2.1 s.2.2) 200 (0, k, l) = some (k', l') ∧ k ≤ k' ∧ k' ≤ k + 6 ∧ Cut l' := by
  have hl := hc.len
  obtain ⟨q, hq, q1, q2, q3⟩ := iterN_run (f := fun s : Int × Int × List T_Span => yardgen_SpanLists_l5 200 t s.1 s.2.1 s.2.2)
    (I := fun s => ∃ i : Nat, s.1 = i ∧ i ≤ l.length ∧ (k ≤ s.2.1 ∧ s.2.1 ≤ k + i) ∧ s.2.2.length = l.length ∧ Cut s.2.2)
    (Q := fun q => k ≤ q.1 ∧ q.1 ≤ k + 6 ∧ Cut q.2) (fun s => l.length - s.1.toNat) (by
    rintro ⟨i', m, b⟩ ⟨i, rfl, hi, ⟨m0, m1⟩, hb, hcb⟩
    simp only at m0 m1 hb hcb ⊢
    unfold yardgen_SpanLists_l5
    by_cases h : i < l.length
    · have hib : i < b.length := by omega
      have hx := idx_nat hib
      have hset : ∀ sd : Int, 0 ≤ sd → sd ≤ 2 → Cut (b.set i (T_Span.mk b[i].Element sd b[i].From b[i].To)) := fun sd s0 s2 => by
        refine ⟨by simp; omega, fun j hj => ?_, fun p j hp hj hpj => ?_⟩
        · rw [List.getElem_set]
          split
          · have := hcb.at_ i hib; simp only; omega
          · exact hcb.at_ j _
        · have q : ∀ (m : Nat) (hm : m < (b.set i (T_Span.mk b[i].Element sd b[i].From b[i].To)).length), ((b.set i (T_Span.mk b[i].Element sd b[i].From b[i].To))[m]).Element = (b[m]'(by simpa using hm)).Element := fun m hm => by
            rw [List.getElem_set]
            split
            · rename_i e; subst e; rfl
            · rfl
          rw [q p hp, q j hj]
          exact hcb.asc p j _ _ hpj
      have hx2 : idx (b.set i (T_Span.mk b[i].Element 0 b[i].From b[i].To)) (i : Int) = some (T_Span.mk b[i].Element 0 b[i].From b[i].To) := by rw [idx_nat (by simp; omega), List.getElem_set_self]
      by_cases he : Int.tmod b[i].Element 2 = 0
      · obtain ⟨y, hy, ym⟩ := pick_ok 200 t (k := m) (v := [1, 2]) (by omega) (by omega) (by simp) (by simp)
        have hy2 : 1 ≤ y ∧ y ≤ 2 := by simp only [List.mem_cons, List.not_mem_nil, or_false] at ym; omega
        refine .inl ⟨(((i + 1 : Nat) : Int), m + 1, b.set i (T_Span.mk b[i].Element y b[i].From b[i].To)), oit (decide_eq_true (by omega)) (obi hx (obi (x := T_Span.mk b[i].Element 0 b[i].From b[i].To) (by rw [Int.toNat_natCast]; exact hx2) (oit (decide_eq_true he) (obi hy (obi (x := T_Span.mk b[i].Element 0 b[i].From b[i].To) (by rw [Int.toNat_natCast]; exact hx2) (obi (inc_nat (by omega)) ?_)))))), ⟨i + 1, rfl, h, ⟨by simp only; omega, by simp only; omega⟩, by simp; omega, hset y (by omega) (by omega)⟩, by simp only; omega⟩
        rw [Int.toNat_natCast, List.set_set]
      · exact .inl ⟨(((i + 1 : Nat) : Int), m, b.set i (T_Span.mk b[i].Element 0 b[i].From b[i].To)), oit (decide_eq_true (by omega)) (obi hx (obi (x := T_Span.mk b[i].Element 0 b[i].From b[i].To) (by rw [Int.toNat_natCast]; exact hx2) (oif (decide_eq_false he) (obi (inc_nat (by omega)) (by rw [Int.toNat_natCast]))))), ⟨i + 1, rfl, h, ⟨by simp only; omega, by simp only; omega⟩, by simp; omega, hset 0 (by omega) (by omega)⟩, by simp only; omega⟩
    · exact .inr ⟨_, oif (decide_eq_false (by omega)) rfl, by simp only; omega, by simp only; omega, hcb⟩) 200 (0, k, l) ⟨0, rfl, Nat.zero_le _, ⟨by simp, by simp⟩, rfl, hc⟩ (by simp only; omega)
  exact ⟨q.1, q.2, hq, q1, q2, q3⟩

theorem lists_ok (t : List Int) (n : Nat) (hn : n ≤ 10) : ∃ k l, yardgen_SpanLists 200 t 0 n = some (k, l) ∧ 0 ≤ k ∧ k ≤ 1000 ∧ l.length ≤ n ∧ Fine l := by
  obtain ⟨m, hm, m0, m1⟩ := next_ok 200 t (k := 0) (n := (n : Int) + 1) (by omega) (by omega) (by omega) (by omega)
  obtain ⟨m, rfl⟩ : ∃ j : Nat, m = j := ⟨m.toNat, by omega⟩
  obtain ⟨q, hq, q1, q2, q3, q4⟩ := iterN_run (f := fun s : Int × Int × List (List T_Span) => yardgen_SpanLists_l4 200 t s.1 s.2.1 s.2.2)
    (I := fun s => (0 ≤ s.1 ∧ s.1 + s.2.2.length = m) ∧ (0 ≤ s.2.1 ∧ s.2.1 ≤ 1 + 40 * s.2.2.length) ∧ ∀ a ∈ s.2.2, Cut a)
    (Q := fun q => 0 ≤ q.1 ∧ q.1 ≤ 1000 ∧ q.2.length ≤ m ∧ ∀ a ∈ q.2, Cut a) (fun s => s.1.toNat) (by
    rintro ⟨c, k, l⟩ ⟨⟨c0, c1⟩, ⟨k0, k1⟩, hall⟩
    simp only at c0 c1 k0 k1 hall ⊢
    unfold yardgen_SpanLists_l4
    by_cases h : 0 < c
    · obtain ⟨k2, a, ha, a0, a1, hca⟩ := spans_ok t k0 (by omega)
      obtain ⟨k3, b, hb, b0, b1, hcb⟩ := sides_ok t (k := k2) (by omega) (by omega) hca
      refine .inl ⟨(c - 1, k3, l ++ [b]), oit (decide_eq_true h) (obi ha (obi hb (obi (app_ok (by simp; omega) (by simp; omega)) (obi (in64_ok (by omega)) rfl)))), ⟨⟨by simp only; omega, by simp; omega⟩, ⟨by simp only; omega, by simp; omega⟩, fun x hx => ?_⟩, by simp only; omega⟩
      rcases List.mem_append.1 hx with hx | hx
      · exact hall x hx
      · have := List.mem_singleton.1 hx
        subst this; exact hcb
    · exact .inr ⟨_, oif (decide_eq_false h) rfl, k0, by simp only; omega, by simp only; omega, hall⟩) 200 ((m : Int), 0 + 1, []) ⟨⟨by simp, by simp⟩, ⟨by simp, by simp⟩, by simp⟩ (by simp only; omega)
  refine ⟨q.1, q.2, ?_, q1, q2, by omega, ⟨by omega, fun a ha => (q4 a ha).good, fun a ha => (q4 a ha).to⟩⟩
  unfold yardgen_SpanLists
  exact obi (in64_ok (by omega)) (obi hm (obi hq rfl))

theorem thr3 {x : Int} (h : x ∈ [0, 800, 2500]) : 0 ≤ x ∧ x ≤ 2500 := by
  simp only [List.mem_cons, List.not_mem_nil, or_false] at h; omega
theorem sane_ok : law23_sane 200 = some true := by decide +kernel

/-! SeparationGaps -/
theorem SeparationGaps_true (t : List Int) (th0 : Int) : law23_SeparationGaps 200 t th0 = some true := by
  obtain ⟨th, hth, t0, t1⟩ := place_ok 200 th0 (n := 3000) (by omega) (by omega)
  obtain ⟨k1, a, ha, a0, a1, ca⟩ := spans_ok t (k := 0) (by omega) (by omega)
  obtain ⟨k2, b, hb, b0, b1, cb⟩ := spans_ok t (k := k1) (by omega) (by omega)
  have ga := ca.good
  have gb := cb.good
  have hla := ca.len
  have hlb := cb.len
  have hns : ¬ Slow a b := by
    rintro ⟨s, hs, _, _, _, e⟩
    have := ca.to s hs; omega
  obtain ⟨_, hg⟩ := fgap ga gb hns (th := th) (by omega) (by omega)
  have hG := sGap_eq ga gb hns (th := th) (by omega) (by omega)
  obtain ⟨d, hd⟩ : ∃ d, d = gv a b th := ⟨_, rfl⟩
  rw [← hd] at hg hG
  have hdp := hg.pos
  have hdl : d ≤ 103000 := by
    rcases hg.one with e | ⟨s, hs, u, hu, e, e2⟩
    · omega
    · have := ca.to s hs
      have := ready_le s u t0
      have := gb.mem hu
      omega
  -- what is seen up to a place
  have inner : ∀ (i : Nat) (hi : i < a.length) (bo : Bool), ∃ bo', iterN (fun s : Bool × Int => law23_SeparationGaps_l4 200 th (k1, a) (k2, b) (d, 0) (i : Int) s.1 s.2) 200 (bo, 0) = some (.inr bo') ∧ (bo' = true ↔ bo = true ∨ ∃ u ∈ b, a[i].Element = u.Element ∧ ready a[i] u th - u.From = d) := fun i hi bo => by
    have hai := ca.at_ i hi
    obtain ⟨q, hq, bo', rfl, hbo⟩ := iterN_run (f := fun s : Bool × Int => law23_SeparationGaps_l4 200 th (k1, a) (k2, b) (d, 0) (i : Int) s.1 s.2)
      (I := fun s => ∃ j : Nat, s.2 = j ∧ j ≤ b.length ∧ (s.1 = true ↔ bo = true ∨ ∃ u ∈ b.take j, a[i].Element = u.Element ∧ ready a[i] u th - u.From = d))
      (Q := fun q => ∃ bo', q = .inr bo' ∧ (bo' = true ↔ bo = true ∨ ∃ u ∈ b, a[i].Element = u.Element ∧ ready a[i] u th - u.From = d)) (fun s => b.length - s.2.toNat) (by
      rintro ⟨bx, j'⟩ ⟨j, rfl, hj, hbx⟩
      simp only at hbx ⊢
      unfold law23_SeparationGaps_l4
      by_cases h : j < b.length
      · have hbj := cb.at_ j h
        have htk : b.take (j + 1) = b.take j ++ [b[j]] := List.take_succ_eq_append_getElem h
        by_cases he : a[i].Element = b[j].Element
        · have hm := hg.most _ (List.getElem_mem hi) _ (List.getElem_mem h) he
          have hr := ready_le a[i] b[j] t0
          have hto : (bif ((decide (a[i].Side + b[j].Side = 3) && (!decide (a[i].Side = 0))) && (!decide (b[j].Side = 0))) then (Option.bind (in64 (a[i].To + th)) fun x995 => some x995) else some a[i].To) = some (ready a[i] b[j] th) := by
            by_cases hap : apart a[i] b[j] = true
            · have hap' := hap
              simp only [apart, Bool.and_eq_true, Bool.not_eq_true', decide_eq_false_iff_not] at hap'
              have er : ready a[i] b[j] th = a[i].To + th := by unfold ready; rw [hap]; rfl
              rw [er]
              exact oit (band (band (decide_eq_true (by omega)) (by simp [hap'.1.1])) (by simp [hap'.1.2])) (obi (in64_ok (by omega)) rfl)
            · have hap' : apart a[i] b[j] = false := by simpa using hap
              have er : ready a[i] b[j] th = a[i].To := by unfold ready; rw [hap']; rfl
              rw [er]
              refine oif ?_ rfl
              rw [Bool.eq_false_iff]
              intro hc
              apply hap
              simp only [Bool.and_eq_true, Bool.not_eq_true', decide_eq_false_iff_not, decide_eq_true_eq] at hc
              simp only [apart, Bool.and_eq_true, Bool.not_eq_true', decide_eq_false_iff_not]
              refine ⟨⟨hc.1.2, hc.2⟩, ?_⟩
              omega
          have hgo1 : ∀ {g : Bool}, ∃ y, gO g (idx a (i : Int)) = some y ∧ (g = true → y = a[i]) := fun {g} => by
            cases g with
            | true => exact ⟨_, gO_T rfl (idx_nat hi), fun _ => rfl⟩
            | false => exact ⟨_, gO_F rfl, fun h => by cases h⟩
          have hgo2 : ∀ {g : Bool}, ∃ y, gO g (idx b (j : Int)) = some y ∧ (g = true → y = b[j]) := fun {g} => by
            cases g with
            | true => exact ⟨_, gO_T rfl (idx_nat h), fun _ => rfl⟩
            | false => exact ⟨_, gO_F rfl, fun h => by cases h⟩
          obtain ⟨y1, hy1, ey1⟩ := hgo1 (g := decide (a[i].Side + b[j].Side = 3))
          obtain ⟨y2, hy2, ey2⟩ := hgo2 (g := decide (a[i].Side + b[j].Side = 3) && (!decide (y1.Side = 0)))
          have hcond : ((decide (a[i].Side + b[j].Side = 3) && (!decide (y1.Side = 0))) && (!decide (y2.Side = 0))) = ((decide (a[i].Side + b[j].Side = 3) && (!decide (a[i].Side = 0))) && (!decide (b[j].Side = 0))) := by
            cases h1 : decide (a[i].Side + b[j].Side = 3) with
            | false => rfl
            | true =>
              rw [ey1 h1]
              cases h2 : (!decide (a[i].Side = 0)) with
              | false => rfl
              | true => rw [ey2 (by rw [h1, ey1 h1, h2]; rfl)]
          have hgo3 : ∃ y, gO (!bx) (idx b (j : Int)) = some y ∧ ((!bx) = true → y = b[j]) := hgo2
          obtain ⟨y3, hy3, ey3⟩ := hgo3
          have hgo4 : ∃ z, gO (!bx) (in64 (d + y3.From)) = some z ∧ ((!bx) = true → z = d + b[j].From) := by
            cases hb : (!bx) with
            | false => exact ⟨_, gO_F rfl, fun h => by cases h⟩
            | true =>
              rw [ey3 hb]
              exact ⟨_, gO_T rfl (in64_ok (by omega)), fun _ => rfl⟩
          obtain ⟨z, hz, ez⟩ := hgo4
          refine .inl ⟨((bx || decide (ready a[i] b[j] th = z)), ((j + 1 : Nat) : Int)), oit (decide_eq_true (by simp only; omega)) (obi (idx_nat hi) (obi (idx_nat h) (oif (by simp [he]) (obi (idx_nat hi) (obi (idx_nat hi) (obi (idx_nat h) (obi (in64_ok (by omega)) (obi hy1 (obi hy2 (obi (by rw [hcond]; exact hto) (obi (idx_nat h) (obi (in64_ok (by simp only; omega)) (oif (decide_eq_false (by simp only; omega)) (obi hy3 (obi hz (obi (inc_nat (by omega)) rfl)))))))))))))))), ⟨j + 1, rfl, h, ?_⟩, by simp only; omega⟩
          simp only
          rw [htk]
          cases hbxc : bx with
          | true =>
            simp only [Bool.true_or, true_iff]
            rcases hbx.1 hbxc with h1 | ⟨u, hu, e1, e2⟩
            · exact .inl h1
            · exact .inr ⟨u, List.mem_append_left _ hu, e1, e2⟩
          | false =>
            rw [Bool.false_or, ez (by rw [hbxc]; rfl), decide_eq_true_eq]
            constructor
            · intro e
              exact .inr ⟨b[j], List.mem_append_right _ List.mem_cons_self, he, by omega⟩
            · rintro (h1 | ⟨u, hu, e1, e2⟩)
              · have := hbx.2 (.inl h1)
                rw [hbxc] at this; cases this
              · rcases List.mem_append.1 hu with hu | hu
                · have := hbx.2 (.inr ⟨u, hu, e1, e2⟩)
                  rw [hbxc] at this; cases this
                · have := List.mem_singleton.1 hu
                  subst this
                  omega
        · refine .inl ⟨(bx, ((j + 1 : Nat) : Int)), oit (decide_eq_true (by simp only; omega)) (obi (idx_nat hi) (obi (idx_nat h) (oit (by simp [he]) (obi (inc_nat (by omega)) rfl)))), ⟨j + 1, rfl, h, ?_⟩, by simp only; omega⟩
          simp only
          rw [htk, hbx]
          constructor
          · rintro (h1 | ⟨u, hu, e1, e2⟩)
            · exact .inl h1
            · exact .inr ⟨u, List.mem_append_left _ hu, e1, e2⟩
          · rintro (h1 | ⟨u, hu, e1, e2⟩)
            · exact .inl h1
            · rcases List.mem_append.1 hu with hu | hu
              · exact .inr ⟨u, hu, e1, e2⟩
              · have := List.mem_singleton.1 hu
                subst this
                exact absurd e1 he
      · have : j = b.length := by omega
        subst this
        rw [List.take_of_length_le (Nat.le_refl _)] at hbx
        exact .inr ⟨_, oif (decide_eq_false (by simp only; omega)) rfl, bx, rfl, hbx⟩) 200 (bo, 0) ⟨0, rfl, Nat.zero_le _, by simp⟩ (by simp only; omega)
    exact ⟨bo', hq, hbo⟩
  obtain ⟨q, hq, bo, rfl, hbo⟩ := iterN_run (f := fun s : Bool × Int => law23_SeparationGaps_l3 200 th (k1, a) (k2, b) (d, 0) s.1 s.2)
    (I := fun s => ∃ i : Nat, s.2 = i ∧ i ≤ a.length ∧ (s.1 = true ↔ d = 0 ∨ ∃ s ∈ a.take i, ∃ u ∈ b, s.Element = u.Element ∧ ready s u th - u.From = d))
    (Q := fun q => ∃ bo, q = .inr bo ∧ (bo = true ↔ d = 0 ∨ ∃ s ∈ a, ∃ u ∈ b, s.Element = u.Element ∧ ready s u th - u.From = d)) (fun s => a.length - s.2.toNat) (by
    rintro ⟨bx, i'⟩ ⟨i, rfl, hi, hbx⟩
    simp only at hbx ⊢
    unfold law23_SeparationGaps_l3
    by_cases h : i < a.length
    · obtain ⟨b', hb', eb'⟩ := inner i h bx
      have htk : a.take (i + 1) = a.take i ++ [a[i]] := List.take_succ_eq_append_getElem h
      refine .inl ⟨(b', ((i + 1 : Nat) : Int)), oit (decide_eq_true (by simp only; omega)) (obi hb' (obi (inc_nat (by omega)) rfl)), ⟨i + 1, rfl, h, ?_⟩, by simp only; omega⟩
      simp only
      rw [eb', hbx, htk]
      constructor
      · rintro ((h1 | ⟨s, hs, u, hu, e1, e2⟩) | ⟨u, hu, e1, e2⟩)
        · exact .inl h1
        · exact .inr ⟨s, List.mem_append_left _ hs, u, hu, e1, e2⟩
        · exact .inr ⟨a[i], List.mem_append_right _ List.mem_cons_self, u, hu, e1, e2⟩
      · rintro (h1 | ⟨s, hs, u, hu, e1, e2⟩)
        · exact .inl (.inl h1)
        · rcases List.mem_append.1 hs with hs | hs
          · exact .inl (.inr ⟨s, hs, u, hu, e1, e2⟩)
          · have := List.mem_singleton.1 hs
            subst this
            exact .inr ⟨u, hu, e1, e2⟩
    · have : i = a.length := by omega
      subst this
      rw [List.take_of_length_le (Nat.le_refl _)] at hbx
      exact .inr ⟨_, oif (decide_eq_false (by simp only; omega)) rfl, bx, rfl, hbx⟩) 200 (decide (d = 0), 0) ⟨0, rfl, Nat.zero_le _, by simp⟩ (by simp only; omega)
  have hbT : bo = true := hbo.2 hg.one
  unfold law23_SeparationGaps
  refine obi rfl (obi hth (obi ha (obi hb (obi hG (oif (borF rfl (decide_eq_false (by simp only; omega))) (obi hq ?_))))))
  simp only
  rw [hbT]
  exact obi (gO_T rfl sane_ok) rfl
end Go.Gv
