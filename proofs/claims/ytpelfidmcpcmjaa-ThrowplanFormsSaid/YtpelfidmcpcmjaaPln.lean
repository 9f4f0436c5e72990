/- Throwing (chapter 24): made spans (from the texts of chapter 23). -/
import Derived.Test.YtpelfidmcpcmjaaPlm
namespace Go.Gv


theorem snoc_all {α : Type} {l : List α} {x : α} {P : Nat → α → Prop} (h : ∀ (j : Nat) (h : j < l.length), P j l[j]) (hx : P l.length x) : ∀ (j : Nat) (h : j < (l ++ [x]).length), P j (l ++ [x])[j] := fun j hj => by
  by_cases e : j < l.length
  · rw [List.getElem_append_left e]; exact h j e
  · have : j = l.length := by simp at hj; omega
    subst this
    simpa using hx

/-- Spans of one cut: the elements ascend from 1 on. -/
structure Cut (l : List T_Span) : Prop where
  len : l.length ≤ 6
  at_ : ∀ (j : Nat) (h : j < l.length), (1 ≤ l[j].Element ∧ l[j].Element ≤ 6 ∧ 0 ≤ l[j].Side ∧ l[j].Side ≤ 2) ∧ 0 ≤ l[j].From ∧ l[j].From < l[j].To ∧ l[j].To ≤ 100000
  asc : ∀ (i j : Nat) (hi : i < l.length) (hj : j < l.length), i < j → l[i].Element < l[j].Element
theorem Cut.good {l : List T_Span} (c : Cut l) : Good l :=
  ⟨by have := c.len; omega, fun i h => decide_eq_true (by have := c.at_ i h; omega), fun i j hi hj e => by
    rcases Nat.lt_trichotomy i j with h | h | h
    · have := c.asc i j hi hj h; omega
    · exact h
    · have := c.asc j i hj hi h; omega⟩
theorem Cut.to {l : List T_Span} (c : Cut l) : ∀ s ∈ l, s.To ≤ 100000 := fun s hs => by
  obtain ⟨j, hj, rfl⟩ := List.getElem_of_mem hs
  have := c.at_ j hj; omega

def ParS (s : T_Span) : Prop := (Int.tmod s.Element 2 = 0 → s.Side = 1 ∨ s.Side = 2) ∧ (¬ Int.tmod s.Element 2 = 0 → s.Side = 0)
def Par (l : List T_Span) : Prop := ∀ (j : Nat) (h : j < l.length), ParS l[j]

theorem spans_okN (N : Nat) (hN : 200 ≤ N) (t : List Int) {k : Int} (h0 : 0 ≤ k) (h1 : k ≤ 1000000) : ∃ k' l, yardgen_Spans N t k 6 = some (k', l) ∧ k ≤ k' ∧ k' ≤ k + 30 ∧ Cut l := by
  obtain ⟨t0, ht0, t1, t2⟩ := next_ok N t (k := k) (n := 4000) (by omega) (by omega) (by omega) (by omega)
  obtain ⟨q, hq, q1, q2, q3⟩ := iterN_run (f := fun s : Int × Int × Int × List T_Span => yardgen_Spans_l1 N t 6 s.1 s.2.1 s.2.2.1 s.2.2.2)
    (I := fun s => ∃ n : Nat, n ≤ 6 ∧ s.2.1 = (n : Int) + 1 ∧ (0 ≤ s.1 ∧ s.1 ≤ 4000 + 5000 * n) ∧ (k ≤ s.2.2.1 ∧ s.2.2.1 ≤ k + 1 + 4 * n) ∧ Cut s.2.2.2 ∧ s.2.2.2.length ≤ n ∧ ∀ (j : Nat) (h : j < s.2.2.2.length), s.2.2.2[j].Element ≤ n)
    (Q := fun q => k ≤ q.1 ∧ q.1 ≤ k + 30 ∧ Cut q.2) (fun s => (7 - s.2.1).toNat) (by
    rintro ⟨u, e, m, l⟩ ⟨n, hn, he, ⟨u0, u1⟩, ⟨m0, m1⟩, hc, hl, hel⟩
    simp only at he u0 u1 m0 m1 hc hl hel ⊢
    subst he
    unfold yardgen_Spans_l1
    by_cases h : n < 6
    · have hc0 : (decide ((n : Int) + 1 ≤ 6) && decide ((l.length : Int) < 6)) = true := band (decide_eq_true (by omega)) (decide_eq_true (by omega))
      obtain ⟨x, hx, x0, x1⟩ := next_ok N t (k := m) (n := 4) (by omega) (by omega) (by omega) (by omega)
      by_cases hz : x = 0
      · exact .inl ⟨(u, (n : Int) + 1 + 1, m + 1, l), oit hc0 (obi hx (oit (decide_eq_true hz) (obi (in64_ok (by omega)) rfl))), ⟨n + 1, h, by simp only; omega, ⟨u0, by simp only; omega⟩, ⟨by simp only; omega, by simp only; omega⟩, hc, by simp only; omega, fun j hj => by have := hel j hj; simp only; omega⟩, by simp only; omega⟩
      · obtain ⟨y, hy, ym⟩ := pick_ok N t (k := m + 1) (v := [0, 1, 2]) (by omega) (by omega) (by simp) (by simp)
        have hy2 : 0 ≤ y ∧ y ≤ 2 := by simp only [List.mem_cons, List.not_mem_nil, or_false] at ym; omega
        obtain ⟨v, hv, v0, v1⟩ := next_ok N t (k := m + 1 + 1) (n := 9000) (by omega) (by omega) (by omega) (by omega)
        obtain ⟨w, hw, w0, w1⟩ := next_ok N t (k := m + 1 + 1 + 1) (n := 5000) (by omega) (by omega) (by omega) (by omega)
        refine .inl ⟨(u + w, (n : Int) + 1 + 1, m + 1 + 1 + 1 + 1, l ++ [T_Span.mk ((n : Int) + 1) y u (u + 1 + v)]), oit hc0 (obi hx (oif (decide_eq_false hz) (obi hy (obi (in64_ok (by omega)) (obi hv (obi (in64_ok (by simp only; omega)) (obi (app_ok (by simp; omega) (by simp; omega)) (obi hw (obi (in64_ok (by simp only; omega)) (obi (in64_ok (by omega)) rfl)))))))))),
          ⟨n + 1, h, by simp only; omega, ⟨by simp only; omega, by simp only; omega⟩, ⟨by simp only; omega, by simp only; omega⟩, ⟨by simp; omega, ?_, ?_⟩, by simp; omega, ?_⟩, by simp only; omega⟩
        · exact snoc_all (P := fun (_ : Nat) (s : T_Span) => (1 ≤ s.Element ∧ s.Element ≤ 6 ∧ 0 ≤ s.Side ∧ s.Side ≤ 2) ∧ 0 ≤ s.From ∧ s.From < s.To ∧ s.To ≤ 100000) hc.at_ (by simp only; omega)
        · intro i j hi hj hij
          simp only [List.length_append, List.length_cons, List.length_nil] at hi hj
          by_cases ej : j < l.length
          · rw [List.getElem_append_left (by omega), List.getElem_append_left ej]
            exact hc.asc i j (by omega) ej hij
          · have : j = l.length := by omega
            subst this
            rw [List.getElem_append_left (by omega)]
            have := hel i (by omega)
            simp
            omega
        · exact snoc_all (P := fun (_ : Nat) (s : T_Span) => s.Element ≤ ((n + 1 : Nat) : Int)) (fun j hj => by have := hel j hj; omega) (by simp only; omega)
    · exact .inr ⟨_, oif (bandF (decide_eq_false (by omega))) rfl, by simp only; omega, by simp only; omega, hc⟩) N (t0, 1, k + 1, [])
    ⟨0, by omega, by simp, ⟨by simp only; omega, by simp only; omega⟩, ⟨by simp only; omega, by simp only; omega⟩, ⟨by simp, fun j h => by simp at h, fun i j h => by simp at h⟩, by simp, fun j h => by simp at h⟩ (by simp only; omega)
  refine ⟨q.1, q.2, ?_, q1, q2, q3⟩
  unfold yardgen_Spans
  exact obi ht0 (obi hq rfl)

theorem sides_okN (N : Nat) (hN : 200 ≤ N) (t : List Int) {k : Int} (h0 : 0 ≤ k) (h1 : k ≤ 1000000) {l : List T_Span} (hc : Cut l) : ∃ k' l', iterN (fun s : Int × Int × List T_Span => yardgen_SpanLists_l5 N t s.1 s.2.1 s.2.2) N (0, k, l) = some (k', l') ∧ k ≤ k' ∧ k' ≤ k + 6 ∧ Cut l' ∧ Par l' := by
  have hl := hc.len
  obtain ⟨q, hq, q1, q2, q3, q4⟩ := iterN_run (f := fun s : Int × Int × List T_Span => yardgen_SpanLists_l5 N t s.1 s.2.1 s.2.2)
    (I := fun s => ∃ i : Nat, s.1 = i ∧ i ≤ l.length ∧ (k ≤ s.2.1 ∧ s.2.1 ≤ k + i) ∧ s.2.2.length = l.length ∧ Cut s.2.2 ∧ ∀ (j : Nat) (h : j < s.2.2.length), j < i → ParS s.2.2[j])
    (Q := fun q => k ≤ q.1 ∧ q.1 ≤ k + 6 ∧ Cut q.2 ∧ Par q.2) (fun s => l.length - s.1.toNat) (by
    rintro ⟨i', m, b⟩ ⟨i, rfl, hi, ⟨m0, m1⟩, hb, hcb, hpb⟩
    simp only at m0 m1 hb hcb hpb ⊢
    unfold yardgen_SpanLists_l5
    by_cases h : i < l.length
    · have hib : i < b.length := by omega
      have hx := idx_nat hib
      have hset : ∀ sd : Int, 0 ≤ sd → sd ≤ 2 → Cut (b.set i (T_Span.mk b[i].Element sd b[i].From b[i].To)) := fun sd s0 s2 => by
        refine ⟨by simp; omega, fun j hj => ?_, fun p j hp hj hpj => ?_⟩
        · rw [List.getElem_set]
          split
          · have := hcb.at_ i hib; simp only; omega
          · exact hcb.at_ j _
        · have q : ∀ (m : Nat) (hm : m < (b.set i (T_Span.mk b[i].Element sd b[i].From b[i].To)).length), ((b.set i (T_Span.mk b[i].Element sd b[i].From b[i].To))[m]).Element = (b[m]'(by simpa using hm)).Element := fun m hm => by
            rw [List.getElem_set]
            split
            · rename_i e; subst e; rfl
            · rfl
          rw [q p hp, q j hj]
          exact hcb.asc p j _ _ hpj
      have hx2 : idx (b.set i (T_Span.mk b[i].Element 0 b[i].From b[i].To)) (i : Int) = some (T_Span.mk b[i].Element 0 b[i].From b[i].To) := by rw [idx_nat (by simp; omega), List.getElem_set_self]
      have hpar : ∀ sd : Int, ParS (T_Span.mk b[i].Element sd b[i].From b[i].To) → ∀ (j : Nat) (h : j < (b.set i (T_Span.mk b[i].Element sd b[i].From b[i].To)).length), j < i + 1 → ParS (b.set i (T_Span.mk b[i].Element sd b[i].From b[i].To))[j] := fun sd hp j hj hji => by
        rw [List.getElem_set]
        split
        · exact hp
        · exact hpb j (by simpa using hj) (by omega)
      by_cases he : Int.tmod b[i].Element 2 = 0
      · obtain ⟨y, hy, ym⟩ := pick_ok N t (k := m) (v := [1, 2]) (by omega) (by omega) (by simp) (by simp)
        have hy2 : 1 ≤ y ∧ y ≤ 2 := by simp only [List.mem_cons, List.not_mem_nil, or_false] at ym; omega
        refine .inl ⟨(((i + 1 : Nat) : Int), m + 1, b.set i (T_Span.mk b[i].Element y b[i].From b[i].To)), oit (decide_eq_true (by omega)) (obi hx (obi (x := T_Span.mk b[i].Element 0 b[i].From b[i].To) (by rw [Int.toNat_natCast]; exact hx2) (oit (decide_eq_true he) (obi hy (obi (x := T_Span.mk b[i].Element 0 b[i].From b[i].To) (by rw [Int.toNat_natCast]; exact hx2) (obi (inc_nat (by omega)) ?_)))))), ⟨i + 1, rfl, h, ⟨by simp only; omega, by simp only; omega⟩, by simp; omega, hset y (by omega) (by omega), hpar y ⟨fun _ => by simp only; omega, fun h => absurd he h⟩⟩, by simp only; omega⟩
        rw [Int.toNat_natCast, List.set_set]
      · exact .inl ⟨(((i + 1 : Nat) : Int), m, b.set i (T_Span.mk b[i].Element 0 b[i].From b[i].To)), oit (decide_eq_true (by omega)) (obi hx (obi (x := T_Span.mk b[i].Element 0 b[i].From b[i].To) (by rw [Int.toNat_natCast]; exact hx2) (oif (decide_eq_false he) (obi (inc_nat (by omega)) (by rw [Int.toNat_natCast]))))), ⟨i + 1, rfl, h, ⟨by simp only; omega, by simp only; omega⟩, by simp; omega, hset 0 (by omega) (by omega), hpar 0 ⟨fun h => absurd h he, fun _ => rfl⟩⟩, by simp only; omega⟩
    · exact .inr ⟨_, oif (decide_eq_false (by omega)) rfl, by simp only; omega, by simp only; omega, hcb, fun j hj => hpb j hj (by have : j < b.length := hj; omega)⟩) N (0, k, l) ⟨0, rfl, Nat.zero_le _, ⟨by simp, by simp⟩, rfl, hc, fun _ _ h => absurd h (Nat.not_lt_zero _)⟩ (by simp only; omega)
  exact ⟨q.1, q.2, hq, q1, q2, q3, q4⟩

theorem lists_okN (N : Nat) (hN : 200 ≤ N) (t : List Int) {k0 : Int} (hk0 : 0 ≤ k0) (hk1 : k0 ≤ 100000) (n : Nat) (hn : n ≤ 10) : ∃ k l, yardgen_SpanLists N t k0 n = some (k, l) ∧ k0 ≤ k ∧ k ≤ k0 + 1000 ∧ l.length ≤ n ∧ ∀ a ∈ l, Cut a ∧ Par a := by
  obtain ⟨m, hm, m0, m1⟩ := next_ok N t (k := k0) (n := (n : Int) + 1) (by omega) (by omega) (by omega) (by omega)
  obtain ⟨m, rfl⟩ : ∃ j : Nat, m = j := ⟨m.toNat, by omega⟩
  obtain ⟨q, hq, q1, q2, q3, q4⟩ := iterN_run (f := fun s : Int × Int × List (List T_Span) => yardgen_SpanLists_l4 N t s.1 s.2.1 s.2.2)
    (I := fun s => (0 ≤ s.1 ∧ s.1 + s.2.2.length = m) ∧ (k0 ≤ s.2.1 ∧ s.2.1 ≤ k0 + 1 + 40 * s.2.2.length) ∧ ∀ a ∈ s.2.2, Cut a ∧ Par a)
    (Q := fun q => k0 ≤ q.1 ∧ q.1 ≤ k0 + 1000 ∧ q.2.length ≤ m ∧ ∀ a ∈ q.2, Cut a ∧ Par a) (fun s => s.1.toNat) (by
    rintro ⟨c, k, l⟩ ⟨⟨c0, c1⟩, ⟨ka, kb⟩, hall⟩
    simp only at c0 c1 ka kb hall ⊢
    unfold yardgen_SpanLists_l4
    by_cases h : 0 < c
    · obtain ⟨k2, a, ha, a0, a1, hca⟩ := spans_okN N hN t (k := k) (by omega) (by omega)
      obtain ⟨k3, b, hb, b0, b1, hcb⟩ := sides_okN N hN t (k := k2) (by omega) (by omega) hca
      refine .inl ⟨(c - 1, k3, l ++ [b]), oit (decide_eq_true h) (obi ha (obi hb (obi (app_ok (by simp; omega) (by simp; omega)) (obi (in64_ok (by omega)) rfl)))), ⟨⟨by simp only; omega, by simp; omega⟩, ⟨by simp only; omega, by simp; omega⟩, fun x hx => ?_⟩, by simp only; omega⟩
      rcases List.mem_append.1 hx with hx | hx
      · exact hall x hx
      · have := List.mem_singleton.1 hx
        subst this; exact hcb
    · exact .inr ⟨_, oif (decide_eq_false h) rfl, ka, by simp only; omega, by simp only; omega, hall⟩) N ((m : Int), k0 + 1, []) ⟨⟨by simp, by simp⟩, ⟨by simp only; omega, by simp only; omega⟩, by simp⟩ (by simp only; omega)
  refine ⟨q.1, q.2, ?_, q1, q2, by omega, q4⟩
  unfold yardgen_SpanLists
  exact obi (in64_ok (by omega)) (obi hm (obi hq rfl))


theorem spoil_ok (N : Nat) (t : List Int) {k : Int} (hk : 0 ≤ k) (hk2 : k ≤ 100000) {a : List T_Span} (ha : Cut a) : ∃ k' b, yardgen_SpoilSpans N t k a = some (k', b) ∧ k ≤ k' ∧ k' ≤ k + 4 := by
  have hl := ha.len
  have happ : app 32 [] a = some a := app_ok (b := 32) (l := []) (r := a) (by simp; omega) (by simp; omega)
  unfold yardgen_SpoilSpans
  by_cases h0 : a.length = 0
  · obtain ⟨x, hx, _⟩ := pick_ok N t (k := k) (v := [5, 6]) (by omega) (by omega) (by simp) (by simp)
    exact ⟨k + 1, _, obi happ (oit (decide_eq_true (by omega)) (obi hx rfl)), by omega, by omega⟩
  · obtain ⟨x, hx, x0, x1⟩ := next_ok N t (k := k) (n := (a.length : Int)) (by omega) (by omega) (by omega) (by omega)
    obtain ⟨i, rfl⟩ : ∃ i : Nat, x = i := ⟨x.toNat, by omega⟩
    have hi : i < a.length := by omega
    obtain ⟨y, hy, y0, y1⟩ := next_ok N t (k := k + 1) (n := 6) (by omega) (by omega) (by omega) (by omega)
    have hto := ha.at_ i hi
    have ne : decide ((a.length : Int) = 0) = false := decide_eq_false (by omega)
    by_cases c0 : y = 0
    · obtain ⟨v, hv, _⟩ := pick_ok N t (k := k + 1 + 1) (v := [(-1), a[0].Element, 127, 128]) (by omega) (by omega) (by simp) (by simp)
      exact ⟨k + 1 + 1 + 1, _, obi happ (oif ne (obi hx (obi (idx_nat hi) (obi hy (oit (decide_eq_true c0) (obi (idx_nat (i := 0) (by omega)) (obi hv rfl))))))), by omega, by omega⟩
    by_cases c1 : y = 1
    · obtain ⟨v, hv, _⟩ := pick_ok N t (k := k + 1 + 1) (v := [(-1), 3, 0]) (by omega) (by omega) (by simp) (by simp)
      exact ⟨k + 1 + 1 + 1, _, obi happ (oif ne (obi hx (obi (idx_nat hi) (obi hy (oif (decide_eq_false c0) (oit (decide_eq_true c1) (obi hv rfl))))))), by omega, by omega⟩
    by_cases c2 : y = 2
    · obtain ⟨v, hv, _⟩ := pick_ok N t (k := k + 1 + 1) (v := [(-1), a[i].To, a[i].To + 1]) (by omega) (by omega) (by simp) (by simp)
      exact ⟨k + 1 + 1 + 1, _, obi happ (oif ne (obi hx (obi (idx_nat hi) (obi hy (oif (decide_eq_false c0) (oif (decide_eq_false c1) (oit (decide_eq_true c2) (obi (in64_ok (by omega)) (obi hv rfl))))))))), by omega, by omega⟩
    by_cases c3 : y = 3
    · obtain ⟨v, hv, _⟩ := pick_ok N t (k := k + 1 + 1) (v := [1000000000, 1000000001, a[i].From]) (by omega) (by omega) (by simp) (by simp)
      exact ⟨k + 1 + 1 + 1, _, obi happ (oif ne (obi hx (obi (idx_nat hi) (obi hy (oif (decide_eq_false c0) (oif (decide_eq_false c1) (oif (decide_eq_false c2) (oit (decide_eq_true c3) (obi hv rfl))))))))), by omega, by omega⟩
    · exact ⟨k + 1 + 1, a, obi happ (oif ne (obi hx (obi (idx_nat hi) (obi hy (oif (decide_eq_false c0) (oif (decide_eq_false c1) (oif (decide_eq_false c2) (oif (decide_eq_false c3) rfl)))))))), by omega, by omega⟩

end Go.Gv
