/- Spans (as XPs, over a text that has the loops already). -/
import Derived.Test.YtpelfidmcpcmjaaPm
namespace Go.Gv
def lastI (p : Nat → Bool) : Nat → Option Nat
  | 0 => none
  | n + 1 => bif p n then some n else lastI p n
theorem lastI_some {p : Nat → Bool} : ∀ {n i : Nat}, lastI p n = some i → i < n ∧ p i = true ∧ ∀ j, i < j → j < n → p j = false
  | 0, _, h => by cases h
  | n + 1, i, h => by
    simp only [lastI] at h
    cases hp : p n with
    | true => rw [hp] at h; simp at h; subst h; exact ⟨by omega, hp, fun j h1 h2 => by omega⟩
    | false =>
      rw [hp] at h
      obtain ⟨h1, h2, h3⟩ := lastI_some (show lastI p n = some i from h)
      exact ⟨by omega, h2, fun j h4 h5 => by
        by_cases e : j = n
        · subst e; exact hp
        · exact h3 j h4 (by omega)⟩
theorem lastI_none {p : Nat → Bool} : ∀ {n : Nat}, lastI p n = none → ∀ j, j < n → p j = false
  | 0, _, _, h => by omega
  | n + 1, h, j, hj => by
    simp only [lastI] at h
    cases hp : p n with
    | true => rw [hp] at h; simp at h
    | false =>
      rw [hp] at h
      by_cases e : j = n
      · subst e; exact hp
      · exact lastI_none (show lastI p n = none from h) j (by omega)
theorem last_loop {ρ : Type} (p : Nat → Bool) (res : Nat → ρ) (f : Int → Option (Int ⊕ (ρ ⊕ Unit))) :
    ∀ (n : Nat), (∀ i : Nat, i < n → p i = true → f (i : Int) = some (.inr (.inl (res i)))) → (∀ i : Nat, i < n → p i = false → f (i : Int) = some (.inl ((i : Int) - 1))) → f (-1) = some (.inr (.inr ())) → ∀ (N : Nat), n < N →
    iterN f N ((n : Int) - 1) = some ((lastI p n).elim (.inr ()) fun i => .inl (res i))
  | 0, _, _, he, N, hN => by
    obtain ⟨M, rfl⟩ : ∃ M, N = M + 1 := ⟨N - 1, by omega⟩
    simp only [iterN]
    rw [show ((0 : Nat) : Int) - 1 = -1 from rfl, he]; rfl
  | n + 1, hT, hF, he, N, hN => by
    obtain ⟨M, rfl⟩ : ∃ M, N = M + 1 := ⟨N - 1, by omega⟩
    simp only [iterN]
    rw [show ((n + 1 : Nat) : Int) - 1 = (n : Int) by omega]
    cases hp : p n with
    | true => rw [hT n (by omega) hp]; simp [lastI, hp]
    | false =>
      rw [hF n (by omega) hp]
      simp only
      rw [last_loop p res f n (fun i hi => hT i (by omega)) (fun i hi => hF i (by omega)) he M (by omega)]
      simp [lastI, hp]

/-! spans -/
def spanOk (s : T_Span) : Bool := decide ((0 ≤ s.Element ∧ 0 ≤ s.Side ∧ s.Side ≤ 2) ∧ 0 ≤ s.From ∧ s.From < s.To ∧ s.To ≤ 1000000000)
structure Good (l : List T_Span) : Prop where
  len : l.length ≤ 128
  ok : ∀ (i : Nat) (h : i < l.length), spanOk l[i] = true
  uniq : ∀ (i j : Nat) (hi : i < l.length) (hj : j < l.length), l[i].Element = l[j].Element → i = j
theorem Good.at {l : List T_Span} (g : Good l) (i : Nat) (h : i < l.length) : (0 ≤ l[i].Element ∧ 0 ≤ l[i].Side ∧ l[i].Side ≤ 2) ∧ 0 ≤ l[i].From ∧ l[i].From < l[i].To ∧ l[i].To ≤ 1000000000 := of_decide_eq_true (g.ok i h)
theorem Good.mem {l : List T_Span} (g : Good l) {s : T_Span} (h : s ∈ l) : (0 ≤ s.Element ∧ 0 ≤ s.Side ∧ s.Side ≤ 2) ∧ 0 ≤ s.From ∧ s.From < s.To ∧ s.To ≤ 1000000000 := by
  obtain ⟨i, hi, rfl⟩ := List.getElem_of_mem h
  exact g.at i hi
theorem good_nil : Good [] := ⟨by simp, fun i h => by simp at h, fun i j h => by simp at h⟩

theorem mget_mset {β : Type} (m : List (Int × β)) (k k' : Int) (v : β) : mget (mset m k v) k' = if k = k' then some v else mget m k' := by
  induction m with
  | nil => simp [mset, mget]
  | cons p m ih =>
    by_cases hp : p.1 = k
    · simp only [mset, hp, if_true, mget]
      by_cases e : k = k'
      · simp [e]
      · simp [e]
    · simp only [mset, hp, if_false, mget, ih]
      by_cases e : k = k'
      · subst e; simp [hp]
      · simp [e]

theorem svalid_spec (N : Nat) (hN : 200 ≤ N) (l : List T_Span) : ∃ v, separation_valid N l = some v ∧ (v = true ↔ Good l) := by
  unfold separation_valid
  by_cases hl : 128 < l.length
  · exact ⟨false, oit (decide_eq_true (by omega)) rfl, by simp; intro g; have := g.len; omega⟩
  obtain ⟨q, hq, hQ⟩ := iterN_run (f := fun s : Int × List (Int × Bool) => separation_valid_l1 N l s.1 s.2)
    (I := fun s => ∃ i : Nat, s.1 = i ∧ i ≤ l.length ∧ (∀ (j : Nat) (h : j < l.length), j < i → spanOk l[j] = true) ∧ (∀ (j k : Nat) (hj : j < l.length) (hk : k < l.length), j < i → k < i → l[j].Element = l[k].Element → j = k) ∧ ∀ e, (mget s.2 e).getD false = true ↔ ∃ (j : Nat) (h : j < l.length), j < i ∧ l[j].Element = e)
    (Q := fun q => (q = .inl false ∧ ¬ Good l) ∨ (q = .inr () ∧ Good l)) (fun s => l.length - s.1.toNat) (by
    rintro ⟨i', m⟩ ⟨i, rfl, hi, h1, h2, h3⟩
    simp only at h3 ⊢
    unfold separation_valid_l1
    by_cases h : i < l.length
    · have e : (((((decide (l[i].Element < 0) || (Option.getD (mget m l[i].Element) false)) || decide (l[i].Side < 0)) || decide (2 < l[i].Side)) || decide (l[i].From < 0)) || decide (l[i].To ≤ l[i].From)) = (((((decide (l[i].Element < 0) || (Option.getD (mget m l[i].Element) false)) || decide (l[i].Side < 0)) || decide (2 < l[i].Side)) || decide (l[i].From < 0)) || decide (l[i].To ≤ l[i].From)) := rfl
      by_cases hb : spanOk l[i] = true ∧ ¬ (mget m l[i].Element).getD false = true
      · have hs := of_decide_eq_true hb.1
        have hm : (mget m l[i].Element).getD false = false := by simpa using hb.2
        refine .inl ⟨(((i + 1 : Nat) : Int), mset m l[i].Element true), oit (decide_eq_true (by omega)) (obi (idx_nat h) (oif ?_ (obi (inc_nat (by omega)) rfl))), ⟨i + 1, rfl, h, ?_, ?_, ?_⟩, by simp only; omega⟩
        · rw [hm]
          simp only [Bool.or_false, Bool.or_eq_false_iff, decide_eq_false_iff_not]
          omega
        · intro j hj hji
          by_cases ej : j = i
          · subst ej; exact hb.1
          · exact h1 j hj (by omega)
        · have hno : ∀ (j : Nat) (hj : j < l.length), j < i → l[j].Element ≠ l[i].Element := fun j hj hji e => hb.2 ((h3 _).2 ⟨j, hj, hji, e⟩)
          intro j k hj hk hji hki ee
          by_cases ej : j = i
          · subst ej
            by_cases ek : k = j
            · exact ek.symm
            · exact absurd ee.symm (hno k hk (by omega))
          · by_cases ek : k = i
            · subst ek; exact absurd ee (hno j hj (by omega))
            · exact h2 j k hj hk (by omega) (by omega) ee
        · intro e'
          simp only [mget_mset]
          by_cases ee : l[i].Element = e'
          · simp only [ee, if_true, Option.getD_some, true_iff]
            exact ⟨i, h, by omega, ee⟩
          · simp only [ee, if_false]
            rw [h3]
            constructor
            · rintro ⟨j, hj, hji, hx⟩; exact ⟨j, hj, by omega, hx⟩
            · rintro ⟨j, hj, hji, hx⟩
              by_cases ej : j = i
              · subst ej; exact absurd hx ee
              · exact ⟨j, hj, by omega, hx⟩
      · refine .inr ⟨_, oit (decide_eq_true (by omega)) (obi (idx_nat h) (oit ?_ rfl)), .inl ⟨rfl, fun g => ?_⟩⟩
        · by_cases hm : (mget m l[i].Element).getD false = true
          · rw [hm]; simp
          · have hs : ¬ spanOk l[i] = true := fun hs => hb ⟨hs, hm⟩
            simp only [spanOk, decide_eq_true_eq] at hs
            simp only [Bool.or_eq_true, decide_eq_true_eq]
            omega
        · refine hb ⟨g.ok i h, fun hm => ?_⟩
          obtain ⟨j, hj, hji, hx⟩ := (h3 _).1 hm
          have := g.uniq j i hj h hx
          omega
    · have : i = l.length := by omega
      subst this
      exact .inr ⟨_, oif (decide_eq_false (by omega)) rfl, .inr ⟨rfl, ⟨by omega, fun j hj => h1 j hj hj, fun j k hj hk => h2 j k hj hk hj hk⟩⟩⟩) N (0, []) ⟨0, rfl, Nat.zero_le _, fun _ _ h => absurd h (Nat.not_lt_zero _), fun _ _ _ _ h => absurd h (Nat.not_lt_zero _), fun e => by simp [mget]⟩ (by simp only; omega)
  rcases hQ with ⟨rfl, hn⟩ | ⟨rfl, hg⟩
  · exact ⟨false, oif (decide_eq_false (by omega)) (obi hq rfl), by simp [hn]⟩
  · exact ⟨true, oif (decide_eq_false (by omega)) (obi hq rfl), by simp [hg]⟩

theorem rvalid_spec (N : Nat) (hN : 200 ≤ N) (l : List T_Span) : ∃ v, r23_Valid N l = some v ∧ (v = true ↔ Good l) := by
  unfold r23_Valid
  by_cases hl : 128 < l.length
  · exact ⟨false, oit (decide_eq_true (by omega)) rfl, by simp; intro g; have := g.len; omega⟩
  obtain ⟨q, hq, hQ⟩ := iterN_run (f := fun s : Int => r23_Valid_l3 N l s)
    (I := fun s => ∃ i : Nat, s = i ∧ i ≤ l.length ∧ (∀ (j : Nat) (h : j < l.length), j < i → spanOk l[j] = true) ∧ (∀ (j k : Nat) (hj : j < l.length) (hk : k < l.length), j < i → k < i → l[j].Element = l[k].Element → j = k))
    (Q := fun q => (q = .inl false ∧ ¬ Good l) ∨ (q = .inr () ∧ Good l)) (fun s => l.length - s.toNat) (by
    rintro s ⟨i, rfl, hi, h1, h2⟩
    unfold r23_Valid_l3
    by_cases h : i < l.length
    · have hin : iterN (fun s : Int => r23_Valid_l4 N l (i : Int) l[i] s) N 0 = some (bif (l.take i).any (fun s => decide (s.Element = l[i].Element)) then .inl false else .inr ()) := by
        refine first_any (l.take i) _ false _ (fun j hj hp => ?_) (fun j hj hp => ?_) ?_ N (by simp; omega)
        · have hji : j < i := by simp at hj; omega
          rw [List.getElem_take] at hp
          unfold r23_Valid_l4
          exact oit (decide_eq_true (by omega)) (obi (idx_nat (by omega)) (oit hp rfl))
        · have hji : j < i := by simp at hj; omega
          rw [List.getElem_take] at hp
          unfold r23_Valid_l4
          exact oit (decide_eq_true (by omega)) (obi (idx_nat (by omega)) (oif hp (obi (inc_nat (by omega)) rfl)))
        · unfold r23_Valid_l4
          exact oif (decide_eq_false (by simp; omega)) rfl
      by_cases hs : spanOk l[i] = true
      · have hs' := of_decide_eq_true hs
        have hc : (((((decide (l[i].Element < 0) || decide (l[i].Side < 0)) || decide (2 < l[i].Side)) || decide (l[i].From < 0)) || decide (l[i].To ≤ l[i].From)) || decide (1000000000 < l[i].To)) = false := by
          simp only [Bool.or_eq_false_iff, decide_eq_false_iff_not]
          omega
        cases ha : (l.take i).any (fun s => decide (s.Element = l[i].Element)) with
        | true =>
          rw [ha] at hin
          refine .inr ⟨_, oit (decide_eq_true (by omega)) (obi (idx_nat h) (oif hc (obi hin rfl))), .inl ⟨rfl, fun g => ?_⟩⟩
          obtain ⟨x, hx, hp⟩ := List.any_eq_true.1 ha
          obtain ⟨j, hj, rfl⟩ := List.getElem_of_mem hx
          rw [List.getElem_take] at hp
          have hji : j < i := by simp at hj; omega
          have := g.uniq j i (by omega) h (of_decide_eq_true hp)
          omega
        | false =>
          rw [ha] at hin
          have hno : ∀ (j : Nat) (hj : j < l.length), j < i → l[j].Element ≠ l[i].Element := fun j hj hji e => by
            have : (l.take i).any (fun s => decide (s.Element = l[i].Element)) = true := List.any_eq_true.2 ⟨l[j], List.mem_take_iff_getElem.2 ⟨j, by omega, rfl⟩, decide_eq_true e⟩
            rw [ha] at this; cases this
          refine .inl ⟨((i + 1 : Nat) : Int), oit (decide_eq_true (by omega)) (obi (idx_nat h) (oif hc (obi hin (obi (inc_nat (by omega)) rfl)))), ⟨i + 1, rfl, h, ?_, ?_⟩, by omega⟩
          · intro j hj hji
            by_cases ej : j = i
            · subst ej; exact hs
            · exact h1 j hj (by omega)
          · intro j k hj hk hji hki ee
            by_cases ej : j = i
            · subst ej
              by_cases ek : k = j
              · exact ek.symm
              · exact absurd ee.symm (hno k hk (by omega))
            · by_cases ek : k = i
              · subst ek; exact absurd ee (hno j hj (by omega))
              · exact h2 j k hj hk (by omega) (by omega) ee
      · have hs' := hs
        simp only [spanOk, decide_eq_true_eq] at hs'
        refine .inr ⟨_, oit (decide_eq_true (by omega)) (obi (idx_nat h) (oit ?_ rfl)), .inl ⟨rfl, fun g => hs (g.ok i h)⟩⟩
        simp only [Bool.or_eq_true, decide_eq_true_eq]
        omega
    · have : i = l.length := by omega
      subst this
      exact .inr ⟨_, oif (decide_eq_false (by omega)) rfl, .inr ⟨rfl, ⟨by omega, fun j hj => h1 j hj hj, fun j k hj hk => h2 j k hj hk hj hk⟩⟩⟩) N 0 ⟨0, rfl, Nat.zero_le _, fun _ _ h => absurd h (Nat.not_lt_zero _), fun _ _ _ _ h => absurd h (Nat.not_lt_zero _)⟩ (by simp; omega)
  rcases hQ with ⟨rfl, hn⟩ | ⟨rfl, hg⟩
  · exact ⟨false, oif (decide_eq_false (by omega)) (obi hq rfl), by simp [hn]⟩
  · exact ⟨true, oif (decide_eq_false (by omega)) (obi hq rfl), by simp [hg]⟩
def goodB (l : List T_Span) : Bool := (decide (l.length ≤ 128) && l.all spanOk) && decide ((l.map (·.Element)).Nodup)
theorem goodB_iff {l : List T_Span} : goodB l = true ↔ Good l := by
  simp only [goodB, Bool.and_eq_true, decide_eq_true_eq, List.all_eq_true]
  constructor
  · rintro ⟨⟨h1, h2⟩, h3⟩
    refine ⟨h1, fun i h => h2 _ (List.getElem_mem h), fun i j hi hj e => ?_⟩
    have h4 := List.pairwise_iff_getElem.1 h3
    rcases Nat.lt_trichotomy i j with h | h | h
    · have := h4 i j (by simpa using hi) (by simpa using hj) h
      simp only [List.getElem_map] at this
      exact absurd e this
    · exact h
    · have := h4 j i (by simpa using hj) (by simpa using hi) h
      simp only [List.getElem_map] at this
      exact absurd e.symm this
  · intro g
    refine ⟨⟨g.len, fun s hs => ?_⟩, List.pairwise_iff_getElem.2 fun i j hi hj h => ?_⟩
    · obtain ⟨i, hi, rfl⟩ := List.getElem_of_mem hs
      exact g.ok i hi
    · simp only [List.getElem_map]
      intro e
      have := g.uniq i j (by simpa using hi) (by simpa using hj) e
      omega
theorem goodB_T {l : List T_Span} (g : Good l) : goodB l = true := goodB_iff.2 g
theorem svalid_eq (N : Nat) (hN : 200 ≤ N) (l : List T_Span) : separation_valid N l = some (goodB l) := by
  obtain ⟨v, h, hv⟩ := svalid_spec N hN l
  rw [h]; congr 1
  rw [Bool.eq_iff_iff, hv, goodB_iff]
theorem rvalid_eq (N : Nat) (hN : 200 ≤ N) (l : List T_Span) : r23_Valid N l = some (goodB l) := by
  obtain ⟨v, h, hv⟩ := rvalid_spec N hN l
  rw [h]; congr 1
  rw [Bool.eq_iff_iff, hv, goodB_iff]

/-! look-ups -/
def findE (l : List T_Span) (e : Int) : Int := (l.findIdx? fun s => decide (s.Element = e)).elim (-1) fun i => (i : Int)
theorem find_eq (N : Nat) (l : List T_Span) (hl : l.length < N) (hl2 : l.length ≤ 1000000) (e : Int) : r23_Find N l e = some (findE l e) := by
  have h := first_loop l (fun s => decide (s.Element = e)) (fun i => (i : Int)) (fun s => r23_Find_l1 N l e s) (fun i h hp => by
    unfold r23_Find_l1
    exact oit (decide_eq_true (by omega)) (obi (idx_nat h) (oit hp rfl))) (fun i h hp => by
    unfold r23_Find_l1
    exact oit (decide_eq_true (by omega)) (obi (idx_nat h) (oif hp (obi (inc_nat (by omega)) rfl)))) (by
    unfold r23_Find_l1
    exact oif (decide_eq_false (by omega)) rfl) N hl
  unfold r23_Find findE
  refine obi h ?_
  cases l.findIdx? fun s => decide (s.Element = e) with
  | none => rfl
  | some i => rfl
theorem find_cases {l : List T_Span} (g : Good l) (e : Int) : (∃ (j : Nat) (h : j < l.length), findE l e = j ∧ l[j].Element = e ∧ ∀ s ∈ l, s.Element = e → s = l[j]) ∨ (findE l e = -1 ∧ ∀ s ∈ l, s.Element ≠ e) := by
  unfold findE
  cases h : l.findIdx? fun s => decide (s.Element = e) with
  | none => exact .inr ⟨rfl, fun s hs => by simpa using List.findIdx?_eq_none_iff.1 h s hs⟩
  | some j =>
    obtain ⟨hj, hp, _⟩ := List.findIdx?_eq_some_iff_getElem.1 h
    have he : l[j].Element = e := of_decide_eq_true hp
    refine .inl ⟨j, hj, rfl, he, fun s hs hse => ?_⟩
    obtain ⟨k, hk, rfl⟩ := List.getElem_of_mem hs
    have := g.uniq k j hk hj (by rw [hse, he])
    subst this
    rfl

def apart (s t : T_Span) : Bool := ((!decide (s.Side = 0)) && (!decide (t.Side = 0))) && (!decide (s.Side = t.Side))
def ready (s t : T_Span) (th : Int) : Int := bif apart s t then s.To + th else s.To
theorem after_eq (N : Nat) (s t : T_Span) (th : Int) (h : -1000000000000 ≤ s.To + th ∧ s.To + th ≤ 1000000000000) : r23_After N s t th = some (ready s t th) := by
  unfold r23_After ready apart
  cases ((!decide (s.Side = 0)) && (!decide (t.Side = 0))) && (!decide (s.Side = t.Side)) with
  | true => exact obi (in64_ok (by omega)) rfl
  | false => rfl
theorem ready_le (s t : T_Span) {th : Int} (h : 0 ≤ th) : s.To ≤ ready s t th ∧ ready s t th ≤ s.To + th := by
  unfold ready
  cases apart s t <;> simp <;> omega
end Go.Gv
