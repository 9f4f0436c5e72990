/- Separation: gaps, times of release, checks, in plain words. -/
import Derived.Test.YtgabhhciodicoaaPg
namespace Go.Gv

def inT (t : Int) : Bool := decide (0 ≤ t) && decide (t ≤ 1000000000)
theorem inT_iff {t : Int} : inT t = true ↔ 0 ≤ t ∧ t ≤ 1000000000 := by simp [inT]

/-- g is the greatest of the numbers S, and of 0. -/
structure IsMax (S : Int → Prop) (g : Int) : Prop where
  pos : 0 ≤ g
  most : ∀ x, S x → x ≤ g
  one : g = 0 ∨ S g
theorem IsMax.add {S S' : Int → Prop} {g x : Int} (h : IsMax S g) (hs : ∀ y, S' y ↔ S y ∨ y = x) : IsMax S' (max g x) := by
  refine ⟨by have := h.pos; omega, fun y hy => ?_, ?_⟩
  · rcases (hs y).1 hy with hy | rfl
    · have := h.most y hy; omega
    · omega
  · by_cases hm : g ≤ x
    · exact .inr ((hs _).2 (.inr (by omega)))
    · have e : max g x = g := by omega
      rw [e]
      rcases h.one with h1 | h1
      · exact .inl h1
      · exact .inr ((hs _).2 (.inl h1))
theorem IsMax.congr {S S' : Int → Prop} {g : Int} (h : IsMax S g) (hs : ∀ y, S' y ↔ S y) : IsMax S' g :=
  ⟨h.pos, fun y hy => h.most y ((hs y).1 hy), h.one.imp id fun h1 => (hs _).2 h1⟩
theorem IsMax.unique {S : Int → Prop} {g g' : Int} (h : IsMax S g) (h' : IsMax S g') : g = g' := by
  have h1 : g ≤ g' := by
    rcases h.one with e | e
    · have := h'.pos; omega
    · exact h'.most _ e
  have h2 : g' ≤ g := by
    rcases h'.one with e | e
    · have := h.pos; omega
    · exact h.most _ e
  omega
def gS (a b : List T_Span) (th : Int) (x : Int) : Prop := ∃ s ∈ a, ∃ t ∈ b, s.Element = t.Element ∧ ready s t th - t.From = x
theorem isGap_iff {a b : List T_Span} {th g : Int} : IsGap a b th g ↔ IsMax (gS a b th) g :=
  ⟨fun h => ⟨h.pos, fun x ⟨s, hs, t, ht, e, ex⟩ => by have := h.most s hs t ht e; omega, h.one.imp id fun ⟨s, hs, t, ht, e, ex⟩ => ⟨s, hs, t, ht, e, ex⟩⟩,
   fun h => ⟨h.pos, fun s hs t ht e => h.most _ ⟨s, hs, t, ht, e, rfl⟩, h.one.imp id fun ⟨s, hs, t, ht, e, ex⟩ => ⟨s, hs, t, ht, e, ex⟩⟩⟩

theorem sgap_spec (N : Nat) (hN : 200 ≤ N) {a b : List T_Span} (ga : Good a) (gb : Good b) {th : Int} (h0 : 0 ≤ th) (h1 : th ≤ 1000000000) :
    (separation_gap N a b th = some (0, 24) ∧ Slow a b) ∨ ∃ g, separation_gap N a b th = some (g, 0) ∧ IsGap a b th g ∧ ¬ Slow a b := by
  have hla := ga.len
  have hlb := gb.len
  -- the inner loop
  have inner : ∀ (i : Nat) (hi : i < a.length) (S : Int → Prop) (d : Int), IsMax S d →
      (iterN (fun s : Int × Int => separation_gap_l4 N b th a[i] s.1 s.2) N (d, 0) = some (.inl (0, 24)) ∧ Slow [a[i]] b) ∨
      ∃ d', iterN (fun s : Int × Int => separation_gap_l4 N b th a[i] s.1 s.2) N (d, 0) = some (.inr d') ∧ IsMax (fun x => S x ∨ gS [a[i]] b th x) d' ∧ ¬ Slow [a[i]] b := fun i hi S d hd => by
    have hai := ga.at i hi
    obtain ⟨q, hq, hQ⟩ := iterN_run (f := fun s : Int × Int => separation_gap_l4 N b th a[i] s.1 s.2)
      (I := fun s => ∃ j : Nat, s.2 = j ∧ j ≤ b.length ∧ IsMax (fun x => S x ∨ gS [a[i]] (b.take j) th x) s.1 ∧ ¬ Slow [a[i]] (b.take j))
      (Q := fun q => (q = .inl (0, 24) ∧ Slow [a[i]] b) ∨ ∃ d', q = .inr d' ∧ IsMax (fun x => S x ∨ gS [a[i]] b th x) d' ∧ ¬ Slow [a[i]] b) (fun s => b.length - s.2.toNat) (by
      rintro ⟨e, j'⟩ ⟨j, rfl, hj, hm, hs⟩
      simp only at hm ⊢
      unfold separation_gap_l4
      by_cases h : j < b.length
      · have htk : b.take (j + 1) = b.take j ++ [b[j]] := List.take_succ_eq_append_getElem h
        have hb := gb.at j h
        by_cases he : a[i].Element = b[j].Element
        · by_cases hsl : a[i].To = 1000000000
          · exact .inr ⟨_, oit (decide_eq_true (by omega)) (obi (idx_nat h) (oif (by simp [he]) (oit (decide_eq_true hsl) rfl))), .inl ⟨rfl, _, List.mem_cons_self, _, List.getElem_mem h, he, hsl⟩⟩
          · have hr := ready_le a[i] b[j] h0
            have hset : ∀ y, (S y ∨ gS [a[i]] (b.take (j + 1)) th y) ↔ (S y ∨ gS [a[i]] (b.take j) th y) ∨ y = ready a[i] b[j] th - b[j].From := fun y => by
              constructor
              · rintro (hy | ⟨s, hs', t, ht, e1, e2⟩)
                · exact .inl (.inl hy)
                · rw [htk] at ht
                  rcases List.mem_append.1 ht with ht | ht
                  · exact .inl (.inr ⟨s, hs', t, ht, e1, e2⟩)
                  · have e3 := List.mem_singleton.1 ht
                    have e4 := List.mem_singleton.1 hs'
                    subst e3; subst e4
                    exact .inr e2.symm
              · rintro ((hy | ⟨s, hs', t, ht, e1, e2⟩) | rfl)
                · exact .inl hy
                · exact .inr ⟨s, hs', t, by rw [htk]; exact List.mem_append_left _ ht, e1, e2⟩
                · exact .inr ⟨_, List.mem_cons_self, b[j], by rw [htk]; exact List.mem_append_right _ List.mem_cons_self, he, rfl⟩
            have hns : ¬ Slow [a[i]] (b.take (j + 1)) := by
              rintro ⟨s, hs', t, _, _, e5⟩
              have e4 := List.mem_singleton.1 hs'
              subst e4
              exact hsl e5
            refine .inl ⟨(max e (ready a[i] b[j] th - b[j].From), ((j + 1 : Nat) : Int)), ?_, ⟨j + 1, rfl, h, hm.add hset, hns⟩, by simp only; omega⟩
            refine oit (decide_eq_true (by omega)) (obi (idx_nat h) (oif (by simp [he]) (oif (decide_eq_false hsl) (obi (in64_ok (by omega)) ?_))))
            by_cases hap : apart a[i] b[j] = true
            · have er : ready a[i] b[j] th = a[i].To + th := by unfold ready; rw [hap]; rfl
              refine oit hap (obi (in64_ok (by omega)) (obi (inc_nat (by omega)) ?_))
              rw [er, show a[i].To - b[j].From + th = a[i].To + th - b[j].From by omega]
            · have hap' : apart a[i] b[j] = false := by simpa using hap
              have er : ready a[i] b[j] th = a[i].To := by unfold ready; rw [hap']; rfl
              refine oif hap' (obi (inc_nat (by omega)) ?_)
              rw [er]
        · refine .inl ⟨(e, ((j + 1 : Nat) : Int)), oit (decide_eq_true (by omega)) (obi (idx_nat h) (oit (by simp [he]) (obi (inc_nat (by omega)) rfl))), ⟨j + 1, rfl, h, hm.congr fun y => ?_, ?_⟩, by simp only; omega⟩
          · constructor
            · rintro (hy | ⟨s, hs', t, ht, e1, e2⟩)
              · exact .inl hy
              · rw [htk] at ht
                rcases List.mem_append.1 ht with ht | ht
                · exact .inr ⟨s, hs', t, ht, e1, e2⟩
                · have e3 := List.mem_singleton.1 ht
                  have e4 := List.mem_singleton.1 hs'
                  subst e3; subst e4
                  exact absurd e1 he
            · rintro (hy | ⟨s, hs', t, ht, e1, e2⟩)
              · exact .inl hy
              · exact .inr ⟨s, hs', t, by rw [htk]; exact List.mem_append_left _ ht, e1, e2⟩
          · rintro ⟨s, hs', t, ht, e1, e5⟩
            rw [htk] at ht
            rcases List.mem_append.1 ht with ht | ht
            · exact hs ⟨s, hs', t, ht, e1, e5⟩
            · have e3 := List.mem_singleton.1 ht
              have e4 := List.mem_singleton.1 hs'
              subst e3; subst e4
              exact he e1
      · have : j = b.length := by omega
        subst this
        rw [List.take_of_length_le (Nat.le_refl _)] at hm hs
        exact .inr ⟨_, oif (decide_eq_false (by omega)) rfl, .inr ⟨e, rfl, hm, hs⟩⟩) N (d, 0) ⟨0, rfl, Nat.zero_le _, hd.congr fun y => ⟨fun h => h.elim id fun ⟨_, _, t, ht, _⟩ => by simp at ht, .inl⟩, by rintro ⟨_, _, t, ht, _⟩; simp at ht⟩ (by simp only; omega)
    rcases hQ with ⟨rfl, hs⟩ | ⟨d', rfl, hm, hs⟩
    · exact .inl ⟨hq, hs⟩
    · exact .inr ⟨d', hq, hm, hs⟩
  obtain ⟨q, hq, hQ⟩ := iterN_run (f := fun s : Int × Int => separation_gap_l3 N a b th s.1 s.2)
    (I := fun s => ∃ i : Nat, s.2 = i ∧ i ≤ a.length ∧ IsMax (gS (a.take i) b th) s.1 ∧ ¬ Slow (a.take i) b)
    (Q := fun q => (q = .inl (0, 24) ∧ Slow a b) ∨ ∃ g, q = .inr g ∧ IsMax (gS a b th) g ∧ ¬ Slow a b) (fun s => a.length - s.2.toNat) (by
    rintro ⟨d, i'⟩ ⟨i, rfl, hi, hm, hs⟩
    simp only at hm ⊢
    unfold separation_gap_l3
    by_cases h : i < a.length
    · have htk : a.take (i + 1) = a.take i ++ [a[i]] := List.take_succ_eq_append_getElem h
      rcases inner i h _ d hm with ⟨he, s, hs', t, ht, e1, e2⟩ | ⟨d', he, hm', hs'⟩
      · have e4 := List.mem_singleton.1 hs'
        subst e4
        exact .inr ⟨_, oit (decide_eq_true (by omega)) (obi (idx_nat h) (obi he rfl)), .inl ⟨rfl, _, List.getElem_mem h, t, ht, e1, e2⟩⟩
      · refine .inl ⟨(d', ((i + 1 : Nat) : Int)), oit (decide_eq_true (by omega)) (obi (idx_nat h) (obi he (obi (inc_nat (by omega)) rfl))), ⟨i + 1, rfl, h, hm'.congr fun y => ?_, ?_⟩, by simp only; omega⟩
        · constructor
          · rintro ⟨s, hs2, t, ht, e1, e2⟩
            rw [htk] at hs2
            rcases List.mem_append.1 hs2 with hs2 | hs2
            · exact .inl ⟨s, hs2, t, ht, e1, e2⟩
            · exact .inr ⟨s, hs2, t, ht, e1, e2⟩
          · rintro (⟨s, hs2, t, ht, e1, e2⟩ | ⟨s, hs2, t, ht, e1, e2⟩)
            · exact ⟨s, by rw [htk]; exact List.mem_append_left _ hs2, t, ht, e1, e2⟩
            · exact ⟨s, by rw [htk]; exact List.mem_append_right _ hs2, t, ht, e1, e2⟩
        · rintro ⟨s, hs2, t, ht, e1, e2⟩
          rw [htk] at hs2
          rcases List.mem_append.1 hs2 with hs2 | hs2
          · exact hs ⟨s, hs2, t, ht, e1, e2⟩
          · exact hs' ⟨s, hs2, t, ht, e1, e2⟩
    · have : i = a.length := by omega
      subst this
      rw [List.take_of_length_le (Nat.le_refl _)] at hm hs
      exact .inr ⟨_, oif (decide_eq_false (by omega)) rfl, .inr ⟨d, rfl, hm, hs⟩⟩) N (0, 0) ⟨0, rfl, Nat.zero_le _, ⟨by simp, fun x ⟨s, hs, _⟩ => by simp at hs, .inl rfl⟩, by rintro ⟨s, hs, _⟩; simp at hs⟩ (by simp only; omega)
  unfold separation_gap
  rcases hQ with ⟨rfl, hs⟩ | ⟨g, rfl, hm, hs⟩
  · exact .inl ⟨obi hq rfl, hs⟩
  · exact .inr ⟨g, obi hq rfl, isGap_iff.2 hm, hs⟩

/-- The gap, as a number. -/
def gv (a b : List T_Span) (th : Int) : Int := ((separation_gap 200 a b th).getD (0, 0)).1

/-- Lists of spans as a maker makes them. -/
structure Fine (l : List (List T_Span)) : Prop where
  len : l.length ≤ 10
  good : ∀ a ∈ l, Good a
  to : ∀ a ∈ l, ∀ s ∈ a, s.To ≤ 100000
theorem Fine.slow {l : List (List T_Span)} (f : Fine l) {a b : List T_Span} (ha : a ∈ l) : ¬ Slow a b := by
  rintro ⟨s, hs, _, _, _, e⟩
  have := f.to a ha s hs
  omega
theorem fgap {a b : List T_Span} (ga : Good a) (gb : Good b) (hs : ¬ Slow a b) {th : Int} (h0 : 0 ≤ th) (h1 : th ≤ 1000000000) : separation_gap 200 a b th = some (gv a b th, 0) ∧ IsGap a b th (gv a b th) := by
  rcases sgap_spec 200 (by omega) ga gb h0 h1 with ⟨_, h⟩ | ⟨g, h, hg, _⟩
  · exact absurd h hs
  · have : gv a b th = g := by unfold gv; rw [h]; rfl
    rw [this]; exact ⟨h, hg⟩
theorem rfgap {a b : List T_Span} (ga : Good a) (gb : Good b) (hs : ¬ Slow a b) {th : Int} (h0 : 0 ≤ th) (h1 : th ≤ 1000000000) : r23_Gap 200 a b th = some (gv a b th, 0) := by
  rcases rGap_spec 200 (by omega) ga gb h0 h1 with ⟨_, h⟩ | ⟨g, h, hg, _⟩
  · exact absurd h hs
  · rw [h, hg.unique (fgap ga gb hs h0 h1).2]
theorem Fine.gap_le {l : List (List T_Span)} (f : Fine l) {a b : List T_Span} (ha : a ∈ l) (hb : b ∈ l) {th : Int} (h0 : 0 ≤ th) (h1 : th ≤ 3000) : 0 ≤ gv a b th ∧ gv a b th ≤ 103000 := by
  obtain ⟨_, h⟩ := fgap (f.good a ha) (f.good b hb) (f.slow ha) h0 (show th ≤ 1000000000 by omega)
  refine ⟨h.pos, ?_⟩
  rcases h.one with e | ⟨s, hs, t, ht, e, e2⟩
  · omega
  · have := f.to a ha s hs
    have := ready_le s t h0
    have := (f.good b hb).mem ht
    omega

theorem sound_eq (N : Nat) (hN : 200 ≤ N) (l : List (List T_Span)) (hl : l.length ≤ 150) (hg : ∀ a ∈ l, Good a) {th : Int} (h0 : 0 ≤ th) (h1 : th ≤ 1000000000) : separation_sound N l th = some true := by
  have h := first_any l (fun x => !goodB x) false (fun s => separation_sound_l1 N l s) (fun i h hp => by
    unfold separation_sound_l1
    exact oit (decide_eq_true (by omega)) (obi (idx_nat h) (obi (svalid_eq N hN _) (oit hp rfl)))) (fun i h hp => by
    unfold separation_sound_l1
    exact oit (decide_eq_true (by omega)) (obi (idx_nat h) (obi (svalid_eq N hN _) (oif hp (obi (inc_nat (by omega)) rfl))))) (by
    unfold separation_sound_l1
    exact oif (decide_eq_false (by omega)) rfl) N (by omega)
  have ha : l.any (fun x => !goodB x) = false := by
    rw [Bool.eq_false_iff]
    intro hh
    obtain ⟨a, ha, hp⟩ := List.any_eq_true.1 hh
    rw [goodB_T (hg a ha)] at hp
    cases hp
  rw [ha] at h
  unfold separation_sound
  exact obi h (congrArg some (band (decide_eq_true h0) (decide_eq_true h1)))
theorem sGap_eq {a b : List T_Span} (ga : Good a) (gb : Good b) (hs : ¬ Slow a b) {th : Int} (h0 : 0 ≤ th) (h1 : th ≤ 1000000000) : separation_Gap 200 a b th = some (gv a b th, 0) := by
  unfold separation_Gap
  refine obi (sound_eq 200 (by omega) [a, b] (by simp) (fun x hx => ?_) h0 h1) (oif rfl (obi (fgap ga gb hs h0 h1).1 rfl))
  simp only [List.mem_cons, List.not_mem_nil, or_false] at hx
  rcases hx with rfl | rfl
  · exact ga
  · exact gb

/-! all gaps -/
def lg (l : List (List T_Span)) (th : Int) (j k : Nat) : Int := gv ((l[j]?).getD []) ((l[k]?).getD []) th
def row (l : List (List T_Span)) (th : Int) (k : Nat) : List Int := (List.range k).map fun j => lg l th j k
def mat (l : List (List T_Span)) (th : Int) : List (List Int) := (List.range l.length).map (row l th)
theorem row_len (l : List (List T_Span)) (th : Int) (k : Nat) : (row l th k).length = k := by simp [row]
theorem row_get (l : List (List T_Span)) (th : Int) {j k : Nat} (h : j < k) : (row l th k)[j]'(by rw [row_len]; exact h) = lg l th j k := by simp [row]
theorem row_succ (l : List (List T_Span)) (th : Int) (k j : Nat) (h : j < k) : (row l th k).take (j + 1) = (row l th k).take j ++ [lg l th j k] := by
  rw [List.take_succ_eq_append_getElem (by rw [row_len]; exact h), row_get l th h]
theorem mat_len (l : List (List T_Span)) (th : Int) : (mat l th).length = l.length := by simp [mat]
theorem mat_get (l : List (List T_Span)) (th : Int) {k : Nat} (h : k < l.length) : (mat l th)[k]'(by rw [mat_len]; exact h) = row l th k := by simp [mat]
theorem lg_eq {l : List (List T_Span)} {th : Int} {j k : Nat} (hj : j < l.length) (hk : k < l.length) : lg l th j k = gv l[j] l[k] th := by simp [lg, hj, hk]

/-- The rows up to k, and the rest empty. -/
def part (l : List (List T_Span)) (th : Int) (k : Nat) : List (List Int) := (List.range l.length).map fun m => if m < k then row l th m else []
theorem part_len (l : List (List T_Span)) (th : Int) (k : Nat) : (part l th k).length = l.length := by simp [part]
theorem part_set (l : List (List T_Span)) (th : Int) {k : Nat} : (part l th k).set k (row l th k) = part l th (k + 1) := by
  apply List.ext_getElem?
  intro m
  rw [List.getElem?_set]
  by_cases hm : k = m
  · subst hm
    by_cases hk : k < l.length
    · simp [part, hk]
    · simp [part, hk]
  · rw [if_neg hm]
    by_cases hk : m < l.length
    · have : (m < k + 1) ↔ (m < k) := by omega
      simp [part, hk, this]
    · simp [part, hk]

theorem gaps_eq {l : List (List T_Span)} (f : Fine l) {th : Int} (h0 : 0 ≤ th) (h1 : th ≤ 3000) : separation_gaps 200 l th = some (mat l th, 0) := by
  have hl := f.len
  have inner : ∀ (k : Nat) (hk : k < l.length), iterN (fun s : Int × List (List Int) => separation_gaps_l4 200 l th (k : Int) s.1 s.2) 200 (0, part l th k) = some (.inr (part l th (k + 1))) := fun k hk => by
    obtain ⟨q, hq, rfl⟩ := iterN_run (f := fun s : Int × List (List Int) => separation_gaps_l4 200 l th (k : Int) s.1 s.2)
      (I := fun s => ∃ j : Nat, s = ((j : Int), (part l th k).set k ((row l th k).take j)) ∧ j ≤ k) (Q := fun q => q = .inr (part l th (k + 1))) (fun s => k - s.1.toNat) (by
      rintro s ⟨j, rfl, hj⟩
      simp only
      unfold separation_gaps_l4
      have hlen : ((part l th k).set k ((row l th k).take j)).length = l.length := by simp [part_len]
      have hx : idx ((part l th k).set k ((row l th k).take j)) (k : Int) = some ((row l th k).take j) := by rw [idx_nat (by omega), List.getElem_set_self]
      by_cases h : j < k
      · have hjl : j < l.length := by omega
        have hgp := (fgap (f.good _ (List.getElem_mem hjl)) (f.good _ (List.getElem_mem hk)) (f.slow (b := l[k]) (List.getElem_mem hjl)) h0 (show th ≤ 1000000000 by omega)).1
        rw [← lg_eq (th := th) hjl hk] at hgp
        have hrl : ((row l th k).take j).length = j := by rw [List.length_take, row_len]; omega
        refine .inl ⟨(((j + 1 : Nat) : Int), (part l th k).set k ((row l th k).take (j + 1))), oit (decide_eq_true (by omega)) (obi (idx_nat hjl) (obi (idx_nat hk) (obi hgp (oif rfl (obi hx (obi (app_ok (by rw [hrl]; simp; omega) (by rw [hrl]; simp; omega)) (obi hx (obi (inc_nat (by omega)) ?_)))))))), ⟨j + 1, rfl, h⟩, by simp only; omega⟩
        rw [Int.toNat_natCast, List.set_set, row_succ l th k j h]
      · have : j = k := by omega
        subst this
        refine .inr ⟨_, oif (decide_eq_false (by omega)) rfl, ?_⟩
        rw [List.take_of_length_le (by rw [row_len]; exact Nat.le_refl _), part_set]) 200 (0, part l th k) ⟨0, by
          have : (part l th k).set k [] = part l th k := by
            apply List.ext_getElem?
            intro m
            rw [List.getElem?_set]
            split
            · rename_i hm; subst hm; simp [part, hk]
            · rfl
          rw [List.take_zero, this]; rfl, Nat.zero_le _⟩ (by simp only; omega)
    exact hq
  obtain ⟨q, hq, rfl⟩ := iterN_run (f := fun s : Int × List (List Int) => separation_gaps_l3 200 l th s.1 s.2) (I := fun s => ∃ k : Nat, s = ((k : Int), part l th k) ∧ k ≤ l.length) (Q := fun q => q = .inr (mat l th)) (fun s => l.length - s.1.toNat) (by
    rintro s ⟨k, rfl, hk⟩
    simp only
    unfold separation_gaps_l3
    by_cases h : k < l.length
    · exact .inl ⟨_, oit (decide_eq_true (by omega)) (obi (inner k h) (obi (inc_nat (by omega)) rfl)), ⟨k + 1, rfl, h⟩, by simp only; omega⟩
    · have : k = l.length := by omega
      subst this
      refine .inr ⟨_, oif (decide_eq_false (by omega)) rfl, ?_⟩
      congr 1
      apply List.map_congr_left
      intro m hm
      rw [if_pos (List.mem_range.1 hm)]) 200 (0, part l th 0) ⟨0, rfl, Nat.zero_le _⟩ (by simp only; omega)
  unfold separation_gaps
  refine oif (decide_eq_false (by omega)) (obi (sound_eq 200 (by omega) l (by omega) f.good h0 (by omega)) (oif rfl (obi (x := part l th 0) ?_ (obi hq rfl))))
  unfold mkL
  rw [if_pos (by omega), Int.toNat_natCast]
  congr 1
  apply List.ext_getElem?
  intro m
  by_cases hm : m < l.length
  · simp [part, hm]
  · simp [part, hm]

/-! times of release -/
def rS (l : List (List T_Span)) (th : Int) (R : List Int) (k : Nat) (x : Int) : Prop := ∃ (j : Nat) (h : j < R.length), j < k ∧ R[j] + lg l th j k = x
structure IsRel (l : List (List T_Span)) (th : Int) (R : List Int) : Prop where
  len : R.length = l.length
  max : ∀ (k : Nat) (h : k < R.length), IsMax (rS l th R k) R[k]
  le : ∀ (k : Nat) (h : k < R.length), R[k] ≤ 103000 * k
theorem Fine.lg_le {l : List (List T_Span)} (f : Fine l) {th : Int} (h0 : 0 ≤ th) (h1 : th ≤ 3000) {j k : Nat} (hj : j < l.length) (hk : k < l.length) : 0 ≤ lg l th j k ∧ lg l th j k ≤ 103000 := by
  rw [lg_eq hj hk]
  exact f.gap_le (List.getElem_mem hj) (List.getElem_mem hk) h0 h1

theorem rS_app {l : List (List T_Span)} {th : Int} {R : List Int} {x : Int} {k : Nat} (hk : k ≤ R.length) (y : Int) : rS l th (R ++ [x]) k y ↔ rS l th R k y := by
  constructor
  · rintro ⟨j, h, hj, e⟩
    rw [List.getElem_append_left (by omega)] at e
    exact ⟨j, by omega, hj, e⟩
  · rintro ⟨j, h, hj, e⟩
    exact ⟨j, by simp; omega, hj, by rw [List.getElem_append_left h]; exact e⟩

theorem times_eq {l : List (List T_Span)} (f : Fine l) {th : Int} (h0 : 0 ≤ th) (h1 : th ≤ 3000) : ∃ R, separation_times 200 (mat l th) = some (R, 0) ∧ IsRel l th R := by
  have hl := f.len
  have inner : ∀ (k : Nat) (R : List Int), k < l.length → R.length = k → (∀ (j : Nat) (h : j < R.length), 0 ≤ R[j] ∧ R[j] ≤ 103000 * j) →
      ∃ t, iterN (fun s : Int × Int => separation_times_l5 200 R (row l th k) s.1 s.2) 200 (0, 0) = some t ∧ IsMax (rS l th R k) t := fun k R hk hR hb => by
    obtain ⟨q, hq, hQ⟩ := iterN_run (f := fun s : Int × Int => separation_times_l5 200 R (row l th k) s.1 s.2) (I := fun s => ∃ j : Nat, s.2 = j ∧ j ≤ k ∧ IsMax (fun x => ∃ (m : Nat) (h : m < R.length), m < j ∧ R[m] + lg l th m k = x) s.1) (Q := fun t => IsMax (rS l th R k) t) (fun s => k - s.2.toNat) (by
      rintro ⟨t, j'⟩ ⟨j, rfl, hj, hm⟩
      simp only at hm ⊢
      unfold separation_times_l5
      by_cases h : j < k
      · have hjR : j < R.length := by omega
        have hbj := hb j hjR
        have hlg := f.lg_le h0 h1 (j := j) (k := k) (by omega) hk
        have hrl := row_len l th k
        have hx : idx (row l th k) (j : Int) = some (lg l th j k) := by rw [idx_nat (by omega), row_get l th h]
        refine .inl ⟨(max t (R[j] + lg l th j k), ((j + 1 : Nat) : Int)), oit (decide_eq_true (by omega)) (obi hx (obi (idx_nat hjR) (obi (in64_ok (by omega)) (obi (inc_nat (by omega)) rfl)))), ⟨j + 1, rfl, h, hm.add fun y => ?_⟩, by simp only; omega⟩
        constructor
        · rintro ⟨m, hmR, hmj, e⟩
          by_cases ej : m = j
          · subst ej; exact .inr e.symm
          · exact .inl ⟨m, hmR, by omega, e⟩
        · rintro (⟨m, hmR, hmj, e⟩ | rfl)
          · exact ⟨m, hmR, by omega, e⟩
          · exact ⟨j, hjR, by omega, rfl⟩
      · have : j = k := by omega
        subst this
        have hrl := row_len l th j
        exact .inr ⟨_, oif (decide_eq_false (by omega)) rfl, hm⟩) 200 (0, 0) ⟨0, rfl, Nat.zero_le _, ⟨by simp, fun x ⟨m, _, h, _⟩ => by omega, .inl rfl⟩⟩ (by simp only; omega)
    exact ⟨q, hq, hQ⟩
  obtain ⟨q, hq, R, rfl, hR⟩ := iterN_run (f := fun s : Int × List Int => separation_times_l4 200 (mat l th) s.1 s.2)
    (I := fun s => s.1 = (s.2.length : Int) ∧ s.2.length ≤ l.length ∧ (∀ (k : Nat) (h : k < s.2.length), IsMax (rS l th s.2 k) s.2[k] ∧ s.2[k] ≤ 103000 * k))
    (Q := fun q => ∃ R, q = .inr R ∧ IsRel l th R) (fun s => l.length - s.2.length) (by
    rintro ⟨i, R⟩ ⟨e, hR, hall⟩
    simp only at e hR hall ⊢
    subst e
    unfold separation_times_l4
    have hml := mat_len l th
    by_cases h : R.length < l.length
    · obtain ⟨t, ht, hm⟩ := inner R.length R h rfl fun j hj => ⟨(hall j hj).1.pos, (hall j hj).2⟩
      have htl : t ≤ 103000 * R.length := by
        rcases hm.one with e | ⟨j, hj, _, e⟩
        · omega
        · have := (hall j hj).2
          have := f.lg_le h0 h1 (j := j) (k := R.length) (by omega) h
          omega
      have htp := hm.pos
      have hx : idx (mat l th) (R.length : Int) = some (row l th R.length) := by rw [idx_nat (by omega), mat_get l th h]
      refine .inl ⟨(((R.length + 1 : Nat) : Int), R ++ [t]), oit (decide_eq_true (by omega)) (obi hx (obi ht (oif (decide_eq_false (by omega)) (obi (app_ok (by simp; omega) (by simp; omega)) (obi (inc_nat (by omega)) rfl))))), ⟨by simp, by simp; omega, fun k hk => ?_⟩, by simp; omega⟩
      by_cases hkR : k < R.length
      · have hkk : (R ++ [t])[k] = R[k] := List.getElem_append_left hkR
        simp only [hkk]
        exact ⟨(hall k hkR).1.congr fun y => rS_app (by omega) y, (hall k hkR).2⟩
      · have : k = R.length := by simp at hk; omega
        subst this
        have hkk : (R ++ [t])[R.length] = t := by simp
        simp only [hkk]
        exact ⟨hm.congr fun y => rS_app (by omega) y, htl⟩
    · exact .inr ⟨_, oif (decide_eq_false (by omega)) rfl, R, rfl, ⟨by omega, fun k hk => (hall k hk).1, fun k hk => (hall k hk).2⟩⟩) 200 (0, []) ⟨by simp, by simp, fun k hk => by simp at hk⟩ (by simp only [List.length_nil]; omega)
  refine ⟨R, ?_, hR⟩
  unfold separation_times
  exact obi hq rfl

theorem released_eq {l : List (List T_Span)} (f : Fine l) {th : Int} (h0 : 0 ≤ th) (h1 : th ≤ 3000) : ∃ R, separation_released 200 l th = some (mat l th, R, 0) ∧ separation_Releases 200 l th = some (R, 0) ∧ IsRel l th R := by
  obtain ⟨R, hR, hr⟩ := times_eq f h0 h1
  have h : separation_released 200 l th = some (mat l th, R, 0) := by
    unfold separation_released
    exact obi (gaps_eq f h0 h1) (obi hR (obi (oif rfl rfl) (oif rfl rfl)))
  exact ⟨R, h, obi h rfl, hr⟩

/-! checks -/
def apartQ (l : List (List T_Span)) (th : Int) (q : List Int) : Prop := ∀ (k : Nat) (h : k < q.length), (0 ≤ q[k] ∧ q[k] ≤ 1000000000) ∧ ∀ (j : Nat) (hj : j < k), q[j] + lg l th j k ≤ q[k]
theorem check_spec {l : List (List T_Span)} (f : Fine l) {th : Int} (h0 : 0 ≤ th) (h1 : th ≤ 3000) {q : List Int} (hq : q.length = l.length) (hb : ∀ x ∈ q, -10000000000 ≤ x ∧ x ≤ 10000000000) :
    ∃ v, separation_Check 200 l th q = some (v, 0) ∧ (v = true ↔ apartQ l th q) := by
  have hl := f.len
  have hml := mat_len l th
  have inner : ∀ (k : Nat) (hk : k < q.length), iterN (fun s : Int => separation_Check_l4 200 q q[k] (row l th k) s) 200 0 = some (bif (List.range k).any (fun j => decide (q[k] < (q[j]?).getD 0 + lg l th j k)) then .inl (false, 0) else .inr ()) := fun k hk => by
    have hrl := row_len l th k
    refine first_any (List.range k) _ (false, 0) _ (fun j h hp => ?_) (fun j h hp => ?_) ?_ 200 (by simp; omega)
    · have hjk : j < k := by simpa using h
      rw [List.getElem_range] at hp
      have hj : j < q.length := by omega
      have hlg := f.lg_le h0 h1 (j := j) (k := k) (by omega) (by omega)
      have hbj := hb _ (List.getElem_mem hj)
      have hx : idx (row l th k) (j : Int) = some (lg l th j k) := by rw [idx_nat (by omega), row_get l th hjk]
      have hp' : decide (q[k] < q[j] + lg l th j k) = true := by simpa [hj] using hp
      unfold separation_Check_l4
      exact oit (decide_eq_true (by omega)) (obi hx (obi (idx_nat hj) (obi (in64_ok (by omega)) (oit hp' rfl))))
    · have hjk : j < k := by simpa using h
      rw [List.getElem_range] at hp
      have hj : j < q.length := by omega
      have hlg := f.lg_le h0 h1 (j := j) (k := k) (by omega) (by omega)
      have hbj := hb _ (List.getElem_mem hj)
      have hx : idx (row l th k) (j : Int) = some (lg l th j k) := by rw [idx_nat (by omega), row_get l th hjk]
      have hp' : decide (q[k] < q[j] + lg l th j k) = false := by simpa [hj] using hp
      unfold separation_Check_l4
      exact oit (decide_eq_true (by omega)) (obi hx (obi (idx_nat hj) (obi (in64_ok (by omega)) (oif hp' (obi (inc_nat (by omega)) rfl)))))
    · unfold separation_Check_l4
      exact oif (decide_eq_false (by simp; omega)) rfl
  have hbad : ∀ (k : Nat) (hk : k < q.length), ((List.range k).any (fun j => decide (q[k] < (q[j]?).getD 0 + lg l th j k)) = false ↔ ∀ (j : Nat) (hj : j < k), q[j] + lg l th j k ≤ q[k]) := fun k hk => by
    rw [List.any_eq_false]
    constructor
    · intro h j hj
      have := h j (List.mem_range.2 hj)
      have hjq : j < q.length := by omega
      simp only [List.getElem?_eq_getElem hjq, Option.getD_some, decide_eq_true_eq] at this
      omega
    · intro h j hj
      have hjk := List.mem_range.1 hj
      have hjq : j < q.length := by omega
      have := h j hjk
      simp only [List.getElem?_eq_getElem hjq, Option.getD_some, decide_eq_true_eq]
      omega
  obtain ⟨x, hx, hX⟩ := iterN_run (f := fun s : Int => separation_Check_l3 200 q (mat l th, 0) s) (I := fun s => ∃ k : Nat, s = k ∧ k ≤ q.length ∧ ∀ (m : Nat) (h : m < q.length), m < k → (0 ≤ q[m] ∧ q[m] ≤ 1000000000) ∧ ∀ (j : Nat) (hj : j < m), q[j] + lg l th j m ≤ q[m])
    (Q := fun x => (x = .inl (false, 0) ∧ ¬ apartQ l th q) ∨ (x = .inr () ∧ apartQ l th q)) (fun s => q.length - s.toNat) (by
    rintro s ⟨k, rfl, hk, hall⟩
    unfold separation_Check_l3
    by_cases h : k < q.length
    · by_cases hr : 0 ≤ q[k] ∧ q[k] ≤ 1000000000
      · have hxr : idx (mat l th) (k : Int) = some (row l th k) := by rw [idx_nat (by omega), mat_get l th (by omega)]
        have hi := inner k h
        have ec : (decide (q[k] < 0) || decide (1000000000 < q[k])) = false := borF (decide_eq_false (by omega)) (decide_eq_false (by omega))
        cases ha : (List.range k).any (fun j => decide (q[k] < (q[j]?).getD 0 + lg l th j k)) with
        | true =>
          rw [ha] at hi
          refine .inr ⟨_, oit (decide_eq_true (by omega)) (obi (idx_nat h) (oif ec (obi hxr (obi hi rfl)))), .inl ⟨rfl, fun hq' => ?_⟩⟩
          rw [(hbad k h).2 (hq' k h).2] at ha
          cases ha
        | false =>
          rw [ha] at hi
          refine .inl ⟨_, oit (decide_eq_true (by omega)) (obi (idx_nat h) (oif ec (obi hxr (obi hi (obi (inc_nat (by omega)) rfl))))), ⟨k + 1, rfl, h, fun m hm hmk => ?_⟩, by omega⟩
          by_cases e : m = k
          · subst e; exact ⟨hr, (hbad m hm).1 ha⟩
          · exact hall m hm (by omega)
      · refine .inr ⟨_, oit (decide_eq_true (by omega)) (obi (idx_nat h) (oit ?_ rfl)), .inl ⟨rfl, fun hq' => hr (hq' k h).1⟩⟩
        simp only [Bool.or_eq_true, decide_eq_true_eq]; omega
    · have : k = q.length := by omega
      subst this
      exact .inr ⟨_, oif (decide_eq_false (by omega)) rfl, .inr ⟨rfl, fun m hm => hall m hm hm⟩⟩) 200 0 ⟨0, rfl, Nat.zero_le _, fun _ _ h => absurd h (Nat.not_lt_zero _)⟩ (by simp; omega)
  rcases hX with ⟨rfl, hn⟩ | ⟨rfl, hg⟩
  · refine ⟨false, ?_, by simp [hn]⟩
    unfold separation_Check
    exact obi (gaps_eq f h0 h1) (oif rfl (oif (by rw [hq]; simp) (obi hx rfl)))
  · refine ⟨true, ?_, by simp [hg]⟩
    unfold separation_Check
    exact obi (gaps_eq f h0 h1) (oif rfl (oif (by rw [hq]; simp) (obi hx rfl)))
end Go.Gv
