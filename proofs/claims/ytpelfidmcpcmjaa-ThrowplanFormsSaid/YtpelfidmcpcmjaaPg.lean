/- Gaps of spans, in plain words. -/
import Derived.Test.YtpelfidmcpcmjaaPs
namespace Go.Gv

def Slow (a b : List T_Span) : Prop := ∃ s ∈ a, ∃ t ∈ b, s.Element = t.Element ∧ s.To = 1000000000
structure IsGap (a b : List T_Span) (th g : Int) : Prop where
  pos : 0 ≤ g
  most : ∀ s ∈ a, ∀ t ∈ b, s.Element = t.Element → ready s t th - t.From ≤ g
  one : g = 0 ∨ ∃ s ∈ a, ∃ t ∈ b, s.Element = t.Element ∧ ready s t th - t.From = g
theorem IsGap.unique {a b : List T_Span} {th g g' : Int} (h : IsGap a b th g) (h' : IsGap a b th g') : g = g' := by
  have h1 : g ≤ g' := by
    rcases h.one with e | ⟨s, hs, t, ht, e, e2⟩
    · have := h'.pos; omega
    · have := h'.most s hs t ht e; omega
  have h2 : g' ≤ g := by
    rcases h'.one with e | ⟨s, hs, t, ht, e, e2⟩
    · have := h.pos; omega
    · have := h.most s hs t ht e; omega
  omega
theorem IsGap.le {a b : List T_Span} {th g : Int} (ga : Good a) (gb : Good b) (h0 : 0 ≤ th) (h1 : th ≤ 1000000000) (h : IsGap a b th g) : g ≤ 2000000000 := by
  rcases h.one with e | ⟨s, hs, t, ht, e, e2⟩
  · omega
  · have := ga.mem hs
    have := gb.mem ht
    have := ready_le s t h0
    omega

theorem rgap_spec (N : Nat) (hN : 200 ≤ N) {a b : List T_Span} (ga : Good a) (gb : Good b) {th : Int} (h0 : 0 ≤ th) (h1 : th ≤ 1000000000) :
    (r23_gap N a b th = some (0, 24) ∧ Slow a b) ∨ ∃ g, r23_gap N a b th = some (g, 0) ∧ IsGap a b th g ∧ ¬ Slow a b := by
  have hla := ga.len
  have hlb := gb.len
  obtain ⟨q, hq, hQ⟩ := iterN_run (f := fun s : Int × Int => r23_gap_l1 N a b th s.1 s.2)
    (I := fun s => ∃ i : Nat, s.2 = i ∧ i ≤ b.length ∧ IsGap a (b.take i) th s.1 ∧ ¬ Slow a (b.take i) ∧ s.1 ≤ 2000000000)
    (Q := fun q => (q = .inl (0, 24) ∧ Slow a b) ∨ ∃ g, q = .inr g ∧ IsGap a b th g ∧ ¬ Slow a b) (fun s => b.length - s.2.toNat) (by
    rintro ⟨d, i'⟩ ⟨i, rfl, hi, hg, hs, hd⟩
    simp only at hg hd ⊢
    unfold r23_gap_l1
    by_cases h : i < b.length
    · have htk : b.take (i + 1) = b.take i ++ [b[i]] := List.take_succ_eq_append_getElem h
      have hb := gb.at i h
      rcases find_cases ga b[i].Element with ⟨j, hj, e1, e2, e3⟩ | ⟨e1, e2⟩
      · have haj := ga.at j hj
        by_cases hsl : a[j].To = 1000000000
        · refine .inr ⟨_, oit (decide_eq_true (by omega)) (obi (idx_nat h) (obi (find_eq N a (by omega) (by omega) _) (oif (decide_eq_false (by rw [e1]; omega)) (obi (by rw [e1]; exact idx_nat hj) (oit (decide_eq_true hsl) rfl))))), .inl ⟨rfl, _, List.getElem_mem hj, _, List.getElem_mem h, e2, hsl⟩⟩
        · have hr := ready_le a[j] b[i] h0
          refine .inl ⟨(max d (ready a[j] b[i] th - b[i].From), ((i + 1 : Nat) : Int)), oit (decide_eq_true (by omega)) (obi (idx_nat h) (obi (find_eq N a (by omega) (by omega) _) (oif (decide_eq_false (by rw [e1]; omega)) (obi (by rw [e1]; exact idx_nat hj) (oif (decide_eq_false hsl) (obi (by rw [e1]; exact idx_nat hj) (obi (idx_nat h) (obi (idx_nat h) (obi (after_eq N _ _ _ (by omega)) (obi (in64_ok (by omega)) (obi (inc_nat (by omega)) rfl))))))))))), ⟨i + 1, rfl, h, ⟨?_, ?_, ?_⟩, ?_, ?_⟩, by simp only; omega⟩
          · have := hg.pos; simp only; omega
          · intro s hs' t ht e
            rw [htk] at ht
            rcases List.mem_append.1 ht with ht | ht
            · have := hg.most s hs' t ht e; simp only; omega
            · simp at ht; subst ht
              have := e3 s hs' e
              subst this
              simp only; omega
          · simp only
            by_cases hm : d ≤ ready a[j] b[i] th - b[i].From
            · exact .inr ⟨_, List.getElem_mem hj, b[i], by rw [htk]; exact List.mem_append_right _ List.mem_cons_self, e2, by omega⟩
            · have em : max d (ready a[j] b[i] th - b[i].From) = d := by omega
              rw [em]
              rcases hg.one with e | ⟨s, hs', t, ht, e, e5⟩
              · exact .inl e
              · exact .inr ⟨s, hs', t, by rw [htk]; exact List.mem_append_left _ ht, e, e5⟩
          · rintro ⟨s, hs', t, ht, e, e5⟩
            rw [htk] at ht
            rcases List.mem_append.1 ht with ht | ht
            · exact hs ⟨s, hs', t, ht, e, e5⟩
            · simp at ht; subst ht
              have := e3 s hs' e
              subst this
              exact hsl e5
          · simp only; omega
      · refine .inl ⟨(d, ((i + 1 : Nat) : Int)), oit (decide_eq_true (by omega)) (obi (idx_nat h) (obi (find_eq N a (by omega) (by omega) _) (oit (decide_eq_true (by rw [e1]; omega)) (obi (inc_nat (by omega)) rfl)))), ⟨i + 1, rfl, h, ⟨hg.pos, ?_, ?_⟩, ?_, hd⟩, by simp only; omega⟩
        · intro s hs' t ht e
          rw [htk] at ht
          rcases List.mem_append.1 ht with ht | ht
          · exact hg.most s hs' t ht e
          · simp at ht; subst ht; exact absurd e (e2 s hs')
        · rcases hg.one with e | ⟨s, hs', t, ht, e, e5⟩
          · exact .inl e
          · exact .inr ⟨s, hs', t, by rw [htk]; exact List.mem_append_left _ ht, e, e5⟩
        · rintro ⟨s, hs', t, ht, e, e5⟩
          rw [htk] at ht
          rcases List.mem_append.1 ht with ht | ht
          · exact hs ⟨s, hs', t, ht, e, e5⟩
          · simp at ht; subst ht; exact e2 s hs' e
    · have : i = b.length := by omega
      subst this
      rw [List.take_of_length_le (Nat.le_refl _)] at hg hs
      exact .inr ⟨_, oif (decide_eq_false (by omega)) rfl, .inr ⟨d, rfl, hg, hs⟩⟩) N (0, 0) ⟨0, rfl, Nat.zero_le _, ⟨by simp, fun s _ t ht => by simp at ht, .inl rfl⟩, by rintro ⟨s, _, t, ht, _⟩; simp at ht, by simp⟩ (by simp only; omega)
  unfold r23_gap
  rcases hQ with ⟨rfl, hs⟩ | ⟨g, rfl, hg, hs⟩
  · exact .inl ⟨obi hq rfl, hs⟩
  · exact .inr ⟨g, obi hq rfl, hg, hs⟩
end Go.Gv
