/- Cuts that a maker makes; lists of cuts as chains. -/
import Derived.Test.YtiffggmeebajpaaPm
namespace Go.Gv

theorem pushed_ok (l : List Int) (n : Nat) (hn : n ≤ 90) : ∃ k ps r, Maker_Pushed 200 l 0 n = some (k, ps, r) ∧ 0 ≤ k ∧ k ≤ 10000 ∧ good ps r := by
  obtain ⟨w, hw, w1, w2⟩ := from_ok 200 l (k := 0) (a := 1) (b := 6) (by omega) (by omega) (by omega) (by omega) (by omega)
  obtain ⟨x, hx, x1, x2⟩ := from_ok 200 l (k := 0 + 1) (a := 8) (b := 24) (by omega) (by omega) (by omega) (by omega) (by omega)
  obtain ⟨y, hy, y1, y2⟩ := from_ok 200 l (k := 0 + 1 + 1) (a := 400) (b := 1200) (by omega) (by omega) (by omega) (by omega) (by omega)
  obtain ⟨m, hm, m1, m2⟩ := next_ok 200 l (k := 0 + 1 + 1 + 1) (n := (n : Int) + 1) (by omega) (by omega) (by omega) (by omega)
  obtain ⟨m, rfl⟩ : ∃ i : Nat, m = i := ⟨m.toNat, by omega⟩
  have hR : okR (T_CutRules.mk w x y) = true := by simp [okR]; omega
  obtain ⟨q, hq, q1, q2, q3, q4⟩ := iterN_run (f := fun s : Int × Int × Int × List T_Pushed => Maker_Pushed_l1 200 l s.1 s.2.1 s.2.2.1 s.2.2.2)
    (I := fun s => (0 ≤ s.1 ∧ s.1 ≤ 3) ∧ (0 ≤ s.2.1 ∧ s.2.1 + s.2.2.2.length = m) ∧ (0 ≤ s.2.2.1 ∧ s.2.2.1 ≤ 4 + 6 * s.2.2.2.length) ∧ ∀ (j : Nat) (h : j < s.2.2.2.length), okW (T_CutRules.mk w x y) s.2.2.2[j] = true)
    (Q := fun q => 0 ≤ q.1 ∧ q.1 ≤ 4 + 6 * q.2.length ∧ (q.2.length : Int) ≤ m ∧ ∀ (j : Nat) (h : j < q.2.length), okW (T_CutRules.mk w x y) q.2[j] = true) (fun s => s.2.1.toNat) (by
    rintro ⟨t, c, k, ps⟩ ⟨⟨t1, t2⟩, ⟨c1, c2⟩, ⟨k1, k2⟩, hall⟩
    simp only at t1 t2 c1 c2 k1 k2 hall
    unfold Maker_Pushed_l1
    by_cases h : 0 < c
    · obtain ⟨u, hu, u1, u2⟩ := next_ok 200 l (k := k) (n := 2) (by omega) (by omega) (by omega) (by omega)
      obtain ⟨j, hj, j1, j2, j3, j4⟩ : ∃ j : Int × Int, (bif decide (u = 0) then (Option.bind (Maker_Next 200 l (k + 1) 4) fun r714 => some (r714.2, r714.1)) else some (t, k + 1)) = some j ∧ 0 ≤ j.1 ∧ j.1 ≤ 3 ∧ 0 ≤ j.2 ∧ j.2 ≤ k + 2 := by
        by_cases hz : u = 0
        · obtain ⟨v, hv, v1, v2⟩ := next_ok 200 l (k := k + 1) (n := 4) (by omega) (by omega) (by omega) (by omega)
          exact ⟨(v, k + 1 + 1), oit (by simpa using hz) (obi hv rfl), v1, by simp only; omega, by simp only; omega, by simp only; omega⟩
        · exact ⟨(t, k + 1), oif (by simpa using hz) rfl, t1, t2, by simp only; omega, by simp only; omega⟩
      obtain ⟨a, ha, a1⟩ := pick_ok 200 l (k := j.2) (v := [80, 142, 199, 262, 400]) (by omega) (by omega) (by simp) (by simp)
      obtain ⟨b, hb, b1⟩ := pick_ok 200 l (k := j.2 + 1) (v := [2, 4, 4, 6]) (by omega) (by omega) (by simp) (by simp)
      obtain ⟨d, hd, d1⟩ := pick_ok 200 l (k := j.2 + 1 + 1) (v := [100, 400, 800]) (by omega) (by omega) (by simp) (by simp)
      obtain ⟨g, hg, g1, g2⟩ := next_ok 200 l (k := j.2 + 1 + 1 + 1) (n := 9) (by omega) (by omega) (by omega) (by omega)
      refine .inl ⟨(j.1, c - 1, j.2 + 1 + 1 + 1 + 1, ps ++ [T_Pushed.mk a b d (decide (g = 0)) j.1]), oit (by simpa using h) (obi hu (obi hj (obi ha (obi hb (obi hd (obi hg (obi (app_ok ?_ ?_) (obi (in64_ok (by simp only; omega)) rfl)))))))), ⟨⟨j1, j2⟩, ⟨?_, ?_⟩, ⟨?_, ?_⟩, ?_⟩, ?_⟩
      · simp; omega
      · simp; omega
      · simp only; omega
      · simp; omega
      · simp only; omega
      · simp; omega
      · intro i hi
        simp only at hi ⊢
        rw [List.getElem_append]
        by_cases hlt : i < ps.length
        · rw [dif_pos hlt]; exact hall i hlt
        · rw [dif_neg hlt]
          simp only [List.mem_cons, List.not_mem_nil, or_false] at a1 b1 d1
          simp only [List.getElem_singleton, okW, Bool.and_eq_true, decide_eq_true_eq]
          omega
      · simp only; omega
    · exact .inr ⟨_, oif (by simpa using h) rfl, k1, k2, by simp only; omega, hall⟩) 200 (0, (m : Int), 0 + 1 + 1 + 1 + 1, []) ⟨⟨by simp, by simp⟩, ⟨by simp, by simp⟩, ⟨by simp, by simp⟩, by simp⟩ (by simp only; omega)
  refine ⟨q.1, q.2, T_CutRules.mk w x y, ?_, q1, by omega, hR, by omega, q4⟩
  unfold Maker_Pushed
  exact obi hw (obi hx (obi hy (obi (in64_ok (by omega)) (obi hm (obi hq rfl)))))

theorem perm_spec (N : Nat) {l : List T_Pushed} {r : T_CutRules} (g : good l r) (hN : 97 < N) {a b : Nat} (hab : a ≤ b) (hb : b ≤ l.length) :
    ∃ v, cut_Permitted N l r a b = some (v, 0) ∧ (v = true ↔ may l r a b) := by
  obtain ⟨c, hc, c1, c2, c3, c4⟩ := longest_spec N g hN a b hab hb
  have hlen := g.len
  by_cases h : a < b
  · refine ⟨decide (c = b), ?_, ?_⟩
    · unfold cut_Permitted
      refine obi (good_valid N g hN) (oif (by simp) (oif (by simp; omega) ?_))
      refine obi (x := (c : Int)) (by rw [show decide ((a : Int) < b) = true by simp; omega]; exact hc) ?_
      have : decide ((a : Int) < b) = true := by simp; omega
      have e : decide ((c : Int) = b) = decide (c = b) := by congr 1; exact propext (by omega)
      rw [this, e]; rfl
    · rw [decide_eq_true_eq]
      constructor
      · rintro rfl; exact c3 h
      · intro hm
        by_cases e : c = b
        · exact e
        · exact absurd (may_part g hm (Nat.le_refl a) (by omega) (by omega : c + 1 ≤ b)) (c4 (by omega))
  · refine ⟨false, ?_, by simp; intro hm; exact h hm.lt⟩
    unfold cut_Permitted
    have : decide ((a : Int) < b) = false := decide_eq_false (by omega)
    refine obi (good_valid N g hN) (oif (by simp) (oif (by simp; omega) ?_))
    rw [this]; rfl

/-! chains of cuts -/
def Part (l : List T_Pushed) (r : T_CutRules) : Nat → List T_Cut → Nat → Prop
  | a, [], e => a = e
  | a, c :: cs, e => ∃ b, c = cutOf l a b ∧ may l r a b ∧ Part l r b cs e
def Greedy (l : List T_Pushed) (r : T_CutRules) : Nat → List T_Cut → Nat → Prop
  | a, [], e => a = e
  | a, c :: cs, e => ∃ b, c = cutOf l a b ∧ may l r a b ∧ (b < l.length → ¬ may l r a (b + 1)) ∧ Greedy l r b cs e

theorem Part.append {l : List T_Pushed} {r : T_CutRules} : ∀ {cs : List T_Cut} {a b e : Nat} {cs' : List T_Cut}, Part l r a cs b → Part l r b cs' e → Part l r a (cs ++ cs') e
  | [], _, _, _, _, h, k => by cases h; exact k
  | _ :: _, _, _, _, _, ⟨m, h1, h2, h3⟩, k => ⟨m, h1, h2, Part.append h3 k⟩
theorem Greedy.append {l : List T_Pushed} {r : T_CutRules} : ∀ {cs : List T_Cut} {a b e : Nat} {cs' : List T_Cut}, Greedy l r a cs b → Greedy l r b cs' e → Greedy l r a (cs ++ cs') e
  | [], _, _, _, _, h, k => by cases h; exact k
  | _ :: _, _, _, _, _, ⟨m, h1, h2, h2', h3⟩, k => ⟨m, h1, h2, h2', Greedy.append h3 k⟩
theorem Greedy.part {l : List T_Pushed} {r : T_CutRules} : ∀ {cs : List T_Cut} {a e : Nat}, Greedy l r a cs e → Part l r a cs e
  | [], _, _, h => h
  | _ :: _, _, _, ⟨m, h1, h2, _, h3⟩ => ⟨m, h1, h2, Greedy.part h3⟩
theorem Part.le {l : List T_Pushed} {r : T_CutRules} : ∀ {cs : List T_Cut} {a e : Nat}, Part l r a cs e → a + cs.length ≤ e
  | [], _, _, h => by cases h; simp
  | _ :: _, _, _, ⟨_, _, h2, h3⟩ => by have := Part.le h3; have := h2.lt; simp; omega
theorem Seg.greedy {l : List T_Pushed} {r : T_CutRules} {a b : Nat} {cs : List T_Cut} (h : Seg l r a b cs) : Greedy l r a cs b := by
  induction h with
  | nil => rfl
  | snoc h hb hm hx ih => exact ih.append ⟨_, rfl, hm, hx, rfl⟩
theorem Part.drop {l : List T_Pushed} {r : T_CutRules} : ∀ {cs : List T_Cut} {a e : Nat} (i : Nat), i ≤ cs.length → Part l r a cs e → ∃ b, Part l r b (cs.drop i) e ∧ a + i ≤ b ∧ Part l r a (cs.take i) b
  | _, a, _, 0, _, h => ⟨a, h, Nat.le_refl _, rfl⟩
  | _ :: _, _, _, i + 1, hi, ⟨m, h1, h2, h3⟩ => by
    obtain ⟨b, hb, hle, ht⟩ := Part.drop i (by simpa using hi) h3
    have := h2.lt
    exact ⟨b, hb, by omega, m, h1, h2, ht⟩
theorem Greedy.drop {l : List T_Pushed} {r : T_CutRules} : ∀ {cs : List T_Cut} {a e : Nat} (i : Nat), i ≤ cs.length → Greedy l r a cs e → ∃ b, Greedy l r b (cs.drop i) e ∧ a + i ≤ b ∧ Greedy l r a (cs.take i) b
  | _, a, _, 0, _, h => ⟨a, h, Nat.le_refl _, rfl⟩
  | _ :: _, _, _, i + 1, hi, ⟨m, h1, h2, h2', h3⟩ => by
    obtain ⟨b, hb, hle, ht⟩ := Greedy.drop i (by simpa using hi) h3
    have := h2.lt
    exact ⟨b, hb, by omega, m, h1, h2, h2', ht⟩

theorem form_greedy (N : Nat) {l : List T_Pushed} {r : T_CutRules} (g : good l r) (hN : 97 < N) : ∃ cs, cut_Form N l r = some (cs, 0) ∧ Greedy l r 0 cs l.length := by
  obtain ⟨cs, h, k⟩ := form_spec N g hN
  exact ⟨cs, h, k.greedy⟩

theorem greedy_unique {l : List T_Pushed} {r : T_CutRules} (g : good l r) : ∀ {cs cs' : List T_Cut} {a e : Nat}, e ≤ l.length → Greedy l r a cs e → Greedy l r a cs' e → cs = cs'
  | [], [], _, _, _, _, _ => rfl
  | [], _ :: _, _, _, _, h, k => by cases h; have := k.part.le; simp at this; omega
  | _ :: _, [], _, _, _, h, k => by cases k; have := h.part.le; simp at this; omega
  | c :: cs, c' :: cs', a, e, he, ⟨b, h1, h2, h3, h4⟩, ⟨b', k1, k2, k3, k4⟩ => by
    have l1 := h4.part.le
    have l2 := k4.part.le
    have d1 := h2.lt
    have d2 := k2.lt
    have : b = b' := by
      rcases Nat.lt_trichotomy b b' with h | h | h
      · exact absurd (may_part g k2 (Nat.le_refl a) (by omega) (by omega)) (h3 (by omega))
      · exact h
      · exact absurd (may_part g h2 (Nat.le_refl a) (by omega) (by omega)) (k3 (by omega))
    subst this
    rw [h1, k1, greedy_unique g he h4 k4]

theorem greedy_fewest {l : List T_Pushed} {r : T_CutRules} (g : good l r) : ∀ {cs cs' : List T_Cut} {a a' : Nat}, a ≤ a' → Greedy l r a' cs l.length → Part l r a cs' l.length → cs.length ≤ cs'.length
  | [], _, _, _, _, _, _ => Nat.zero_le _
  | c :: cs, [], a, a', ha, h, k => by cases k; have := h.part.le; simp at this; omega
  | c :: cs, c' :: cs', a, a', ha, ⟨b, h1, h2, h3, h4⟩, ⟨b', k1, k2, k4⟩ => by
    have l1 := h4.part.le
    have l2 := k4.le
    have d1 := h2.lt
    have hle : b' ≤ b := by
      rcases Nat.lt_or_ge b b' with h | h
      · exact absurd (may_part g k2 ha (by omega) (by omega)) (h3 (by omega))
      · exact h
    have := greedy_fewest g hle h4 k4
    simp; exact this

theorem check_spec (N : Nat) {l : List T_Pushed} {r : T_CutRules} (g : good l r) (hN : 97 < N) {cs : List T_Cut} (h : Part l r 0 cs l.length) : cut_Check N l r cs = some (true, 0) := by
  have hlen := g.len
  have hcs := h.le
  obtain ⟨q, hq, rfl⟩ := iterN_run (f := fun s : Int × Int => cut_Check_l1 N l r cs s.1 s.2) (I := fun s => ∃ a i : Nat, s = ((a : Int), (i : Int)) ∧ i ≤ cs.length ∧ Part l r a (cs.drop i) l.length) (Q := fun q => q = .inr (l.length : Int)) (fun s => cs.length - s.2.toNat) (by
    rintro s ⟨a, i, rfl, hi, hp⟩
    unfold cut_Check_l1
    by_cases hlt : i < cs.length
    · rw [List.drop_eq_getElem_cons hlt] at hp
      obtain ⟨b, e, hm, hp⟩ := hp
      have hbl := hm.le
      have hab := hm.lt
      have hal : a < l.length := by omega
      obtain ⟨c, hc, c1, c2, c3, c4⟩ := longest_spec N g hN a b (by omega) hbl
      have hcb : c = b := by
        by_cases e : c = b
        · exact e
        · exact absurd (may_part g hm (Nat.le_refl a) (by omega) (by omega : c + 1 ≤ b)) (c4 (by omega))
      subst hcb
      refine .inl ⟨((c : Int), ((i + 1 : Nat) : Int)), oit (decide_eq_true (by omega)) (obi (idx_nat hlt) ?_), ⟨c, i + 1, rfl, hlt, hp⟩, by simp only; omega⟩
      rw [e]
      have f0 : (((!decide ((cutOf l a c).From = (a : Int))) || decide ((cutOf l a c).To ≤ (a : Int))) || decide ((l.length : Int) < (cutOf l a c).To)) = false := by
        simp [cutOf]; omega
      rw [f0]
      refine obi (x := (c : Int)) hc (oif (by simp [cutOf]) (obi (idx_nat hal) ?_))
      have f1 : (!decide ((cutOf l a c).Track = l[a].Track)) = false := by simp [cutOf, List.getElem?_eq_getElem hal]
      rw [f1]
      refine obi (x := l[a]) (idx_nat hal) (oif (by simp [cutOf, List.getElem?_eq_getElem hal]) (obi (in64_ok (by omega)) rfl))
    · have : i = cs.length := by omega
      subst this
      rw [List.drop_length] at hp
      cases hp
      exact .inr ⟨_, oif (decide_eq_false (by omega)) rfl, rfl⟩) N (0, 0) ⟨0, 0, rfl, Nat.zero_le _, h⟩ (by simp; omega)
  unfold cut_Check
  refine obi (good_valid N g hN) (oif (by simp) (obi hq ?_))
  simp
end Go.Gv
