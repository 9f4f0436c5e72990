/- The cuts (the law of chapter 18, turned to this seat). -/
import Derived.Test.YtlpkbkbjohhleaaTg
namespace Go.Gv
theorem cut_in_eq (N : Nat) (a b c : Int) : cut_in N a b c = some (decide (b ≤ a) && decide (a ≤ c)) := by simp [cut_in]

def okR (r : T_CutRules) : Bool := ((decide (1 ≤ r.Wagons) && decide (r.Wagons ≤ 32)) && (decide (2 ≤ r.Axles) && decide (r.Axles ≤ 128))) && (decide (80 ≤ r.Length) && decide (r.Length ≤ 8000))
def okW (r : T_CutRules) (w : T_Pushed) : Bool :=
  (((decide (1 ≤ w.Length) && decide (w.Length ≤ min 400 r.Length)) && (decide (1 ≤ w.Axles) && decide (w.Axles ≤ min 8 r.Axles))) && (decide (1 ≤ w.Mass) && decide (w.Mass ≤ 2000))) && (decide (0 ≤ w.Track) && decide (w.Track ≤ 31))


theorem valid_step (N : Nat) (l : List T_Pushed) (r : T_CutRules) (i : Nat) (hl : l.length ≤ 1000) :
    cut_Valid_l1 N l r (i : Int) = if h : i < l.length then (if okW r l[i] then some (.inl ((i + 1 : Nat) : Int)) else some (.inr (.inl 1))) else some (.inr (.inr ())) := by
  unfold cut_Valid_l1
  by_cases h : i < l.length
  · rw [dif_pos h]
    have hd : decide ((i : Int) < (l.length : Int)) = true := by simp; omega
    have hin : in64 ((i : Int) + 1) = some ((i + 1 : Nat) : Int) := by rw [in64_ok (by omega)]; simp
    refine oit hd (obi (idx_nat h) (obi (cut_in_eq _ _ _ _) ?_))
    refine obi (by rw [cut_in_eq, gO_pure]) (obi (by rw [cut_in_eq, gO_pure]) (obi (by rw [cut_in_eq, gO_pure]) ?_))
    rw [hin]
    unfold okW
    generalize (decide (1 ≤ l[i].Length) && decide (l[i].Length ≤ min 400 r.Length)) = A
    generalize (decide (1 ≤ l[i].Axles) && decide (l[i].Axles ≤ min 8 r.Axles)) = B
    generalize (decide (1 ≤ l[i].Mass) && decide (l[i].Mass ≤ 2000)) = C
    generalize (decide (0 ≤ l[i].Track) && decide (l[i].Track ≤ 31)) = D
    cases A <;> cases B <;> cases C <;> cases D <;> simp
  · rw [dif_neg h]
    have hd : decide ((i : Int) < (l.length : Int)) = false := by simp; omega
    simp only [hd, cond_false]

theorem valid_eq (N : Nat) (l : List T_Pushed) (r : T_CutRules) (hN : 97 < N) :
    cut_Valid N l r = some (if okR r then (if 96 < l.length then 3 else if l.all (okW r) then 0 else 1) else 2) := by
  unfold cut_Valid
  simp only [cut_in_eq, Option.bind_some, gO_pure]
  have e : okR r = (((decide (1 ≤ r.Wagons) && decide (r.Wagons ≤ 32)) && (decide (2 ≤ r.Axles) && decide (r.Axles ≤ 128))) && (decide (80 ≤ r.Length) && decide (r.Length ≤ 8000))) := rfl
  rw [e]
  generalize (decide (1 ≤ r.Wagons) && decide (r.Wagons ≤ 32)) = A
  generalize (decide (2 ≤ r.Axles) && decide (r.Axles ≤ 128)) = B
  generalize (decide (80 ≤ r.Length) && decide (r.Length ≤ 8000)) = C
  by_cases ho : ((A && B) && C) = true
  · obtain ⟨⟨rfl, rfl⟩, rfl⟩ : (A = true ∧ B = true) ∧ C = true := by simpa using ho
    simp only [Bool.and_self, Bool.not_true, Bool.not_false, cond_true, Bool.or_self, cond_false, if_true]
    by_cases hl : 96 < l.length
    · have hd : decide ((96 : Int) < (l.length : Int)) = true := by simp; omega
      simp only [hd, cond_true, hl, if_true]
    · have hd : decide ((96 : Int) < (l.length : Int)) = false := by simp; omega
      simp only [hd, cond_false, hl, if_false]
      obtain ⟨q, hq, hQ⟩ := iterN_run (f := fun s : Int => cut_Valid_l1 N l r s) (I := fun s => ∃ i : Nat, s = i ∧ i ≤ l.length ∧ ∀ j (h : j < l.length), j < i → okW r l[j] = true)
        (Q := fun q => q = if l.all (okW r) then .inr () else .inl 1) (fun s => l.length - s.toNat) (by
          rintro s ⟨i, rfl, hi, hall⟩
          rw [valid_step N l r i (by omega)]
          by_cases h : i < l.length
          · rw [dif_pos h]
            by_cases hw : okW r l[i] = true
            · rw [if_pos hw]
              refine .inl ⟨_, rfl, ⟨i + 1, rfl, h, fun j hj hji => ?_⟩, by simp; omega⟩
              by_cases e : j = i
              · subst e; exact hw
              · exact hall j hj (by omega)
            · rw [if_neg hw]
              refine .inr ⟨_, rfl, ?_⟩
              have : l.all (okW r) = false := by
                rw [Bool.eq_false_iff]
                intro ha
                exact hw (List.all_eq_true.1 ha _ (List.getElem_mem h))
              simp [this]
          · rw [dif_neg h]
            refine .inr ⟨_, rfl, ?_⟩
            have : l.all (okW r) = true := by
              rw [List.all_eq_true]
              intro x hx
              obtain ⟨j, hj, rfl⟩ := List.getElem_of_mem hx
              exact hall j hj (by omega)
            simp [this]) N 0 ⟨0, rfl, Nat.zero_le _, fun _ _ h => absurd h (Nat.not_lt_zero _)⟩ (by simp; omega)
      rw [hq, hQ]
      by_cases ha : l.all (okW r) = true
      · simp [ha]
      · simp [ha]
  · cases A <;> cases B <;> cases C <;> first | rfl | exact absurd rfl ho

/-! longest -/
def SA (l : List T_Pushed) (k : Nat) : Int := ((l.take k).map (·.Axles)).sum
def SL (l : List T_Pushed) (k : Nat) : Int := ((l.take k).map (·.Length)).sum
theorem SA_succ (l : List T_Pushed) (k : Nat) (h : k < l.length) : SA l (k + 1) = SA l k + l[k].Axles := by
  unfold SA
  rw [List.take_succ_eq_append_getElem h, List.map_append, List.sum_append]
  simp
theorem SL_succ (l : List T_Pushed) (k : Nat) (h : k < l.length) : SL l (k + 1) = SL l k + l[k].Length := by
  unfold SL
  rw [List.take_succ_eq_append_getElem h, List.map_append, List.sum_append]
  simp

/-- The wagons from a up to b may be one cut. -/
structure may (l : List T_Pushed) (r : T_CutRules) (a b : Nat) : Prop where
  lt : a < b
  le : b ≤ l.length
  track : ∀ (j : Nat) (h : j < l.length), a ≤ j → j < b → l[j].Track = (l[a]'(by omega)).Track
  gentle : ∀ (j : Nat) (h : j < l.length), a ≤ j → j < b → l[j].Gentle = true → b = a + 1
  wagons : (b : Int) - a ≤ r.Wagons
  axles : SA l b - SA l a ≤ r.Axles
  length : SL l b - SL l a ≤ r.Length

theorem okW_parts {r : T_CutRules} {w : T_Pushed} (h : okW r w = true) : 1 ≤ w.Length ∧ w.Length ≤ 400 ∧ w.Length ≤ r.Length ∧ 1 ≤ w.Axles ∧ w.Axles ≤ 8 ∧ w.Axles ≤ r.Axles := by
  simp only [okW, Bool.and_eq_true, decide_eq_true_eq] at h
  omega
theorem okR_parts {r : T_CutRules} (h : okR r = true) : 1 ≤ r.Wagons ∧ r.Wagons ≤ 32 ∧ 2 ≤ r.Axles ∧ r.Axles ≤ 128 ∧ 80 ≤ r.Length ∧ r.Length ≤ 8000 := by
  simp only [okR, Bool.and_eq_true, decide_eq_true_eq] at h
  omega

/-- Wagons and rules that Valid lets pass. -/
structure good (l : List T_Pushed) (r : T_CutRules) : Prop where
  R : okR r = true
  len : l.length ≤ 96
  W : ∀ (j : Nat) (h : j < l.length), okW r l[j] = true

theorem SA_mono {l : List T_Pushed} {r : T_CutRules} (g : good l r) {a b : Nat} (hab : a ≤ b) (hb : b ≤ l.length) : (b : Int) - a ≤ SA l b - SA l a ∧ SA l b - SA l a ≤ 8 * ((b : Int) - a) ∧ (b : Int) - a ≤ SL l b - SL l a ∧ SL l b - SL l a ≤ 400 * ((b : Int) - a) := by
  induction b with
  | zero => have : a = 0 := by omega
            subst this; simp
  | succ b ih =>
    by_cases h : a = b + 1
    · subst h; simp
    · have := ih (by omega) (by omega)
      have hw := okW_parts (g.W b (by omega))
      rw [SA_succ l b (by omega), SL_succ l b (by omega)]
      omega

theorem may_one {l : List T_Pushed} {r : T_CutRules} (g : good l r) {a : Nat} (h : a < l.length) : may l r a (a + 1) := by
  have hw := okW_parts (g.W a h)
  have hr := okR_parts g.R
  refine ⟨by omega, h, fun j hj h1 h2 => ?_, fun j hj h1 h2 _ => rfl, by omega, ?_, ?_⟩
  · have : j = a := by omega
    subst this; rfl
  · rw [SA_succ l a h]; omega
  · rw [SL_succ l a h]; omega

theorem may_part {l : List T_Pushed} {r : T_CutRules} (g : good l r) {a b c d : Nat} (h : may l r a d) (hab : a ≤ b) (hbc : b < c) (hcd : c ≤ d) : may l r b c := by
  have h1 := SA_mono g hab (by have := h.le; omega)
  have h2 := SA_mono g hcd h.le
  have hle := h.le
  refine ⟨hbc, by omega, fun j hj hbj hjc => ?_, fun j hj hbj hjc hg => ?_, ?_, ?_, ?_⟩
  · rw [h.track j hj (by omega) (by omega), h.track b (by omega) hab (by omega)]
  · have := h.gentle j hj (by omega) (by omega) hg; omega
  · have := h.wagons; omega
  · have := h.axles; omega
  · have := h.length; omega

/-- One wagon more: what 'longest' asks. -/
theorem may_next {l : List T_Pushed} {r : T_CutRules} {a b : Nat} (hb : b < l.length) (hab : a < b) (h : may l r a b) :
    may l r a (b + 1) ↔ (l[b].Gentle = false ∧ (l[a]'(by omega)).Gentle = false ∧ l[b].Track = (l[a]'(by omega)).Track) ∧ (b : Int) - a < r.Wagons ∧ SA l b - SA l a + l[b].Axles ≤ r.Axles ∧ SL l b - SL l a + l[b].Length ≤ r.Length := by
  constructor
  · intro k
    refine ⟨⟨?_, ?_, ?_⟩, ?_, ?_, ?_⟩
    · cases e : l[b].Gentle with
      | false => rfl
      | true => have := k.gentle b hb (by omega) (by omega) e; omega
    · cases e : (l[a]'(by omega)).Gentle with
      | false => rfl
      | true => have := k.gentle a (by omega) (by omega) (by omega) e; omega
    · exact k.track b hb (by omega) (by omega)
    · have := k.wagons; omega
    · have := k.axles; rw [SA_succ l b hb] at this; omega
    · have := k.length; rw [SL_succ l b hb] at this; omega
  · rintro ⟨⟨g1, g2, t⟩, w, x, y⟩
    refine ⟨by omega, hb, fun j hj h1 h2 => ?_, fun j hj h1 h2 hg => ?_, by omega, by rw [SA_succ l b hb]; omega, by rw [SL_succ l b hb]; omega⟩
    · by_cases e : j = b
      · subst e; exact t
      · exact h.track j hj h1 (by omega)
    · by_cases e : j = b
      · subst e; rw [g1] at hg; cases hg
      · have := h.gentle j hj h1 (by omega) hg
        have : j = a := by omega
        subst this
        rw [g2] at hg; cases hg

theorem longest_spec (N : Nat) {l : List T_Pushed} {r : T_CutRules} (g : good l r) (hN : 97 < N) (a m : Nat) (ham : a ≤ m) (hm : m ≤ l.length) :
    ∃ b : Nat, cut_longest N l r a m = some (b : Int) ∧ a ≤ b ∧ b ≤ m ∧ (a < m → may l r a b) ∧ (b < m → ¬ may l r a (b + 1)) := by
  have hlen := g.len
  have hr := okR_parts g.R
  obtain ⟨q, hq, b, rfl, hQ⟩ := iterN_run (f := fun s : Int × Int × Int => cut_longest_l1 N l r a m s.1 s.2.1 s.2.2)
    (I := fun s => ∃ b : Nat, s = (SA l b - SA l a, SL l b - SL l a, (b : Int)) ∧ a ≤ b ∧ b ≤ m ∧ (a < b → may l r a b))
    (Q := fun q => ∃ b : Nat, q = (b : Int) ∧ a ≤ b ∧ b ≤ m ∧ (a < m → may l r a b) ∧ (b < m → ¬ may l r a (b + 1))) (fun s => m - s.2.2.toNat) (by
      rintro s ⟨b, rfl, hab, hbm, hmay⟩
      unfold cut_longest_l1
      by_cases hb : b < m
      · have hd : decide ((b : Int) < (m : Int)) = true := by simp; omega
        have hbl : b < l.length := by omega
        have hw := okW_parts (g.W b hbl)
        have hs := SA_mono g hab (by omega : b ≤ l.length)
        have e1 : in64 (SA l b - SA l a + l[b].Axles) = some (SA l (b + 1) - SA l a) := by rw [in64_ok (by omega), SA_succ l b hbl]; congr 1; omega
        have e2 : in64 (SL l b - SL l a + l[b].Length) = some (SL l (b + 1) - SL l a) := by rw [in64_ok (by omega), SL_succ l b hbl]; congr 1; omega
        have e3 : in64 ((b : Int) - (a : Int)) = some ((b : Int) - a) := in64_ok (by omega)
        have e4 : in64 ((b : Int) + 1) = some (((b + 1 : Nat)) : Int) := by rw [in64_ok (by omega)]; simp
        have hal : a < l.length := by omega
        have key : ∀ (stop : Bool), (stop = true ↔ ¬ may l r a (b + 1)) → ∀ X : Option ((Int × Int × Int) ⊕ Int), X = (bif stop then some (.inr (b : Int)) else some (.inl (SA l (b + 1) - SA l a, SL l (b + 1) - SL l a, ((b + 1 : Nat) : Int)))) →
            (∃ s', X = some (.inl s') ∧ (∃ b : Nat, s' = (SA l b - SA l a, SL l b - SL l a, (b : Int)) ∧ a ≤ b ∧ b ≤ m ∧ (a < b → may l r a b)) ∧ m - s'.2.2.toNat < m - (b : Int).toNat) ∨
            (∃ q, X = some (.inr q) ∧ ∃ b : Nat, q = (b : Int) ∧ a ≤ b ∧ b ≤ m ∧ (a < m → may l r a b) ∧ (b < m → ¬ may l r a (b + 1))) := by
          rintro stop hstop X rfl
          cases hst : stop with
          | true =>
            have hn := hstop.1 hst
            refine .inr ⟨_, rfl, b, rfl, hab, hbm, fun _ => ?_, fun _ => hn⟩
            rcases Nat.lt_or_ge a b with h | h
            · exact hmay h
            · have : a = b := by omega
              subst this
              exact absurd (may_one g hal) hn
          | false =>
            have hn : may l r a (b + 1) := Classical.byContradiction fun h => by rw [hstop.2 h] at hst; cases hst
            exact .inl ⟨_, rfl, ⟨b + 1, rfl, by omega, hb, fun _ => hn⟩, by simp; omega⟩
        rcases Nat.lt_or_ge a b with h | h
        · have hg : decide ((a : Int) < (b : Int)) = true := by simp; omega
          have hnext := may_next hbl h (hmay h)
          refine key ((l[b].Gentle || (l[a]'hal).Gentle || !decide (l[b].Track = (l[a]'hal).Track)) || decide (r.Wagons ≤ (b : Int) - a) || decide (r.Axles < SA l (b + 1) - SA l a) || decide (r.Length < SL l (b + 1) - SL l a)) ?_ _ ?_
          · rw [hnext, SA_succ l b hbl, SL_succ l b hbl]
            simp only [Bool.or_eq_true, Bool.not_eq_true', decide_eq_true_eq, decide_eq_false_iff_not]
            constructor
            · rintro (((h | h) | h) | h) ⟨⟨g1, g2, t⟩, w, x, y⟩
              · rcases h with (h | h) | h
                · rw [g1] at h; cases h
                · rw [g2] at h; cases h
                · exact h t
              · omega
              · omega
              · omega
            · intro hn
              cases g1 : l[b].Gentle
              · cases g2 : (l[a]'hal).Gentle
                · by_cases t : l[b].Track = (l[a]'hal).Track
                  · by_cases w : r.Wagons ≤ (b : Int) - a
                    · exact .inl (.inl (.inr w))
                    · by_cases x : r.Axles < SA l b + l[b].Axles - SA l a
                      · exact .inl (.inr x)
                      · by_cases y : r.Length < SL l b + l[b].Length - SL l a
                        · exact .inr y
                        · exact absurd ⟨⟨g1, g2, t⟩, by omega, by omega, by omega⟩ hn
                  · exact .inl (.inl (.inl (.inr t)))
                · exact .inl (.inl (.inl (.inl (.inr rfl))))
              · exact .inl (.inl (.inl (.inl (.inl rfl))))
          · refine oit hd (obi (idx_nat hbl) (obi e1 (obi e2 ?_)))
            rw [hg, idx_nat hal, e3, e4]
            cases g1 : l[b].Gentle <;> cases g2 : (l[a]'hal).Gentle <;> by_cases t : l[b].Track = (l[a]'hal).Track <;> simp [gO, t, g2]
        · have hab' : a = b := by omega
          subst hab'
          have hg : decide ((a : Int) < (a : Int)) = false := by simp
          refine key false (by simp [may_one g hal]) _ ?_
          refine oit hd (obi (idx_nat hbl) (obi e1 (obi e2 ?_)))
          have h1 := (may_one g hal).axles
          have h2 := (may_one g hal).length
          rw [hg, e3, e4]
          have w1 : ¬ r.Wagons ≤ 0 := by omega
          have w2 : ¬ r.Axles < SA l (a + 1) - SA l a := by omega
          have w3 : ¬ r.Length < SL l (a + 1) - SL l a := by omega
          simp [gO, w1, w2, w3]
      · have hd : decide ((b : Int) < (m : Int)) = false := by simp; omega
        have : b = m := by omega
        subst this
        exact .inr ⟨_, oif hd rfl, b, rfl, hab, Nat.le_refl _, hmay, fun h => absurd h (Nat.lt_irrefl _)⟩) N (0, 0, (a : Int)) ⟨a, by simp, Nat.le_refl _, ham, fun h => absurd h (Nat.lt_irrefl _)⟩ (by simp; omega)
  refine ⟨b, ?_, hQ⟩
  unfold cut_longest
  exact obi hq rfl

/-! Form -/
def cutOf (l : List T_Pushed) (a b : Nat) : T_Cut := ⟨a, b, (l[a]?.getD default).Track, (l[a]?.getD default).Gentle⟩
/-- The cuts that are made from the left, from wagon a up to b. -/
inductive Seg (l : List T_Pushed) (r : T_CutRules) (a : Nat) : Nat → List T_Cut → Prop where
  | nil : Seg l r a a []
  | snoc {b b' : Nat} {cs : List T_Cut} (h : Seg l r a b cs) (hb : b < l.length) (hm : may l r b b') (hx : b' < l.length → ¬ may l r b (b' + 1)) : Seg l r a b' (cs ++ [cutOf l b b'])

theorem Seg.len {l : List T_Pushed} {r : T_CutRules} {a b : Nat} {cs : List T_Cut} (h : Seg l r a b cs) : a + cs.length ≤ b := by
  induction h with
  | nil => simp
  | snoc h hb hm hx ih => have := hm.lt; simp; omega

theorem form_bad (N : Nat) {l : List T_Pushed} {r : T_CutRules} {e : Int} (hv : cut_Valid N l r = some e) (he : e ≠ 0) : cut_Form N l r = some ([], e) := by
  unfold cut_Form
  refine obi hv (oit ?_ rfl)
  simp [he]

theorem good_valid (N : Nat) {l : List T_Pushed} {r : T_CutRules} (g : good l r) (hN : 97 < N) : cut_Valid N l r = some 0 := by
  rw [valid_eq N l r hN, if_pos g.R, if_neg (by have := g.len; omega), if_pos]
  rw [List.all_eq_true]
  intro x hx
  obtain ⟨j, hj, rfl⟩ := List.getElem_of_mem hx
  exact g.W j hj

theorem valid_good (N : Nat) {l : List T_Pushed} {r : T_CutRules} (hN : 97 < N) (h : cut_Valid N l r = some 0) : good l r := by
  rw [valid_eq N l r hN] at h
  by_cases hR : okR r = true
  · rw [if_pos hR] at h
    by_cases hl : 96 < l.length
    · rw [if_pos hl] at h; simp at h
    · rw [if_neg hl] at h
      by_cases ha : l.all (okW r) = true
      · exact ⟨hR, by omega, fun j hj => List.all_eq_true.1 ha _ (List.getElem_mem hj)⟩
      · rw [if_neg ha] at h; simp at h
  · rw [if_neg hR] at h; simp at h

theorem form_spec (N : Nat) {l : List T_Pushed} {r : T_CutRules} (g : good l r) (hN : 97 < N) : ∃ cs, cut_Form N l r = some (cs, 0) ∧ Seg l r 0 l.length cs := by
  have hlen := g.len
  obtain ⟨q, hq, hQ⟩ := iterN_run (f := fun s : Int × List T_Cut => cut_Form_l1 N l r s.1 s.2) (I := fun s => ∃ b : Nat, s.1 = b ∧ b ≤ l.length ∧ Seg l r 0 b s.2) (Q := fun cs => Seg l r 0 l.length cs) (fun s => l.length - s.1.toNat) (by
    rintro ⟨x, cs⟩ ⟨b, hx, hb, hs⟩
    simp only at hx
    subst hx
    unfold cut_Form_l1
    by_cases h : b < l.length
    · have hd : decide ((b : Int) < (l.length : Int)) = true := by simp; omega
      obtain ⟨b', e, h1, h2, h3, h4⟩ := longest_spec N g hN b l.length hb (Nat.le_refl _)
      have hm := h3 h
      have hcl : 0 + cs.length ≤ b := hs.len
      have hlt := hm.lt
      refine .inl ⟨_, oit hd (obi e (obi (idx_nat h) (obi (app_ok ?_ ?_) rfl))), ⟨b', rfl, h2, ?_⟩, ?_⟩
      · simp; omega
      · simp; omega
      · have := Seg.snoc hs h hm h4
        simpa [cutOf, List.getElem?_eq_getElem h] using this
      · simp; omega
    · have hd : decide ((b : Int) < (l.length : Int)) = false := by simp; omega
      have : b = l.length := by omega
      subst this
      exact .inr ⟨_, oif hd rfl, hs⟩) N (0, []) ⟨0, rfl, Nat.zero_le _, .nil⟩ (by simp; omega)
  refine ⟨q, ?_, hQ⟩
  unfold cut_Form
  exact obi (good_valid N g hN) (oif (by simp) (obi hq rfl))

end Go.Gv
