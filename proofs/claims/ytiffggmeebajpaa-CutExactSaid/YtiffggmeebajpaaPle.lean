/- CutExact, in plain words. -/
import Derived.Test.YtiffggmeebajpaaPld
namespace Go.Gv

theorem iterN_same {σ ρ : Type} {f g : σ → Option (σ ⊕ ρ)} {I : σ → Prop} (h : ∀ s, I s → f s = g s ∧ ∀ s', f s = some (.inl s') → I s') : ∀ (N : Nat) (s : σ), I s → iterN f N s = iterN g N s := by
  intro N
  induction N with
  | zero => intro s _; rfl
  | succ N ih =>
    intro s hI
    obtain ⟨e, hn⟩ := h s hI
    simp only [iterN, ← e]
    cases hf : f s with
    | none => rfl
    | some r =>
      cases r with
      | inl s' => exact ih s' (hn s' hf)
      | inr r => rfl

theorem rvalid_step (N : Nat) (l : List T_Pushed) (r : T_CutRules) (hR : okR r = true) (i : Nat) (hl : l.length ≤ 1000) :
    r18_Valid_l1 N l r (i : Int) = if h : i < l.length then (if okW r l[i] then some (.inl ((i + 1 : Nat) : Int)) else some (.inr (.inl 1))) else some (.inr (.inr ())) := by
  unfold r18_Valid_l1
  have hr := okR_parts hR
  by_cases h : i < l.length
  · rw [dif_pos h]
    refine oit (decide_eq_true (by omega)) (obi (idx_nat h) ?_)
    have e : (((((((((decide (l[i].Length < 1) || decide (400 < l[i].Length)) || decide (l[i].Axles < 1)) || decide (8 < l[i].Axles)) || decide (l[i].Mass < 1)) || decide (2000 < l[i].Mass)) || decide (l[i].Track < 0)) || decide (32 ≤ l[i].Track)) || decide (r.Axles < l[i].Axles)) || decide (r.Length < l[i].Length)) = !okW r l[i] := by
      rw [Bool.eq_iff_iff]
      simp only [okW, Bool.or_eq_true, decide_eq_true_eq, Bool.not_eq_true', Bool.and_eq_false_iff, decide_eq_false_iff_not]
      omega
    rw [e]
    cases okW r l[i] with
    | true =>
      have hin : in64 ((i : Int) + 1) = some ((i + 1 : Nat) : Int) := by rw [in64_ok (by omega)]; simp
      rw [hin]; simp
    | false => simp
  · rw [dif_neg h]
    exact oif (decide_eq_false (by omega)) rfl

theorem rvalid_eq (N : Nat) (l : List T_Pushed) (r : T_CutRules) (hN : 97 < N) : r18_Valid N l r = cut_Valid N l r := by
  rw [valid_eq N l r hN]
  unfold r18_Valid
  have e : (((((decide (r.Wagons < 1) || decide (32 < r.Wagons)) || decide (r.Axles < 2)) || decide (128 < r.Axles)) || decide (r.Length < 80)) || decide (8000 < r.Length)) = !okR r := by
    rw [Bool.eq_iff_iff]
    simp only [okR, Bool.or_eq_true, decide_eq_true_eq, Bool.not_eq_true', Bool.and_eq_false_iff, decide_eq_false_iff_not]
    omega
  rw [e]
  by_cases hR : okR r = true
  · rw [hR, if_pos rfl]
    simp only [Bool.not_true, cond_false]
    by_cases hl : 96 < l.length
    · have hd : decide ((96 : Int) < (l.length : Int)) = true := decide_eq_true (by omega)
      rw [if_pos hl, hd]; rfl
    · have hd : decide ((96 : Int) < (l.length : Int)) = false := decide_eq_false (by omega)
      rw [if_neg hl, hd]
      simp only [cond_false]
      obtain ⟨q, hq, hQ⟩ := iterN_run (f := fun s : Int => r18_Valid_l1 N l r s) (I := fun s => ∃ i : Nat, s = i ∧ i ≤ l.length ∧ ∀ j (h : j < l.length), j < i → okW r l[j] = true)
        (Q := fun q => q = if l.all (okW r) then .inr () else .inl 1) (fun s => l.length - s.toNat) (by
          rintro s ⟨i, rfl, hi, hall⟩
          rw [rvalid_step N l r hR i (by omega)]
          by_cases h : i < l.length
          · rw [dif_pos h]
            by_cases hw : okW r l[i] = true
            · rw [if_pos hw]
              refine .inl ⟨_, rfl, ⟨i + 1, rfl, h, fun j hj hji => ?_⟩, by omega⟩
              by_cases e : j = i
              · subst e; exact hw
              · exact hall j hj (by omega)
            · rw [if_neg hw]
              refine .inr ⟨_, rfl, ?_⟩
              have : l.all (okW r) = false := by
                rw [Bool.eq_false_iff]
                intro ha
                exact hw (List.all_eq_true.1 ha _ (List.getElem_mem h))
              simp [this]
          · rw [dif_neg h]
            refine .inr ⟨_, rfl, ?_⟩
            have : l.all (okW r) = true := by
              rw [List.all_eq_true]
              intro x hx
              obtain ⟨j, hj, rfl⟩ := List.getElem_of_mem hx
              exact hall j hj (by omega)
            simp [this]) N 0 ⟨0, rfl, Nat.zero_le _, fun _ _ h => absurd h (Nat.not_lt_zero _)⟩ (by simp; omega)
      rw [hq, hQ]
      by_cases ha : l.all (okW r) = true
      · simp [ha]
      · simp [ha]
  · have : okR r = false := by simpa using hR
    rw [this, if_neg (by simp)]
    rfl

theorem one_all (N : Nat) {l : List T_Pushed} {r : T_CutRules} (g : good l r) (hN : 97 < N) : ∃ v, r18_One N l r = some v ∧ (v = true ↔ may l r 0 l.length) := by
  have hlen := g.len
  have hr := okR_parts g.R
  unfold r18_One
  by_cases h0 : l.length = 0
  · exact ⟨false, oit (by simp [h0]) rfl, by simp; intro h; have := h.lt; omega⟩
  by_cases hw : r.Wagons < l.length
  · exact ⟨false, oit (by simp [hw]) rfl, by simp; intro h; have := h.wagons; omega⟩
  have hz : 0 < l.length := by omega
  obtain ⟨q, hq, hQ⟩ := iterN_run (f := fun s : Int × Int × Int => r18_One_l1 N l s.1 s.2.1 s.2.2)
    (I := fun s => ∃ i : Nat, s = (SA l i, SL l i, (i : Int)) ∧ i ≤ l.length ∧ ∀ (j : Nat) (h : j < l.length), j < i → l[j].Track = l[0].Track ∧ (l[j].Gentle = true → l.length = 1))
    (Q := fun q => (q = .inl false ∧ ¬ may l r 0 l.length) ∨ (q = .inr (SA l l.length, SL l l.length) ∧ ∀ (j : Nat) (h : j < l.length), l[j].Track = l[0].Track ∧ (l[j].Gentle = true → l.length = 1))) (fun s => l.length - s.2.2.toNat) (by
    rintro s ⟨i, rfl, hi, hall⟩
    unfold r18_One_l1
    by_cases h : i < l.length
    · have hg : gO (!(!decide (l[i].Track = l[0].Track))) (idx l (i : Int)) = some (bif decide (l[i].Track = l[0].Track) then l[i] else default) := by
        rw [idx_nat h, gO_pure, Bool.not_not]
      by_cases ht : l[i].Track = l[0].Track
      · by_cases hgn : l[i].Gentle = true ∧ 1 < l.length
        · refine .inr ⟨_, oit (decide_eq_true (by simp only; omega)) (obi (idx_nat h) (obi (idx_nat (i := 0) hz) (obi hg (oit ?_ rfl)))), .inl ⟨rfl, fun hm => ?_⟩⟩
          · simp [ht, hgn.1]; omega
          · have := hm.gentle i h (Nat.zero_le _) h hgn.1; omega
        · have hw := okW_parts (g.W i h)
          have hs := SA_mono g (Nat.zero_le i) hi
          simp only [show SA l 0 = 0 from rfl, show SL l 0 = 0 from rfl] at hs
          refine .inl ⟨(SA l (i + 1), SL l (i + 1), ((i + 1 : Nat) : Int)), oit (decide_eq_true (by simp only; omega)) (obi (idx_nat h) (obi (idx_nat (i := 0) hz) (obi hg (oif ?_ (obi (idx_nat h) (obi (x := SA l (i + 1)) ?_ (obi (idx_nat h) (obi (x := SL l (i + 1)) ?_ (obi (in64_ok (by simp only; omega)) rfl))))))))), ⟨i + 1, rfl, h, fun j hj hji => ?_⟩, by simp only; omega⟩
          · simp only [ht, decide_true, cond_true, Bool.not_true, Bool.false_or]
            cases hgg : l[i].Gentle with
            | false => rfl
            | true => simp [hgg] at hgn; simp; omega
          · rw [SA_succ l i h]; exact in64_ok (by simp only; omega)
          · rw [SL_succ l i h]; exact in64_ok (by simp only; omega)
          · by_cases e : j = i
            · subst e
              exact ⟨ht, fun q => by
                by_cases e : 1 < l.length
                · exact absurd ⟨q, e⟩ hgn
                · omega⟩
            · exact hall j hj (by omega)
      · refine .inr ⟨_, oit (decide_eq_true (by simp only; omega)) (obi (idx_nat h) (obi (idx_nat (i := 0) hz) (obi hg (oit (by simp [ht]) rfl)))), .inl ⟨rfl, fun hm => ?_⟩⟩
        exact ht (hm.track i h (Nat.zero_le _) h)
    · have : i = l.length := by omega
      subst this
      exact .inr ⟨_, oif (decide_eq_false (by simp)) rfl, .inr ⟨rfl, fun j hj => hall j hj hj⟩⟩) N (0, 0, 0) ⟨0, rfl, Nat.zero_le _, fun _ _ h => absurd h (Nat.not_lt_zero _)⟩ (by simp; omega)
  have hc : (decide ((l.length : Int) = 0) || decide (r.Wagons < (l.length : Int))) = false := by
    simp only [Bool.or_eq_false_iff, decide_eq_false_iff_not]; omega
  rcases hQ with ⟨rfl, hn⟩ | ⟨rfl, hall⟩
  · exact ⟨false, oif hc (obi hq rfl), by simp [hn]⟩
  · refine ⟨decide (SA l l.length ≤ r.Axles) && decide (SL l l.length ≤ r.Length), oif hc (obi hq rfl), ?_⟩
    simp only [Bool.and_eq_true, decide_eq_true_eq]
    constructor
    · rintro ⟨h1, h2⟩
      refine ⟨hz, Nat.le_refl _, fun j hj _ _ => (hall j hj).1, fun j hj _ _ hg => by have := (hall j hj).2 hg; omega, by omega, ?_, ?_⟩
      · simp only [show SA l 0 = 0 from rfl]; omega
      · simp only [show SL l 0 = 0 from rfl]; omega
    · intro hm
      have h1 := hm.axles
      have h2 := hm.length
      simp only [show SA l 0 = 0 from rfl, show SL l 0 = 0 from rfl] at h1 h2
      omega

theorem one_spec (N : Nat) {l : List T_Pushed} {r : T_CutRules} (g : good l r) (hN : 97 < N) {a b : Nat} (hab : a ≤ b) (hb : b ≤ l.length) :
    ∃ v, r18_One N ((l.take b).drop a) r = some v ∧ (v = true ↔ may l r a b) := by
  obtain ⟨v, hv, h⟩ := one_all N (good_drop (good_take g b) a) hN
  refine ⟨v, hv, ?_⟩
  rw [h]
  have e : ((l.take b).drop a).length = b - a := by simp; omega
  rw [e, may_drop (by simp; omega), may_take (by omega) hb]
  rw [show a + 0 = a by omega, show a + (b - a) = b by omega]

theorem slc_nat {α : Type} {l : List α} {a b : Nat} (h : a ≤ b) (hb : b ≤ l.length) : slc l (a : Int) (b : Int) = some ((l.take b).drop a) := by
  unfold slc; rw [if_pos (by omega)]; simp

/-- the reference's cut from a wagon on -/
theorem rlongest (N : Nat) {l : List T_Pushed} {r : T_CutRules} (g : good l r) (hN : 97 < N) {a : Nat} (ha : a < l.length) :
    ∃ b : Nat, iterN (fun s : Int => r18_Form_l5 N l r a s) N ((a : Int) + 1) = some (b : Int) ∧ may l r a b ∧ (b < l.length → ¬ may l r a (b + 1)) := by
  have hlen := g.len
  obtain ⟨q, hq, b, rfl, hQ⟩ := iterN_run (f := fun s : Int => r18_Form_l5 N l r a s) (I := fun s => ∃ b : Nat, s = b ∧ may l r a b) (Q := fun q => ∃ b : Nat, q = b ∧ may l r a b ∧ (b < l.length → ¬ may l r a (b + 1))) (fun s => l.length - s.toNat) (by
    rintro s ⟨b, rfl, hm⟩
    have hb := hm.le
    have hab := hm.lt
    unfold r18_Form_l5
    by_cases h : b < l.length
    · obtain ⟨v, hv, v1⟩ := one_spec N g hN (a := a) (b := b + 1) (by omega) (by omega)
      have hd : decide ((b : Int) < l.length) = true := decide_eq_true (by omega)
      have hin : in64 ((b : Int) + 1) = some ((b + 1 : Nat) : Int) := by rw [in64_ok (by omega)]; simp
      rw [hd, hin]
      simp only [gO, cond_true, Bool.true_and]
      cases v with
      | true => exact .inl ⟨((b + 1 : Nat) : Int), obi (x := ((b + 1 : Nat) : Int)) rfl (obi (slc_nat (by omega) (by omega)) (obi hv (oit rfl rfl))), ⟨b + 1, rfl, v1.1 rfl⟩, by omega⟩
      | false => exact .inr ⟨_, obi (x := ((b + 1 : Nat) : Int)) rfl (obi (slc_nat (by omega) (by omega)) (obi hv (oif rfl rfl))), b, rfl, hm, fun _ h => by have := v1.2 h; cases this⟩
    · have hd : decide ((b : Int) < l.length) = false := decide_eq_false (by omega)
      rw [hd]
      simp only [gO, cond_false, Bool.false_and, Option.bind_some]
      exact .inr ⟨_, rfl, b, rfl, hm, fun h' => absurd h' h⟩) N ((a : Int) + 1) ⟨a + 1, by simp, may_one g ha⟩ (by omega)
  exact ⟨b, hq, hQ⟩

theorem rform_spec (N : Nat) {l : List T_Pushed} {r : T_CutRules} (g : good l r) (hN : 97 < N) : ∃ cs, r18_Form N l r = some (cs, 0) ∧ Greedy l r 0 cs l.length := by
  have hlen := g.len
  obtain ⟨q, hq, hQ⟩ := iterN_run (f := fun s : Int × List T_Cut => r18_Form_l4 N l r s.1 s.2) (I := fun s => ∃ (b : Nat) (cs : List T_Cut), s = ((b : Int), cs) ∧ b ≤ l.length ∧ Greedy l r 0 cs b) (Q := fun cs => Greedy l r 0 cs l.length) (fun s => l.length - s.1.toNat) (by
    rintro s ⟨b, cs, rfl, hb, hs⟩
    unfold r18_Form_l4
    by_cases h : b < l.length
    · obtain ⟨b', e, hm, hx⟩ := rlongest N g hN h
      have hcl := hs.part.le
      have hlt := hm.lt
      have hle := hm.le
      refine .inl ⟨((b' : Int), cs ++ [cutOf l b b']), oit (decide_eq_true (by simp only; omega)) (obi (in64_ok (by omega)) (obi e (obi (idx_nat h) (obi (idx_nat h) (obi (app_ok ?_ ?_) ?_))))), ⟨b', _, rfl, hle, hs.append ⟨b', rfl, hm, hx, rfl⟩⟩, by simp only; omega⟩
      · simp; omega
      · simp; omega
      · simp [cutOf, List.getElem?_eq_getElem h]
    · have : b = l.length := by omega
      subst this
      exact .inr ⟨_, oif (decide_eq_false (by simp)) rfl, hs⟩) N (0, []) ⟨0, [], rfl, Nat.zero_le _, rfl⟩ (by simp; omega)
  refine ⟨q, ?_, hQ⟩
  unfold r18_Form
  exact obi ((rvalid_eq N l r hN).trans (good_valid N g hN)) (oif (by simp) (obi hq rfl))

theorem rwitness_spec {l : List T_Pushed} {r : T_CutRules} {cs : List T_Cut} (hlen : cs.length ≤ 96) (hf : r18_Form 200 l r = some (cs, 0)) : r18_Witness 200 l r = some (cs.map (·.From), 0) := by
  obtain ⟨q, hq, rfl⟩ := iterN_run (f := fun s : Int × List Int => r18_Witness_l1 200 (cs, 0) s.1 s.2) (I := fun s => ∃ i : Nat, s = ((i : Int), (cs.map (·.From)).take i) ∧ i ≤ cs.length) (Q := fun q => q = cs.map (·.From)) (fun s => cs.length - s.1.toNat) (by
    rintro s ⟨i, rfl, hi⟩
    unfold r18_Witness_l1
    by_cases h : i < cs.length
    · refine .inl ⟨(((i + 1 : Nat) : Int), (cs.map (·.From)).take (i + 1)), oit (decide_eq_true (by simp only; omega)) (obi (idx_nat h) (obi (x := (cs.map (·.From)).take (i + 1)) ?_ (obi (in64_ok (by omega)) rfl))), ⟨i + 1, rfl, h⟩, by simp only; omega⟩
      rw [app_ok (by simp; omega) (by simp; omega), List.take_succ_eq_append_getElem (by simpa using h)]
      simp
    · have : i = cs.length := by omega
      subst this
      exact .inr ⟨_, oif (decide_eq_false (by simp)) rfl, List.take_of_length_le (by simp)⟩) 200 (0, []) ⟨0, by simp, Nat.zero_le _⟩ (by simp; omega)
  unfold r18_Witness
  exact obi hf (oif (by simp) (obi hq rfl))

theorem ints_eq (N : Nat) (cs : List Int) (h : cs.length < N) (h2 : cs.length ≤ 1000) : humpgen_Ints N cs cs = some true := by
  obtain ⟨q, hq, rfl⟩ := iterN_run (f := fun s : Int => humpgen_Ints_l1 N cs cs s) (I := fun s => ∃ i : Nat, s = i ∧ i ≤ cs.length) (Q := fun q => q = .inr ()) (fun s => cs.length - s.toNat) (by
    rintro s ⟨i, rfl, hi⟩
    unfold humpgen_Ints_l1
    by_cases h : i < cs.length
    · exact .inl ⟨((i + 1 : Nat) : Int), oit (decide_eq_true (by omega)) (obi (idx_nat h) (obi (idx_nat h) (oif (by simp) (obi (in64_ok (by omega)) rfl)))), ⟨i + 1, rfl, h⟩, by omega⟩
    · exact .inr ⟨_, oif (decide_eq_false (by omega)) rfl, rfl⟩) N 0 ⟨0, rfl, Nat.zero_le _⟩ (by simp; omega)
  unfold humpgen_Ints
  exact oif (by simp) (obi hq rfl)

theorem permitted_eq {l : List T_Pushed} {r : T_CutRules} (g : good l r) (a b : Int) : ∃ v e, cut_Permitted 200 l r a b = some (v, e) ∧ r18_Permitted 200 l r a b = some (v, e) := by
  by_cases h : 0 ≤ a ∧ a ≤ b ∧ b ≤ l.length
  · obtain ⟨m, rfl⟩ : ∃ m : Nat, a = m := ⟨a.toNat, by omega⟩
    obtain ⟨n, rfl⟩ : ∃ n : Nat, b = n := ⟨b.toNat, by omega⟩
    obtain ⟨v, hv, v1⟩ := perm_spec 200 g (by omega) (a := m) (b := n) (by omega) (by omega)
    obtain ⟨u, hu, u1⟩ := one_spec 200 g (by omega) (a := m) (b := n) (by omega) (by omega)
    have e : u = v := by
      rw [Bool.eq_iff_iff, u1, v1]
    subst e
    refine ⟨u, 0, hv, ?_⟩
    unfold r18_Permitted
    exact obi ((rvalid_eq 200 l r (by omega)).trans (good_valid 200 g (by omega))) (oif (by simp) (oif (by simp; omega) (obi (slc_nat (by omega) (by omega)) (obi hu rfl))))
  · have hd : ((decide (a < 0) || decide (b < a)) || decide ((l.length : Int) < b)) = true := by
      simp only [Bool.or_eq_true, decide_eq_true_eq]; omega
    refine ⟨false, 2, ?_, ?_⟩
    · unfold cut_Permitted
      exact obi (good_valid 200 g (by omega)) (oif (by simp) (oit hd rfl))
    · unfold r18_Permitted
      exact obi ((rvalid_eq 200 l r (by omega)).trans (good_valid 200 g (by omega))) (oif (by simp) (oit hd rfl))

theorem check_step {l : List T_Pushed} {r : T_CutRules} (g : good l r) (cs : List T_Cut) (hc : cs.length ≤ 190) (a i : Nat) (ha : a ≤ l.length) (hi : i ≤ cs.length) :
    cut_Check_l1 200 l r cs a i = r18_Check_l1 200 l r cs a i ∧ ((∃ b : Nat, cut_Check_l1 200 l r cs a i = some (.inl ((b : Int), ((i + 1 : Nat) : Int))) ∧ b ≤ l.length ∧ i < cs.length) ∨ ∃ q, cut_Check_l1 200 l r cs a i = some (.inr q)) := by
  have hlen := g.len
  by_cases h : i < cs.length
  · by_cases hb : (((!decide (cs[i].From = (a : Int))) || decide (cs[i].To ≤ (a : Int))) || decide ((l.length : Int) < cs[i].To)) = true
    · have h1 : cut_Check_l1 200 l r cs a i = some (.inr (.inl (false, 0))) := by
        unfold cut_Check_l1
        refine oit (decide_eq_true (by omega)) (obi (idx_nat h) ?_)
        rw [hb]
        exact obi rfl (oit (by simp) rfl)
      have h2 : r18_Check_l1 200 l r cs a i = some (.inr (.inl (false, 0))) := by
        unfold r18_Check_l1
        refine oit (decide_eq_true (by omega)) (obi (idx_nat h) ?_)
        rw [hb]
        exact obi rfl (obi rfl (obi rfl (obi rfl (oit (by simp) rfl))))
      exact ⟨h1.trans h2.symm, .inr ⟨_, h1⟩⟩
    · have hb' : (((!decide (cs[i].From = (a : Int))) || decide (cs[i].To ≤ (a : Int))) || decide ((l.length : Int) < cs[i].To)) = false := by simpa using hb
      obtain ⟨hF, hT1, hT2⟩ : cs[i].From = a ∧ (a : Int) < cs[i].To ∧ cs[i].To ≤ l.length := by
        simp only [Bool.or_eq_false_iff, Bool.not_eq_false', decide_eq_true_eq, decide_eq_false_iff_not] at hb'
        omega
      obtain ⟨b, hbT⟩ : ∃ b : Nat, cs[i].To = b := ⟨cs[i].To.toNat, by omega⟩
      have hal : a < l.length := by omega
      obtain ⟨c, hcl, c1, c2, c3, c4⟩ := longest_spec 200 g (by omega) a b (by omega) (by omega)
      obtain ⟨v, hv, v1⟩ := one_spec 200 g (by omega) (a := a) (b := b) (by omega) (by omega)
      have hcb : v = decide ((c : Int) = cs[i].To) := by
        rw [Bool.eq_iff_iff, v1, decide_eq_true_eq, hbT]
        constructor
        · intro hm
          by_cases e : c = b
          · subst e; rfl
          · exact absurd (may_part g hm (Nat.le_refl a) (by omega) (by omega : c + 1 ≤ b)) (c4 (by omega))
        · intro e
          have : c = b := by omega
          subst this
          exact c3 (by omega)
      have e1 : in64 ((i : Int) + 1) = some ((i + 1 : Nat) : Int) := by rw [in64_ok (by omega)]; simp
      have key1 : cut_Check_l1 200 l r cs a i = bif ((!v || !decide (cs[i].Track = l[a].Track)) || !(cs[i].Engine == l[a].Gentle)) then some (.inr (.inl (false, 0))) else some (.inl (cs[i].To, ((i + 1 : Nat) : Int))) := by
        unfold cut_Check_l1
        refine oit (decide_eq_true (by omega)) (obi (idx_nat h) ?_)
        rw [hb']
        refine obi (x := (c : Int)) (by rw [hbT]; exact hcl) ?_
        rw [← hcb, Bool.false_or]
        cases v with
        | false => simp
        | true =>
          refine oif rfl (obi (idx_nat hal) ?_)
          by_cases ht : cs[i].Track = l[a].Track
          · refine obi (x := l[a]) (by simp only [ht, gO]; exact oit (by simp) (idx_nat hal)) ?_
            rw [e1]
            simp [ht]
          · refine obi (x := default) (by simp only [gO]; exact oif (by simp [ht]) rfl) ?_
            simp [ht]
      have key2 : r18_Check_l1 200 l r cs a i = bif ((!v || !decide (cs[i].Track = l[a].Track)) || !(cs[i].Engine == l[a].Gentle)) then some (.inr (.inl (false, 0))) else some (.inl (cs[i].To, ((i + 1 : Nat) : Int))) := by
        unfold r18_Check_l1
        refine oit (decide_eq_true (by omega)) (obi (idx_nat h) ?_)
        rw [hb']
        refine obi (x := (l.take b).drop a) (by rw [hF, hbT]; exact slc_nat (by omega) (by omega)) (obi hv ?_)
        cases v with
        | false => exact obi rfl (obi rfl (by simp))
        | true =>
          refine obi (x := l[a]) (by exact idx_nat hal) ?_
          by_cases ht : cs[i].Track = l[a].Track
          · refine obi (x := l[a]) (by simp only [ht, gO]; exact oit (by simp) (idx_nat hal)) ?_
            rw [e1]
            simp [ht]
          · refine obi (x := default) (by simp only [gO]; exact oif (by simp [ht]) rfl) ?_
            simp [ht]
      refine ⟨key1.trans key2.symm, ?_⟩
      rw [key1]
      cases ((!v || !decide (cs[i].Track = l[a].Track)) || !(cs[i].Engine == l[a].Gentle)) with
      | true => exact .inr ⟨_, rfl⟩
      | false => exact .inl ⟨b, by rw [hbT]; rfl, by omega, h⟩
  · have h1 : cut_Check_l1 200 l r cs a i = some (.inr (.inr (a : Int))) := by
      unfold cut_Check_l1
      exact oif (decide_eq_false (by omega)) rfl
    have h2 : r18_Check_l1 200 l r cs a i = some (.inr (.inr (a : Int))) := by
      unfold r18_Check_l1
      exact oif (decide_eq_false (by omega)) rfl
    exact ⟨h1.trans h2.symm, .inr ⟨_, h1⟩⟩

theorem check_eq {l : List T_Pushed} {r : T_CutRules} (g : good l r) (cs : List T_Cut) (hc : cs.length ≤ 190) : ∃ v e, cut_Check 200 l r cs = some (v, e) ∧ r18_Check 200 l r cs = some (v, e) := by
  have hsame : iterN (fun s : Int × Int => cut_Check_l1 200 l r cs s.1 s.2) 200 (0, 0) = iterN (fun s : Int × Int => r18_Check_l1 200 l r cs s.1 s.2) 200 (0, 0) := by
    refine iterN_same (I := fun s => ∃ a i : Nat, s = ((a : Int), (i : Int)) ∧ a ≤ l.length ∧ i ≤ cs.length) ?_ 200 (0, 0) ⟨0, 0, rfl, Nat.zero_le _, Nat.zero_le _⟩
    rintro s ⟨a, i, rfl, ha, hi⟩
    obtain ⟨h1, h2⟩ := check_step g cs hc a i ha hi
    refine ⟨h1, fun s' hs' => ?_⟩
    rcases h2 with ⟨b, hb, hbl, hlt⟩ | ⟨q, hq⟩
    · simp only at hs'
      rw [hb] at hs'
      injection hs' with hs'
      injection hs' with hs'
      exact ⟨b, i + 1, hs'.symm, hbl, hlt⟩
    · simp only at hs'
      rw [hq] at hs'
      injection hs' with hs'
      cases hs'
  obtain ⟨q, hq, _⟩ := iterN_run (f := fun s : Int × Int => cut_Check_l1 200 l r cs s.1 s.2) (I := fun s => ∃ a i : Nat, s = ((a : Int), (i : Int)) ∧ a ≤ l.length ∧ i ≤ cs.length) (Q := fun _ => True) (fun s => cs.length - s.2.toNat) (by
    rintro s ⟨a, i, rfl, ha, hi⟩
    rcases (check_step g cs hc a i ha hi).2 with ⟨b, hb, hbl, hlt⟩ | ⟨q, hq⟩
    · exact .inl ⟨_, hb, ⟨b, i + 1, rfl, hbl, hlt⟩, by simp only; omega⟩
    · exact .inr ⟨q, hq, trivial⟩) 200 (0, 0) ⟨0, 0, rfl, Nat.zero_le _, Nat.zero_le _⟩ (by simp only; omega)
  have hq2 := hsame.symm.trans hq
  have hv2 := (rvalid_eq 200 l r (by omega)).trans (good_valid 200 g (by omega))
  cases q with
  | inl p => exact ⟨p.1, p.2, obi (good_valid 200 g (by omega)) (oif (by simp) (obi hq rfl)), obi hv2 (oif (by simp) (obi hq2 rfl))⟩
  | inr p => exact ⟨_, _, obi (good_valid 200 g (by omega)) (oif (by simp) (obi hq rfl)), obi hv2 (oif (by simp) (obi hq2 rfl))⟩

theorem exact_ok (l : List T_Pushed) (r : T_CutRules) (cs : List T_Cut) (hc : cs.length ≤ 190) (a b : Int) : law18_exact 200 l r cs a b = some true := by
  have hv := valid_eq 200 l r (by omega)
  have fin : ∀ (fs : List T_Cut) (ws : List Int) (e x y : Int) (v u : Bool), fs.length ≤ 190 → ws.length ≤ 190 → cut_Form 200 l r = some (fs, e) → r18_Form 200 l r = some (fs, e) → cut_Witness 200 l r = some (ws, e) → r18_Witness 200 l r = some (ws, e) → cut_Valid 200 l r = some e →
      cut_Permitted 200 l r a b = some (v, x) → r18_Permitted 200 l r a b = some (v, x) → cut_Check 200 l r cs = some (u, y) → r18_Check 200 l r cs = some (u, y) → law18_exact 200 l r cs a b = some true := by
    intro fs ws e x y v u hfl hwl h1 h2 h3 h4 h5 h6 h7 h8 h9
    unfold law18_exact
    refine obi h1 (obi h2 (obi h3 (obi h4 (obi h5 (obi ((rvalid_eq 200 l r (by omega)).trans h5) (obi (x := true) ?_ (obi (x := true) ?_ (oif (by simp) (obi h6 (obi h7 (obi h8 (obi h9 ?_))))))))))))
    · simp only [decide_true, Bool.not_true, Bool.not_false, gO, cond_true]; exact cuts_eq 200 fs (by omega) (by omega)
    · simp only [decide_true, Bool.not_true, Bool.not_false, Bool.or_self, gO, cond_true]; exact ints_eq 200 ws (by omega) (by omega)
    · simp
  by_cases hz : cut_Valid 200 l r = some 0
  · have g := valid_good 200 (by omega) hz
    have hlen := g.len
    obtain ⟨fs, hf, hg⟩ := form_greedy 200 g (by omega)
    obtain ⟨fs', hf', hg'⟩ := rform_spec 200 g (by omega)
    have := greedy_unique g (Nat.le_refl _) hg hg'
    subst this
    have hfl := hg.part.le
    obtain ⟨v, x, hp, hp'⟩ := permitted_eq g a b
    obtain ⟨u, y, hk, hk'⟩ := check_eq g cs hc
    exact fin fs _ 0 x y v u (by omega) (by simp; omega) hf hf' (witness_spec (by omega) hf) (rwitness_spec (by omega) hf') hz hp hp' hk hk'
  · obtain ⟨e, he, h0⟩ : ∃ e, cut_Valid 200 l r = some e ∧ e ≠ 0 := ⟨_, hv, fun h => hz (by rw [hv, h])⟩
    have he' := (rvalid_eq 200 l r (by omega)).trans he
    have hb : (!decide (e = 0)) = true := by simp [h0]
    have f1 := form_bad 200 he h0
    have f2 : r18_Form 200 l r = some ([], e) := obi he' (oit hb rfl)
    exact fin [] [] e e e false false (by simp) (by simp) f1 f2 (obi f1 (oit hb rfl)) (obi f2 (oit hb rfl)) he (obi he (oit hb rfl)) (obi he' (oit hb rfl)) (obi he (oit hb rfl)) (obi he' (oit hb rfl))
end Go.Gv
