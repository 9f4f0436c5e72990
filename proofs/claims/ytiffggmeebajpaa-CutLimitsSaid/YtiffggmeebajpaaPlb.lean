/- CutLimits, in plain words. -/
import Derived.Test.YtiffggmeebajpaaPla
namespace Go.Gv

def unit : T_Pushed := T_Pushed.mk 250 4 2000 false 31

theorem limits_list (N n : Nat) (h : n + 1 < N) (hn : n ≤ 1000) : iterN (fun s : Int × List T_Pushed => law18_CutLimits_l1 N (n : Int) s.1 s.2) N (0, []) = some (List.replicate n unit) := by
  obtain ⟨q, hq, rfl⟩ := iterN_run (f := fun s : Int × List T_Pushed => law18_CutLimits_l1 N (n : Int) s.1 s.2) (I := fun s => ∃ i : Nat, s = ((i : Int), List.replicate i unit) ∧ i ≤ n) (Q := fun q => q = List.replicate n unit) (fun s => n - s.1.toNat) (by
    rintro s ⟨i, rfl, hi⟩
    unfold law18_CutLimits_l1
    by_cases h : i < n
    · have hd : decide ((i : Int) < (n : Int)) = true := by simp; omega
      refine .inl ⟨_, oit hd (obi (app_ok (by simp; omega) (by simp; omega)) (obi (in64_ok (by omega)) rfl)), ⟨i + 1, ?_, h⟩, by simp; omega⟩
      rw [List.replicate_succ']
      simp [unit]
    · have hd : decide ((i : Int) < (n : Int)) = false := by simp; omega
      have : i = n := by omega
      subst this
      exact .inr ⟨_, oif hd rfl, rfl⟩) N (0, []) ⟨0, rfl, Nat.zero_le _⟩ (by simp; omega)
  exact hq

theorem SA_unit (n k : Nat) (h : k ≤ n) : SA (List.replicate n unit) k = 4 * k := by
  induction k with
  | zero => simp [SA]
  | succ k ih => rw [SA_succ _ k (by simp; omega), ih (by omega)]; simp [unit]; omega
theorem SL_unit (n k : Nat) (h : k ≤ n) : SL (List.replicate n unit) k = 250 * k := by
  induction k with
  | zero => simp [SL]
  | succ k ih => rw [SL_succ _ k (by simp; omega), ih (by omega)]; simp [unit]; omega

/-- the greatest number of such wagons in a cut -/
def fits (r : T_CutRules) (k : Int) : Prop := k ≤ r.Wagons ∧ 4 * k ≤ r.Axles ∧ 250 * k ≤ r.Length

theorem may_unit {n : Nat} {r : T_CutRules} {a b : Nat} (hab : a < b) (hb : b ≤ n) : may (List.replicate n unit) r a b ↔ fits r ((b : Int) - a) := by
  constructor
  · intro h
    have h1 := h.wagons
    have h2 := h.axles
    have h3 := h.length
    rw [SA_unit n b hb, SA_unit n a (by omega)] at h2
    rw [SL_unit n b hb, SL_unit n a (by omega)] at h3
    exact ⟨h1, by omega, by omega⟩
  · rintro ⟨h1, h2, h3⟩
    refine ⟨hab, by simpa using hb, fun j hj _ _ => by simp, fun j hj _ _ hg => by simp [unit] at hg, h1, ?_, ?_⟩
    · rw [SA_unit n b hb, SA_unit n a (by omega)]; omega
    · rw [SL_unit n b hb, SL_unit n a (by omega)]; omega

theorem seg_unit {n : Nat} {r : T_CutRules} {most : Nat} (hmost : ∀ k : Nat, fits r k ↔ k ≤ most) {b : Nat} {cs : List T_Cut} (h : Seg (List.replicate n unit) r 0 b cs) :
    b = min n (cs.length * most) ∧ (cs.length - 1) * most ≤ n ∧ (cs ≠ [] → (cs.length - 1) * most < n) ∧ ∀ (i : Nat) (c : T_Cut), cs[i]? = some c → c.From = (i * most : Nat) ∧ c.To = (min n (i * most + most) : Nat) := by
  induction h with
  | nil => simp
  | @snoc b b' cs h hb hm hx ih =>
    obtain ⟨e, _, _, hall⟩ := ih
    have hbn : b < n := by simpa using hb
    have hb1 : b = cs.length * most := by omega
    have hlt := hm.lt
    have hle : b' ≤ n := by simpa using hm.le
    have f1 := (may_unit hlt hle).1 hm
    have f1' : (b' - b : Nat) ≤ most := (hmost _).1 (by rw [show ((b' - b : Nat) : Int) = (b' : Int) - b by omega]; exact f1)
    have e2 : b' = min n (b + most) := by
      rcases Nat.lt_or_ge b' n with h1 | h1
      · have h2 := hx (by simpa using h1)
        rw [may_unit (by omega) (by omega)] at h2
        have h3 : ¬ ((b' + 1 - b : Nat) ≤ most) := fun q => h2 (by
          have := (hmost _).2 q
          rwa [show ((b' + 1 - b : Nat) : Int) = ((b' + 1 : Nat) : Int) - b by omega] at this)
        omega
      · omega
    simp only [List.length_append, List.length_cons, List.length_nil, Nat.add_mul, Nat.one_mul, Nat.zero_add, Nat.add_sub_cancel]
    refine ⟨by omega, by omega, fun _ => by omega, fun i c hc => ?_⟩
    rcases Nat.lt_or_ge i cs.length with h1 | h1
    · rw [List.getElem?_append_left h1] at hc
      exact hall i c hc
    · rw [List.getElem?_append_right h1] at hc
      have : i = cs.length := by
        have := (List.getElem?_eq_some_iff.1 hc).1
        simp at this; omega
      subst this
      simp at hc
      subst hc
      simp only [cutOf]
      omega

theorem limits_check (N : Nat) (n most : Nat) (cs : List T_Cut) (e : Int) (hN : 200 ≤ N) (hlen : cs.length ≤ 97) (hm : most ≤ 32) (hall : ∀ (i : Nat) (c : T_Cut), cs[i]? = some c → c.From = (i * most : Nat) ∧ c.To = (min n (i * most + most) : Nat)) :
    iterN (fun s : Int => law18_CutLimits_l2 N (n : Int) (most : Int) (cs, e) s) N 0 = some (.inr ()) := by
  obtain ⟨q, hq, rfl⟩ := iterN_run (f := fun s : Int => law18_CutLimits_l2 N (n : Int) (most : Int) (cs, e) s) (I := fun s => ∃ i : Nat, s = i ∧ i ≤ cs.length) (Q := fun q => q = .inr ()) (fun s => cs.length - s.toNat) (by
    rintro s ⟨i, rfl, hi⟩
    unfold law18_CutLimits_l2
    by_cases h : i < cs.length
    · have hd : decide ((i : Int) < (cs.length : Int)) = true := by simp; omega
      obtain ⟨h1, h2⟩ := hall i cs[i] (List.getElem?_eq_getElem h)
      have hb : i * most ≤ 97 * 32 := Nat.mul_le_mul (by omega) hm
      have e1 : in64 ((i : Int) * (most : Int)) = some ((i * most : Nat) : Int) := by rw [← Int.natCast_mul]; exact in64_ok (by omega)
      have e2 : in64 (((i * most : Nat) : Int) + (most : Int)) = some ((i * most + most : Nat) : Int) := by rw [in64_ok (by omega)]; simp
      have e3 : in64 ((i : Int) + 1) = some ((i + 1 : Nat) : Int) := by rw [in64_ok (by omega)]; simp
      refine .inl ⟨((i + 1 : Nat) : Int), oit hd (obi (idx_nat h) (obi e1 ?_)), ⟨i + 1, rfl, h⟩, by simp; omega⟩
      rw [h1, h2, e1, e3]
      have g1 : (decide (((i * most : Nat) : Int) = ((i * most : Nat) : Int))) = true := by simp
      rw [g1]
      refine obi (x := ((i * most : Nat) : Int)) rfl (obi (x := ((i * most + most : Nat) : Int)) ?_ (oif ?_ rfl))
      · exact e2
      · have : ((min n (i * most + most) : Nat) : Int) = min (n : Int) ((i * most + most : Nat) : Int) := by omega
        simp only [this]; simp
    · have hd : decide ((i : Int) < (cs.length : Int)) = false := by simp; omega
      exact .inr ⟨_, oif hd rfl, rfl⟩) N 0 ⟨0, rfl, Nat.zero_le _⟩ (by simp; omega)
  exact hq

theorem limits_rest (n most : Nat) (r : T_CutRules) (hR : okR r = true) (hA : 4 ≤ r.Axles) (hL : 250 ≤ r.Length) (h1 : 1 ≤ most) (h2 : most ≤ 32) (hn : n ≤ 97) (hmost : ∀ k : Nat, fits r k ↔ k ≤ most) :
    (Option.bind (iterN (fun s : Int × List T_Pushed => law18_CutLimits_l1 200 (n : Int) s.1 s.2) 200 (0, [])) fun r123 =>
      Option.bind (cut_Form 200 r123 r) fun r146 =>
      bif decide (96 < (n : Int)) then (
      Option.bind (gO (decide (r146.2 = 3) && decide ((List.length r146.1 : Int) = 0)) (law18_sane 200)) fun r160 =>
      some ((decide (r146.2 = 3) && decide ((List.length r146.1 : Int) = 0)) && r160)) else (
      Option.bind (gO (!(!decide (r146.2 = 0))) (in64 ((n : Int) + most))) fun x172 =>
      Option.bind (gO (!(!decide (r146.2 = 0))) (in64 (x172 - 1))) fun x176 =>
      Option.bind (gO (!(!decide (r146.2 = 0))) (quo64 x176 most)) fun x181 =>
      bif ((!decide (r146.2 = 0)) || (!decide ((List.length r146.1 : Int) = x181))) then (
      some false) else (
      Option.bind (iterN (fun s : Int => law18_CutLimits_l2 200 (n : Int) most r146 s) 200 0) fun r266 =>
      match r266 with
      | .inl p311 => (
      some p311)
      | .inr _ => (
      Option.bind (law18_sane 200) fun r317 =>
      some r317)))) = some true := by
  refine obi (limits_list 200 n (by omega) (by omega)) ?_
  by_cases h : n = 97
  · subst h
    have hv : cut_Valid 200 (List.replicate 97 unit) r = some 3 := by rw [valid_eq 200 _ r (by omega), if_pos hR, if_pos (by simp)]
    refine obi (form_bad 200 hv (by omega)) (oit (by simp) ?_)
    rw [sane_ok]
    rfl
  · have hw : ∀ (j : Nat) (h : j < (List.replicate n unit).length), okW r (List.replicate n unit)[j] = true := fun j hj => by
      have hp := okR_parts hR
      simp only [List.getElem_replicate, okW, unit, Bool.and_eq_true, decide_eq_true_eq]
      omega
    have g : good (List.replicate n unit) r := ⟨hR, by simp; omega, hw⟩
    obtain ⟨cs, hf, hs⟩ := form_spec 200 g (by omega)
    have hsu := seg_unit hmost hs
    simp only [List.length_replicate] at hsu
    obtain ⟨e1, _, e3, hall⟩ := hsu
    refine obi hf (oif (by simp; omega) ?_)
    refine obi (x := (n : Int) + most) (in64_ok (by omega)) (obi (x := (n : Int) + most - 1) (in64_ok (by omega)) (obi (x := (cs.length : Int)) ?_ ?_))
    · show quo64 ((n : Int) + most - 1) most = some (cs.length : Int)
      have hq : ((n : Int) + most - 1).tdiv most = cs.length := by
        rw [Int.tdiv_eq_ediv_of_nonneg (by omega)]
        have hcs : cs ≠ [] ∨ n = 0 := by
          by_cases hc : cs = []
          · right; rw [hc] at e1; simp at e1; exact e1
          · exact .inl hc
        have hle : n ≤ cs.length * most := by omega
        have hlt : (cs.length - 1) * most < n ∨ n = 0 := by
          rcases hcs with hc | hc
          · exact .inl (e3 hc)
          · exact .inr hc
        have hpos : cs.length = 0 ∨ (cs.length - 1) * most = cs.length * most - most := by
          rcases Nat.eq_zero_or_pos cs.length with h | h
          · exact .inl h
          · right; rw [Nat.sub_mul, Nat.one_mul]
        have key : ((n + most - 1) / most : Nat) = cs.length := by
          apply Nat.div_eq_of_lt_le
          · rcases hlt with hl | hl
            · rcases hpos with hp | hp
              · rw [hp]; simp
              · omega
            · subst hl
              have : cs.length = 0 := by
                rcases Nat.eq_zero_or_pos cs.length with hz | hz
                · exact hz
                · have hne : cs ≠ [] := by rintro rfl; simp at hz
                  have := e3 hne; omega
              rw [this]; simp
          · rw [Nat.add_mul, Nat.one_mul]; omega
        rw [← key, show (n : Int) + most - 1 = ((n + most - 1 : Nat) : Int) by omega, ← Int.natCast_ediv]
      unfold quo64
      rw [if_neg (by omega), hq]
      have hl : cs.length ≤ 97 := by have := hs.len; simp at this; omega
      exact in64_ok (by omega)
    · have hl : cs.length ≤ 97 := by have := hs.len; simp at this; omega
      refine oif (by simp) (obi (limits_check 200 n most cs 0 (by omega) hl h2 hall) ?_)
      exact obi sane_ok rfl

theorem CutLimits_true (a0 a1 a2 : Int) : law18_CutLimits 200 a0 a1 a2 = some true := by
  have m0 := Int.tmod_lt_of_pos a0 (show (0 : Int) < 3 by omega)
  have m0' : -3 < Int.tmod a0 3 := by have := Int.lt_tmod_of_pos a0 (show (0 : Int) < 3 by omega); omega
  have m1 := Int.tmod_lt_of_pos a1 (show (0 : Int) < 3 by omega)
  have m1' : -3 < Int.tmod a1 3 := by have := Int.lt_tmod_of_pos a1 (show (0 : Int) < 3 by omega); omega
  have m2 := Int.tmod_lt_of_pos a2 (show (0 : Int) < 32 by omega)
  have m2' : -32 < Int.tmod a2 32 := by have := Int.lt_tmod_of_pos a2 (show (0 : Int) < 32 by omega); omega
  unfold law18_CutLimits
  generalize Int.tmod a0 3 = b0 at *
  generalize Int.tmod a1 3 = b1 at *
  generalize Int.tmod a2 32 = b2 at *
  obtain ⟨n, hn, hn1⟩ : ∃ n : Nat, 95 + Int.tmod (b0 + 3) 3 = n ∧ n ≤ 97 := by
    have h1 := Int.tmod_lt_of_pos (b0 + 3) (show (0 : Int) < 3 by omega)
    have h2 := Int.tmod_nonneg 3 (show 0 ≤ b0 + 3 by omega)
    exact ⟨(95 + Int.tmod (b0 + 3) 3).toNat, by omega, by omega⟩
  obtain ⟨most, hm, hm1, hm2⟩ : ∃ n : Nat, 1 + Int.tmod (b2 + 32) 32 = n ∧ 1 ≤ n ∧ n ≤ 32 := by
    have h1 := Int.tmod_lt_of_pos (b2 + 32) (show (0 : Int) < 32 by omega)
    have h2 := Int.tmod_nonneg 32 (show 0 ≤ b2 + 32 by omega)
    exact ⟨(1 + Int.tmod (b2 + 32) 32).toNat, by omega, by omega, by omega⟩
  refine obi (in64_ok (by omega)) (obi (x := (n : Int)) (by rw [hn]; exact in64_ok (by omega)) (obi (in64_ok (by omega)) (obi (x := (most : Int)) (by rw [hm]; exact in64_ok (by omega)) (obi (in64_ok (by omega)) ?_))))
  by_cases k0 : Int.tmod (b1 + 3) 3 = 0
  · refine obi (oit (by simp [k0]) rfl) ?_
    exact limits_rest n most (T_CutRules.mk most 128 8000) (by simp [okR]; omega) (by simp) (by simp) hm1 hm2 hn1 (fun k => by simp only [fits]; omega)
  · by_cases k1 : Int.tmod (b1 + 3) 3 = 1
    · refine obi (oif (by simp [k0]) (oit (by simp [k1]) (obi (in64_ok (by omega)) rfl))) ?_
      exact limits_rest n most (T_CutRules.mk 32 (4 * most) 8000) (by simp [okR]; omega) (by simp; omega) (by simp) hm1 hm2 hn1 (fun k => by simp only [fits]; omega)
    · refine obi (oif (by simp [k0]) (oif (by simp [k1]) (obi (in64_ok (by omega)) rfl))) ?_
      exact limits_rest n most (T_CutRules.mk 32 128 (250 * most)) (by simp [okR]; omega) (by simp) (by simp; omega) hm1 hm2 hn1 (fun k => by simp only [fits]; omega)
end Go.Gv
