/- Codes: the ones of a number, the next code of a form. -/
import Derived.Test.YtlpkbkbjohhleaaGreatTc
namespace Go.Gv
theorem lt63 {a : Nat} (h : a < 4294967296) : (0 : Int) ≤ a ∧ (a : Int) < 2 ^ 63 := ⟨by omega, Int.lt_of_lt_of_le (show (a : Int) < 4294967296 by omega) (by decide)⟩
theorem andN_nat {a b : Nat} (ha : a < 4294967296) (hb : b < 4294967296) : andN 63 (a : Int) (b : Int) = some ((a &&& b : Nat) : Int) := by
  unfold andN bitN
  rw [if_pos ⟨lt63 ha, lt63 hb⟩, Int.toNat_natCast, Int.toNat_natCast]
theorem orN_nat {a b : Nat} (ha : a < 4294967296) (hb : b < 4294967296) : orN 63 (a : Int) (b : Int) = some ((a ||| b : Nat) : Int) := by
  unfold orN bitN
  rw [if_pos ⟨lt63 ha, lt63 hb⟩, Int.toNat_natCast, Int.toNat_natCast]
theorem ones_ok {N : Nat} (hN : 5000 ≤ N) {k : Nat} (hk : k < 4096) : code_ones N (k : Int) = some (pc k : Int) := by
  obtain ⟨q, hq, rfl⟩ := iterN_run (f := fun s : Int × Int => code_ones_l1 N s.1 s.2) (I := fun s => ∃ m : Nat, s.1 = m ∧ m < 4096 ∧ s.2 + pc m = pc k) (Q := fun q => q = (pc k : Int)) (fun s => s.1.toNat) (by
    rintro ⟨i, n⟩ ⟨m, rfl, hm, hs⟩
    simp only at hs ⊢
    unfold code_ones_l1
    by_cases h0 : m = 0
    · subst h0
      rw [pc_zero] at hs
      exact .inr ⟨_, oif (bnotIf (decide_eq_true rfl)) rfl, by omega⟩
    · obtain ⟨⟨h1, h2⟩, _⟩ := pc_step hm (by omega)
      have hb := pc_le hm
      have hbk := pc_le hk
      have e : in64 ((m : Int) - 1) = some ((m - 1 : Nat) : Int) := in64_nat (by omega) (by omega)
      exact .inl ⟨_, oit (bnotIt (decide_eq_false (by omega))) (obi (in64_ok (by omega)) (obi e (obi (andN_nat (by omega) (by omega)) rfl))), ⟨m &&& (m - 1), rfl, by omega, by simp only; omega⟩, by simp only; omega⟩) N ((k : Int), 0) ⟨k, rfl, hk, by simp⟩ (by simp only; omega)
  exact obi hq rfl
theorem i2 (s : Nat) : (2 : Int) ^ s = ((2 ^ s : Nat) : Int) := by rw [Int.natCast_pow]; rfl
theorem pow2_le {r : Nat} (h : r ≤ 12) : 1 ≤ 2 ^ r ∧ 2 ^ r ≤ 4096 := by
  have h1 : (2 : Nat) ^ r ≤ 2 ^ 12 := Nat.pow_le_pow_right (by decide) h
  have h2 : 0 < 2 ^ r := Nat.two_pow_pos r
  have h3 : (2 : Nat) ^ 12 = 4096 := by decide
  omega
theorem shl_ok {x s : Nat} (h1 : x ≤ 100000) (hs : s ≤ 12) : shl_i64 (x : Int) (s : Int) = some ((x * 2 ^ s : Nat) : Int) := by
  unfold shl_i64
  rw [if_pos (by omega), Int.toNat_natCast, show min s 64 = s by omega, i2]
  have h2 := pow2_le hs
  have h4 : x * 2 ^ s ≤ 100000 * 4096 := Nat.mul_le_mul h1 h2.2
  exact in64_nat (by rw [Int.natCast_mul]) (by omega)
theorem shr_ok {x s : Nat} (hs : s ≤ 12) : shr_i64 (x : Int) (s : Int) = some ((x / 2 ^ s : Nat) : Int) := by
  unfold shr_i64 shrW
  rw [if_pos (by omega), Int.toNat_natCast, show min s 64 = s by omega]
  rw [i2, Int.fdiv_eq_ediv_of_nonneg _ (Int.natCast_nonneg _), Int.natCast_ediv]
theorem form_ok (N : Nat) {r w : Int} (hr : 0 ≤ r ∧ r ≤ 12) (hw : 0 ≤ w ∧ w ≤ 12) : code_form N r w = some true := by
  have h1 : (decide (0 ≤ r) && decide (r ≤ 12)) = true := band (decide_eq_true hr.1) (decide_eq_true hr.2)
  have h2 : (decide (0 ≤ w) && decide (w ≤ 12)) = true := band (decide_eq_true hw.1) (decide_eq_true hw.2)
  unfold code_form
  refine obi (x := true) ?_ (obi (x := true) (gO_T rfl ?_) rfl)
  · unfold code_in; rw [h1]
  · unfold code_in; rw [h2]
theorem missed_ok (N : Nat) {r : Nat} (hr : r ≤ 12) : code_missed N (r : Int) = some ((2 ^ r - 1 : Nat) : Int) := by
  have := pow2_le hr
  unfold code_missed
  refine obi (shl_ok (x := 1) (by decide) hr) ?_
  rw [Nat.one_mul]
  exact obi (in64_nat (n := 2 ^ r - 1) (by omega) (by omega)) rfl
/-- a code of a form -/
def IsC (k r w : Nat) : Prop := k < 4096 ∧ k % 2 ^ r = 2 ^ r - 1 ∧ pc (k / 2 ^ r) ≤ w
/-- what Next answers -/
def NextS (least : Int) (r w : Nat) (q : Int × Int) : Prop := q = (0, 15) ∨ ∃ k : Nat, q = ((k : Int), 0) ∧ least ≤ k ∧ IsC k r w ∧ ∀ k', IsC k' r w → least ≤ (k' : Int) → k ≤ k'
theorem next_loop {N : Nat} (hN : 5000 ≤ N) {w real0 : Nat} (hr : real0 < 4096) (hw : w ≤ 12) : ∃ q, iterN (fun s : Int => code_Next_l1 N (w : Int) s) N (real0 : Int) = some q ∧ (q = .inl (0, 15) ∨ ∃ k : Nat, q = .inr (k : Int) ∧ real0 ≤ k ∧ k < 4096 ∧ pc k ≤ w ∧ ∀ y, real0 ≤ y → y < 4096 → pc y ≤ w → k ≤ y) := by
  refine iterN_run (f := fun s : Int => code_Next_l1 N (w : Int) s) (I := fun s => ∃ m : Nat, s = m ∧ real0 ≤ m ∧ m < 4096 ∧ ∀ y, real0 ≤ y → y < 4096 → pc y ≤ w → m ≤ y) (fun s => 4096 - s.toNat) ?_ N (real0 : Int) ⟨real0, rfl, Nat.le_refl _, hr, fun y h _ _ => h⟩ (by simp only [Int.toNat_natCast]; omega)
  rintro s ⟨m, rfl, h1, h2, h3⟩
  have hp := pc_le h2
  unfold code_Next_l1
  by_cases hc : pc m ≤ w
  · exact .inr ⟨_, obi (ones_ok hN h2) (oif (decide_eq_false (by omega)) rfl), .inr ⟨m, rfl, h1, h2, hc, h3⟩⟩
  · have h0 : 0 < m := by
      by_cases e : m = 0
      · subst e; rw [pc_zero] at hc; omega
      · omega
    obtain ⟨_, h4, ⟨h5, h6⟩, h7⟩ := pc_step h2 h0
    have e1 : in64 (-(m : Int)) = some (-(m : Int)) := in64_ok (by omega)
    have e2 : in64 ((m : Int) + andI (m : Int) (-(m : Int))) = some ((m + lowN m : Nat) : Int) := by rw [h4]; exact in64_nat (by omega) (by omega)
    by_cases h8 : m + lowN m = 4096
    · exact .inr ⟨_, obi (ones_ok hN h2) (oit (decide_eq_true (by omega)) (obi e1 (obi e2 (oit (decide_eq_true (by omega)) rfl)))), .inl rfl⟩
    · refine .inl ⟨_, obi (ones_ok hN h2) (oit (decide_eq_true (by omega)) (obi e1 (obi e2 (oif (decide_eq_false (by omega)) rfl)))), ⟨m + lowN m, rfl, by omega, by omega, fun y y1 y2 y3 => ?_⟩, by simp only [Int.toNat_natCast]; omega⟩
      have := h3 y y1 y2 y3
      by_cases hy : y < m + lowN m
      · have := h7 y this hy; omega
      · omega
theorem next_codes {N : Nat} (hN : 5000 ≤ N) {least r w : Nat} (hr : r ≤ 12) (hw : w ≤ 12) : ∃ q, code_Next N (least : Int) (r : Int) (w : Int) = some q ∧ NextS (least : Int) r w q := by
  have hp := pow2_le hr
  have hf := form_ok N (r := (r : Int)) (w := (w : Int)) ⟨by omega, by omega⟩ ⟨by omega, by omega⟩
  unfold code_Next
  by_cases hl : 4096 ≤ least
  · exact ⟨_, obi hf (oif (borF rfl (decide_eq_false (by omega))) (oit (decide_eq_true (by omega)) rfl)), .inl rfl⟩
  -- where the search begins
  obtain ⟨real0, h0, h1, h2, h3⟩ : ∃ real0 : Nat, (bif decide (((2 ^ r - 1 : Nat) : Int) < (least : Int)) then (
      Option.bind (in64 ((least : Int) - ((2 ^ r - 1 : Nat) : Int))) fun x43 => Option.bind (shl_i64 1 (r : Int)) fun x46 => Option.bind (in64 (x43 + x46)) fun x49 => Option.bind (in64 (x49 - 1)) fun x52 => Option.bind (shr_i64 x52 (r : Int)) fun x55 => some x55) else (some 0)) = some (real0 : Int) ∧ real0 < 4096 ∧ (∀ y : Nat, least ≤ y * 2 ^ r + (2 ^ r - 1) → real0 ≤ y) ∧ least ≤ real0 * 2 ^ r + (2 ^ r - 1) := by
    by_cases hc : 2 ^ r - 1 < least
    · have e0 : shl_i64 1 (r : Int) = some ((2 ^ r : Nat) : Int) := by
        have := shl_ok (x := 1) (s := r) (by decide) hr
        rw [Nat.one_mul] at this; exact this
      have e1 : in64 ((least : Int) - ((2 ^ r - 1 : Nat) : Int)) = some ((least - (2 ^ r - 1) : Nat) : Int) := in64_nat (by omega) (by omega)
      have e2 : in64 (((least - (2 ^ r - 1) : Nat) : Int) + ((2 ^ r : Nat) : Int)) = some ((least + 1 : Nat) : Int) := in64_nat (by omega) (by omega)
      have e3 : in64 (((least + 1 : Nat) : Int) - 1) = some ((least : Nat) : Int) := in64_nat (by omega) (by omega)
      have hd := Nat.div_add_mod least (2 ^ r)
      have hm := Nat.mod_lt least (show 0 < 2 ^ r by omega)
      refine ⟨least / 2 ^ r, oit (decide_eq_true (by omega)) (obi e1 (obi e0 (obi e2 (obi e3 (obi (shr_ok hr) rfl))))), ?_, fun y hy => ?_, ?_⟩
      · exact Nat.lt_of_le_of_lt (Nat.div_le_self _ _) (by omega)
      · rw [Nat.div_le_iff_le_mul_add_pred (by omega)]
        rw [Nat.mul_comm]; omega
      · rw [Nat.mul_comm]; omega
    · exact ⟨0, oif (decide_eq_false (by omega)) rfl, by omega, fun y _ => Nat.zero_le _, by omega⟩
  obtain ⟨q, hq, hQ⟩ := next_loop (w := w) hN h1 hw
  rcases hQ with rfl | ⟨k, rfl, k1, k2, k3, k4⟩
  · exact ⟨_, obi hf (oif (borF rfl (decide_eq_false (by omega))) (oif (decide_eq_false (by omega)) (obi (missed_ok N hr) (obi h0 (obi hq rfl))))), .inl rfl⟩
  · have hb : k * 2 ^ r ≤ 4096 * 4096 := Nat.mul_le_mul (by omega) hp.2
    have e1 : shl_i64 (k : Int) (r : Int) = some ((k * 2 ^ r : Nat) : Int) := shl_ok (by omega) hr
    have e2 : orN 63 ((k * 2 ^ r : Nat) : Int) ((2 ^ r - 1 : Nat) : Int) = some ((k * 2 ^ r + (2 ^ r - 1) : Nat) : Int) := by
      rw [orN_nat (by omega) (by omega), Nat.mul_comm, Nat.two_pow_add_eq_or_of_lt (show 2 ^ r - 1 < 2 ^ r by omega)]
    have hmod : (k * 2 ^ r + (2 ^ r - 1)) % 2 ^ r = 2 ^ r - 1 := by
      rw [Nat.mul_comm, Nat.mul_add_mod]
      exact Nat.mod_eq_of_lt (by omega)
    have hdiv : (k * 2 ^ r + (2 ^ r - 1)) / 2 ^ r = k := by
      rw [Nat.mul_comm, Nat.mul_add_div (by omega), Nat.div_eq_of_lt (by omega)]; rfl
    have hge : least ≤ k * 2 ^ r + (2 ^ r - 1) := by
      have := Nat.mul_le_mul_right (2 ^ r) k1
      omega
    by_cases h4 : k * 2 ^ r + (2 ^ r - 1) < 4096
    · refine ⟨_, obi hf (oif (borF rfl (decide_eq_false (by omega))) (oif (decide_eq_false (by omega)) (obi (missed_ok N hr) (obi h0 (obi hq (obi e1 (obi e2 (oit (decide_eq_true (by omega)) rfl)))))))), .inr ⟨_, rfl, by omega, ⟨h4, hmod, by rw [hdiv]; exact k3⟩, fun k' hk' hle => ?_⟩⟩
      obtain ⟨c1, c2, c3⟩ := hk'
      have hd := Nat.div_add_mod k' (2 ^ r)
      rw [c2] at hd
      have hlt : k' / 2 ^ r < 4096 := Nat.lt_of_le_of_lt (Nat.div_le_self _ _) c1
      have := k4 (k' / 2 ^ r) (h2 _ (by rw [Nat.mul_comm]; omega)) hlt c3
      have := Nat.mul_le_mul_right (2 ^ r) this
      rw [Nat.mul_comm (k' / 2 ^ r)] at this
      omega
    · exact ⟨_, obi hf (oif (borF rfl (decide_eq_false (by omega))) (oif (decide_eq_false (by omega)) (obi (missed_ok N hr) (obi h0 (obi hq (obi e1 (obi e2 (oif (decide_eq_false (by omega)) rfl)))))))), .inl rfl⟩
theorem is_ok {N : Nat} (hN : 5000 ≤ N) {k r w : Nat} (hk : k < 4096) (hr : r ≤ 12) (hw : w ≤ 12) : ∃ b, code_Is N (k : Int) (r : Int) (w : Int) = some b ∧ (b = true ↔ IsC k r w) := by
  have hp := pow2_le hr
  have hf := form_ok N (r := (r : Int)) (w := (w : Int)) ⟨by omega, by omega⟩ ⟨by omega, by omega⟩
  have hi : code_in N (k : Int) 0 4095 = some true := by unfold code_in; rw [decide_eq_true (by omega), decide_eq_true (by omega)]; rfl
  have ha : andN 63 (k : Int) ((2 ^ r - 1 : Nat) : Int) = some ((k % 2 ^ r : Nat) : Int) := by rw [andN_nat (by omega) (by omega), Nat.and_two_pow_sub_one_eq_mod]
  have hlt : k / 2 ^ r < 4096 := Nat.lt_of_le_of_lt (Nat.div_le_self _ _) hk
  unfold code_Is
  by_cases hc : k % 2 ^ r = 2 ^ r - 1
  · have g : ((true && true) && decide (((k % 2 ^ r : Nat) : Int) = ((2 ^ r - 1 : Nat) : Int))) = true := by rw [hc]; simp
    refine ⟨_, obi hf (obi (gO_T rfl hi) (obi (gO_T rfl (missed_ok N hr)) (obi (gO_T rfl ha) (obi (gO_T rfl (missed_ok N hr)) (obi (gO_T g (shr_ok hr)) (obi (gO_T g (ones_ok hN hlt)) rfl)))))), ?_⟩
    rw [g, Bool.true_and, decide_eq_true_eq]
    unfold IsC
    constructor
    · intro h; exact ⟨hk, hc, by omega⟩
    · intro h; have := h.2.2; omega
  · have g : ((true && true) && decide (((k % 2 ^ r : Nat) : Int) = ((2 ^ r - 1 : Nat) : Int))) = false := bandF2 (decide_eq_false (by omega))
    refine ⟨_, obi hf (obi (gO_T rfl hi) (obi (gO_T rfl (missed_ok N hr)) (obi (gO_T rfl ha) (obi (gO_T rfl (missed_ok N hr)) (obi (gO_F g) (obi (gO_F g) rfl)))))), ?_⟩
    rw [g]
    simp only [Bool.false_and, Bool.false_eq_true, false_iff]
    exact fun h => hc h.2.1
end Go.Gv
