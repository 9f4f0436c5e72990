/- A proof of a plan passes its check. -/
import Derived.Test.YtlpkbkbjohhleaaGreatTh
namespace Go.Gv
/-- what Next answers, and why it finds none -/
def NextS2 (least : Int) (r w : Nat) (q : Int × Int) : Prop := (q = (0, 15) ∧ ∀ k', IsC k' r w → ¬ least ≤ (k' : Int)) ∨ ∃ k : Nat, q = ((k : Int), 0) ∧ least ≤ k ∧ IsC k r w ∧ ∀ k', IsC k' r w → least ≤ (k' : Int) → k ≤ k'
theorem next_loop2 {N : Nat} (hN : 5000 ≤ N) {w real0 : Nat} (hr : real0 < 4096) (hw : w ≤ 12) : ∃ q, iterN (fun s : Int => code_Next_l1 N (w : Int) s) N (real0 : Int) = some q ∧ ((q = .inl (0, 15) ∧ ∀ y, real0 ≤ y → y < 4096 → ¬ pc y ≤ w) ∨ ∃ k : Nat, q = .inr (k : Int) ∧ real0 ≤ k ∧ k < 4096 ∧ pc k ≤ w ∧ ∀ y, real0 ≤ y → y < 4096 → pc y ≤ w → k ≤ y) := by
  refine iterN_run (f := fun s : Int => code_Next_l1 N (w : Int) s) (I := fun s => ∃ m : Nat, s = m ∧ real0 ≤ m ∧ m < 4096 ∧ ∀ y, real0 ≤ y → y < 4096 → pc y ≤ w → m ≤ y) (fun s => 4096 - s.toNat) ?_ N (real0 : Int) ⟨real0, rfl, Nat.le_refl _, hr, fun y h _ _ => h⟩ (by simp only [Int.toNat_natCast]; omega)
  rintro s ⟨m, rfl, h1, h2, h3⟩
  have hp := pc_le h2
  unfold code_Next_l1
  by_cases hc : pc m ≤ w
  · exact .inr ⟨_, obi (ones_ok hN h2) (oif (decide_eq_false (by omega)) rfl), .inr ⟨m, rfl, h1, h2, hc, h3⟩⟩
  · have h0 : 0 < m := by
      by_cases e : m = 0
      · subst e; rw [pc_zero] at hc; omega
      · omega
    obtain ⟨_, h4, ⟨h5, h6⟩, h7⟩ := pc_step h2 h0
    have e1 : in64 (-(m : Int)) = some (-(m : Int)) := in64_ok (by omega)
    have e2 : in64 ((m : Int) + andI (m : Int) (-(m : Int))) = some ((m + lowN m : Nat) : Int) := by rw [h4]; exact in64_nat (by omega) (by omega)
    by_cases h8 : m + lowN m = 4096
    · exact .inr ⟨_, obi (ones_ok hN h2) (oit (decide_eq_true (by omega)) (obi e1 (obi e2 (oit (decide_eq_true (by omega)) rfl)))), .inl ⟨rfl, fun y y1 y2 y3 => by have := h3 y y1 y2 y3; have := h7 y this (by omega); omega⟩⟩
    · refine .inl ⟨_, obi (ones_ok hN h2) (oit (decide_eq_true (by omega)) (obi e1 (obi e2 (oif (decide_eq_false (by omega)) rfl)))), ⟨m + lowN m, rfl, by omega, by omega, fun y y1 y2 y3 => ?_⟩, by simp only [Int.toNat_natCast]; omega⟩
      have := h3 y y1 y2 y3
      by_cases hy : y < m + lowN m
      · have := h7 y this hy; omega
      · omega
theorem next_codes2 {N : Nat} (hN : 5000 ≤ N) {least r w : Nat} (hr : r ≤ 12) (hw : w ≤ 12) : ∃ q, code_Next N (least : Int) (r : Int) (w : Int) = some q ∧ NextS2 (least : Int) r w q := by
  have hp := pow2_le hr
  have hf := form_ok N (r := (r : Int)) (w := (w : Int)) ⟨by omega, by omega⟩ ⟨by omega, by omega⟩
  unfold code_Next
  by_cases hl : 4096 ≤ least
  · exact ⟨_, obi hf (oif (borF rfl (decide_eq_false (by omega))) (oit (decide_eq_true (by omega)) rfl)), .inl ⟨rfl, fun k' hk' h => by have := hk'.1; omega⟩⟩
  -- where the search begins
  obtain ⟨real0, h0, h1, h2, h3⟩ : ∃ real0 : Nat, (bif decide (((2 ^ r - 1 : Nat) : Int) < (least : Int)) then (
      Option.bind (in64 ((least : Int) - ((2 ^ r - 1 : Nat) : Int))) fun x43 => Option.bind (shl_i64 1 (r : Int)) fun x46 => Option.bind (in64 (x43 + x46)) fun x49 => Option.bind (in64 (x49 - 1)) fun x52 => Option.bind (shr_i64 x52 (r : Int)) fun x55 => some x55) else (some 0)) = some (real0 : Int) ∧ real0 < 4096 ∧ (∀ y : Nat, least ≤ y * 2 ^ r + (2 ^ r - 1) → real0 ≤ y) ∧ least ≤ real0 * 2 ^ r + (2 ^ r - 1) := by
    by_cases hc : 2 ^ r - 1 < least
    · have e0 : shl_i64 1 (r : Int) = some ((2 ^ r : Nat) : Int) := by
        have := shl_ok (x := 1) (s := r) (by decide) hr
        rw [Nat.one_mul] at this; exact this
      have e1 : in64 ((least : Int) - ((2 ^ r - 1 : Nat) : Int)) = some ((least - (2 ^ r - 1) : Nat) : Int) := in64_nat (by omega) (by omega)
      have e2 : in64 (((least - (2 ^ r - 1) : Nat) : Int) + ((2 ^ r : Nat) : Int)) = some ((least + 1 : Nat) : Int) := in64_nat (by omega) (by omega)
      have e3 : in64 (((least + 1 : Nat) : Int) - 1) = some ((least : Nat) : Int) := in64_nat (by omega) (by omega)
      have hd := Nat.div_add_mod least (2 ^ r)
      have hm := Nat.mod_lt least (show 0 < 2 ^ r by omega)
      refine ⟨least / 2 ^ r, oit (decide_eq_true (by omega)) (obi e1 (obi e0 (obi e2 (obi e3 (obi (shr_ok hr) rfl))))), ?_, fun y hy => ?_, ?_⟩
      · exact Nat.lt_of_le_of_lt (Nat.div_le_self _ _) (by omega)
      · rw [Nat.div_le_iff_le_mul_add_pred (by omega)]
        rw [Nat.mul_comm]; omega
      · rw [Nat.mul_comm]; omega
    · exact ⟨0, oif (decide_eq_false (by omega)) rfl, by omega, fun y _ => Nat.zero_le _, by omega⟩
  obtain ⟨q, hq, hQ⟩ := next_loop2 (w := w) hN h1 hw
  have big : ∀ k', IsC k' r w → least ≤ k' → real0 ≤ k' / 2 ^ r ∧ k' / 2 ^ r < 4096 ∧ pc (k' / 2 ^ r) ≤ w ∧ k' = 2 ^ r * (k' / 2 ^ r) + (2 ^ r - 1) := fun k' hk' hle => by
    obtain ⟨c1, c2, c3⟩ := hk'
    have hd := Nat.div_add_mod k' (2 ^ r)
    rw [c2] at hd
    exact ⟨h2 _ (by rw [Nat.mul_comm]; omega), Nat.lt_of_le_of_lt (Nat.div_le_self _ _) c1, c3, hd.symm⟩
  rcases hQ with ⟨rfl, hno⟩ | ⟨k, rfl, k1, k2, k3, k4⟩
  · exact ⟨_, obi hf (oif (borF rfl (decide_eq_false (by omega))) (oif (decide_eq_false (by omega)) (obi (missed_ok N hr) (obi h0 (obi hq rfl))))), .inl ⟨rfl, fun k' hk' h => by
      obtain ⟨b1, b2, b3, _⟩ := big k' hk' (by omega)
      exact hno _ b1 b2 b3⟩⟩
  · have hb : k * 2 ^ r ≤ 4096 * 4096 := Nat.mul_le_mul (by omega) hp.2
    have e1 : shl_i64 (k : Int) (r : Int) = some ((k * 2 ^ r : Nat) : Int) := shl_ok (by omega) hr
    have e2 : orN 63 ((k * 2 ^ r : Nat) : Int) ((2 ^ r - 1 : Nat) : Int) = some ((k * 2 ^ r + (2 ^ r - 1) : Nat) : Int) := by
      rw [orN_nat (by omega) (by omega), Nat.mul_comm, Nat.two_pow_add_eq_or_of_lt (show 2 ^ r - 1 < 2 ^ r by omega)]
    have hmod : (k * 2 ^ r + (2 ^ r - 1)) % 2 ^ r = 2 ^ r - 1 := by
      rw [Nat.mul_comm, Nat.mul_add_mod]
      exact Nat.mod_eq_of_lt (by omega)
    have hdiv : (k * 2 ^ r + (2 ^ r - 1)) / 2 ^ r = k := by
      rw [Nat.mul_comm, Nat.mul_add_div (by omega), Nat.div_eq_of_lt (by omega)]; rfl
    have hge : least ≤ k * 2 ^ r + (2 ^ r - 1) := by
      have := Nat.mul_le_mul_right (2 ^ r) k1
      omega
    by_cases h4 : k * 2 ^ r + (2 ^ r - 1) < 4096
    · refine ⟨_, obi hf (oif (borF rfl (decide_eq_false (by omega))) (oif (decide_eq_false (by omega)) (obi (missed_ok N hr) (obi h0 (obi hq (obi e1 (obi e2 (oit (decide_eq_true (by omega)) rfl)))))))), .inr ⟨_, rfl, by omega, ⟨h4, hmod, by rw [hdiv]; exact k3⟩, fun k' hk' hle => ?_⟩⟩
      obtain ⟨c1, c2, c3⟩ := hk'
      have hd := Nat.div_add_mod k' (2 ^ r)
      rw [c2] at hd
      have hlt : k' / 2 ^ r < 4096 := Nat.lt_of_le_of_lt (Nat.div_le_self _ _) c1
      have := k4 (k' / 2 ^ r) (h2 _ (by rw [Nat.mul_comm]; omega)) hlt c3
      have := Nat.mul_le_mul_right (2 ^ r) this
      rw [Nat.mul_comm (k' / 2 ^ r)] at this
      omega
    · exact ⟨_, obi hf (oif (borF rfl (decide_eq_false (by omega))) (oif (decide_eq_false (by omega)) (obi (missed_ok N hr) (obi h0 (obi hq (obi e1 (obi e2 (oif (decide_eq_false (by omega)) rfl)))))))), .inl ⟨rfl, fun k' hk' h => by
        obtain ⟨b1, b2, b3, b4⟩ := big k' hk' (by omega)
        have := k4 _ b1 b2 b3
        have := Nat.mul_le_mul_right (2 ^ r) this
        rw [Nat.mul_comm (k' / 2 ^ r)] at this
        have := hk'.1
        omega⟩⟩

theorem next_at {N : Nat} (hN : 5000 ≤ N) {b r w k : Nat} (hr : r ≤ 12) (hw : w ≤ 12) (h : NextK b r w k) : code_Next N (b : Int) (r : Int) (w : Int) = some ((k : Int), 0) := by
  obtain ⟨q, hq, hQ⟩ := next_codes2 (N := N) hN (least := b) hr hw
  rcases hQ with ⟨_, hno⟩ | ⟨k', rfl, c1, c2, c3⟩
  · exact absurd (show (b : Int) ≤ k by have := h.1; omega) (hno k h.2.1)
  · have e1 := h.2.2 k' c2 (by omega)
    have e2 := c3 k h.2.1 (by have := h.1; omega)
    rw [hq, show k' = k by omega]
theorem relation_ok (N : Nat) {l : List T_Item} (w : Int) {x y : Nat} (hx : x < l.length) (hy : y < l.length) : job_relation N l w (x : Int) (y : Int) = some (rel l x y) := by
  unfold job_relation rel
  by_cases c0 : (it l x).Train ≠ (it l y).Train ∨ (it l y).Block ≤ (it l x).Block
  · have hb : ((!decide ((it l x).Train = (it l y).Train)) || decide ((it l y).Block ≤ (it l x).Block)) = true := by
      rcases c0 with h | h
      · exact borT (bnotIt (decide_eq_false h))
      · exact borT2 (decide_eq_true h)
    rw [if_pos c0]
    exact obi (obi (idx_it hx) (obi (idx_it hy) rfl)) (oit hb rfl)
  · have hb : ((!decide ((it l x).Train = (it l y).Train)) || decide ((it l y).Block ≤ (it l x).Block)) = false := borF (bnotIf (decide_eq_true (Classical.not_not.1 fun e => c0 (.inl e)))) (decide_eq_false fun e => c0 (.inr e))
    rw [if_neg c0]
    by_cases c1 : y < x
    · rw [if_pos c1]
      exact obi (obi (idx_it hx) (obi (idx_it hy) rfl)) (oif hb (oit (decide_eq_true (by omega)) rfl))
    · rw [if_neg c1]
      exact obi (obi (idx_it hx) (obi (idx_it hy) rfl)) (oif hb (oif (decide_eq_false (by omega)) rfl))
theorem Relation_ok {N : Nat} (hN : 5000 ≤ N) {l : List T_Item} {w : Nat} (J : JobOk l w) {x y : Nat} (hx : x < l.length) (hy : y < l.length) : job_Relation N l (w : Int) (x : Int) (y : Int) = some (rel l x y, 0) := by
  have hl := J.len
  have e : in64 ((l.length : Int) - 1) = some ((l.length : Int) - 1) := in64_ok (by omega)
  unfold job_Relation
  exact obi (jobvalid_ok hN J) (oif rfl (obi e (obi (job_in_T ⟨by omega, by omega⟩) (obi (gO_T rfl e) (obi (gO_T rfl (job_in_T ⟨by omega, by omega⟩)) (oif rfl (obi (relation_ok N _ hx hy) rfl)))))))
theorem SolveS.ord {l : List T_Item} {w : Nat} {base least : List Int} (S : SolveS l w base least) {x y : Nat} (hx : x < l.length) (hy : y < l.length) (h : 0 < rel l x y) : gi least x + rel l x y - 1 ≤ gi least y := by
  obtain ⟨b, k, _, h2, h3, h4⟩ := S.at_ y hy
  have := h4.1 x hx h
  have := h3.1
  omega
theorem pairs_ok {N : Nat} (hN : 5000 ≤ N) {l : List T_Item} {w : Nat} (J : JobOk l w) {base least : List Int} (S : SolveS l w base least) : iterN (fun s : Int => certificate_Check_l3 N l (w : Int) least s) N 0 = some (.inr ()) := by
  have hl := J.len
  have hll := S.ll
  refine runN1 (f := fun s : Int => certificate_Check_l3 N l (w : Int) least s) l.length (fun i s => s = i) _ ?_ ?_ N (by omega) 0 rfl
  · rintro x s hx rfl
    have hq : iterN (fun s : Int => certificate_Check_l4 N l (w : Int) least (x : Int) s) N 0 = some (.inr ()) := by
      refine runN1 (f := fun s : Int => certificate_Check_l4 N l (w : Int) least (x : Int) s) l.length (fun i s => s = i) _ ?_ ?_ N (by omega) 0 rfl
      · rintro y s hy rfl
        have hR := Relation_ok hN J hx hy
        have hr := rel_rng l x y
        have hlx := S.rng x (by omega)
        unfold certificate_Check_l4
        refine ⟨((y + 1 : Nat) : Int), oit (decide_eq_true (by omega)) (obi hR (oif rfl ?_)), rfl⟩
        by_cases c : 0 < rel l x y
        · have g : decide (0 < rel l x y) = true := decide_eq_true c
          have ho := S.ord hx hy c
          exact obi (gO_T g (idx_gi (r := least) (i := x) (by omega))) (obi (gO_T g (in64_ok (by simp only; omega))) (obi (gO_T g (in64_ok (by simp only; omega))) (obi (gO_T g (idx_gi (r := least) (i := y) (by omega))) (oif (bandF2 (decide_eq_false (by simp only; omega))) (obi (inc_nat (by omega)) rfl)))))
        · have g : decide (0 < rel l x y) = false := decide_eq_false c
          exact obi (gO_F g) (obi (gO_F g) (obi (gO_F g) (obi (gO_F g) (oif (bandF g) (obi (inc_nat (by omega)) rfl)))))
      · rintro s rfl
        unfold certificate_Check_l4
        exact oif (decide_eq_false (by omega)) rfl
    unfold certificate_Check_l3
    exact ⟨((x + 1 : Nat) : Int), oit (decide_eq_true (by omega)) (obi hq (obi (inc_nat (by omega)) rfl)), rfl⟩
  · rintro s rfl
    unfold certificate_Check_l3
    exact oif (decide_eq_false (by omega)) rfl
/-- a chain, from its first item on -/
structure ChainS (l : List T_Item) (base least ch : List Int) : Prop where
  pos : 0 < ch.length ∧ ch.length ≤ 32
  rng : ∀ i, i < ch.length → ∃ y : Nat, y < l.length ∧ gi ch i = y
  top : ∃ y : Nat, y < l.length ∧ gi ch (ch.length - 1) = y ∧ ∀ z, z < l.length → gi least z ≤ gi least y
  link : ∀ (i x y : Nat), i + 1 < ch.length → gi ch i = (x : Int) → gi ch (i + 1) = (y : Int) → 0 < rel l x y ∧ gi least x + rel l x y - 1 = gi base y
  bot : ∀ y : Nat, gi ch 0 = (y : Int) → gi base y ≤ 0
theorem gi_rev {a : List Int} {i : Nat} (h : i < a.length) : gi a.reverse i = gi a (a.length - 1 - i) := by
  rw [← getElem_gi (by simpa using h), ← getElem_gi (by omega), List.getElem_reverse]
theorem WitS.chain {l : List T_Item} {base least out : List Int} (W : WitS l base least out) : ChainS l base least out.reverse where
  pos := by rw [List.length_reverse]; exact W.pos
  rng := fun i hi => by
    rw [List.length_reverse] at hi
    rw [gi_rev hi]; exact W.rng _ (by omega)
  top := by
    have := W.pos
    obtain ⟨y, h1, h2, h3⟩ := W.top
    refine ⟨y, h1, ?_, h3⟩
    rw [List.length_reverse, gi_rev (by omega), show out.length - 1 - (out.length - 1) = 0 by omega]; exact h2
  link := fun i x y hi e1 e2 => by
    rw [List.length_reverse] at hi
    rw [gi_rev (by omega)] at e1 e2
    have := W.link (out.length - 1 - (i + 1)) x y (by omega) e2 (by rw [show out.length - 1 - (i + 1) + 1 = out.length - 1 - i by omega]; exact e1)
    exact this
  bot := fun y e => by
    rw [gi_rev W.pos.1] at e
    exact W.bot y e
theorem bound_ok {N : Nat} (hN : 5000 ≤ N) {l : List T_Item} {w : Nat} (J : JobOk l w) {base least ch : List Int} (S : SolveS l w base least) (C : ChainS l base least ch) : leastcode_Bound N l (w : Int) ch = some (gi least (gi ch (ch.length - 1)).toNat, 0) := by
  have hl := J.len
  have hll := S.ll
  have hbl := S.bl
  have hcl := C.pos
  obtain ⟨M, hM, R⟩ := relations_ok (N := N) hN hl (w : Int)
  have q1 : iterN (fun s : Int => leastcode_Bound_l1 N l ch M s) N 0 = some (.inr ()) := by
    refine runN1 (f := fun s : Int => leastcode_Bound_l1 N l ch M s) ch.length (fun i s => s = i) _ ?_ ?_ N (by omega) 0 rfl
    · rintro i s hi rfl
      obtain ⟨y, hy, ey⟩ := C.rng i hi
      have ei : idx ch (i : Int) = some (y : Int) := by rw [idx_gi hi, ey]
      have g0 : (!(decide ((y : Int) < 0) || decide ((l.length : Int) ≤ (y : Int)))) = true := bnotIt (borF (decide_eq_false (by omega)) (decide_eq_false (by omega)))
      unfold leastcode_Bound_l1
      refine ⟨((i + 1 : Nat) : Int), oit (decide_eq_true (by omega)) (obi ei ?_), rfl⟩
      by_cases c : 0 < i
      · obtain ⟨x, hx, ex⟩ := C.rng (i - 1) (by omega)
        have hk := C.link (i - 1) x y (by omega) ex (by rw [show i - 1 + 1 = i by omega]; exact ey)
        have g : ((!(decide ((y : Int) < 0) || decide ((l.length : Int) ≤ (y : Int)))) && decide (0 < (i : Int))) = true := band g0 (decide_eq_true (by omega))
        have ex2 : idx ch ((i - 1 : Nat) : Int) = some (x : Int) := by rw [idx_gi (by omega), ex]
        have er : idx (gl M x) (y : Int) = some (rel l x y) := by rw [idx_gi (by rw [R.row x hx]; exact hy), R.at_ x y hx hy]
        exact obi (gO_T g (sub1n c (by omega))) (obi (gO_T g ex2) (obi (gO_T g (idx_gl (by rw [R.len]; exact hx))) (obi (gO_T g er) (oif (borF (borF (decide_eq_false (by omega)) (decide_eq_false (by omega))) (bandF2 (decide_eq_false (by omega)))) (obi (inc_nat (by omega)) rfl)))))
      · have g : ((!(decide ((y : Int) < 0) || decide ((l.length : Int) ≤ (y : Int)))) && decide (0 < (i : Int))) = false := bandF2 (decide_eq_false (by omega))
        exact obi (gO_F g) (obi (gO_F g) (obi (gO_F g) (obi (gO_F g) (oif (borF (borF (decide_eq_false (by omega)) (decide_eq_false (by omega))) (bandF (decide_eq_false (by omega)))) (obi (inc_nat (by omega)) rfl)))))
    · rintro s rfl
      unfold leastcode_Bound_l1
      exact oif (decide_eq_false (by omega)) rfl
  have q2 : iterN (fun s : Int × Int => leastcode_Bound_l2 N l (w : Int) ch M s.1 s.2) N (0, 0) = some (.inr (gi least (gi ch (ch.length - 1)).toNat)) := by
    refine runN1 (f := fun s : Int × Int => leastcode_Bound_l2 N l (w : Int) ch M s.1 s.2) ch.length (fun i s => s.2 = i ∧ (i = 0 → s.1 = 0) ∧ (0 < i → s.1 = gi least (gi ch (i - 1)).toNat)) _ ?_ ?_ N (by omega) (0, 0) ⟨rfl, fun _ => rfl, fun h => absurd h (Nat.lt_irrefl _)⟩
    · rintro i ⟨b, i'⟩ hi ⟨rfl, h1, h2⟩
      simp only at h1 h2
      obtain ⟨y, hy, ey⟩ := C.rng i hi
      have ei : idx ch (i : Int) = some (y : Int) := by rw [idx_gi hi, ey]
      obtain ⟨b0, k, e1, e2, e3, _⟩ := S.at_ y hy
      have hrd := J.rd y hy
      have erd : (it l y).Round = ((rdN l y : Nat) : Int) := by unfold rdN; omega
      have hnx := next_at (N := N) hN (show rdN l y ≤ 12 by omega) J.wt e3
      rw [← erd] at hnx
      unfold leastcode_Bound_l2
      refine ⟨((k : Int), ((i + 1 : Nat) : Int)), oit (decide_eq_true (by simp only; omega)) (obi ei ?_), rfl, fun h => by omega, fun _ => by simp only; rw [show i + 1 - 1 = i by omega, ey, Int.toNat_natCast, e2]⟩
      by_cases c : 0 < i
      · obtain ⟨x, hx, ex⟩ := C.rng (i - 1) (by omega)
        have hk := C.link (i - 1) x y (by omega) ex (by rw [show i - 1 + 1 = i by omega]; exact ey)
        have hb := h2 c
        rw [ex, Int.toNat_natCast] at hb
        subst hb
        have hr := rel_rng l x y
        have hlx := S.rng x (by omega)
        have ex2 : idx ch ((i - 1 : Nat) : Int) = some (x : Int) := by rw [idx_gi (by omega), ex]
        have er : idx (gl M x) (y : Int) = some (rel l x y) := by rw [idx_gi (by rw [R.row x hx]; exact hy), R.at_ x y hx hy]
        have es : in64 (gi least x + (rel l x y - 1)) = some (b0 : Int) := in64_nat (by omega) (by omega)
        exact obi (x := (b0 : Int)) (oit (decide_eq_true (by omega)) (obi (sub1n c (by omega)) (obi ex2 (obi (idx_gl (by rw [R.len]; exact hx)) (obi er (obi (in64_ok (by omega)) (obi es rfl))))))) (obi (idx_it hy) (obi hnx (oif rfl (obi (inc_nat (by omega)) rfl))))
      · have hi0 : i = 0 := by omega
        subst hi0
        have hb := h1 rfl
        subst hb
        have h0 := C.bot y ey
        have : b0 = 0 := by omega
        subst this
        exact obi (x := 0) (oif (decide_eq_false (by omega)) rfl) (obi (idx_it hy) (obi hnx (oif rfl (obi (inc_nat (by omega)) rfl))))
    · rintro ⟨b, i'⟩ ⟨rfl, h1, h2⟩
      unfold leastcode_Bound_l2
      rw [show b = _ from h2 hcl.1]
      exact oif (decide_eq_false (by simp only; omega)) rfl
  unfold leastcode_Bound
  exact obi (jobvalid_ok hN J) (oif rfl (obi hM (obi q1 (obi q2 rfl))))
theorem steps_of {N : Nat} (hN : 5000 ≤ N) {least : List Int} {s : Nat} (h : StepsOf least s) {v : Int} (h0 : 0 ≤ v ∧ v < 4096) (h1 : ∀ i, i < least.length → gi least i ≤ v) (h2 : ∃ i, i < least.length ∧ gi least i = v) : code_Steps N v = some ((s : Int), 0) := by
  obtain ⟨k, rfl⟩ : ∃ k : Nat, v = k := ⟨v.toNat, by omega⟩
  obtain ⟨n, hn, n1, n2, n3⟩ := steps_ok (N := N) hN (k := k) (by omega)
  obtain ⟨i, hi, ei⟩ := h2
  have hlt := h.lt i hi
  have mono : ∀ {a b : Nat}, a ≤ b → 2 ^ a ≤ 2 ^ b := fun h => Nat.pow_le_pow_right (by decide) h
  have a1 : n ≤ s := by
    rcases Nat.lt_or_ge s n with g | g
    · rcases n3 with c | c
      · omega
      · have := mono (show s ≤ n - 1 by omega); omega
    · exact g
  have a2 : s ≤ n := by
    rcases Nat.lt_or_ge n s with g | g
    · rcases h.one with c | ⟨j, hj, c⟩
      · omega
      · have := mono (show n ≤ s - 1 by omega)
        have := h1 j hj
        omega
    · exact g
  rw [hn, show n = s by omega]
theorem check_ok {N : Nat} (hN : 5000 ≤ N) {l : List T_Item} {w : Nat} (J : JobOk l w) {base least : List Int} (S : SolveS l w base least) {s : Nat} (hS : StepsOf least s) {ch : List Int} (C : ChainS l base least ch) : certificate_Check N l (w : Int) (s : Int) least ch = some 0 := by
  obtain ⟨y, y1, y2, y3⟩ := C.top
  have hb := bound_ok hN J S C
  rw [y2, Int.toNat_natCast] at hb
  have hst := steps_of hN hS (v := gi least y) (S.rng y (by rw [S.ll]; exact y1)) (fun i hi => y3 i (by rw [← S.ll]; exact hi)) ⟨y, by rw [S.ll]; exact y1, rfl⟩
  unfold certificate_Check
  exact obi (rvalid_ok hN J (S.plan hS)) (oif rfl (obi (pairs_ok hN J S) (obi hb (oif rfl (obi hst (oif (by simp) rfl))))))
end Go.Gv
