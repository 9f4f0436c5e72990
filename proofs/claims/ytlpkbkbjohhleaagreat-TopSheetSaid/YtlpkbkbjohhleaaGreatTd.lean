/- Least codes: what 'solve' finds. -/
import Derived.Test.YtlpkbkbjohhleaaGreatTb
namespace Go.Gv
def rdN (l : List T_Item) (y : Nat) : Nat := (it l y).Round.toNat
def NextK (b r w k : Nat) : Prop := b ≤ k ∧ IsC k r w ∧ ∀ k', IsC k' r w → b ≤ k' → k ≤ k'
def IsBase (l : List T_Item) (least : List Int) (y b : Nat) : Prop :=
  (∀ x, x < l.length → 0 < rel l x y → gi least x + rel l x y - 1 ≤ b) ∧ (b = 0 ∨ ∃ x, x < l.length ∧ 0 < rel l x y ∧ gi least x + rel l x y - 1 = b)
structure SolveS (l : List T_Item) (w : Nat) (base least : List Int) : Prop where
  bl : base.length = l.length
  ll : least.length = l.length
  at_ : ∀ y, y < l.length → ∃ b k : Nat, gi base y = b ∧ gi least y = k ∧ NextK b (rdN l y) w k ∧ IsBase l least y b
theorem rel_self (l : List T_Item) (y : Nat) : ¬ 0 < rel l y y := fun h => by
  have := (rel_pos h).2; omega
theorem IsBase.congr {l : List T_Item} {least least' : List Int} {y b : Nat} (h : IsBase l least y b) (e : ∀ x, x < l.length → 0 < rel l x y → gi least' x = gi least x) : IsBase l least' y b := by
  refine ⟨fun x hx hr => by rw [e x hx hr]; exact h.1 x hx hr, ?_⟩
  rcases h.2 with h0 | ⟨x, hx, hr, he⟩
  · exact .inl h0
  · exact .inr ⟨x, hx, hr, by rw [e x hx hr]; exact he⟩
theorem base_loop {N : Nat} (hN : 5000 ≤ N) {l : List T_Item} (hl : l.length ≤ 96) {M : List (List Int)} (R : RelM l M) {base least : List Int} (hb : base.length = l.length) (hll : least.length = l.length) (hle : ∀ x, x < l.length → 0 ≤ gi least x ∧ gi least x < 4096) {y : Nat} (hy : y < l.length) (h0 : gi base y = 0) :
    ∃ base', iterN (fun s : Int × List Int => leastcode_solve_l5 N l M least (y : Int) s.1 s.2) N (0, base) = some base' ∧ base'.length = l.length ∧ (∀ z, z ≠ y → gi base' z = gi base z) ∧ ∃ b : Nat, gi base' y = b ∧ b ≤ 5000 ∧ IsBase l least y b := by
  obtain ⟨base', hq, q1, q2, b, q3, q4, q5⟩ := runN (f := fun s : Int × List Int => leastcode_solve_l5 N l M least (y : Int) s.1 s.2) l.length
    (fun i s => s.1 = i ∧ s.2.length = l.length ∧ (∀ z, z ≠ y → gi s.2 z = gi base z) ∧ ∃ b : Nat, gi s.2 y = b ∧ b ≤ 5000 ∧ (∀ x, x < i → 0 < rel l x y → gi least x + rel l x y - 1 ≤ b) ∧ (b = 0 ∨ ∃ x, x < i ∧ 0 < rel l x y ∧ gi least x + rel l x y - 1 = b))
    (fun q => q.length = l.length ∧ (∀ z, z ≠ y → gi q z = gi base z) ∧ ∃ b : Nat, gi q y = b ∧ b ≤ 5000 ∧ IsBase l least y b) (by
    rintro i ⟨i', S⟩ hi ⟨rfl, h1, h2, b, h3, h4, h5, h6⟩
    simp only at h1 h2 h3 ⊢
    left
    have hr := rel_rng l i y
    have hx := hle i hi
    have eM := idx_gl (r := M) (i := i) (by rw [R.len]; exact hi)
    have er : idx (gl M i) (y : Int) = some (rel l i y) := by rw [idx_gi (by rw [R.row i hi]; exact hy), R.at_ i y hi hy]
    unfold leastcode_solve_l5
    by_cases c : 0 < rel l i y
    · obtain ⟨c', hc'⟩ : ∃ c' : Nat, max (gi S y) (gi least i + rel l i y - 1) = c' := ⟨(max (gi S y) (gi least i + rel l i y - 1)).toNat, by omega⟩
      refine ⟨_, oit (decide_eq_true (by omega)) (obi eM (obi er (oit (decide_eq_true c) (obi (idx_gi (r := S) (i := y) (by omega)) (obi (idx_gi (r := least) (i := i) (by omega)) (obi (in64_ok (by omega)) (obi (in64_ok (by omega)) (obi (inc_nat (by omega)) rfl)))))))), rfl, by simpa using h1, fun z hz => ?_, c', ?_, by omega, fun x hx' hrx => ?_, ?_⟩
      · simp only [Int.toNat_natCast]
        rw [gi_set (by omega), if_neg hz]; exact h2 z hz
      · simp only [Int.toNat_natCast]
        rw [gi_set (by omega), if_pos rfl]; exact hc'
      · by_cases e : x = i
        · subst e; omega
        · have := h5 x (by omega) hrx; omega
      · by_cases e : (c' : Int) = gi least i + rel l i y - 1
        · exact .inr ⟨i, by omega, c, e.symm⟩
        · rcases h6 with h6 | ⟨x, x1, x2, x3⟩
          · left; omega
          · exact .inr ⟨x, by omega, x2, by omega⟩
    · refine ⟨_, oit (decide_eq_true (by omega)) (obi eM (obi er (oif (decide_eq_false c) (obi (inc_nat (by omega)) rfl)))), rfl, h1, h2, b, h3, h4, fun x hx' hrx => ?_, ?_⟩
      · by_cases e : x = i
        · subst e; exact absurd hrx c
        · exact h5 x (by omega) hrx
      · rcases h6 with h6 | ⟨x, x1, x2, x3⟩
        · exact .inl h6
        · exact .inr ⟨x, by omega, x2, x3⟩) (by
    rintro ⟨i', S⟩ ⟨rfl, h1, h2, b, h3, h4, h5, h6⟩
    exact ⟨_, oif (decide_eq_false (by simp)) rfl, h1, h2, b, h3, h4, h5, h6⟩) N (by omega) (0, base) ⟨rfl, hb, fun z _ => rfl, 0, h0, by omega, fun x h => absurd h (Nat.not_lt_zero _), .inl rfl⟩
  exact ⟨base', hq, q1, q2, b, q3, q4, q5⟩
/-- the order of the items by their blocks -/
structure OrdS (l : List T_Item) (ord : List Int) : Prop where
  len : ord.length = l.length
  rng : ∀ q, q < ord.length → ∃ y : Nat, y < l.length ∧ gi ord q = y
  inj : ∀ p q, p < ord.length → q < ord.length → gi ord p = gi ord q → p = q
  sur : ∀ y, y < l.length → ∃ q, q < ord.length ∧ gi ord q = y
  asc : ∀ (p q y z : Nat), p < q → q < ord.length → gi ord p = (y : Int) → gi ord q = (z : Int) → (it l y).Block ≤ (it l z).Block
theorem order_ok {N : Nat} (hN : 5000 ≤ N) {l : List T_Item} {w : Nat} (J : JobOk l w) : ∃ r ord, iterN (fun s : Int × List Int => leastcode_solve_l1 N (List.replicate l.length 0) s.1 s.2) N (0, List.replicate l.length 0) = some r ∧ sortFn (fun x y => leastcode_solve_1 N x y l (w : Int)) r = some ord ∧ OrdS l ord := by
  have hl := J.len
  obtain ⟨r, hq, q1, q2⟩ := runN (f := fun s : Int × List Int => leastcode_solve_l1 N (List.replicate l.length 0) s.1 s.2) l.length
    (fun i s => s.1 = i ∧ s.2.length = l.length ∧ ∀ j, j < i → gi s.2 j = j) (fun q => q.length = l.length ∧ ∀ j, j < l.length → gi q j = j) (by
    rintro i ⟨i', S⟩ hi ⟨rfl, h1, h2⟩
    simp only at h1 h2 ⊢
    left
    unfold leastcode_solve_l1
    refine ⟨_, oit (decide_eq_true (by rw [List.length_replicate]; omega)) (obi (idx_gi (r := S) (i := i) (by omega)) (obi (inc_nat (by omega)) rfl)), rfl, by simpa using h1, fun j hj => ?_⟩
    simp only [Int.toNat_natCast]
    rw [gi_set (by omega)]
    by_cases e : j = i
    · rw [if_pos e, e]
    · rw [if_neg e]; exact h2 j (by omega)) (by
    rintro ⟨i', S⟩ ⟨rfl, h1, h2⟩
    exact ⟨_, oif (decide_eq_false (by simp)) rfl, h1, h2⟩) N (by omega) (0, List.replicate l.length 0) ⟨rfl, by simp, fun j h => absurd h (Nat.not_lt_zero _)⟩
  have hmem : ∀ x ∈ r, ∃ y : Nat, y < l.length ∧ x = y := fun x hx => by
    obtain ⟨j, hj, rfl⟩ := List.getElem_of_mem hx
    exact ⟨j, by omega, by rw [getElem_gi hj, q2 j (by omega)]⟩
  have hnd : r.Nodup := List.pairwise_iff_getElem.2 fun i j hi hj hij e => by
    rw [getElem_gi hi, getElem_gi hj, q2 i (by omega), q2 j (by omega)] at e
    omega
  obtain ⟨ord, ho, hp, ha⟩ := sortFn_ok (cf := fun x y => leastcode_solve_1 N x y l (w : Int)) (fun x => (it l x.toNat).Block) r (by omega) (fun x hx y hy => by
    obtain ⟨a, a1, rfl⟩ := hmem x hx
    obtain ⟨b, b1, rfl⟩ := hmem y hy
    have := J.bl a a1
    have := J.bl b b1
    refine ⟨(it l a).Block - (it l b).Block, ?_, ?_⟩
    · unfold leastcode_solve_1
      exact obi (idx_it a1) (obi (idx_it b1) (obi (in64_ok (by omega)) rfl))
    · simp only [Int.toNat_natCast]; omega)
  have hlen : ord.length = l.length := by rw [hp.length_eq, q1]
  have hnd2 : ord.Nodup := hp.nodup_iff.2 hnd
  refine ⟨r, ord, hq, ho, hlen, fun q hq => ?_, fun p q hp1 hq1 e => ?_, fun y hy => ?_, fun p q y z hpq hq1 e1 e2 => ?_⟩
  · have : gi ord q ∈ r := by rw [← getElem_gi hq]; exact hp.mem_iff.1 (List.getElem_mem hq)
    exact hmem _ this
  · rcases Nat.lt_trichotomy p q with h | h | h
    · have := List.pairwise_iff_getElem.1 hnd2 p q hp1 hq1 h
      rw [getElem_gi hp1, getElem_gi hq1] at this
      exact absurd e this
    · exact h
    · have := List.pairwise_iff_getElem.1 hnd2 q p hq1 hp1 h
      rw [getElem_gi hp1, getElem_gi hq1] at this
      exact absurd e.symm this
  · have : (y : Int) ∈ ord := hp.mem_iff.2 (by
      have h2 : r[y]'(by omega) = (y : Int) := by rw [getElem_gi (by omega), q2 y hy]
      rw [← h2]; exact List.getElem_mem _)
    obtain ⟨q, hq1, e⟩ := List.getElem_of_mem this
    exact ⟨q, hq1, by rw [← getElem_gi hq1, e]⟩
  · have := List.pairwise_iff_getElem.1 ha p q (by omega) hq1 hpq
    rw [getElem_gi (by omega), getElem_gi hq1, e1, e2] at this
    simpa using this
theorem solve_ok {N : Nat} (hN : 5000 ≤ N) {l : List T_Item} {w : Nat} (J : JobOk l w) {M : List (List Int)} (R : RelM l M) : ∃ q, leastcode_solve N l (w : Int) M = some q ∧ (q = ([], [], 15) ∨ ∃ base least, q = (base, least, 0) ∧ SolveS l w base least) := by
  have hl := J.len
  have hw := J.wt
  have hm : mkL 8 (l.length : Int) (0 : Int) = some (List.replicate l.length 0) := mkL_ok _ (by omega) (by omega)
  obtain ⟨r, ord, hr, ho, O⟩ := order_ok hN J
  have hm2 : mkL 8 (ord.length : Int) (0 : Int) = some (List.replicate l.length 0) := by rw [O.len]; exact hm
  obtain ⟨q, hq, hQ⟩ := runN (f := fun s : Int × List Int × List Int => leastcode_solve_l4 N l (w : Int) M ord s.1 s.2.1 s.2.2) l.length
    (fun p s => s.1 = p ∧ s.2.1.length = l.length ∧ s.2.2.length = l.length ∧ (∀ z, z < l.length → 0 ≤ gi s.2.2 z ∧ gi s.2.2 z < 4096) ∧
      (∀ q z : Nat, q < p → gi ord q = (z : Int) → ∃ b k : Nat, gi s.2.1 z = b ∧ gi s.2.2 z = k ∧ NextK b (rdN l z) w k ∧ IsBase l s.2.2 z b) ∧ ∀ q z : Nat, p ≤ q → q < l.length → gi ord q = (z : Int) → gi s.2.1 z = 0)
    (fun q => q = .inl ([], [], 15) ∨ ∃ base least, q = .inr (base, least) ∧ SolveS l w base least) (by
    rintro p ⟨p', base, least⟩ hp ⟨rfl, h1, h2, h3, h4, h5⟩
    simp only at h1 h2 h3 h4 h5 ⊢
    obtain ⟨y, hy, ey⟩ := O.rng p (by rw [O.len]; exact hp)
    have eo : idx ord (p : Int) = some (y : Int) := by rw [idx_gi (by rw [O.len]; exact hp), ey]
    obtain ⟨base', k1, k2, k3, b, k4, k5, k6⟩ := base_loop hN hl R h1 h2 h3 hy (h5 p y (Nat.le_refl _) hp ey)
    have hrd := J.rd y hy
    have erd : (it l y).Round = ((rdN l y : Nat) : Int) := by unfold rdN; omega
    have hrd2 : rdN l y ≤ 12 := by omega
    obtain ⟨q, hq, hQ⟩ := next_codes (least := b) hN hrd2 hw
    rw [← k4, ← erd] at hq
    have elen : (p : Int) < (List.length ord : Int) := by rw [O.len]; omega
    have other : ∀ q z : Nat, q < l.length → q ≠ p → gi ord q = (z : Int) → z ≠ y := fun q z hq1 hne e1 e2 => by
      subst e2
      exact hne (O.inj q p (by rw [O.len]; exact hq1) (by rw [O.len]; exact hp) (by rw [e1, ey]))
    unfold leastcode_solve_l4
    rcases hQ with rfl | ⟨k, rfl, n1, n2, n3⟩
    · exact .inr ⟨_, oit (decide_eq_true elen) (obi eo (obi k1 (obi (idx_gi (r := base') (i := y) (by omega)) (obi (idx_it hy) (obi hq (oit rfl rfl)))))), .inl rfl⟩
    · left
      have hk : k < 4096 := n2.1
      refine ⟨_, oit (decide_eq_true elen) (obi eo (obi k1 (obi (idx_gi (r := base') (i := y) (by omega)) (obi (idx_it hy) (obi hq (oif rfl (obi (idx_gi (r := least) (i := y) (by omega)) (obi (inc_nat (by omega)) rfl)))))))), rfl, k2, by simpa using h2, fun z hz => ?_, fun q z hqz e1 => ?_, fun q z h6 h7 e1 => ?_⟩
      · simp only [Int.toNat_natCast]
        rw [gi_set (by omega)]
        split
        · omega
        · exact h3 z hz
      · simp only [Int.toNat_natCast]
        by_cases e : q = p
        · subst e
          have : z = y := by have := e1.symm.trans ey; omega
          subst this
          refine ⟨b, k, k4, by rw [gi_set (by omega), if_pos rfl], ⟨by omega, n2, fun k' hk' hle => n3 k' hk' (by omega)⟩, k6.congr fun x hx hrx => ?_⟩
          rw [gi_set (by omega), if_neg]
          intro e2; subst e2
          exact rel_self l x hrx
        · have hqp : q < p := by omega
          obtain ⟨b', k', c1, c2, c3, c4⟩ := h4 q z hqp e1
          have hzy := other q z (by omega) (by omega) e1
          refine ⟨b', k', by rw [k3 z hzy]; exact c1, by rw [gi_set (by omega), if_neg hzy]; exact c2, c3, c4.congr fun x hx hrx => ?_⟩
          rw [gi_set (by omega), if_neg]
          intro e2; subst e2
          have := O.asc q p z x hqp (by rw [O.len]; exact hp) e1 ey
          have := (rel_pos hrx).2
          omega
      · simp only
        rw [k3 z (other q z h7 (by omega) e1)]
        exact h5 q z (by omega) h7 e1) (by
    rintro ⟨p', base, least⟩ ⟨rfl, h1, h2, h3, h4, h5⟩
    simp only at h1 h2 h3 h4
    refine ⟨_, oif (decide_eq_false (by rw [O.len]; omega)) rfl, .inr ⟨_, _, rfl, h1, h2, fun y hy => ?_⟩⟩
    obtain ⟨q, hq1, e⟩ := O.sur y hy
    exact h4 q y (by rw [← O.len]; exact hq1) e) N (by omega) (0, List.replicate l.length 0, List.replicate l.length 0)
    ⟨rfl, by simp, by simp, fun z _ => by simp only; rw [gi_rep]; omega, fun q z h => absurd h (Nat.not_lt_zero _), fun q z _ _ _ => gi_rep _ _⟩
  unfold leastcode_solve
  rcases hQ with rfl | ⟨base, least, rfl, S⟩
  · exact ⟨_, obi hm (obi hr (obi ho (obi hm2 (obi hm2 (obi hq rfl))))), .inl rfl⟩
  · exact ⟨_, obi hm (obi hr (obi ho (obi hm2 (obi hm2 (obi hq rfl))))), .inr ⟨base, least, rfl, S⟩⟩
end Go.Gv
