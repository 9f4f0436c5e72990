/- No plan with one step less sorts a short job. -/
import Derived.Test.YtlpkbkbjohhleaaGreatTp
namespace Go.Gv
def bsF : Nat → Nat → Nat
  | 0, _ => 0
  | f + 1, k => if k = 0 then 0 else k % 2 + bsF f (k / 2)
theorem bs_all : (List.range 4096).all (fun k => decide (bsF 13 k = pc k)) = true := by decide +kernel
theorem bs_at {k : Nat} (h : k < 4096) : bsF 13 k = pc k := of_decide_eq_true (List.all_eq_true.1 bs_all k (List.mem_range.2 h))
theorem bits_ok {N : Nat} (hN : 5000 ≤ N) {k : Nat} (hk : k < 4096) : iterN (fun s : Int × Int => r12_Is_l1 N s.1 s.2) N (0, (k : Int)) = some ((pc k : Nat) : Int) := by
  obtain ⟨q, hq, hQ⟩ := iterN_run (f := fun s : Int × Int => r12_Is_l1 N s.1 s.2) (I := fun s => ∃ f a x : Nat, s = ((a : Int), (x : Int)) ∧ x < 2 ^ f ∧ a + bsF (f + 1) x = bsF 13 k ∧ a + f ≤ 12) (Q := fun q => q = ((bsF 13 k : Nat) : Int)) (fun s => s.2.toNat) (by
    rintro s ⟨f, a, x, rfl, h1, h2, h3⟩
    simp only
    unfold r12_Is_l1
    by_cases h : 0 < x
    · left
      have hf : 0 < f := by
        rcases Nat.eq_zero_or_pos f with e | e
        · subst e; omega
        · exact e
      have em : Int.tmod (x : Int) 2 = ((x % 2 : Nat) : Int) := by rw [Int.tmod_eq_emod_of_nonneg (by omega)]; omega
      have ed : quo64 (x : Int) 2 = some ((x / 2 : Nat) : Int) := by
        have e : Int.tdiv (x : Int) 2 = ((x / 2 : Nat) : Int) := by rw [Int.tdiv_eq_ediv_of_nonneg (by omega)]; omega
        have hx : x < 2 ^ 12 := Nat.lt_of_lt_of_le h1 (Nat.pow_le_pow_right (by decide) (by omega))
        have : (2 : Nat) ^ 12 = 4096 := by decide
        rw [quo64_ok (by decide) (by rw [e]; omega), e]
      have ea : in64 ((a : Int) + Int.tmod (x : Int) 2) = some ((a + x % 2 : Nat) : Int) := by rw [em]; exact in64_nat (by omega) (by omega)
      have hb : bsF (f + 1) x = x % 2 + bsF f (x / 2) := by
        show (if x = 0 then 0 else x % 2 + bsF f (x / 2)) = _
        rw [if_neg (by omega)]
      refine ⟨_, oit (decide_eq_true (by omega)) (obi ea (obi ed rfl)), ⟨f - 1, a + x % 2, x / 2, rfl, ?_, ?_, by omega⟩, by simp only [Int.toNat_natCast]; omega⟩
      · have e2 : 2 ^ (f - 1) * 2 = 2 ^ f := by rw [← Nat.pow_succ]; congr 1; omega
        omega
      · rw [show f - 1 + 1 = f by omega]; omega
    · right
      have : x = 0 := by omega
      subst this
      have hb : bsF (f + 1) 0 = 0 := rfl
      exact ⟨_, oif (decide_eq_false (by omega)) rfl, by rw [← h2, hb]; rfl⟩) N (0, (k : Int)) ⟨12, 0, k, rfl, by omega, Nat.zero_add _, by omega⟩ (by simp only [Int.toNat_natCast]; omega)
  rw [hq, hQ, bs_at hk]
theorem ris_ok {N : Nat} (hN : 5000 ≤ N) {k r w : Nat} (hk : k < 4096) (hr : r ≤ 12) (hw : w ≤ 12) : ∃ b, r12_Is N (k : Int) (r : Int) (w : Int) = some b ∧ (b = true → IsC k r w) := by
  have hp := pow2_le hr
  have hf : r12_form N (r : Int) (w : Int) = some true := by
    unfold r12_form
    rw [decide_eq_true (by omega), decide_eq_true (by omega), decide_eq_true (by omega), decide_eq_true (by omega)]; rfl
  have e0 : shl_i64 1 (r : Int) = some ((2 ^ r : Nat) : Int) := by
    have := shl_ok (x := 1) (s := r) (by decide) hr
    rw [Nat.one_mul] at this; exact this
  have e1 : rem64 (k : Int) ((2 ^ r : Nat) : Int) = some ((k % 2 ^ r : Nat) : Int) := by
    rw [rem64_ok (by omega), Int.tmod_eq_emod_of_nonneg (by omega), Int.natCast_emod]
  have e2 : in64 (((2 ^ r : Nat) : Int) - 1) = some ((2 ^ r - 1 : Nat) : Int) := in64_nat (by omega) (by omega)
  have g : (!(((!true) || decide ((k : Int) < 0)) || decide (4096 ≤ (k : Int)))) = true := bnotIt (borF (borF rfl (decide_eq_false (by omega))) (decide_eq_false (by omega)))
  have g' : (((!true) || decide ((k : Int) < 0)) || decide (4096 ≤ (k : Int))) = false := borF (borF rfl (decide_eq_false (by omega))) (decide_eq_false (by omega))
  unfold r12_Is
  by_cases hc : k % 2 ^ r = 2 ^ r - 1
  · have hlt : k / 2 ^ r < 4096 := Nat.lt_of_le_of_lt (Nat.div_le_self _ _) hk
    refine ⟨_, obi hf (obi (gO_T g e0) (obi (gO_T g e1) (obi (gO_T g e0) (obi (gO_T g e2) (oif (borF g' (bnotIf (decide_eq_true (by omega)))) (obi (shr_ok hr) (obi (bits_ok hN hlt) rfl))))))), fun h => ?_⟩
    have := of_decide_eq_true h
    exact ⟨hk, hc, by omega⟩
  · exact ⟨_, obi hf (obi (gO_T g e0) (obi (gO_T g e1) (obi (gO_T g e0) (obi (gO_T g e2) (oit (borT2 (bnotIt (decide_eq_false (by omega)))) rfl))))), fun h => by cases h⟩
theorem pows_ok {N : Nat} (hN : 5000 ≤ N) {k w : Int} {l : List T_Item} (hl : l.length ≤ 5) {n : Nat} (hn : n ≤ 4) : iterN (fun s : Int × Int => humpyardtop_TopFewest_l1 N (k, l, w) (n : Int) s.1 s.2) N (1, 0) = some ((n ^ l.length : Nat) : Int) := by
  refine runN1 (f := fun s : Int × Int => humpyardtop_TopFewest_l1 N (k, l, w) (n : Int) s.1 s.2) l.length (fun i s => s.2 = i ∧ s.1 = ((n ^ i : Nat) : Int)) _ ?_ ?_ N (by omega) (1, 0) ⟨rfl, rfl⟩
  · rintro i ⟨a, i'⟩ hi ⟨rfl, rfl⟩
    have h4 : n ^ (i + 1) ≤ 4 ^ 5 := Nat.le_trans (Nat.pow_le_pow_left hn _) (Nat.pow_le_pow_right (by decide) (by omega))
    have e : (4 : Nat) ^ 5 = 1024 := by decide
    unfold humpyardtop_TopFewest_l1
    exact ⟨_, oit (decide_eq_true (by simp only; omega)) (obi (in64_nat (n := n ^ (i + 1)) (by rw [Nat.pow_succ, Int.natCast_mul]) (by omega)) (obi (inc_nat (by omega)) rfl)), rfl, rfl⟩
  · rintro ⟨a, i'⟩ ⟨rfl, rfl⟩
    unfold humpyardtop_TopFewest_l1
    exact oif (decide_eq_false (by simp)) rfl
theorem plans_ok {N : Nat} (hN : 5000 ≤ N) {k : Int} {l : List T_Item} {w : Nat} (J : JobOk l w) {s : Nat} (hs : s ≤ 2) {c0 : List Int} (hc : c0.length = l.length) {i : Nat} (hi : i ≤ 100000) :
    ∃ b c, iterN (fun x : Int × Bool × Int × List Int => humpyardtop_TopFewest_l5 N (k, l, (w : Int)) ((2 ^ s : Nat) : Int) c0 x.1 x.2.1 x.2.2.1 x.2.2.2) N ((i : Int), true, 0, c0) = some (b, c) ∧ c.length = l.length ∧ (b = true → PlanOk l w s c) := by
  have hl := J.len
  have p4 : 2 ^ s ≤ 2 ^ 2 := Nat.pow_le_pow_right (by decide) hs
  have p1 : 1 ≤ 2 ^ s := Nat.one_le_two_pow
  obtain ⟨q, hq, q1, q2⟩ := runN (f := fun x : Int × Bool × Int × List Int => humpyardtop_TopFewest_l5 N (k, l, (w : Int)) ((2 ^ s : Nat) : Int) c0 x.1 x.2.1 x.2.2.1 x.2.2.2) l.length
    (fun y x => x.2.2.1 = y ∧ (∃ a : Nat, x.1 = a ∧ a ≤ 100000) ∧ x.2.2.2.length = l.length ∧ (x.2.1 = true → ∀ z, z < y → ∃ k : Nat, gi x.2.2.2 z = k ∧ k < 2 ^ s ∧ IsC k (rdN l z) w))
    (fun q => q.2.length = l.length ∧ (q.1 = true → ∀ z, z < l.length → ∃ k : Nat, gi q.2 z = k ∧ k < 2 ^ s ∧ IsC k (rdN l z) w)) (by
    rintro y ⟨a', b, y', c⟩ hy ⟨rfl, ⟨a, rfl, ha⟩, h1, h2⟩
    simp only at h1 h2 ⊢
    left
    have hrd := J.rd y hy
    have erd : (it l y).Round = ((rdN l y : Nat) : Int) := by unfold rdN; omega
    have em : rem64 (a : Int) ((2 ^ s : Nat) : Int) = some ((a % 2 ^ s : Nat) : Int) := by rw [rem64_ok (by omega), Int.tmod_eq_emod_of_nonneg (by omega), Int.natCast_emod]
    have hle : a / 2 ^ s ≤ a := Nat.div_le_self _ _
    have ed : quo64 (a : Int) ((2 ^ s : Nat) : Int) = some ((a / 2 ^ s : Nat) : Int) := by
      have e : Int.tdiv (a : Int) ((2 ^ s : Nat) : Int) = ((a / 2 ^ s : Nat) : Int) := by rw [Int.tdiv_eq_ediv_of_nonneg (by omega), Int.natCast_ediv]
      have h := quo64_ok (a := (a : Int)) (b := ((2 ^ s : Nat) : Int)) (by omega) (by rw [e]; generalize a / 2 ^ s = z at hle; constructor <;> omega)
      rw [h, e]
    have hmod := Nat.mod_lt a (show 0 < 2 ^ s by omega)
    obtain ⟨v, hv, hv2⟩ := ris_ok hN (k := a % 2 ^ s) (r := rdN l y) (w := w) (by omega) (by omega) J.wt
    rw [← erd] at hv
    have eset : idx (List.set c (Int.toNat (y : Int)) ((a % 2 ^ s : Nat) : Int)) (y : Int) = some ((a % 2 ^ s : Nat) : Int) := by
      rw [Int.toNat_natCast, idx_gi (by simpa using (show y < c.length by omega)), gi_set (by omega), if_pos rfl]
    unfold humpyardtop_TopFewest_l5
    cases b with
    | true =>
      refine ⟨_, oit (decide_eq_true (by omega)) (obi em (obi (idx_gi (r := c) (i := y) (by omega)) (obi ed (obi (gO_T rfl eset) (obi (gO_T rfl (idx_it hy)) (obi (gO_T rfl hv) (obi (inc_nat (by omega)) rfl))))))), rfl, ⟨_, rfl, by omega⟩, by simpa using h1, fun hb z hz => ?_⟩
      simp only [Int.toNat_natCast]
      rw [gi_set (by omega)]
      by_cases e : z = y
      · rw [if_pos e, e]
        refine ⟨_, rfl, hmod, hv2 ?_⟩
        have : (true && v) = true := hb
        rwa [Bool.true_and] at this
      · rw [if_neg e]; exact h2 rfl z (by omega)
    | false =>
      exact ⟨_, oit (decide_eq_true (by omega)) (obi em (obi (idx_gi (r := c) (i := y) (by omega)) (obi ed (obi (gO_F rfl) (obi (gO_F rfl) (obi (gO_F rfl) (obi (inc_nat (by omega)) rfl))))))), rfl, ⟨_, rfl, by omega⟩, by simpa using h1, fun hb => by cases hb⟩) (by
    rintro ⟨a', b, y', c⟩ ⟨rfl, _, h1, h2⟩
    simp only at h1 h2
    unfold humpyardtop_TopFewest_l5
    exact ⟨_, oif (decide_eq_false (by simp only; omega)) rfl, h1, h2⟩) N (by omega) ((i : Int), true, 0, c0) ⟨rfl, ⟨i, rfl, hi⟩, hc, fun _ z h => absurd h (Nat.not_lt_zero _)⟩
  exact ⟨q.1, q.2, hq, q1, fun h => ⟨by omega, q1, q2 h⟩⟩
theorem all_ok {N : Nat} (hN : 5000 ≤ N) {k : Int} {l : List T_Item} {w : Nat} (J : JobOk l w) (hl5 : l.length ≤ 5) {base least : List Int} (S : SolveS l w base least) {s : Nat} (hS : StepsOf least s) (hs : 1 ≤ s ∧ s ≤ 3) {j : Int × List Int} (hj : j.1 = ((s - 1 : Nat) : Int)) {n : Nat} (hn : n ≤ 1024) {c0 : List Int} (hc0 : c0.length = l.length) :
    iterN (fun x : Int × List Int => humpyardtop_TopFewest_l4 N (k, l, (w : Int)) j ((2 ^ (s - 1) : Nat) : Int) (n : Int) x.1 x.2) N (0, c0) = some (.inr ()) := by
  refine runN1 (f := fun x : Int × List Int => humpyardtop_TopFewest_l4 N (k, l, (w : Int)) j ((2 ^ (s - 1) : Nat) : Int) (n : Int) x.1 x.2) n (fun i x => x.1 = i ∧ x.2.length = l.length) _ ?_ ?_ N (by omega) (0, c0) ⟨rfl, hc0⟩
  · rintro i ⟨i', c⟩ hi ⟨rfl, hc⟩
    simp only at hc ⊢
    obtain ⟨b, c', e, e1, e2⟩ := plans_ok hN (k := k) J (s := s - 1) (by omega) hc (i := i) (by omega)
    unfold humpyardtop_TopFewest_l4
    cases b with
    | false => exact ⟨_, oit (decide_eq_true (by omega)) (obi e (oit rfl (obi (inc_nat (by omega)) rfl))), rfl, e1⟩
    | true =>
      obtain ⟨r, b, er, hr, hb, rfl⟩ := no_fewer hN J hl5 S hS hs (e2 rfl)
      exact ⟨_, oit (decide_eq_true (by omega)) (obi e (oif rfl (obi (by rw [hj]; exact hr) (obi hb (oif rfl (obi (inc_nat (by omega)) rfl)))))), rfl, e1⟩
  · rintro ⟨i', c⟩ ⟨rfl, hc⟩
    unfold humpyardtop_TopFewest_l4
    exact oif (decide_eq_false (by simp)) rfl
theorem check_nil {N : Nat} (hN : 5000 ≤ N) {l : List T_Item} {w : Nat} (J : JobOk l w) (h0 : l = []) : certificate_Check N l (w : Int) 0 [] [] = some 0 := by
  subst h0
  obtain ⟨M, hM, _⟩ := relations_ok (N := N) hN (l := []) (by simp) (w : Int)
  have S : SolveS [] w [] [] := ⟨rfl, rfl, fun y h => absurd h (Nat.not_lt_zero _)⟩
  have P : PlanOk [] w 0 [] := ⟨by omega, rfl, fun y h => absurd h (Nat.not_lt_zero _)⟩
  obtain ⟨m, rfl⟩ : ∃ m, N = m + 1 := ⟨N - 1, by omega⟩
  have hb : leastcode_Bound (m + 1) [] (w : Int) [] = some (0, 0) := by
    have q1 : iterN (fun s : Int => leastcode_Bound_l1 (m + 1) [] [] M s) (m + 1) 0 = some (.inr ()) := iterN_r rfl
    have q2 : iterN (fun s : Int × Int => leastcode_Bound_l2 (m + 1) [] (w : Int) [] M s.1 s.2) (m + 1) (0, 0) = some (.inr 0) := iterN_r rfl
    unfold leastcode_Bound
    exact obi (jobvalid_ok hN J) (oif rfl (obi hM (obi q1 (obi q2 rfl))))
  obtain ⟨n, hn, _, _, n3⟩ := steps_ok (N := m + 1) hN (k := 0) (by decide)
  have : n = 0 := by
    rcases n3 with h | h
    · exact h
    · have := Nat.two_pow_pos (n - 1); omega
  subst this
  have hv := rvalid_ok hN J P
  unfold certificate_Check
  exact obi hv (oif rfl (obi (pairs_ok hN J S) (obi hb (oif rfl (obi hn (oif rfl rfl))))))
theorem TopFewest_true (t : List Int) : humpyardtop_TopFewest 6000 t = some true := by
  have hN : 5000 ≤ 6000 := by decide
  obtain ⟨k, l, w, hj, k1, k2, M, hl, hw⟩ := job_made hN t (n := 5) (by decide)
  have J : JobOk l w := M.job (by decide) hw (by omega)
  unfold humpyardtop_TopFewest
  refine obi rfl (obi hj ?_)
  rcases least_make hN J with ⟨_, hm⟩ | ⟨s, least, chain, _, hm, ⟨base, S⟩, hM, hS⟩
  · exact obi hm (oit rfl (obi (gO_T rfl awake_ok) rfl))
  · have hchk : certificate_Check 6000 l (w : Int) (s : Int) least chain = some 0 := by
      generalize hs : (s : Int) = s' at hM
      cases hM with
      | nil h => exact check_nil hN J h
      | @some s2 base2 _ out h0 S2 hS2 W => exact check_ok hN J S2 hS2 W.chain
    refine obi hm (oif rfl (obi hchk ?_))
    by_cases h3 : 3 < s
    · exact oit (borT2 (decide_eq_true (by simp only; omega))) (obi (gO_T rfl awake_ok) rfl)
    · refine oif (borF rfl (decide_eq_false (by simp only; omega))) ?_
      by_cases h0 : s = 0
      · exact oit (decide_eq_true (by simp only; omega)) (obi awake_ok rfl)
      · have e0 : shl_i64 1 ((s - 1 : Nat) : Int) = some ((2 ^ (s - 1) : Nat) : Int) := by
          have := shl_ok (x := 1) (s := s - 1) (by decide) (by omega)
          rw [Nat.one_mul] at this; exact this
        have p4 : 2 ^ (s - 1) ≤ 2 ^ 2 := Nat.pow_le_pow_right (by decide) (by omega)
        have h4 : (2 ^ (s - 1)) ^ l.length ≤ 4 ^ 5 := Nat.le_trans (Nat.pow_le_pow_left p4 _) (Nat.pow_le_pow_right (by decide) hl)
        have h5 : (4 : Nat) ^ 5 = 1024 := by decide
        refine oif (decide_eq_false (by simp only; omega)) (obi (x := (((s - 1 : Nat) : Int), List.replicate l.length 0)) (obi (sub1n (by omega) (by have := hS.le; omega)) (obi (mkL_ok (n := l.length) _ (by omega) (by omega)) rfl)) (obi e0 (obi (pows_ok hN hl p4) (obi (all_ok hN J hl S hS (by omega) rfl (by omega) (by simp)) (obi awake_ok rfl)))))
end Go.Gv
