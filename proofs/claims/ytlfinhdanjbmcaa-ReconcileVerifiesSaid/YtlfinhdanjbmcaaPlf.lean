/- What Verify answers; the laws Proof and Cheaper. -/
import Derived.Test.YtlfinhdanjbmcaaPle
namespace Go.Gv

def in64T (p : List (List Int)) : Prop := ∀ i j, -9223372036854775808 ≤ cell p i j ∧ cell p i j ≤ 9223372036854775807
def Bad (a b : List Int) (p : List (List Int)) (i j e : Nat) : Prop := okE a b i j e = true ∧ cell p i j + cst e < cell p (i + di e) (j + dj e)
structure VerOK (a b : List Int) (least : Int) (p : List (List Int)) : Prop where
  shape : Shape a.length b.length p
  zero : cell p 0 0 = 0
  ok : ∀ i j e : Nat, i ≤ a.length → j ≤ b.length → e < 5 → ¬ Bad a b p i j e
  last : least ≤ cell p a.length b.length

theorem ver14 (N : Nat) (hN : 200 ≤ N) (a b : List Int) (ha : a.length ≤ 96) (hb : b.length ≤ 96) (p : List (List Int)) (sp : Shape a.length b.length p) (hp : in64T p) {i j : Nat} (hi : i ≤ a.length) (hj : j ≤ b.length) :
    (iterN (fun s : Int => reconcile_Verify_l14 N a b p i j s) N 0 = some (.inl false) ∧ ∃ e, e < 5 ∧ Bad a b p i j e) ∨ (iterN (fun s : Int => reconcile_Verify_l14 N a b p i j s) N 0 = some (.inr ()) ∧ ∀ e, e < 5 → ¬ Bad a b p i j e) := by
  refine first_anyP 5 (fun e => Bad a b p i j e) false _ (fun e he => ?_) ?_ N (by omega)
  · unfold reconcile_Verify_l14
    obtain ⟨x, y, hst, hxy⟩ := step_ok N a b (i := i) (j := j) (by omega) (by omega) (e : Int)
    cases ho : okE a b i j e with
    | false =>
      rw [ho] at hst
      refine .inr ⟨fun h => (by rw [h.1] at ho; cases ho), oit (decide_eq_true (by omega)) (obi hst (obi (gO_F rfl) (obi (gO_F rfl) (obi (gO_F rfl) (obi (gO_F rfl) (obi (gO_F rfl) (obi (gO_F rfl) (obi (gO_F rfl) (obi (gO_F rfl) (obi (gO_F rfl) (obi (gO_F rfl) (oif rfl (obi (inc_nat (by omega)) rfl))))))))))))) ⟩
    | true =>
      rw [ho] at hst
      obtain ⟨rfl, rfl⟩ := hxy ho
      have hrg := ok_range ho hi hj
      have hc := cost_ok N hrg.1
      have hsub : in64 (9223372036854775807 - ((cst e : Nat) : Int)) = some (9223372036854775807 - ((cst e : Nat) : Int)) := in64_ok (by omega)
      have b1 := hp i j
      have b2 := hp (i + di e) (j + dj e)
      by_cases hg : cell p i j ≤ 9223372036854775807 - ((cst e : Nat) : Int)
      · have g : (true && decide (cell p i j ≤ 9223372036854775807 - ((cst e : Nat) : Int))) = true := band rfl (decide_eq_true hg)
        have hsum : in64 (cell p i j + ((cst e : Nat) : Int)) = some (cell p i j + ((cst e : Nat) : Int)) := in64_ok (by omega)
        by_cases hbad : cell p i j + ((cst e : Nat) : Int) < cell p (i + di e) (j + dj e)
        · exact .inl ⟨⟨ho, hbad⟩, oit (decide_eq_true (by omega)) (obi hst (obi (gO_T rfl (idx_row sp hi)) (obi (gO_T rfl (idx_cell sp hi hj)) (obi (gO_T rfl hc) (obi (gO_T rfl hsub) (obi (gO_T g (idx_row sp hrg.2.1)) (obi (gO_T g (idx_cell sp hrg.2.1 hrg.2.2.1)) (obi (gO_T g (idx_row sp hi)) (obi (gO_T g (idx_cell sp hi hj)) (obi (gO_T g hc) (obi (gO_T g hsum) (oit (band g (decide_eq_true hbad)) rfl))))))))))))⟩
        · exact .inr ⟨fun h => hbad h.2, oit (decide_eq_true (by omega)) (obi hst (obi (gO_T rfl (idx_row sp hi)) (obi (gO_T rfl (idx_cell sp hi hj)) (obi (gO_T rfl hc) (obi (gO_T rfl hsub) (obi (gO_T g (idx_row sp hrg.2.1)) (obi (gO_T g (idx_cell sp hrg.2.1 hrg.2.2.1)) (obi (gO_T g (idx_row sp hi)) (obi (gO_T g (idx_cell sp hi hj)) (obi (gO_T g hc) (obi (gO_T g hsum) (oif (bandF2 (decide_eq_false hbad)) (obi (inc_nat (by omega)) rfl)))))))))))))⟩
      · have g : (true && decide (cell p i j ≤ 9223372036854775807 - ((cst e : Nat) : Int))) = false := bandF2 (decide_eq_false hg)
        refine .inr ⟨fun h => ?_, oit (decide_eq_true (by omega)) (obi hst (obi (gO_T rfl (idx_row sp hi)) (obi (gO_T rfl (idx_cell sp hi hj)) (obi (gO_T rfl hc) (obi (gO_T rfl hsub) (obi (gO_F g) (obi (gO_F g) (obi (gO_F g) (obi (gO_F g) (obi (gO_F g) (obi (gO_F g) (oif (bandF g) (obi (inc_nat (by omega)) rfl)))))))))))))⟩
        have := h.2
        omega
  · unfold reconcile_Verify_l14
    exact oif rfl rfl
theorem ver13 (N : Nat) (hN : 200 ≤ N) (a b : List Int) (ha : a.length ≤ 96) (hb : b.length ≤ 96) (p : List (List Int)) (sp : Shape a.length b.length p) (hp : in64T p) {i : Nat} (hi : i ≤ a.length) (x : List Int) (hx : x.length = b.length + 1) :
    (iterN (fun s : Int => reconcile_Verify_l13 N a b p i x s) N 0 = some (.inl false) ∧ ∃ j, j < b.length + 1 ∧ ∃ e, e < 5 ∧ Bad a b p i j e) ∨ (iterN (fun s : Int => reconcile_Verify_l13 N a b p i x s) N 0 = some (.inr ()) ∧ ∀ j, j < b.length + 1 → ¬ ∃ e, e < 5 ∧ Bad a b p i j e) := by
  refine first_anyP (b.length + 1) (fun j => ∃ e, e < 5 ∧ Bad a b p i j e) false _ (fun j hj => ?_) ?_ N (by omega)
  · unfold reconcile_Verify_l13
    rcases ver14 N hN a b ha hb p sp hp hi (by omega : j ≤ b.length) with ⟨h1, h2⟩ | ⟨h1, h2⟩
    · exact .inl ⟨h2, oit (decide_eq_true (by omega)) (obi h1 rfl)⟩
    · exact .inr ⟨fun ⟨e, he, hb⟩ => h2 e he hb, oit (decide_eq_true (by omega)) (obi h1 (obi (inc_nat (by omega)) rfl))⟩
  · unfold reconcile_Verify_l13
    exact oif (decide_eq_false (by omega)) rfl
theorem ver_ok (N : Nat) (hN : 200 ≤ N) (a b : List Int) (ha : a.length ≤ 96) (hb : b.length ≤ 96) (least : Int) (p : List (List Int)) (hp : in64T p) : ∃ v, reconcile_Verify N a b least p = some v ∧ (v = true ↔ VerOK a b least p) := by
  unfold reconcile_Verify
  by_cases hlen : p.length = a.length + 1
  · have g1 : (false || !decide ((List.length p : Int) = ((a.length + 1 : Nat) : Int))) = false := by rw [decide_eq_true (by omega)]; rfl
    rcases first_anyP (a.length + 1) (fun i => (p.getD i []).length ≠ b.length + 1) false (fun s => reconcile_Verify_l1 N b p s) (fun i hi => by
      unfold reconcile_Verify_l1
      by_cases hr : (p.getD i []).length = b.length + 1
      · exact .inr ⟨fun h => h hr, oit (decide_eq_true (by omega)) (obi (idx_getD [] (by omega)) (obi (inc_nat (by omega)) (oif (bnotIf (decide_eq_true (by omega))) (obi (inc_nat (by omega)) rfl))))⟩
      · exact .inl ⟨hr, oit (decide_eq_true (by omega)) (obi (idx_getD [] (by omega)) (obi (inc_nat (by omega)) (oit (bnotIt (decide_eq_false (by omega))) rfl)))⟩) (by
      unfold reconcile_Verify_l1
      exact oif (decide_eq_false (by omega)) rfl) N (by omega) with ⟨e1, i, hi, hbad⟩ | ⟨e1, hrow⟩
    · exact ⟨false, obi (long_ok N a b ha hb) (obi (gO_T rfl (inc_nat (by omega))) (oif g1 (obi e1 rfl))), by
        constructor
        · intro h; cases h
        · intro h; exact absurd (h.shape.row i (by omega)) hbad⟩
    · have sp : Shape a.length b.length p := ⟨hlen, fun i hi => by have := hrow i (by omega); omega⟩
      by_cases hz : cell p 0 0 = 0
      · rcases first_anyP (a.length + 1) (fun i => ∃ j, j < b.length + 1 ∧ ∃ e, e < 5 ∧ Bad a b p i j e) false (fun s => reconcile_Verify_l10 N a b p s) (fun i hi => by
          unfold reconcile_Verify_l10
          rcases ver13 N hN a b ha hb p sp hp (by omega : i ≤ a.length) (p.getD i []) (sp.row i (by omega)) with ⟨h1, h2⟩ | ⟨h1, h2⟩
          · exact .inl ⟨h2, oit (decide_eq_true (by omega)) (obi (idx_row sp (by omega)) (obi h1 rfl))⟩
          · exact .inr ⟨fun ⟨j, hj, hb⟩ => h2 j hj hb, oit (decide_eq_true (by omega)) (obi (idx_row sp (by omega)) (obi h1 (obi (inc_nat (by omega)) rfl)))⟩) (by
          unfold reconcile_Verify_l10
          exact oif (decide_eq_false (by omega)) rfl) N (by omega) with ⟨e2, i, hi, j, hj, e, he, hbad⟩ | ⟨e2, hno⟩
        · exact ⟨false, obi (long_ok N a b ha hb) (obi (gO_T rfl (inc_nat (by omega))) (oif g1 (obi e1 (obi (idx_row (i := 0) sp (Nat.zero_le _)) (obi (idx_cell (i := 0) (j := 0) sp (Nat.zero_le _) (Nat.zero_le _)) (oif (bnotIf (decide_eq_true hz)) (obi e2 rfl))))))), by
            constructor
            · intro h; cases h
            · intro h; exact absurd hbad (h.ok i j e (by omega) (by omega) he)⟩
        · refine ⟨decide (least ≤ cell p a.length b.length), obi (long_ok N a b ha hb) (obi (gO_T rfl (inc_nat (by omega))) (oif g1 (obi e1 (obi (idx_row (i := 0) sp (Nat.zero_le _)) (obi (idx_cell (i := 0) (j := 0) sp (Nat.zero_le _) (Nat.zero_le _)) (oif (bnotIf (decide_eq_true hz)) (obi e2 (obi (idx_row sp (Nat.le_refl _)) (obi (idx_cell sp (Nat.le_refl _) (Nat.le_refl _)) rfl))))))))), ?_⟩
          rw [decide_eq_true_iff]
          exact ⟨fun h => ⟨sp, hz, fun i j e hi hj he hb => hno i (by omega) ⟨j, by omega, e, he, hb⟩, h⟩, fun h => h.last⟩
      · exact ⟨false, obi (long_ok N a b ha hb) (obi (gO_T rfl (inc_nat (by omega))) (oif g1 (obi e1 (obi (idx_row (i := 0) sp (Nat.zero_le _)) (obi (idx_cell (i := 0) (j := 0) sp (Nat.zero_le _) (Nat.zero_le _)) (oit (bnotIt (decide_eq_false hz)) rfl)))))), by
          constructor
          · intro h; cases h
          · intro h; exact absurd h.zero hz⟩
  · exact ⟨false, obi (long_ok N a b ha hb) (obi (gO_T rfl (inc_nat (by omega))) (oit (borT2 (bnotIt (decide_eq_false (by omega)))) rfl)), by
      constructor
      · intro h; cases h
      · intro h; exact absurd h.shape.len hlen⟩

theorem cell_range {m n : Nat} {p : List (List Int)} (sp : Shape m n p) (h : ∀ k l, k ≤ m → l ≤ n → -9223372036854775808 ≤ cell p k l ∧ cell p k l ≤ 9223372036854775807) : in64T p := by
  intro i j
  by_cases hi : i ≤ m
  · by_cases hj : j ≤ n
    · exact h i j hi hj
    · have : cell p i j = 0 := by
        unfold cell
        rw [List.getD_eq_getElem?_getD, List.getElem?_eq_none (by rw [sp.row i hi]; omega)]; rfl
      omega
  · have : cell p i j = 0 := by
      unfold cell
      rw [List.getD_eq_getElem?_getD (l := p), List.getElem?_eq_none (by rw [sp.len]; omega)]; rfl
    omega
theorem pot_ver {a b : List Int} {p : List (List Int)} (ha : a.length ≤ 96) (hb : b.length ≤ 96) (sp : Shape a.length b.length p) (h : ∀ k l, k ≤ a.length → l ≤ b.length → cell p k l = U a b k l) : in64T p ∧ ∀ least : Int, VerOK a b least p ↔ least ≤ V a b 0 0 := by
  refine ⟨cell_range sp fun k l hk hl => by rw [h k l hk hl]; have := U_bound hk hl; omega, fun least => ⟨fun hv => ?_, fun hl => ⟨sp, ?_, fun i j e hi hj he hbad => ?_, ?_⟩⟩⟩
  · have := hv.last
    rw [h _ _ (Nat.le_refl _) (Nat.le_refl _), U_V] at this; exact this
  · rw [h 0 0 (Nat.zero_le _) (Nat.zero_le _), U_zero]; rfl
  · obtain ⟨ho, hx⟩ := hbad
    have hrg := ok_range ho hi hj
    rw [h i j hi hj, h _ _ hrg.2.1 hrg.2.2.1] at hx
    have := U_le ho hi hj
    omega
  · rw [h _ _ (Nat.le_refl _) (Nat.le_refl _), U_V]; exact hl

theorem core_ok (N : Nat) (hN : 200 ≤ N) (a b : List Int) (ha : a.length ≤ 96) (hb : b.length ≤ 96) : ∃ s p, reconcile_Align N a b = some (s, ((V a b 0 0 : Nat) : Int), 0) ∧ reconcile_Cost N a b s = some (((V a b 0 0 : Nat) : Int), 0) ∧ reconcile_Potential N a b = some (p, 0) ∧ ∀ least : Int, reconcile_Verify N a b least p = some (decide (least ≤ ((V a b 0 0 : Nat) : Int))) := by
  obtain ⟨s, e1, hp, _⟩ := align_ok N hN a b ha hb
  obtain ⟨p, e2, sp, hc⟩ := pot_ok N hN a b ha hb
  obtain ⟨hr, hv⟩ := pot_ver ha hb sp hc
  refine ⟨s, p, e1, ?_, e2, fun least => ?_⟩
  · rw [Ccost_ok N hN a b s ha hb, costF_path hp rfl rfl 0]; simp
  · obtain ⟨v, e, hv'⟩ := ver_ok N hN a b ha hb least p hr
    rw [e]; congr 1
    rw [Bool.eq_iff_iff, hv', hv least, decide_eq_true_iff]

theorem proof_step (t a b : List Int) (hs : a.length + b.length ≤ 9223372036854775807) (i : Nat) (hi : i < 2) : law08_ReconcileProof_l1 200 t a b i = some (.inl ((i + 1 : Nat) : Int)) := by
  have main : ∀ x y : List Int, x.length ≤ 96 → y.length ≤ 96 → ∀ R : Option (Int ⊕ (Bool ⊕ Unit)), R = some (.inl ((i + 1 : Nat) : Int)) → (Option.bind (reconcile_Align 200 x y) fun r433 =>
 Option.bind (reconcile_Cost 200 x y r433.1) fun r440 =>
 Option.bind (reconcile_Potential 200 x y) fun r446 =>
 Option.bind (gO (!((((!decide (r433.2.2 = 0)) || (!decide (r440.2 = 0))) || (!decide (r446.2 = 0))) || (!decide (r433.2.1 = r440.1)))) (reconcile_Verify 200 x y r433.2.1 r446.1)) fun r469 =>
 Option.bind (gO (!(((((!decide (r433.2.2 = 0)) || (!decide (r440.2 = 0))) || (!decide (r446.2 = 0))) || (!decide (r433.2.1 = r440.1))) || (!r469))) (in64 (r433.2.1 + 1))) fun x481 =>
 Option.bind (gO (!(((((!decide (r433.2.2 = 0)) || (!decide (r440.2 = 0))) || (!decide (r446.2 = 0))) || (!decide (r433.2.1 = r440.1))) || (!r469))) (reconcile_Verify 200 x y x481 r446.1)) fun r486 =>
 bif ((((((!decide (r433.2.2 = 0)) || (!decide (r440.2 = 0))) || (!decide (r446.2 = 0))) || (!decide (r433.2.1 = r440.1))) || (!r469)) || r486) then (
 some (.inr (Sum.inl false))) else R) = some (.inl ((i + 1 : Nat) : Int)) := by
    intro x y hx hy R hR
    obtain ⟨s, p, e1, e2, e3, e4⟩ := core_ok 200 (Nat.le_refl _) x y hx hy
    have hb := V_bound (a := x) (b := y) (Nat.zero_le _) (Nat.zero_le _)
    have hpre : ((((!decide ((0 : Int) = 0)) || (!decide ((0 : Int) = 0))) || (!decide ((0 : Int) = 0))) || (!decide (((V x y 0 0 : Nat) : Int) = ((V x y 0 0 : Nat) : Int)))) = false := by
      rw [decide_eq_true (p := ((V x y 0 0 : Nat) : Int) = ((V x y 0 0 : Nat) : Int)) rfl]; rfl
    have h4 : reconcile_Verify 200 x y ((V x y 0 0 : Nat) : Int) p = some true := by rw [e4, decide_eq_true (Int.le_refl _)]
    have h5 : reconcile_Verify 200 x y (((V x y 0 0 : Nat) : Int) + 1) p = some false := by rw [e4, decide_eq_false (by omega)]
    exact obi e1 (obi e2 (obi e3 (obi (gO_T (bnotIt hpre) h4) (obi (gO_T (bnotIt (borF hpre rfl)) (in64_ok (by simp only; omega))) (obi (gO_T (bnotIt (borF hpre rfl)) h5) (oif (borF (borF hpre rfl) rfl) hR))))))
  obtain ⟨k', x, y, hl, k0, k1, la, lb⟩ := lists_ok 200 (Nat.le_refl _) t (k := 0) (n := 16) (by omega) (by omega) (by omega) (by omega)
  have hinc : (Option.bind (in64 ((i : Int) + 1)) fun x495 => some (Sum.inl x495 : Int ⊕ (Bool ⊕ Unit))) = some (.inl ((i + 1 : Nat) : Int)) := obi (inc_nat (by omega)) rfl
  unfold law08_ReconcileProof_l1
  refine oit (decide_eq_true (by omega)) (obi (x := 0) rfl (obi hl ?_))
  by_cases h1 : (i : Int) = 1
  · refine obi (gO_T (decide_eq_true h1) (in64_ok (by omega))) ?_
    by_cases h60 : (a.length : Int) + (b.length : Int) ≤ 60
    · exact oit (band (decide_eq_true h1) (decide_eq_true h60)) (main a b (by omega) (by omega) _ hinc)
    · exact oif (bandF2 (decide_eq_false h60)) (main x y (by omega) (by omega) _ hinc)
  · exact obi (gO_F (decide_eq_false h1)) (oif (bandF (decide_eq_false h1)) (main x y (by omega) (by omega) _ hinc))
theorem Proof_true (t a b : List Int) (hs : a.length + b.length ≤ 9223372036854775807) : law08_ReconcileProof 200 t a b = some true := by
  have h : iterN (fun s : Int => law08_ReconcileProof_l1 200 t a b s) 200 0 = some (.inr ()) := by
    rcases first_anyP 2 (fun _ => False) false (fun s => law08_ReconcileProof_l1 200 t a b s) (fun i hi => .inr ⟨fun h => h, proof_step t a b hs i hi⟩) (by
      unfold law08_ReconcileProof_l1
      exact oif rfl rfl) 200 (by omega) with ⟨_, i, _, h⟩ | ⟨h, _⟩
    · exact h.elim
    · exact h
  unfold law08_ReconcileProof
  exact obi h (obi (sane_any 200 (Nat.le_refl _)) rfl)

theorem Proof_sized (t a b : List Int) (_ : t.length ≤ 17592186044416) (ha : a.length ≤ 17592186044416) (hb : b.length ≤ 17592186044416) : law08_ReconcileProof 200 t a b = some true := Proof_true t a b (by omega)

theorem cheap_loop (t : List Int) (k a b) (ha : a.length ≤ 20) (hb : b.length ≤ 20) (hk : 0 ≤ k) (hk2 : k ≤ 10000) : ∃ s c, iterN (fun s : Int × Int × Int × List Int => law08_ReconcileCheaper_l1 200 t (k, a, b) s.1 s.2.1 s.2.2.1 s.2.2.2) 200 (0, 0, k, []) = some s ∧ Path a b 0 0 s a.length b.length c := by
  obtain ⟨r, hr, hQ⟩ := iterN_run (f := fun s : Int × Int × Int × List Int => law08_ReconcileCheaper_l1 200 t (k, a, b) s.1 s.2.1 s.2.2.1 s.2.2.2)
    (I := fun s => ∃ i j c : Nat, s.1 = i ∧ s.2.1 = j ∧ i ≤ a.length ∧ j ≤ b.length ∧ Path a b 0 0 s.2.2.2 i j c ∧ 0 ≤ s.2.2.1 ∧ s.2.2.1 ≤ 10000 + i + j)
    (Q := fun r => ∃ c, Path a b 0 0 r a.length b.length c)
    (fun s => (a.length - s.1.toNat) + (b.length - s.2.1.toNat)) (by
    rintro ⟨i', j', k1, l⟩ ⟨i, j, c, rfl, rfl, hi, hj, hp, hk, hk2⟩
    simp only at hp hk hk2 ⊢
    unfold law08_ReconcileCheaper_l1
    have hm := hp.mono
    by_cases hend : i < a.length ∨ j < b.length
    · obtain ⟨v, hv, _, _⟩ := next_ok 200 t (k := k1) (n := 3) (by omega) (by omega) (by omega) (by omega)
      have hor : (decide ((i : Int) < (List.length (k, a, b).2.1 : Int)) || decide ((j : Int) < (List.length (k, a, b).2.2 : Int))) = true := by
        simp only [Bool.or_eq_true, decide_eq_true_eq]; omega
      have happ : ∀ e : Int, app 8 l [e] = some (l ++ [e]) := fun e => app_ok (by simp; omega) (by simp; omega)
      by_cases c1 : (i < a.length ∧ j < b.length) ∧ v = 0
      · have d1 : ((decide ((i : Int) < (List.length (k, a, b).2.1 : Int)) && decide ((j : Int) < (List.length (k, a, b).2.2 : Int))) && decide (v = 0)) = true := by
          simp only [Bool.and_eq_true, decide_eq_true_eq]; omega
        by_cases heq : a.getD i 0 = b.getD j 0
        · exact .inl ⟨(((i + 1 : Nat) : Int), ((j + 1 : Nat) : Int), k1 + 1, l ++ [0]), oit hor (obi hv (oit d1 (obi (idx_getD 0 c1.1.1) (obi (idx_getD 0 c1.1.2) (obi (oit (decide_eq_true heq) rfl) (obi (happ 0) (obi (inc_nat (by omega)) (obi (inc_nat (by omega)) rfl)))))))), ⟨i + 1, j + 1, c + cst 0, rfl, rfl, c1.1.1, c1.1.2, hp.trans (Path.one (ok0 c1.1.1 c1.1.2 heq)), by simp only; omega, by simp only; omega⟩, by simp only; omega⟩
        · exact .inl ⟨(((i + 1 : Nat) : Int), ((j + 1 : Nat) : Int), k1 + 1, l ++ [1]), oit hor (obi hv (oit d1 (obi (idx_getD 0 c1.1.1) (obi (idx_getD 0 c1.1.2) (obi (oif (decide_eq_false heq) rfl) (obi (happ 1) (obi (inc_nat (by omega)) (obi (inc_nat (by omega)) rfl)))))))), ⟨i + 1, j + 1, c + cst 1, rfl, rfl, c1.1.1, c1.1.2, hp.trans (Path.one (ok1 c1.1.1 c1.1.2 heq)), by simp only; omega, by simp only; omega⟩, by simp only; omega⟩
      · have d1 : ((decide ((i : Int) < (List.length (k, a, b).2.1 : Int)) && decide ((j : Int) < (List.length (k, a, b).2.2 : Int))) && decide (v = 0)) = false := by
          rw [Bool.eq_false_iff]; simp only [ne_eq, Bool.and_eq_true, decide_eq_true_eq]; omega
        by_cases c2 : i < a.length ∧ (v = 1 ∨ j = b.length)
        · have d2 : (decide ((i : Int) < (List.length (k, a, b).2.1 : Int)) && (decide (v = 1) || decide ((j : Int) = (List.length (k, a, b).2.2 : Int)))) = true := by
            simp only [Bool.and_eq_true, Bool.or_eq_true, decide_eq_true_eq]; omega
          exact .inl ⟨(((i + 1 : Nat) : Int), (j : Int), k1 + 1, l ++ [2]), oit hor (obi hv (oif d1 (oit d2 (obi (happ 2) (obi (inc_nat (by omega)) rfl))))), ⟨i + 1, j, c + cst 2, rfl, rfl, c2.1, hj, hp.trans (Path.one (ok2 c2.1)), by simp only; omega, by simp only; omega⟩, by simp only; omega⟩
        · have d2 : (decide ((i : Int) < (List.length (k, a, b).2.1 : Int)) && (decide (v = 1) || decide ((j : Int) = (List.length (k, a, b).2.2 : Int)))) = false := by
            rw [Bool.eq_false_iff]; simp only [ne_eq, Bool.and_eq_true, Bool.or_eq_true, decide_eq_true_eq]; omega
          have hj2 : j < b.length := by omega
          exact .inl ⟨((i : Int), ((j + 1 : Nat) : Int), k1 + 1, l ++ [3]), oit hor (obi hv (oif d1 (oif d2 (oif (decide_eq_false (by simp only; omega)) (obi (happ 3) (obi (inc_nat (by omega)) rfl)))))), ⟨i, j + 1, c + cst 3, rfl, rfl, hi, hj2, hp.trans (Path.one (ok3 hj2)), by simp only; omega, by simp only; omega⟩, by simp only; omega⟩
    · have hor : (decide ((i : Int) < (List.length (k, a, b).2.1 : Int)) || decide ((j : Int) < (List.length (k, a, b).2.2 : Int))) = false := by
        rw [Bool.eq_false_iff]; simp only [ne_eq, Bool.or_eq_true, decide_eq_true_eq]; omega
      obtain rfl : i = a.length := by omega
      obtain rfl : j = b.length := by omega
      exact .inr ⟨l, oif hor rfl, c, hp⟩) 200 (0, 0, k, []) ⟨0, 0, 0, rfl, rfl, by omega, by omega, Path.nil _ _, by simp only; omega, by simp only; omega⟩ (by simp only; omega)
  obtain ⟨c, hc⟩ := hQ
  exact ⟨r, c, hr, hc⟩

theorem Cheaper_true (t : List Int) : law08_ReconcileCheaper 200 t = some true := by
  obtain ⟨k', a, b, hl, k0, k1, la, lb⟩ := lists_ok 200 (Nat.le_refl _) t (k := 0) (n := 10) (by omega) (by omega) (by omega) (by omega)
  obtain ⟨s, p, e1, e2, e3, e4⟩ := core_ok 200 (Nat.le_refl _) a b (by omega) (by omega)
  obtain ⟨s2, c, es, hp⟩ := cheap_loop t k' a b (by omega) (by omega) k0 (by omega)
  have h4 : reconcile_Verify 200 a b ((V a b 0 0 : Nat) : Int) p = some true := by rw [e4, decide_eq_true (Int.le_refl _)]
  have hcost : reconcile_Cost 200 a b s2 = some ((c : Int), 0) := by rw [Ccost_ok 200 (Nat.le_refl _) a b s2 (by omega) (by omega), costF_path hp rfl rfl 0]; simp
  have hle : V a b 0 0 ≤ c := dist_le hp
  have hand : (decide ((0 : Int) = 0) && decide (((V a b 0 0 : Nat) : Int) ≤ (c : Int))) = true := band rfl (decide_eq_true (by omega))
  unfold law08_ReconcileCheaper
  exact obi (x := 0) rfl (obi hl (obi e1 (obi e3 (obi (gO_T rfl h4) (oif rfl (obi es (obi hcost (obi (gO_T hand (sane_any 200 (Nat.le_refl _))) (congrArg some (band hand rfl))))))))))
end Go.Gv
