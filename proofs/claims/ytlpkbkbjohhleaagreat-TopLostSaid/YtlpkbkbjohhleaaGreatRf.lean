/- What Verify answers; the laws Proof and Cheaper. -/
import Derived.Test.YtlpkbkbjohhleaaGreatRe
namespace Go.Gv.R

def in64T (p : List (List Int)) : Prop := ∀ i j, -9223372036854775808 ≤ cell p i j ∧ cell p i j ≤ 9223372036854775807
def Bad (a b : List Int) (p : List (List Int)) (i j e : Nat) : Prop := okE a b i j e = true ∧ cell p i j + cst e < cell p (i + di e) (j + dj e)
structure VerOK (a b : List Int) (least : Int) (p : List (List Int)) : Prop where
  shape : Shape a.length b.length p
  zero : cell p 0 0 = 0
  ok : ∀ i j e : Nat, i ≤ a.length → j ≤ b.length → e < 5 → ¬ Bad a b p i j e
  last : least ≤ cell p a.length b.length

theorem ver14 (N : Nat) (hN : 200 ≤ N) (a b : List Int) (ha : a.length ≤ 96) (hb : b.length ≤ 96) (p : List (List Int)) (sp : Shape a.length b.length p) (hp : in64T p) {i j : Nat} (hi : i ≤ a.length) (hj : j ≤ b.length) :
    (iterN (fun s : Int => reconcile_Verify_l14 N a b p i j s) N 0 = some (.inl false) ∧ ∃ e, e < 5 ∧ Bad a b p i j e) ∨ (iterN (fun s : Int => reconcile_Verify_l14 N a b p i j s) N 0 = some (.inr ()) ∧ ∀ e, e < 5 → ¬ Bad a b p i j e) := by
  refine first_anyP 5 (fun e => Bad a b p i j e) false _ (fun e he => ?_) ?_ N (by omega)
  · unfold reconcile_Verify_l14
    obtain ⟨x, y, hst, hxy⟩ := step_ok N a b (i := i) (j := j) (by omega) (by omega) (e : Int)
    cases ho : okE a b i j e with
    | false =>
      rw [ho] at hst
      refine .inr ⟨fun h => (by rw [h.1] at ho; cases ho), oit (decide_eq_true (by omega)) (obi hst (obi (gO_F rfl) (obi (gO_F rfl) (obi (gO_F rfl) (obi (gO_F rfl) (obi (gO_F rfl) (obi (gO_F rfl) (obi (gO_F rfl) (obi (gO_F rfl) (obi (gO_F rfl) (obi (gO_F rfl) (oif rfl (obi (inc_nat (by omega)) rfl))))))))))))) ⟩
    | true =>
      rw [ho] at hst
      obtain ⟨rfl, rfl⟩ := hxy ho
      have hrg := ok_range ho hi hj
      have hc := cost_ok N hrg.1
      have hsub : in64 (9223372036854775807 - ((cst e : Nat) : Int)) = some (9223372036854775807 - ((cst e : Nat) : Int)) := in64_ok (by omega)
      have b1 := hp i j
      have b2 := hp (i + di e) (j + dj e)
      by_cases hg : cell p i j ≤ 9223372036854775807 - ((cst e : Nat) : Int)
      · have g : (true && decide (cell p i j ≤ 9223372036854775807 - ((cst e : Nat) : Int))) = true := band rfl (decide_eq_true hg)
        have hsum : in64 (cell p i j + ((cst e : Nat) : Int)) = some (cell p i j + ((cst e : Nat) : Int)) := in64_ok (by omega)
        by_cases hbad : cell p i j + ((cst e : Nat) : Int) < cell p (i + di e) (j + dj e)
        · exact .inl ⟨⟨ho, hbad⟩, oit (decide_eq_true (by omega)) (obi hst (obi (gO_T rfl (idx_row sp hi)) (obi (gO_T rfl (idx_cell sp hi hj)) (obi (gO_T rfl hc) (obi (gO_T rfl hsub) (obi (gO_T g (idx_row sp hrg.2.1)) (obi (gO_T g (idx_cell sp hrg.2.1 hrg.2.2.1)) (obi (gO_T g (idx_row sp hi)) (obi (gO_T g (idx_cell sp hi hj)) (obi (gO_T g hc) (obi (gO_T g hsum) (oit (band g (decide_eq_true hbad)) rfl))))))))))))⟩
        · exact .inr ⟨fun h => hbad h.2, oit (decide_eq_true (by omega)) (obi hst (obi (gO_T rfl (idx_row sp hi)) (obi (gO_T rfl (idx_cell sp hi hj)) (obi (gO_T rfl hc) (obi (gO_T rfl hsub) (obi (gO_T g (idx_row sp hrg.2.1)) (obi (gO_T g (idx_cell sp hrg.2.1 hrg.2.2.1)) (obi (gO_T g (idx_row sp hi)) (obi (gO_T g (idx_cell sp hi hj)) (obi (gO_T g hc) (obi (gO_T g hsum) (oif (bandF2 (decide_eq_false hbad)) (obi (inc_nat (by omega)) rfl)))))))))))))⟩
      · have g : (true && decide (cell p i j ≤ 9223372036854775807 - ((cst e : Nat) : Int))) = false := bandF2 (decide_eq_false hg)
        refine .inr ⟨fun h => ?_, oit (decide_eq_true (by omega)) (obi hst (obi (gO_T rfl (idx_row sp hi)) (obi (gO_T rfl (idx_cell sp hi hj)) (obi (gO_T rfl hc) (obi (gO_T rfl hsub) (obi (gO_F g) (obi (gO_F g) (obi (gO_F g) (obi (gO_F g) (obi (gO_F g) (obi (gO_F g) (oif (bandF g) (obi (inc_nat (by omega)) rfl)))))))))))))⟩
        have := h.2
        omega
  · unfold reconcile_Verify_l14
    exact oif rfl rfl
theorem ver13 (N : Nat) (hN : 200 ≤ N) (a b : List Int) (ha : a.length ≤ 96) (hb : b.length ≤ 96) (p : List (List Int)) (sp : Shape a.length b.length p) (hp : in64T p) {i : Nat} (hi : i ≤ a.length) (x : List Int) (hx : x.length = b.length + 1) :
    (iterN (fun s : Int => reconcile_Verify_l13 N a b p i x s) N 0 = some (.inl false) ∧ ∃ j, j < b.length + 1 ∧ ∃ e, e < 5 ∧ Bad a b p i j e) ∨ (iterN (fun s : Int => reconcile_Verify_l13 N a b p i x s) N 0 = some (.inr ()) ∧ ∀ j, j < b.length + 1 → ¬ ∃ e, e < 5 ∧ Bad a b p i j e) := by
  refine first_anyP (b.length + 1) (fun j => ∃ e, e < 5 ∧ Bad a b p i j e) false _ (fun j hj => ?_) ?_ N (by omega)
  · unfold reconcile_Verify_l13
    rcases ver14 N hN a b ha hb p sp hp hi (by omega : j ≤ b.length) with ⟨h1, h2⟩ | ⟨h1, h2⟩
    · exact .inl ⟨h2, oit (decide_eq_true (by omega)) (obi h1 rfl)⟩
    · exact .inr ⟨fun ⟨e, he, hb⟩ => h2 e he hb, oit (decide_eq_true (by omega)) (obi h1 (obi (inc_nat (by omega)) rfl))⟩
  · unfold reconcile_Verify_l13
    exact oif (decide_eq_false (by omega)) rfl
theorem ver_ok (N : Nat) (hN : 200 ≤ N) (a b : List Int) (ha : a.length ≤ 96) (hb : b.length ≤ 96) (least : Int) (p : List (List Int)) (hp : in64T p) : ∃ v, reconcile_Verify N a b least p = some v ∧ (v = true ↔ VerOK a b least p) := by
  unfold reconcile_Verify
  by_cases hlen : p.length = a.length + 1
  · have g1 : (false || !decide ((List.length p : Int) = ((a.length + 1 : Nat) : Int))) = false := by rw [decide_eq_true (by omega)]; rfl
    rcases first_anyP (a.length + 1) (fun i => (p.getD i []).length ≠ b.length + 1) false (fun s => reconcile_Verify_l1 N b p s) (fun i hi => by
      unfold reconcile_Verify_l1
      by_cases hr : (p.getD i []).length = b.length + 1
      · exact .inr ⟨fun h => h hr, oit (decide_eq_true (by omega)) (obi (idx_getD [] (by omega)) (obi (inc_nat (by omega)) (oif (bnotIf (decide_eq_true (by omega))) (obi (inc_nat (by omega)) rfl))))⟩
      · exact .inl ⟨hr, oit (decide_eq_true (by omega)) (obi (idx_getD [] (by omega)) (obi (inc_nat (by omega)) (oit (bnotIt (decide_eq_false (by omega))) rfl)))⟩) (by
      unfold reconcile_Verify_l1
      exact oif (decide_eq_false (by omega)) rfl) N (by omega) with ⟨e1, i, hi, hbad⟩ | ⟨e1, hrow⟩
    · exact ⟨false, obi (long_ok N a b ha hb) (obi (gO_T rfl (inc_nat (by omega))) (oif g1 (obi e1 rfl))), by
        constructor
        · intro h; cases h
        · intro h; exact absurd (h.shape.row i (by omega)) hbad⟩
    · have sp : Shape a.length b.length p := ⟨hlen, fun i hi => by have := hrow i (by omega); omega⟩
      by_cases hz : cell p 0 0 = 0
      · rcases first_anyP (a.length + 1) (fun i => ∃ j, j < b.length + 1 ∧ ∃ e, e < 5 ∧ Bad a b p i j e) false (fun s => reconcile_Verify_l10 N a b p s) (fun i hi => by
          unfold reconcile_Verify_l10
          rcases ver13 N hN a b ha hb p sp hp (by omega : i ≤ a.length) (p.getD i []) (sp.row i (by omega)) with ⟨h1, h2⟩ | ⟨h1, h2⟩
          · exact .inl ⟨h2, oit (decide_eq_true (by omega)) (obi (idx_row sp (by omega)) (obi h1 rfl))⟩
          · exact .inr ⟨fun ⟨j, hj, hb⟩ => h2 j hj hb, oit (decide_eq_true (by omega)) (obi (idx_row sp (by omega)) (obi h1 (obi (inc_nat (by omega)) rfl)))⟩) (by
          unfold reconcile_Verify_l10
          exact oif (decide_eq_false (by omega)) rfl) N (by omega) with ⟨e2, i, hi, j, hj, e, he, hbad⟩ | ⟨e2, hno⟩
        · exact ⟨false, obi (long_ok N a b ha hb) (obi (gO_T rfl (inc_nat (by omega))) (oif g1 (obi e1 (obi (idx_row (i := 0) sp (Nat.zero_le _)) (obi (idx_cell (i := 0) (j := 0) sp (Nat.zero_le _) (Nat.zero_le _)) (oif (bnotIf (decide_eq_true hz)) (obi e2 rfl))))))), by
            constructor
            · intro h; cases h
            · intro h; exact absurd hbad (h.ok i j e (by omega) (by omega) he)⟩
        · refine ⟨decide (least ≤ cell p a.length b.length), obi (long_ok N a b ha hb) (obi (gO_T rfl (inc_nat (by omega))) (oif g1 (obi e1 (obi (idx_row (i := 0) sp (Nat.zero_le _)) (obi (idx_cell (i := 0) (j := 0) sp (Nat.zero_le _) (Nat.zero_le _)) (oif (bnotIf (decide_eq_true hz)) (obi e2 (obi (idx_row sp (Nat.le_refl _)) (obi (idx_cell sp (Nat.le_refl _) (Nat.le_refl _)) rfl))))))))), ?_⟩
          rw [decide_eq_true_iff]
          exact ⟨fun h => ⟨sp, hz, fun i j e hi hj he hb => hno i (by omega) ⟨j, by omega, e, he, hb⟩, h⟩, fun h => h.last⟩
      · exact ⟨false, obi (long_ok N a b ha hb) (obi (gO_T rfl (inc_nat (by omega))) (oif g1 (obi e1 (obi (idx_row (i := 0) sp (Nat.zero_le _)) (obi (idx_cell (i := 0) (j := 0) sp (Nat.zero_le _) (Nat.zero_le _)) (oit (bnotIt (decide_eq_false hz)) rfl)))))), by
          constructor
          · intro h; cases h
          · intro h; exact absurd h.zero hz⟩
  · exact ⟨false, obi (long_ok N a b ha hb) (obi (gO_T rfl (inc_nat (by omega))) (oit (borT2 (bnotIt (decide_eq_false (by omega)))) rfl)), by
      constructor
      · intro h; cases h
      · intro h; exact absurd h.shape.len hlen⟩

theorem cell_range {m n : Nat} {p : List (List Int)} (sp : Shape m n p) (h : ∀ k l, k ≤ m → l ≤ n → -9223372036854775808 ≤ cell p k l ∧ cell p k l ≤ 9223372036854775807) : in64T p := by
  intro i j
  by_cases hi : i ≤ m
  · by_cases hj : j ≤ n
    · exact h i j hi hj
    · have : cell p i j = 0 := by
        unfold cell
        rw [List.getD_eq_getElem?_getD, List.getElem?_eq_none (by rw [sp.row i hi]; omega)]; rfl
      omega
  · have : cell p i j = 0 := by
      unfold cell
      rw [List.getD_eq_getElem?_getD (l := p), List.getElem?_eq_none (by rw [sp.len]; omega)]; rfl
    omega
theorem pot_ver {a b : List Int} {p : List (List Int)} (ha : a.length ≤ 96) (hb : b.length ≤ 96) (sp : Shape a.length b.length p) (h : ∀ k l, k ≤ a.length → l ≤ b.length → cell p k l = U a b k l) : in64T p ∧ ∀ least : Int, VerOK a b least p ↔ least ≤ V a b 0 0 := by
  refine ⟨cell_range sp fun k l hk hl => by rw [h k l hk hl]; have := U_bound hk hl; omega, fun least => ⟨fun hv => ?_, fun hl => ⟨sp, ?_, fun i j e hi hj he hbad => ?_, ?_⟩⟩⟩
  · have := hv.last
    rw [h _ _ (Nat.le_refl _) (Nat.le_refl _), U_V] at this; exact this
  · rw [h 0 0 (Nat.zero_le _) (Nat.zero_le _), U_zero]; rfl
  · obtain ⟨ho, hx⟩ := hbad
    have hrg := ok_range ho hi hj
    rw [h i j hi hj, h _ _ hrg.2.1 hrg.2.2.1] at hx
    have := U_le ho hi hj
    omega
  · rw [h _ _ (Nat.le_refl _) (Nat.le_refl _), U_V]; exact hl

end Go.Gv.R
