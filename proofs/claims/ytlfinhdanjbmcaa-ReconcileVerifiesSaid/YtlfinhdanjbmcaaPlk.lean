/- The law Verifies. -/
import Derived.Test.YtlfinhdanjbmcaaPlj
namespace Go.Gv

theorem near_ok (N : Nat) {x y c : Int} (hx : -9223372036854775808 ≤ x ∧ x ≤ 9223372036854775807) (hy : -9223372036854775808 ≤ y ∧ y ≤ 9223372036854775807) (hc : 0 ≤ c ∧ c ≤ 4) : r08_near N x y c = some (decide (x ≤ y + c)) := by
  unfold r08_near
  refine congrArg some ?_
  rw [Bool.eq_iff_iff]
  simp only [Bool.or_eq_true, decide_eq_true_eq]
  omega
theorem rver14 (N : Nat) (hN : 200 ≤ N) (a b : List Int) (ha : a.length ≤ 96) (hb : b.length ≤ 96) (p : List (List Int)) (sp : Shape a.length b.length p) (hp : in64T p) {i j : Nat} (hi : i ≤ a.length) (hj : j ≤ b.length) :
    (iterN (fun s : Int => r08_Verify_l14 N a b p i j s) N 0 = some (.inl false) ∧ ∃ e, e < 5 ∧ Bad a b p i j e) ∨ (iterN (fun s : Int => r08_Verify_l14 N a b p i j s) N 0 = some (.inr ()) ∧ ∀ e, e < 5 → ¬ Bad a b p i j e) := by
  refine first_anyP 5 (fun e => Bad a b p i j e) false _ (fun e he => ?_) ?_ N (by omega)
  · unfold r08_Verify_l14
    obtain ⟨x, y, z, hst, hxy⟩ := edit_ok N a b (i := i) (j := j) (by omega) (by omega) (e : Int)
    cases ho : okE a b i j e with
    | false =>
      rw [ho] at hst
      refine .inr ⟨fun h => (by rw [h.1] at ho; cases ho), oit (decide_eq_true (by omega)) (obi hst (obi (gO_F rfl) (obi (gO_F rfl) (obi (gO_F rfl) (obi (gO_F rfl) (obi (gO_F rfl) (oif rfl (obi (inc_nat (by omega)) rfl))))))))⟩
    | true =>
      rw [ho] at hst
      obtain ⟨rfl, rfl, rfl⟩ := hxy ho
      have hrg := ok_range ho hi hj
      have hn := near_ok N (hp (i + di e) (j + dj e)) (hp i j) (c := ((cst e : Nat) : Int)) (by omega)
      by_cases hbad : cell p i j + ((cst e : Nat) : Int) < cell p (i + di e) (j + dj e)
      · rw [decide_eq_false (by omega)] at hn
        exact .inl ⟨⟨ho, hbad⟩, oit (decide_eq_true (by omega)) (obi hst (obi (gO_T rfl (idx_row sp hrg.2.1)) (obi (gO_T rfl (idx_cell sp hrg.2.1 hrg.2.2.1)) (obi (gO_T rfl (idx_row sp hi)) (obi (gO_T rfl (idx_cell sp hi hj)) (obi (gO_T rfl hn) (oit rfl rfl)))))))⟩
      · rw [decide_eq_true (by omega)] at hn
        exact .inr ⟨fun h => hbad h.2, oit (decide_eq_true (by omega)) (obi hst (obi (gO_T rfl (idx_row sp hrg.2.1)) (obi (gO_T rfl (idx_cell sp hrg.2.1 hrg.2.2.1)) (obi (gO_T rfl (idx_row sp hi)) (obi (gO_T rfl (idx_cell sp hi hj)) (obi (gO_T rfl hn) (oif rfl (obi (inc_nat (by omega)) rfl))))))))⟩
  · unfold r08_Verify_l14
    exact oif rfl rfl
theorem rver13 (N : Nat) (hN : 200 ≤ N) (a b : List Int) (ha : a.length ≤ 96) (hb : b.length ≤ 96) (p : List (List Int)) (sp : Shape a.length b.length p) (hp : in64T p) {i : Nat} (hi : i ≤ a.length) :
    (iterN (fun s : Int => r08_Verify_l13 N a b p i s) N 0 = some (.inl false) ∧ ∃ j, j < b.length + 1 ∧ ∃ e, e < 5 ∧ Bad a b p i j e) ∨ (iterN (fun s : Int => r08_Verify_l13 N a b p i s) N 0 = some (.inr ()) ∧ ∀ j, j < b.length + 1 → ¬ ∃ e, e < 5 ∧ Bad a b p i j e) := by
  refine first_anyP (b.length + 1) (fun j => ∃ e, e < 5 ∧ Bad a b p i j e) false _ (fun j hj => ?_) ?_ N (by omega)
  · unfold r08_Verify_l13
    rcases rver14 N hN a b ha hb p sp hp hi (by omega : j ≤ b.length) with ⟨h1, h2⟩ | ⟨h1, h2⟩
    · exact .inl ⟨h2, oit (decide_eq_true (by omega)) (obi h1 rfl)⟩
    · exact .inr ⟨fun ⟨e, he, hb⟩ => h2 e he hb, oit (decide_eq_true (by omega)) (obi h1 (obi (inc_nat (by omega)) rfl))⟩
  · unfold r08_Verify_l13
    exact oif (decide_eq_false (by omega)) rfl
theorem rver_ok (N : Nat) (hN : 200 ≤ N) (a b : List Int) (ha : a.length ≤ 96) (hb : b.length ≤ 96) (least : Int) (p : List (List Int)) (hp : in64T p) : ∃ v, r08_Verify N a b least p = some v ∧ (v = true ↔ VerOK a b least p) := by
  unfold r08_Verify
  by_cases hlen : p.length = a.length + 1
  · have g1 : (false || !decide ((List.length p : Int) = ((a.length + 1 : Nat) : Int))) = false := by rw [decide_eq_true (by omega)]; rfl
    rcases first_anyP (a.length + 1) (fun i => (p.getD i []).length ≠ b.length + 1) false (fun s => r08_Verify_l1 N a b p s) (fun i hi => by
      unfold r08_Verify_l1
      by_cases hr : (p.getD i []).length = b.length + 1
      · exact .inr ⟨fun h => h hr, oit (decide_eq_true (by omega)) (obi (idx_getD [] (by omega)) (obi (inc_nat (by omega)) (oif (bnotIf (decide_eq_true (by omega))) (obi (inc_nat (by omega)) rfl))))⟩
      · exact .inl ⟨hr, oit (decide_eq_true (by omega)) (obi (idx_getD [] (by omega)) (obi (inc_nat (by omega)) (oit (bnotIt (decide_eq_false (by omega))) rfl)))⟩) (by
      unfold r08_Verify_l1
      exact oif (decide_eq_false (by omega)) rfl) N (by omega) with ⟨e1, i, hi, hbad⟩ | ⟨e1, hrow⟩
    · exact ⟨false, obi (rlong_ok N a b ha hb) (obi (gO_T rfl (inc_nat (by omega))) (oif g1 (obi e1 rfl))), by
        constructor
        · intro h; cases h
        · intro h; exact absurd (h.shape.row i (by omega)) hbad⟩
    · have sp : Shape a.length b.length p := ⟨hlen, fun i hi => by have := hrow i (by omega); omega⟩
      by_cases hz : cell p 0 0 = 0
      · rcases first_anyP (a.length + 1) (fun i => ∃ j, j < b.length + 1 ∧ ∃ e, e < 5 ∧ Bad a b p i j e) false (fun s => r08_Verify_l10 N a b p s) (fun i hi => by
          unfold r08_Verify_l10
          rcases rver13 N hN a b ha hb p sp hp (by omega : i ≤ a.length) with ⟨h1, h2⟩ | ⟨h1, h2⟩
          · exact .inl ⟨h2, oit (decide_eq_true (by omega)) (obi h1 rfl)⟩
          · exact .inr ⟨fun ⟨j, hj, hb⟩ => h2 j hj hb, oit (decide_eq_true (by omega)) (obi h1 (obi (inc_nat (by omega)) rfl))⟩) (by
          unfold r08_Verify_l10
          exact oif (decide_eq_false (by omega)) rfl) N (by omega) with ⟨e2, i, hi, j, hj, e, he, hbad⟩ | ⟨e2, hno⟩
        · exact ⟨false, obi (rlong_ok N a b ha hb) (obi (gO_T rfl (inc_nat (by omega))) (oif g1 (obi e1 (obi (idx_row (i := 0) sp (Nat.zero_le _)) (obi (idx_cell (i := 0) (j := 0) sp (Nat.zero_le _) (Nat.zero_le _)) (oif (bnotIf (decide_eq_true hz)) (obi e2 rfl))))))), by
            constructor
            · intro h; cases h
            · intro h; exact absurd hbad (h.ok i j e (by omega) (by omega) he)⟩
        · refine ⟨decide (least ≤ cell p a.length b.length), obi (rlong_ok N a b ha hb) (obi (gO_T rfl (inc_nat (by omega))) (oif g1 (obi e1 (obi (idx_row (i := 0) sp (Nat.zero_le _)) (obi (idx_cell (i := 0) (j := 0) sp (Nat.zero_le _) (Nat.zero_le _)) (oif (bnotIf (decide_eq_true hz)) (obi e2 (obi (idx_row sp (Nat.le_refl _)) (obi (idx_cell sp (Nat.le_refl _) (Nat.le_refl _)) rfl))))))))), ?_⟩
          rw [decide_eq_true_iff]
          exact ⟨fun h => ⟨sp, hz, fun i j e hi hj he hb => hno i (by omega) ⟨j, by omega, e, he, hb⟩, h⟩, fun h => h.last⟩
      · exact ⟨false, obi (rlong_ok N a b ha hb) (obi (gO_T rfl (inc_nat (by omega))) (oif g1 (obi e1 (obi (idx_row (i := 0) sp (Nat.zero_le _)) (obi (idx_cell (i := 0) (j := 0) sp (Nat.zero_le _) (Nat.zero_le _)) (oit (bnotIt (decide_eq_false hz)) rfl)))))), by
          constructor
          · intro h; cases h
          · intro h; exact absurd h.zero hz⟩
  · exact ⟨false, obi (rlong_ok N a b ha hb) (obi (gO_T rfl (inc_nat (by omega))) (oit (borT2 (bnotIt (decide_eq_false (by omega)))) rfl)), by
      constructor
      · intro h; cases h
      · intro h; exact absurd h.shape.len hlen⟩
theorem vers_eq (a b : List Int) (ha : a.length ≤ 96) (hb : b.length ≤ 96) (least : Int) (p : List (List Int)) (hp : in64T p) : ∃ v, reconcile_Verify 200 a b least p = some v ∧ r08_Verify 200 a b least p = some v := by
  obtain ⟨v, h1, h2⟩ := ver_ok 200 (Nat.le_refl _) a b ha hb least p hp
  obtain ⟨w, h3, h4⟩ := rver_ok 200 (Nat.le_refl _) a b ha hb least p hp
  refine ⟨v, h1, ?_⟩
  rw [h3]; congr 1
  rw [Bool.eq_iff_iff, h4, h2]

/-- all numbers of a table lie between -B and B -/
def RIb (lo hi : Int) (p : List (List Int)) : Prop := ∀ row ∈ p, ∀ x ∈ row, lo ≤ x ∧ x ≤ hi
theorem getD_mem {α : Type} {l : List α} {i : Nat} {d : α} (h : i < l.length) : l.getD i d ∈ l := by
  rw [List.getD_eq_getElem?_getD, List.getElem?_eq_getElem h]
  exact List.getElem_mem _
theorem RIb.cell {lo hi : Int} {p : List (List Int)} (h : RIb lo hi p) (h0 : lo ≤ 0 ∧ 0 ≤ hi) (i j : Nat) : lo ≤ cell p i j ∧ cell p i j ≤ hi := by
  unfold Gv.cell
  by_cases hi : i < p.length
  · by_cases hj : j < (p.getD i []).length
    · exact h _ (getD_mem hi) _ (getD_mem hj)
    · rw [List.getD_eq_getElem?_getD (l := p.getD i []), List.getElem?_eq_none (by omega)]; exact h0
  · rw [List.getD_eq_getElem?_getD (l := p), List.getElem?_eq_none (by omega)]; exact h0
theorem RIb.in64T {p : List (List Int)} (h : RIb (-9223372036854775808) 9223372036854775807 p) : in64T p := fun i j => h.cell (by omega) i j
theorem RIb.weak {lo hi lo' hi' : Int} {p : List (List Int)} (h : RIb lo hi p) (h1 : lo' ≤ lo) (h2 : hi ≤ hi') : RIb lo' hi' p := fun r hr x hx => by have := h r hr x hx; omega
theorem RIb.set {lo hi : Int} {p : List (List Int)} {i : Nat} {row : List Int} (h : RIb lo hi p) (hr : ∀ x ∈ row, lo ≤ x ∧ x ≤ hi) : RIb lo hi (p.set i row) := fun r hr' x hx => by
  rcases List.mem_or_eq_of_mem_set hr' with h1 | rfl
  · exact h r h1 x hx
  · exact hr x hx
theorem pert (t : List Int) (q : List (List Int)) {m n : Nat} (sq : Shape m n q) (hm : m ≤ 96) (hn : n ≤ 96) (hq : RIb (-1000) 1000 q) (i : Nat) {k : Int} (hk : 0 ≤ k) (hk2 : k ≤ 100000) : ∃ j : Int × List (List Int), (bif decide (0 < (i : Int)) then (
 Option.bind (Maker_Next 200 t k (List.length q : Int)) fun r913 =>
 Option.bind (idx q r913.2) fun x919 =>
 Option.bind (Maker_Next 200 t r913.1 (List.length x919 : Int)) fun r924 =>
 Option.bind (idx q r913.2) fun x960 =>
 Option.bind (idx x960 r924.2) fun x965 =>
 Option.bind (Maker_Pick 200 t r924.1 ([(-5), (-1), 0, 1, 2])) fun r971 =>
 Option.bind (in64 (x965 + r971.2)) fun x977 =>
 Option.bind (idx x960 r924.2) fun _ =>
 bif decide ((i : Int) = 3) then (
 Option.bind (idx (List.set q (Int.toNat r913.2) (List.set x960 (Int.toNat r924.2) x977)) r913.2) fun x988 =>
 Option.bind (app 8 x988 ([0])) fun l998 =>
 Option.bind (idx (List.set q (Int.toNat r913.2) (List.set x960 (Int.toNat r924.2) x977)) r913.2) fun _ =>
 some (r971.1, (List.set (List.set q (Int.toNat r913.2) (List.set x960 (Int.toNat r924.2) x977)) (Int.toNat r913.2) l998))) else (
 some (r971.1, (List.set q (Int.toNat r913.2) (List.set x960 (Int.toNat r924.2) x977))))) else (
 some (k, q))) = some j ∧ k ≤ j.1 ∧ j.1 ≤ k + 3 ∧ RIb (-2000) 2000 j.2 := by
  by_cases h0 : 0 < (i : Int)
  · have hql := sq.len
    obtain ⟨r', hr, r0, r1⟩ := next_ok 200 t hk (by omega) (n := (q.length : Int)) (by omega) (by omega)
    obtain ⟨r, rfl⟩ : ∃ r : Nat, r' = r := ⟨r'.toNat, by omega⟩
    have hrow := sq.row r (by omega)
    obtain ⟨s', hs, s0, s1⟩ := next_ok 200 t (k := k + 1) (by omega) (by omega) (n := ((q.getD r []).length : Int)) (by omega) (by omega)
    obtain ⟨s, rfl⟩ : ∃ s : Nat, s' = s := ⟨s'.toNat, by omega⟩
    obtain ⟨v, hv, hvm⟩ := pick_ok 200 t (k := k + 1 + 1) (v := [(-5), (-1), 0, 1, 2]) (by omega) (by omega) (by simp) (by simp)
    have hvb : -5 ≤ v ∧ v ≤ 2 := by simp at hvm; omega
    have hcell := hq.cell (by omega) r s
    have hrm : q.getD r [] ∈ q := getD_mem (by omega)
    have hset : ∀ x ∈ (q.getD r []).set s (cell q r s + v), -2000 ≤ x ∧ x ≤ 2000 := fun x hx => by
      rcases List.mem_or_eq_of_mem_set hx with h1 | rfl
      · have := hq _ hrm x h1; omega
      · omega
    have hq2 : RIb (-2000) 2000 q := hq.weak (by omega) (by omega)
    have hI := idx_row sq (i := r) (by omega)
    have hC := idx_cell sq (i := r) (j := s) (by omega) (by omega)
    by_cases h3 : (i : Int) = 3
    · have hidx : idx (List.set q (Int.toNat (r : Int)) (List.set (q.getD r []) (Int.toNat (s : Int)) (cell q r s + v))) (r : Int) = some ((q.getD r []).set s (cell q r s + v)) := by
        simp only [Int.toNat_natCast]
        rw [idx_getD [] (by simp; omega), getD_set (by omega), if_pos rfl]
      refine ⟨(k + 1 + 1 + 1, List.set (List.set q (Int.toNat (r : Int)) (List.set (q.getD r []) (Int.toNat (s : Int)) (cell q r s + v))) (Int.toNat (r : Int)) ((q.getD r []).set s (cell q r s + v) ++ [0])), oit (decide_eq_true h0) (obi hr (obi hI (obi hs (obi hI (obi hC (obi hv (obi (in64_ok (by simp only; omega)) (obi hC (oit (decide_eq_true h3) (obi hidx (obi (app_ok (by simp only [List.length_set, List.length_cons, List.length_nil]; omega) (by simp only [List.length_set, List.length_cons, List.length_nil]; omega)) (obi hidx rfl)))))))))))), by simp only; omega, by simp only; omega, ?_⟩
      simp only [Int.toNat_natCast]
      refine (hq2.set hset).set fun x hx => ?_
      rcases List.mem_append.1 hx with h | h
      · exact hset x h
      · simp at h; omega
    · refine ⟨(k + 1 + 1 + 1, List.set q (Int.toNat (r : Int)) (List.set (q.getD r []) (Int.toNat (s : Int)) (cell q r s + v))), oit (decide_eq_true h0) (obi hr (obi hI (obi hs (obi hI (obi hC (obi hv (obi (in64_ok (by simp only; omega)) (obi hC (oif (decide_eq_false h3) rfl))))))))), by simp only; omega, by simp only; omega, ?_⟩
      simp only [Int.toNat_natCast]
      exact hq2.set hset
  · exact ⟨(k, q), oif (decide_eq_false h0) rfl, by simp only; omega, by simp only; omega, hq.weak (by omega) (by omega)⟩
theorem pot_RIb {m n : Nat} {q : List (List Int)} (sq : Shape m n q) {lo hi : Int} (h : ∀ k l, k ≤ m → l ≤ n → lo ≤ cell q k l ∧ cell q k l ≤ hi) : RIb lo hi q := by
  intro row hr x hx
  obtain ⟨i, hi, rfl⟩ := List.getElem_of_mem hr
  obtain ⟨j, hj, rfl⟩ := List.getElem_of_mem hx
  have e1 : q.getD i [] = q[i] := by rw [List.getD_eq_getElem?_getD, List.getElem?_eq_getElem hi]; rfl
  have hlen := sq.len
  have hrow := sq.row i (by omega)
  rw [e1] at hrow
  have := h i j (by omega) (by omega)
  unfold cell at this
  rw [e1, List.getD_eq_getElem?_getD, List.getElem?_eq_getElem hj] at this
  exact this

theorem l4_ok (cost k : Int) (x y : List Int) (hx : x.length ≤ 96) (hy : y.length ≤ 96) (r : List Int × Int × Int) (j : Int × List (List Int)) (hj : in64T j.2) (c1 c2 : Int) : iterN (fun s : Int => law08_ReconcileVerifies_l4 200 cost (k, x, y) r j c1 c2 s) 200 0 = some (.inr ()) := by
  rcases first_anyP 4 (fun _ => False) false (fun s => law08_ReconcileVerifies_l4 200 cost (k, x, y) r j c1 c2 s) (fun i hi => .inr ⟨fun h => h, by
    unfold law08_ReconcileVerifies_l4
    obtain ⟨v, h1, h2⟩ := vers_eq x y hx hy (([r.2.1, c1, c2, cost] : List Int).getD i 0) j.2 hj
    exact oit (decide_eq_true (by simp; omega)) (obi (idx_getD 0 (by simp; omega)) (obi h1 (obi h2 (oif (by cases v <;> rfl) (obi (inc_nat (by omega)) rfl)))))⟩) (by
    unfold law08_ReconcileVerifies_l4
    exact oif (decide_eq_false (by simp)) rfl) 200 (by omega) with ⟨_, i, _, h⟩ | ⟨h, _⟩
  · exact h.elim
  · exact h
theorem vers_step (t : List Int) (cost : Int) (p : List (List Int)) (hp : in64T p) (i : Nat) (hi : i < 4) {k : Int} (hk : 0 ≤ k) (hk2 : k ≤ 1003 * i) : ∃ k', law08_ReconcileVerifies_l3 200 t cost p i k = some (.inl (((i + 1 : Nat) : Int), k')) ∧ 0 ≤ k' ∧ k' ≤ 1003 * (i + 1) := by
  obtain ⟨k1, x, y, hl, k10, k11, lx, ly⟩ := lists_ok 200 (Nat.le_refl _) t (k := k) (n := 8) hk (by omega) (by omega) (by omega)
  obtain ⟨s, e2, _, _⟩ := ralign_ok 200 (Nat.le_refl _) x y (by omega) (by omega)
  obtain ⟨q, e4, sq, cq⟩ := rpot_ok 200 (Nat.le_refl _) x y (by omega) (by omega)
  have hV := V_bound (a := x) (b := y) (Nat.zero_le _) (Nat.zero_le _)
  obtain ⟨j, hj, j0, j1, jr⟩ := pert t q sq (by omega) (by omega) (pot_RIb sq fun k l hk hl => by
    rw [cq k l hk hl]
    have := U_bound hk hl
    omega) i (k := k1) k10 (by omega)
  have tail := l4_ok cost k1 x y (by omega) (by omega) (s, ((V x y 0 0 : Nat) : Int), 0) j (RIb.in64T (jr.weak (by omega) (by omega))) (((V x y 0 0 : Nat) : Int) - 1) (((V x y 0 0 : Nat) : Int) + 1)
  refine ⟨j.1, ?_, by omega, by omega⟩
  unfold law08_ReconcileVerifies_l3
  by_cases h40 : (List.length p : Int) ≤ 40
  · obtain ⟨v, h1, h2⟩ := vers_eq x y (by omega) (by omega) cost p hp
    exact oit (decide_eq_true (by omega)) (obi hl (obi e2 (obi e4 (obi hj (obi (in64_ok (by simp only; omega)) (obi (in64_ok (by simp only; omega)) (obi tail (obi (gO_T (decide_eq_true h40) h1) (obi (gO_T (decide_eq_true h40) h2) (oif (bandF2 (by cases v <;> rfl)) (obi (inc_nat (by omega)) rfl)))))))))))
  · exact oit (decide_eq_true (by omega)) (obi hl (obi e2 (obi e4 (obi hj (obi (in64_ok (by simp only; omega)) (obi (in64_ok (by simp only; omega)) (obi tail (obi (gO_F (decide_eq_false h40)) (obi (gO_F (decide_eq_false h40)) (oif (bandF (decide_eq_false h40)) (obi (inc_nat (by omega)) rfl)))))))))))
theorem Verifies_true (t : List Int) (cost : Int) (p : List (List Int)) (hp : ∀ row ∈ p, ∀ x ∈ row, -9223372036854775808 ≤ x ∧ x ≤ 9223372036854775807) : law08_ReconcileVerifies 200 t cost p = some true := by
  obtain ⟨r, hr, hQ⟩ := iterN_run (f := fun s : Int × Int => law08_ReconcileVerifies_l3 200 t cost p s.1 s.2)
    (I := fun s => ∃ i : Nat, s.1 = i ∧ i ≤ 4 ∧ 0 ≤ s.2 ∧ s.2 ≤ 1003 * i) (Q := fun r => r = .inr ()) (fun s => 4 - s.1.toNat) (by
    rintro ⟨i', k⟩ ⟨i, rfl, hi, hk, hk2⟩
    simp only at hk hk2 ⊢
    by_cases hc : i < 4
    · obtain ⟨k', h1, h2, h3⟩ := vers_step t cost p (RIb.in64T hp) i hc hk hk2
      exact .inl ⟨_, h1, ⟨i + 1, rfl, hc, h2, by simp only; omega⟩, by simp only; omega⟩
    · obtain rfl : i = 4 := by omega
      exact .inr ⟨.inr (), by unfold law08_ReconcileVerifies_l3; exact oif (decide_eq_false (by omega)) rfl, rfl⟩) 200 (0, 0) ⟨0, rfl, by omega, by simp, by simp⟩ (by simp)
  subst hQ
  unfold law08_ReconcileVerifies
  exact obi (x := 0) rfl (obi hr (obi (sane_any 200 (Nat.le_refl _)) rfl))
theorem Verifies_sane (t : List Int) (cost : Int) (p : List (List Int)) (_ : ∀ x ∈ t, -9223372036854775808 ≤ x ∧ x ≤ 9223372036854775807) (_ : -9223372036854775808 ≤ cost ∧ cost ≤ 9223372036854775807) (hp : ∀ row ∈ p, ∀ x ∈ row, -9223372036854775808 ≤ x ∧ x ≤ 9223372036854775807) : law08_ReconcileVerifies 200 t cost p = some true := Verifies_true t cost p hp
end Go.Gv
