/- The reference's Align, Cost and Potential. -/
import Derived.Test.YtlfinhdanjbmcaaPlh
namespace Go.Gv

theorem ral12 (N : Nat) (hN : 200 ≤ N) (a b : List Int) (ha : a.length ≤ 96) (hb : b.length ≤ 96) {i : Nat} (hi : i ≤ a.length) (t c : List (List Int)) (h : Done a b (-1) t c (i + 1) (b.length + 1)) : ∃ t' c', iterN (fun s : Int × List (List Int) × List (List Int) => r08_Align_l12 N a b i s.1 s.2.1 s.2.2) N ((b.length : Int), t, c) = some (t', c') ∧ Done a b (-1) t' c' i (b.length + 1) := by
  obtain ⟨r, hr, hQ⟩ := iterN_run (f := fun s : Int × List (List Int) × List (List Int) => r08_Align_l12 N a b i s.1 s.2.1 s.2.2)
    (I := fun s => ∃ j : Nat, s.1 = (j : Int) - 1 ∧ j ≤ b.length + 1 ∧ Done a b (-1) s.2.1 s.2.2 (i + 1) j)
    (Q := fun r => Done a b (-1) r.1 r.2 (i + 1) 0)
    (fun s => (s.1 + 1).toNat) (by
    rintro ⟨j', t1, c1⟩ ⟨j1, rfl, hj, hd⟩
    simp only at hd ⊢
    unfold r08_Align_l12
    cases j1 with
    | zero => exact .inr ⟨(t1, c1), oif (decide_eq_false (by omega)) rfl, hd⟩
    | succ j =>
      have hj' : j ≤ b.length := by omega
      rw [show (((j + 1 : Nat) : Int) - 1) = (j : Int) by omega]
      by_cases hend : i = a.length ∧ j = b.length
      · have u0 := upd_set (i := i) (j := j) 0 hd.st hi hj'
        have hu : Upd a.length b.length (t1.set i ((t1.getD i []).set j 0)) t1 i j (V a b i j) := by
          obtain ⟨rfl, rfl⟩ := hend
          rw [V_end]; exact u0
        exact .inl ⟨((j : Int) - 1, (t1.set i ((t1.getD i []).set j 0)), c1), oit (decide_eq_true (by omega)) (oit (band (decide_eq_true (by omega)) (decide_eq_true (by omega))) (obi (idx_row hd.st hi) (obi (idx_cell hd.st hi hj') (obi (in64_ok (by omega)) (by simp only [Int.toNat_natCast]))))), ⟨j, rfl, by omega, hd.step hu (Upd.same hd.sc) (fun h => absurd hend h)⟩, by simp only; omega⟩
      · obtain ⟨t2, c2, e2, u1, w, hf, u2⟩ := ral13 N hN a b ha hb hi hj' hend t1 c1 hd.st hd.sc (hd.left i j hi hj' (by omega)) (hd.nextOk hi hj')
        refine .inl ⟨((j : Int) - 1, t2, c2), oit (decide_eq_true (by omega)) (oif ?_ (obi e2 (obi (in64_ok (by omega)) rfl))), ⟨j, rfl, by omega, hd.step u1 u2 (fun _ => hf)⟩, by simp only; omega⟩
        rw [Bool.eq_false_iff]
        intro hx
        simp only [Bool.and_eq_true, decide_eq_true_eq] at hx
        omega) N ((b.length : Int), t, c) ⟨b.length + 1, by simp only; omega, by omega, h⟩ (by simp only; omega)
  exact ⟨r.1, r.2, hr, hQ.row⟩
theorem ral9 (N : Nat) (hN : 200 ≤ N) (a b : List Int) (ha : a.length ≤ 96) (hb : b.length ≤ 96) (t c : List (List Int)) (h : Done a b (-1) t c (a.length + 1) (b.length + 1)) : ∃ t' c', iterN (fun s : Int × List (List Int) × List (List Int) => r08_Align_l9 N a b s.1 s.2.1 s.2.2) N ((a.length : Int), t, c) = some (t', c') ∧ Done a b (-1) t' c' 0 (b.length + 1) := by
  obtain ⟨r, hr, hQ⟩ := iterN_run (f := fun s : Int × List (List Int) × List (List Int) => r08_Align_l9 N a b s.1 s.2.1 s.2.2)
    (I := fun s => ∃ i : Nat, s.1 = (i : Int) - 1 ∧ i ≤ a.length + 1 ∧ Done a b (-1) s.2.1 s.2.2 i (b.length + 1))
    (Q := fun r => Done a b (-1) r.1 r.2 0 (b.length + 1))
    (fun s => (s.1 + 1).toNat) (by
    rintro ⟨i', t1, c1⟩ ⟨i1, rfl, hi, hd⟩
    simp only at hd ⊢
    unfold r08_Align_l9
    cases i1 with
    | zero => exact .inr ⟨(t1, c1), oif (decide_eq_false (by omega)) rfl, hd⟩
    | succ i =>
      rw [show (((i + 1 : Nat) : Int) - 1) = (i : Int) by omega]
      obtain ⟨t2, c2, e2, h2⟩ := ral12 N hN a b ha hb (by omega : i ≤ a.length) t1 c1 hd
      exact .inl ⟨((i : Int) - 1, t2, c2), oit (decide_eq_true (by omega)) (obi e2 (obi (in64_ok (by omega)) rfl)), ⟨i, rfl, by omega, h2⟩, by simp only; omega⟩) N ((a.length : Int), t, c) ⟨a.length + 1, by simp only; omega, by omega, h⟩ (by simp only; omega)
  exact ⟨r.1, r.2, hr, hQ⟩
theorem ral14 (N : Nat) (hN : 200 ≤ N) (a b : List Int) (ha : a.length ≤ 96) (hb : b.length ≤ 96) (t c : List (List Int)) (h : Done a b (-1) t c 0 (b.length + 1)) : ∃ s, iterN (fun s : Int × Int × List Int => r08_Align_l14 N a b (t, c) s.1 s.2.1 s.2.2) N (0, 0, []) = some s ∧ Path a b 0 0 s a.length b.length (V a b 0 0) ∧ Canon a b 0 0 s := by
  obtain ⟨r, hr, hQ⟩ := iterN_run (f := fun s : Int × Int × List Int => r08_Align_l14 N a b (t, c) s.1 s.2.1 s.2.2)
    (I := fun s => ∃ i j x : Nat, s.1 = i ∧ s.2.1 = j ∧ i ≤ a.length ∧ j ≤ b.length ∧ Path a b 0 0 s.2.2 i j x ∧ x + V a b i j = V a b 0 0 ∧ ∀ s', Canon a b i j s' → Canon a b 0 0 (s.2.2 ++ s'))
    (Q := fun r => Path a b 0 0 r a.length b.length (V a b 0 0) ∧ Canon a b 0 0 r)
    (fun s => (a.length - s.1.toNat) + (b.length - s.2.1.toNat)) (by
    rintro ⟨i', j', l⟩ ⟨i, j, x, rfl, rfl, hi, hj, hp, hx, hcn⟩
    simp only at hp hcn ⊢
    unfold r08_Align_l14
    by_cases hend : i = a.length ∧ j = b.length
    · obtain ⟨rfl, rfl⟩ := hend
      rw [V_end] at hx
      refine .inr ⟨l, oif (borF (decide_eq_false (by omega)) (decide_eq_false (by omega))) rfl, by rw [← hx]; exact hp, ?_⟩
      have := hcn [] Canon.nil
      simpa using this
    · obtain ⟨_, hf⟩ := h.done i j hi hj (by omega)
      have hf := hf hend
      obtain ⟨x', y', z', hst, hxy⟩ := edit_ok N a b (i := i) (j := j) (by omega) (by omega) (cell c i j)
      rw [hf.ok] at hst
      obtain ⟨rfl, rfl, rfl⟩ := hxy hf.ok
      have hrg := ok_range hf.ok hi hj
      have hm := hp.mono
      have hbest := hf.best
      refine .inl ⟨(((i + di (cell c i j) : Nat) : Int), ((j + dj (cell c i j) : Nat) : Int), l ++ [cell c i j]), oit ?_ (obi (idx_row h.sc hi) (obi (idx_cell h.sc hi hj) (obi (app_ok (by simp; omega) (by simp; omega)) (obi hst rfl)))), ⟨i + di (cell c i j), j + dj (cell c i j), x + cst (cell c i j), rfl, rfl, hrg.2.1, hrg.2.2.1, hp.trans (Path.one hf.ok), by omega, ?_⟩, by simp only; omega⟩
      · simp only [Bool.or_eq_true, decide_eq_true_eq]; omega
      · intro s' hs'
        rw [List.append_assoc]
        exact hcn _ (Canon.cons hf hs')) N (0, 0, []) ⟨0, 0, 0, rfl, rfl, by omega, by omega, Path.nil _ _, by omega, fun s' h => h⟩ (by simp; omega)
  exact ⟨r, hr, hQ⟩
theorem ralign_ok (N : Nat) (hN : 200 ≤ N) (a b : List Int) (ha : a.length ≤ 96) (hb : b.length ≤ 96) : ∃ s, r08_Align N a b = some (s, ((V a b 0 0 : Nat) : Int), 0) ∧ Path a b 0 0 s a.length b.length (V a b 0 0) ∧ Canon a b 0 0 s := by
  obtain ⟨t, et, st, ct⟩ := rtable_ok N hN a b ha hb
  obtain ⟨t2, c2, e2, h2⟩ := ral9 N hN a b ha hb t t ⟨st, st, fun k l hk hl h => by omega, fun k l hk hl _ => ct k l hk hl⟩
  obtain ⟨s, es, hp, hc⟩ := ral14 N hN a b ha hb t2 c2 h2
  refine ⟨s, ?_, hp, hc⟩
  have h00 := (h2.done 0 0 (by omega) (by omega) (by omega)).1
  unfold r08_Align
  exact obi (rlong_ok N a b ha hb) (oif rfl (obi et (obi et (obi e2 (obi es (obi (idx_row (i := 0) h2.st (by omega)) (obi (idx_cell (i := 0) (j := 0) h2.st (by omega) (by omega)) (congrArg some (Prod.ext rfl (Prod.ext h00 rfl))))))))))

theorem rcost_ok (N : Nat) (hN : 200 ≤ N) (a b s : List Int) (ha : a.length ≤ 96) (hb : b.length ≤ 96) : r08_Cost N a b s = some (costF a b 0 0 0 s) := by
  obtain ⟨r, hr, hQ⟩ := iterN_run (f := fun q : Int × Int × Int × Int => r08_Cost_l1 N a b s q.1 q.2.1 q.2.2.1 q.2.2.2)
    (I := fun q => ∃ i j c x : Nat, q = ((i : Int), (j : Int), (c : Int), (x : Int)) ∧ i ≤ a.length ∧ j ≤ b.length ∧ c ≤ 4 * x ∧ x ≤ i + j ∧ x ≤ s.length ∧ costF a b 0 0 0 s = costF a b i j c (s.drop x))
    (Q := fun r => (∃ p, r = .inl p ∧ costF a b 0 0 0 s = p) ∨ ∃ i j c : Nat, r = .inr ((i : Int), (j : Int), (c : Int)) ∧ costF a b 0 0 0 s = costF a b i j c [])
    (fun q => (a.length - q.1.toNat) + (b.length - q.2.1.toNat)) (by
    rintro q ⟨i, j, c, x, rfl, hi, hj, hc, hx, hxs, hf⟩
    simp only
    unfold r08_Cost_l1
    by_cases hl : x < s.length
    · rw [List.drop_eq_getElem_cons hl, costF_cons a b i j c s[x]] at hf
      obtain ⟨x', y', z', hst, hxy⟩ := edit_ok N a b (i := i) (j := j) (by omega) (by omega) s[x]
      cases ho : okE a b i j s[x] with
      | false =>
        rw [ho] at hst hf
        exact .inr ⟨.inl (0, 1), oit (decide_eq_true (by omega)) (obi (idx_nat hl) (obi hst (oit rfl rfl))), .inl ⟨_, rfl, hf⟩⟩
      | true =>
        rw [ho] at hst hf
        obtain ⟨rfl, rfl, rfl⟩ := hxy ho
        have hrg := ok_range ho hi hj
        exact .inl ⟨(((i + di s[x] : Nat) : Int), ((j + dj s[x] : Nat) : Int), ((c + cst s[x] : Nat) : Int), ((x + 1 : Nat) : Int)), oit (decide_eq_true (by omega)) (obi (idx_nat hl) (obi hst (oif rfl (obi (in64_nat (by simp only; omega) (by omega)) (obi (inc_nat (by omega)) rfl))))), ⟨_, _, _, _, rfl, hrg.2.1, hrg.2.2.1, by omega, by omega, hl, hf⟩, by simp only; omega⟩
    · have : s.drop x = [] := List.drop_of_length_le (by omega)
      rw [this] at hf
      exact .inr ⟨.inr ((i : Int), (j : Int), (c : Int)), oif (decide_eq_false (by omega)) rfl, .inr ⟨i, j, c, rfl, hf⟩⟩) N (0, 0, 0, 0) ⟨0, 0, 0, 0, rfl, by omega, by omega, by omega, by omega, by omega, rfl⟩ (by simp; omega)
  unfold r08_Cost
  rcases hQ with ⟨p, rfl, hp⟩ | ⟨i, j, c, rfl, hp⟩
  · exact obi (rlong_ok N a b ha hb) (oif rfl (obi hr (congrArg some hp.symm)))
  · refine obi (rlong_ok N a b ha hb) (oif rfl (obi hr ?_))
    rw [hp]; unfold costF
    by_cases h : i = a.length ∧ j = b.length
    · rw [if_pos h]
      exact oif (borF (bnotIf (decide_eq_true (by simp only; omega))) (bnotIf (decide_eq_true (by simp only; omega)))) rfl
    · rw [if_neg h]
      refine oit ?_ rfl
      simp only [Bool.or_eq_true, Bool.not_eq_true', decide_eq_false_iff_not]
      omega

theorem rpot13 (N : Nat) (hN : 200 ≤ N) (a b : List Int) (ha : a.length ≤ 96) (hb : b.length ≤ 96) {i j : Nat} (hi : i ≤ a.length) (hj : j ≤ b.length) (t : List (List Int)) (h : PInv a b (-1) t i j 0) : ∃ t', iterN (fun s : Int × List (List Int) => r08_Potential_l13 N a b i j s.1 s.2) N (0, t) = some t' ∧ PInv a b (-1) t' i (j + 1) 0 := by
  obtain ⟨r, hr, hQ⟩ := iterN_run (f := fun s : Int × List (List Int) => r08_Potential_l13 N a b i j s.1 s.2)
    (I := fun s => ∃ e : Nat, s.1 = e ∧ e ≤ 5 ∧ PInv a b (-1) s.2 i j e)
    (Q := fun r => PInv a b (-1) r i j 5)
    (fun s => 5 - s.1.toNat) (by
    rintro ⟨e', t1⟩ ⟨e, rfl, he, hp⟩
    simp only at hp ⊢
    unfold r08_Potential_l13
    by_cases h5 : e < 5
    · obtain ⟨x, y, z, hst, hxy⟩ := edit_ok N a b (i := i) (j := j) (by omega) (by omega) (e : Int)
      cases ho : okE a b i j e with
      | false =>
        rw [ho] at hst
        exact .inl ⟨(((e + 1 : Nat) : Int), t1), oit (decide_eq_true (by omega)) (obi hst (obi (gO_F rfl) (obi (gO_F rfl) (obi (gO_F rfl) (obi (gO_F rfl) (obi (gO_F rfl) (obi (gO_F rfl) (obi (gO_F rfl) (oif rfl (obi (inc_nat (by omega)) rfl)))))))))), ⟨e + 1, rfl, h5, hp.skip ho⟩, by simp only; omega⟩
      | true =>
        rw [ho] at hst
        obtain ⟨rfl, rfl, rfl⟩ := hxy ho
        have hrg := ok_range ho hi hj
        have hbd := U_bound (a := a) (b := b) hi hj
        have hnow : cell t1 i j = U a b i j := hp.at_ hi hj (.inr ⟨rfl, Nat.le_refl _⟩)
        have hnew : in64 (cell t1 i j + ((cst e : Nat) : Int)) = some ((U a b i j + cst e : Nat) : Int) := by rw [hnow]; exact in64_nat (by omega) (by omega)
        have u := upd_set ((U a b i j + cst e : Nat) : Int) hp.st hrg.2.1 hrg.2.2.1
        have tail : (cell t1 (i + di e) (j + dj e) < 0 ∨ ((U a b i j + cst e : Nat) : Int) < cell t1 (i + di e) (j + dj e)) → ∃ s' : Int × List (List Int), (Option.bind (idx t1 ((i + di e : Nat) : Int)) fun x3107 => Option.bind (idx t1 (i : Int)) fun x3112 => Option.bind (idx x3112 (j : Int)) fun x3117 => Option.bind (in64 (x3117 + ((cst e : Nat) : Int))) fun x3120 => Option.bind (idx x3107 ((j + dj e : Nat) : Int)) fun x3123 => Option.bind (in64 ((e : Int) + 1)) fun x3128 => (some (.inl (x3128, (List.set t1 (Int.toNat ((i + di e : Nat) : Int)) (List.set x3107 (Int.toNat ((j + dj e : Nat) : Int)) x3120)))) : Option ((Int × List (List Int)) ⊕ (List (List Int))))) = some (.inl s') ∧ (∃ e2 : Nat, s'.1 = e2 ∧ e2 ≤ 5 ∧ PInv a b (-1) s'.2 i j e2) ∧ 5 - s'.1.toNat < 5 - (e : Int).toNat := by
          intro hlt
          refine ⟨(((e + 1 : Nat) : Int), t1.set (i + di e) ((t1.getD (i + di e) []).set (j + dj e) ((U a b i j + cst e : Nat) : Int))), obi (idx_row hp.st hrg.2.1) (obi (idx_row hp.st hi) (obi (idx_cell hp.st hi hj) (obi hnew (obi (idx_cell hp.st hrg.2.1 hrg.2.2.1) (obi (inc_nat (by omega)) (by simp only [Int.toNat_natCast])))))), ⟨e + 1, rfl, h5, hp.take hi hj ho u rfl fun x hx => by omega⟩, by simp only; omega⟩
        by_cases hneg : cell t1 (i + di e) (j + dj e) < 0
        · obtain ⟨s', h1, h2, h3⟩ := tail (.inl hneg)
          exact .inl ⟨s', oit (decide_eq_true (by omega)) (obi hst (obi (gO_T rfl (idx_row hp.st hrg.2.1)) (obi (gO_T rfl (idx_cell hp.st hrg.2.1 hrg.2.2.1)) (obi (gO_F (bandF2 (bnotIf (decide_eq_true hneg)))) (obi (gO_F (bandF2 (bnotIf (decide_eq_true hneg)))) (obi (gO_F (bandF2 (bnotIf (decide_eq_true hneg)))) (obi (gO_F (bandF2 (bnotIf (decide_eq_true hneg)))) (obi (gO_F (bandF2 (bnotIf (decide_eq_true hneg)))) (oit (band rfl (borT (decide_eq_true hneg))) h1))))))))), h2, h3⟩
        · have g : (true && !decide (cell t1 (i + di e) (j + dj e) < 0)) = true := band rfl (bnotIt (decide_eq_false hneg))
          by_cases hlt : ((U a b i j + cst e : Nat) : Int) < cell t1 (i + di e) (j + dj e)
          · obtain ⟨s', h1, h2, h3⟩ := tail (.inr hlt)
            exact .inl ⟨s', oit (decide_eq_true (by omega)) (obi hst (obi (gO_T rfl (idx_row hp.st hrg.2.1)) (obi (gO_T rfl (idx_cell hp.st hrg.2.1 hrg.2.2.1)) (obi (gO_T g (idx_row hp.st hi)) (obi (gO_T g (idx_cell hp.st hi hj)) (obi (gO_T g hnew) (obi (gO_T g (idx_row hp.st hrg.2.1)) (obi (gO_T g (idx_cell hp.st hrg.2.1 hrg.2.2.1)) (oit (band rfl (borT2 (decide_eq_true hlt))) h1))))))))), h2, h3⟩
          · exact .inl ⟨(((e + 1 : Nat) : Int), t1), oit (decide_eq_true (by omega)) (obi hst (obi (gO_T rfl (idx_row hp.st hrg.2.1)) (obi (gO_T rfl (idx_cell hp.st hrg.2.1 hrg.2.2.1)) (obi (gO_T g (idx_row hp.st hi)) (obi (gO_T g (idx_cell hp.st hi hj)) (obi (gO_T g hnew) (obi (gO_T g (idx_row hp.st hrg.2.1)) (obi (gO_T g (idx_cell hp.st hrg.2.1 hrg.2.2.1)) (oif (bandF2 (borF (decide_eq_false hneg) (decide_eq_false hlt))) (obi (inc_nat (by omega)) rfl)))))))))), ⟨e + 1, rfl, h5, hp.keep (v := cell t1 (i + di e) (j + dj e)) hi hj ho (Upd.same hp.st) rfl (by omega) (by omega)⟩, by simp only; omega⟩
    · obtain rfl : e = 5 := by omega
      exact .inr ⟨t1, oif (decide_eq_false (by omega)) rfl, hp⟩) N (0, t) ⟨0, rfl, by omega, h⟩ (by simp; omega)
  exact ⟨r, hr, hQ.weak fun i' j' e' _ _ hb _ _ => by unfold Bef at *; omega⟩
theorem rpot12 (N : Nat) (hN : 200 ≤ N) (a b : List Int) (ha : a.length ≤ 96) (hb : b.length ≤ 96) {i : Nat} (hi : i ≤ a.length) (t : List (List Int)) (h : PInv a b (-1) t i 0 0) : ∃ t', iterN (fun s : Int × List (List Int) => r08_Potential_l12 N a b i s.1 s.2) N (0, t) = some t' ∧ PInv a b (-1) t' (i + 1) 0 0 := by
  obtain ⟨r, hr, hQ⟩ := iterN_run (f := fun s : Int × List (List Int) => r08_Potential_l12 N a b i s.1 s.2)
    (I := fun s => ∃ j : Nat, s.1 = j ∧ j ≤ b.length + 1 ∧ PInv a b (-1) s.2 i j 0)
    (Q := fun r => PInv a b (-1) r i (b.length + 1) 0)
    (fun s => b.length + 1 - s.1.toNat) (by
    rintro ⟨j', t1⟩ ⟨j, rfl, hj, hp⟩
    simp only at hp ⊢
    unfold r08_Potential_l12
    by_cases hc : j < b.length + 1
    · obtain ⟨t2, e2, h2⟩ := rpot13 N hN a b ha hb hi (by omega : j ≤ b.length) t1 hp
      exact .inl ⟨(((j + 1 : Nat) : Int), t2), oit (decide_eq_true (by omega)) (obi e2 (obi (inc_nat (by omega)) rfl)), ⟨j + 1, rfl, hc, h2⟩, by simp only; omega⟩
    · obtain rfl : j = b.length + 1 := by omega
      exact .inr ⟨t1, oif (decide_eq_false (by omega)) rfl, hp⟩) N (0, t) ⟨0, rfl, by omega, h⟩ (by simp; omega)
  exact ⟨r, hr, hQ.weak fun i' j' e' _ _ hb _ _ => by unfold Bef at *; omega⟩
theorem rpot_ok (N : Nat) (hN : 200 ≤ N) (a b : List Int) (ha : a.length ≤ 96) (hb : b.length ≤ 96) : ∃ p, r08_Potential N a b = some (p, 0) ∧ Shape a.length b.length p ∧ ∀ k l, k ≤ a.length → l ≤ b.length → cell p k l = U a b k l := by
  obtain ⟨t, et, st, ct⟩ := rtable_ok N hN a b ha hb
  have u := upd_set (i := 0) (j := 0) 0 st (Nat.zero_le _) (Nat.zero_le _)
  have h0 : PInv a b (-1) (t.set 0 ((t.getD 0 []).set 0 0)) 0 0 0 := by
    refine ⟨u.shape, u.here, fun k l hk hl => ?_⟩
    have hno : ∀ {i' j' : Nat} {e' : Int}, okE a b i' j' e' = true → i' ≤ a.length → j' ≤ b.length → ¬ Bef 0 0 0 i' j' e' := fun ho hi hj hb => by
      have := ok_range ho hi hj
      unfold Bef at hb; omega
    by_cases hkl : k = 0 ∧ l = 0
    · obtain ⟨rfl, rfl⟩ := hkl
      exact .inr ⟨0, u.here, by rw [U_zero]; exact Nat.le_refl _, fun i' j' e' hi hj hb ho => absurd hb (hno ho hi hj)⟩
    · exact .inl ⟨by rw [u.else_ k l hkl]; exact ct k l hk hl, hkl, fun i' j' e' hi hj hb ho => absurd hb (hno ho hi hj)⟩
  obtain ⟨r, hr, hQ⟩ := iterN_run (f := fun s : Int × List (List Int) => r08_Potential_l9 N a b s.1 s.2)
    (I := fun s => ∃ i : Nat, s.1 = i ∧ i ≤ a.length + 1 ∧ PInv a b (-1) s.2 i 0 0)
    (Q := fun r => PInv a b (-1) r (a.length + 1) 0 0)
    (fun s => a.length + 1 - s.1.toNat) (by
    rintro ⟨i', t1⟩ ⟨i, rfl, hi, hp⟩
    simp only at hp ⊢
    unfold r08_Potential_l9
    by_cases hc : i < a.length + 1
    · obtain ⟨t2, e2, h2⟩ := rpot12 N hN a b ha hb (by omega : i ≤ a.length) t1 hp
      exact .inl ⟨(((i + 1 : Nat) : Int), t2), oit (decide_eq_true (by omega)) (obi e2 (obi (inc_nat (by omega)) rfl)), ⟨i + 1, rfl, hc, h2⟩, by simp only; omega⟩
    · obtain rfl : i = a.length + 1 := by omega
      exact .inr ⟨t1, oif (decide_eq_false (by omega)) rfl, hp⟩) N (0, t.set 0 ((t.getD 0 []).set 0 0)) ⟨0, rfl, by omega, h0⟩ (by simp; omega)
  refine ⟨r, ?_, hQ.st, fun k l hk hl => hQ.at_ hk hl (.inl (by omega))⟩
  unfold r08_Potential
  exact obi (rlong_ok N a b ha hb) (oif rfl (obi et (obi (idx_row (i := 0) st (Nat.zero_le _)) (obi (idx_cell (i := 0) (j := 0) st (Nat.zero_le _) (Nat.zero_le _)) (obi hr rfl)))))
end Go.Gv
