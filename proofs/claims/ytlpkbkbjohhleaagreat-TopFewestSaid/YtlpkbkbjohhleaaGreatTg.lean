/- The jobs that the maker makes. -/
import Derived.Test.YtlpkbkbjohhleaaGreatTf
namespace Go.Gv
theorem it_app {b : List T_Item} {x : T_Item} {j : Nat} : it (b ++ [x]) j = if j < b.length then it b j else if j = b.length then x else default := getD_app
theorem gD_T {α : Type} {g : Bool} {d : α} {m : Option α} {x : α} (hg : g = true) (h : m = some x) : gD g d m = some x := by subst hg; exact h
theorem gD_F {α : Type} {g : Bool} {d : α} {m : Option α} (hg : g = false) : gD g d m = some d := by subst hg; rfl
/-- the items that are made -/
structure MadeI (l : List T_Item) (r : Int) : Prop where
  tr : ∀ i, i < l.length → 0 ≤ (it l i).Train ∧ (it l i).Train ≤ 2
  bl : ∀ i, i < l.length → 0 ≤ (it l i).Block ∧ (it l i).Block ≤ 5
  rd : ∀ i, i < l.length → 0 ≤ (it l i).Round ∧ (it l i).Round ≤ r
  le : ∀ i, i < l.length → 80 ≤ (it l i).Length ∧ (it l i).Length ≤ 262
  as : ∀ i j, i < j → j < l.length → (it l i).Round ≤ (it l j).Round
theorem MadeI.snoc {l : List T_Item} {r r' : Int} (M : MadeI l r) (hr : r ≤ r') (h0 : 0 ≤ r') {x : T_Item} (h1 : 0 ≤ x.Train ∧ x.Train ≤ 2) (h2 : 0 ≤ x.Block ∧ x.Block ≤ 5) (h3 : x.Round = r') (h4 : 80 ≤ x.Length ∧ x.Length ≤ 262) : MadeI (l ++ [x]) r' := by
  have key : ∀ (P : T_Item → Prop), (∀ i, i < l.length → P (it l i)) → P x → ∀ i, i < (l ++ [x]).length → P (it (l ++ [x]) i) := fun P hl hx i hi => by
    simp only [List.length_append, List.length_cons, List.length_nil] at hi
    rw [it_app]
    by_cases h : i < l.length
    · rw [if_pos h]; exact hl i h
    · rw [if_neg h, if_pos (by omega)]; exact hx
  refine ⟨key (fun y => 0 ≤ y.Train ∧ y.Train ≤ 2) M.tr h1, key (fun y => 0 ≤ y.Block ∧ y.Block ≤ 5) M.bl h2, key (fun y => 0 ≤ y.Round ∧ y.Round ≤ r') (fun i hi => by have := M.rd i hi; omega) (by omega), key (fun y => 80 ≤ y.Length ∧ y.Length ≤ 262) M.le h4, fun i j hij hj => ?_⟩
  simp only [List.length_append, List.length_cons, List.length_nil] at hj
  rw [it_app, it_app, if_pos (by omega)]
  by_cases h : j < l.length
  · rw [if_pos h]; exact M.as i j hij h
  · rw [if_neg h, if_pos (by omega)]
    have := M.rd i (by omega)
    omega
theorem items_made {N : Nat} (hN : 5000 ≤ N) (t : List Int) {n : Nat} (hn : n ≤ 14) : ∃ (k : Int) (l : List T_Item), Maker_Items N t 0 (n : Int) = some (k, l) ∧ 0 ≤ k ∧ k ≤ 1000 ∧ MadeI l 4 ∧ l.length ≤ n := by
  obtain ⟨a, ha, a1, a2⟩ := next_ok N t (k := 0) (n := 4) (by decide) (by decide) (by decide) (by decide)
  obtain ⟨b, hb, b1, b2⟩ := next_ok N t (k := 0 + 1) (n := 3) (by decide) (by decide) (by decide) (by decide)
  obtain ⟨c, hc, c1, c2⟩ := next_ok N t (k := 0 + 1 + 1) (n := 6) (by decide) (by decide) (by decide) (by decide)
  obtain ⟨d, hd, d1, d2⟩ := next_ok N t (k := 0 + 1 + 1 + 1) (n := (n : Int) + 1) (by decide) (by decide) (by omega) (by omega)
  obtain ⟨q, hq, k1, k2, k3, k4⟩ := iterN_run (f := fun s : Int × Int × Int × List T_Item => Maker_Items_l1 N t (0 + 1, a) (1 + b) (1 + c) s.1 s.2.1 s.2.2.1 s.2.2.2)
    (I := fun s => 0 ≤ s.1 ∧ s.1 ≤ 4 ∧ 0 ≤ s.2.1 ∧ s.2.1 + s.2.2.2.length ≤ n ∧ 0 ≤ s.2.2.1 ∧ s.2.2.1 ≤ 10 + 10 * s.2.2.2.length ∧ MadeI s.2.2.2 s.1)
    (Q := fun q => 0 ≤ q.1 ∧ q.1 ≤ 1000 ∧ MadeI q.2 4 ∧ q.2.length ≤ n) (fun s => s.2.1.toNat) (by
    rintro ⟨r, m, k, l⟩ ⟨h1, h2, h3, h4, h5, h6, M⟩
    simp only at h1 h2 h3 h4 h5 h6 M ⊢
    by_cases hm : 0 < m
    · left
      have rest : ∀ (r' k' : Int), r ≤ r' → r' ≤ 4 → 0 ≤ k' → k' ≤ k + 2 → ∃ s', (Option.bind (Maker_Next N t k' (1 + b)) fun r703 =>
          Option.bind (Maker_Next N t r703.1 (1 + c)) fun r709 =>
          Option.bind (Maker_Pick N t r709.1 ([80, 142, 199, 262])) fun r718 =>
          Option.bind (app 32 l ([(T_Item.mk r703.2 r709.2 r' r718.2)])) fun l727 =>
          Option.bind (in64 (m - 1)) fun x733 =>
          some (.inl (r', x733, r718.1, l727))) = some (.inl s' : (Int × Int × Int × List T_Item) ⊕ (Int × List T_Item)) ∧ (0 ≤ s'.1 ∧ s'.1 ≤ 4 ∧ 0 ≤ s'.2.1 ∧ s'.2.1 + s'.2.2.2.length ≤ n ∧ 0 ≤ s'.2.2.1 ∧ s'.2.2.1 ≤ 10 + 10 * s'.2.2.2.length ∧ MadeI s'.2.2.2 s'.1) ∧ s'.2.1.toNat < m.toNat := by
        intro r' k' g1 g2 g3 g4
        obtain ⟨u, hu, u1, u2⟩ := next_ok N t (k := k') (n := 1 + b) (by omega) (by omega) (by omega) (by omega)
        obtain ⟨v, hv, v1, v2⟩ := next_ok N t (k := k' + 1) (n := 1 + c) (by omega) (by omega) (by omega) (by omega)
        obtain ⟨w, hw, w1⟩ := pick_ok N t (k := k' + 1 + 1) (v := [80, 142, 199, 262]) (by omega) (by omega) (by decide) (by decide)
        have hw2 : 80 ≤ w ∧ w ≤ 262 := by
          simp only [List.mem_cons, List.not_mem_nil, or_false] at w1
          omega
        have hu2 : 0 ≤ u ∧ u ≤ 2 := by omega
        have hv2 : 0 ≤ v ∧ v ≤ 5 := by omega
        refine ⟨_, obi hu (obi hv (obi hw (obi (app_ok (by simp only [List.length_cons, List.length_nil]; omega) (by simp only [List.length_cons, List.length_nil]; omega)) (obi (in64_ok (by omega)) rfl)))), ⟨by omega, g2, by simp only; omega, ?_, by simp only; omega, ?_, M.snoc g1 (by omega) hu2 hv2 rfl hw2⟩, by simp only; omega⟩
        · simp only [List.length_append, List.length_cons, List.length_nil]; omega
        · simp only [List.length_append, List.length_cons, List.length_nil]; omega
      unfold Maker_Items_l1
      by_cases ha0 : a = 0
      · obtain ⟨e, he, e1, e2⟩ := next_ok N t (k := k) (n := 4) (by omega) (by omega) (by decide) (by decide)
        by_cases he0 : e = 0
        · obtain ⟨f, hf, f1, f2⟩ := next_ok N t (k := k + 1) (n := 3) (by omega) (by omega) (by decide) (by decide)
          obtain ⟨s', hs', hs2⟩ := rest (min (r + f) 4) (k + 1 + 1) (by omega) (by omega) (by omega) (by omega)
          refine ⟨s', oit (decide_eq_true hm) (obi (gD_T (decide_eq_true ha0) he) (obi (x := (min (r + f) 4, k + 1 + 1)) (oit (by simp only [ha0, he0]; rfl) (obi hf (obi (in64_ok (by simp only; omega)) rfl))) hs')), hs2⟩
        · obtain ⟨s', hs', hs2⟩ := rest r (k + 1) (by omega) (by omega) (by omega) (by omega)
          refine ⟨s', oit (decide_eq_true hm) (obi (gD_T (decide_eq_true ha0) he) (obi (x := (r, k + 1)) (oif (by simp only [ha0, he0]; rfl) rfl) hs')), hs2⟩
      · obtain ⟨s', hs', hs2⟩ := rest r k (by omega) (by omega) (by omega) (by omega)
        refine ⟨s', oit (decide_eq_true hm) (obi (gD_F (decide_eq_false ha0)) (obi (x := (r, k)) (oif (by simp only [ha0]; rfl) rfl) hs')), hs2⟩
    · right
      unfold Maker_Items_l1
      exact ⟨_, oif (decide_eq_false hm) rfl, h5, by simp only; omega, ⟨M.tr, M.bl, fun i hi => by have := M.rd i hi; simp only; omega, M.le, M.as⟩, by simp only; omega⟩) N (0, d, 0 + 1 + 1 + 1 + 1, [])
    ⟨Int.le_refl _, by simp only; omega, d1, by simp only [List.length_nil]; omega, by simp only; omega, by simp only; omega, ⟨fun i h => absurd h (Nat.not_lt_zero _), fun i h => absurd h (Nat.not_lt_zero _), fun i h => absurd h (Nat.not_lt_zero _), fun i h => absurd h (Nat.not_lt_zero _), fun i j _ h => absurd h (Nat.not_lt_zero _)⟩⟩ (by simp only; omega)
  refine ⟨q.1, q.2, ?_, k1, k2, k3, k4⟩
  unfold Maker_Items
  exact obi ha (obi hb (obi (in64_ok (by simp only; omega)) (obi hc (obi (in64_ok (by simp only; omega)) (obi (in64_ok (by omega)) (obi hd (obi hq rfl)))))))
theorem job_made {N : Nat} (hN : 5000 ≤ N) (t : List Int) {n : Nat} (hn : n ≤ 14) : ∃ (k : Int) (l : List T_Item) (w : Nat), Maker_Job N t 0 (n : Int) = some (k, l, (w : Int)) ∧ 0 ≤ k ∧ k ≤ 2000 ∧ MadeI l 4 ∧ l.length ≤ n ∧ w ≤ 12 := by
  obtain ⟨k, l, h, k1, k2, M, hl⟩ := items_made hN t hn
  obtain ⟨w, hw, w1⟩ := pick_ok N t (k := k) (v := [0, 1, 2, 3, 12, 12, 12]) k1 (by omega) (by decide) (by decide)
  have hw2 : 0 ≤ w ∧ w ≤ 12 := by
    simp only [List.mem_cons, List.not_mem_nil, or_false] at w1
    omega
  have e : w = (w.toNat : Int) := by omega
  refine ⟨k + 1, l, w.toNat, obi h (obi hw ?_), by omega, by omega, M, hl, by omega⟩
  rw [← e]
theorem MadeI.job {l : List T_Item} {r : Int} (M : MadeI l r) (hr : r ≤ 4) {w : Nat} (hw : w ≤ 12) (hl : l.length ≤ 14) : JobOk l w where
  len := by omega
  wt := hw
  tr := fun i hi => by have := M.tr i hi; omega
  bl := fun i hi => by have := M.bl i hi; omega
  rd := fun i hi => by have := M.rd i hi; omega
  le := fun i hi => by have := M.le i hi; omega
  as := M.as
end Go.Gv
