/- CutExact holds of every input. -/
import Derived.Test.YtiffggmeebajpaaPle
namespace Go.Gv

theorem pushed_at (l : List Int) {k0 : Int} (h0 : 0 ≤ k0) (h1 : k0 ≤ 1000000) (n : Nat) (hn : n ≤ 90) : ∃ k ps r, Maker_Pushed 200 l k0 n = some (k, ps, r) ∧ 0 ≤ k ∧ k ≤ k0 + 10000 ∧ good ps r := by
  obtain ⟨w, hw, w1, w2⟩ := from_ok 200 l (k := k0) (a := 1) (b := 6) (by omega) (by omega) (by omega) (by omega) (by omega)
  obtain ⟨x, hx, x1, x2⟩ := from_ok 200 l (k := k0 + 1) (a := 8) (b := 24) (by omega) (by omega) (by omega) (by omega) (by omega)
  obtain ⟨y, hy, y1, y2⟩ := from_ok 200 l (k := k0 + 1 + 1) (a := 400) (b := 1200) (by omega) (by omega) (by omega) (by omega) (by omega)
  obtain ⟨m, hm, m1, m2⟩ := next_ok 200 l (k := k0 + 1 + 1 + 1) (n := (n : Int) + 1) (by omega) (by omega) (by omega) (by omega)
  obtain ⟨m, rfl⟩ : ∃ i : Nat, m = i := ⟨m.toNat, by omega⟩
  have hR : okR (T_CutRules.mk w x y) = true := by simp [okR]; omega
  obtain ⟨q, hq, q1, q2, q3, q4⟩ := iterN_run (f := fun s : Int × Int × Int × List T_Pushed => Maker_Pushed_l1 200 l s.1 s.2.1 s.2.2.1 s.2.2.2)
    (I := fun s => (0 ≤ s.1 ∧ s.1 ≤ 3) ∧ (0 ≤ s.2.1 ∧ s.2.1 + s.2.2.2.length = m) ∧ (0 ≤ s.2.2.1 ∧ s.2.2.1 ≤ k0 + 4 + 6 * s.2.2.2.length) ∧ ∀ (j : Nat) (h : j < s.2.2.2.length), okW (T_CutRules.mk w x y) s.2.2.2[j] = true)
    (Q := fun q => 0 ≤ q.1 ∧ q.1 ≤ k0 + 4 + 6 * q.2.length ∧ (q.2.length : Int) ≤ m ∧ ∀ (j : Nat) (h : j < q.2.length), okW (T_CutRules.mk w x y) q.2[j] = true) (fun s => s.2.1.toNat) (by
    rintro ⟨t, c, k, ps⟩ ⟨⟨t1, t2⟩, ⟨c1, c2⟩, ⟨k1, k2⟩, hall⟩
    simp only at t1 t2 c1 c2 k1 k2 hall
    unfold Maker_Pushed_l1
    by_cases h : 0 < c
    · obtain ⟨u, hu, u1, u2⟩ := next_ok 200 l (k := k) (n := 2) (by omega) (by omega) (by omega) (by omega)
      obtain ⟨j, hj, j1, j2, j3, j4⟩ : ∃ j : Int × Int, (bif decide (u = 0) then (Option.bind (Maker_Next 200 l (k + 1) 4) fun r714 => some (r714.2, r714.1)) else some (t, k + 1)) = some j ∧ 0 ≤ j.1 ∧ j.1 ≤ 3 ∧ 0 ≤ j.2 ∧ j.2 ≤ k + 2 := by
        by_cases hz : u = 0
        · obtain ⟨v, hv, v1, v2⟩ := next_ok 200 l (k := k + 1) (n := 4) (by omega) (by omega) (by omega) (by omega)
          exact ⟨(v, k + 1 + 1), oit (by simpa using hz) (obi hv rfl), v1, by simp only; omega, by simp only; omega, by simp only; omega⟩
        · exact ⟨(t, k + 1), oif (by simpa using hz) rfl, t1, t2, by simp only; omega, by simp only; omega⟩
      obtain ⟨a, ha, a1⟩ := pick_ok 200 l (k := j.2) (v := [80, 142, 199, 262, 400]) (by omega) (by omega) (by simp) (by simp)
      obtain ⟨b, hb, b1⟩ := pick_ok 200 l (k := j.2 + 1) (v := [2, 4, 4, 6]) (by omega) (by omega) (by simp) (by simp)
      obtain ⟨d, hd, d1⟩ := pick_ok 200 l (k := j.2 + 1 + 1) (v := [100, 400, 800]) (by omega) (by omega) (by simp) (by simp)
      obtain ⟨g, hg, g1, g2⟩ := next_ok 200 l (k := j.2 + 1 + 1 + 1) (n := 9) (by omega) (by omega) (by omega) (by omega)
      refine .inl ⟨(j.1, c - 1, j.2 + 1 + 1 + 1 + 1, ps ++ [T_Pushed.mk a b d (decide (g = 0)) j.1]), oit (by simpa using h) (obi hu (obi hj (obi ha (obi hb (obi hd (obi hg (obi (app_ok ?_ ?_) (obi (in64_ok (by simp only; omega)) rfl)))))))), ⟨⟨j1, j2⟩, ⟨?_, ?_⟩, ⟨?_, ?_⟩, ?_⟩, ?_⟩
      · simp; omega
      · simp; omega
      · simp only; omega
      · simp; omega
      · simp only; omega
      · simp; omega
      · intro i hi
        simp only at hi ⊢
        rw [List.getElem_append]
        by_cases hlt : i < ps.length
        · rw [dif_pos hlt]; exact hall i hlt
        · rw [dif_neg hlt]
          simp only [List.mem_cons, List.not_mem_nil, or_false] at a1 b1 d1
          simp only [List.getElem_singleton, okW, Bool.and_eq_true, decide_eq_true_eq]
          omega
      · simp only; omega
    · exact .inr ⟨_, oif (by simpa using h) rfl, k1, k2, by simp only; omega, hall⟩) 200 (0, (m : Int), k0 + 1 + 1 + 1 + 1, []) ⟨⟨by simp, by simp⟩, ⟨by simp, by simp⟩, ⟨by simp only; omega, by simp; omega⟩, by simp⟩ (by simp only; omega)
  refine ⟨q.1, q.2, T_CutRules.mk w x y, ?_, q1, by omega, hR, by omega, q4⟩
  unfold Maker_Pushed
  exact obi hw (obi hx (obi hy (obi (in64_ok (by omega)) (obi hm (obi hq rfl)))))

theorem greedy_track {l : List T_Pushed} {r : T_CutRules} (g : good l r) : ∀ {cs : List T_Cut} {a e : Nat}, Greedy l r a cs e → ∀ c ∈ cs, 0 ≤ c.Track ∧ c.Track ≤ 31
  | [], _, _, _ => by simp
  | c :: cs, a, e, ⟨b, h1, h2, h3, h4⟩ => by
    intro d hd
    rcases List.mem_cons.1 hd with h | h
    · rw [h, h1]
      have hal : a < l.length := by have := h2.lt; have := h2.le; omega
      have hw := g.W a hal
      simp only [okW, Bool.and_eq_true, decide_eq_true_eq] at hw
      simp only [cutOf, List.getElem?_eq_getElem hal, Option.getD_some]
      omega
    · exact greedy_track g h4 d h

theorem exact_step (l : List Int) (i k : Int) (hi : 0 ≤ i) (hi4 : i < 4) (hk : 0 ≤ k) (hk2 : k ≤ 20000 * i) : ∃ k', law18_CutExact_l1 200 l i k = some (.inl (i + 1, k')) ∧ 0 ≤ k' ∧ k' ≤ 20000 * (i + 1) := by
  obtain ⟨k1, ps, r, hp, p0, p1, g⟩ := pushed_at l (k0 := k) hk (by omega) 12 (by omega)
  obtain ⟨z, hz, hg⟩ := rform_spec 200 g (by omega)
  have hlen := g.len
  have hzl := hg.part.le
  have hb := greedy_bounds hg
  have ht := greedy_track g hg
  have mem : ∀ {x : Int} {v : List Int} {a b : Int}, x ∈ v → (∀ y ∈ v, a ≤ y ∧ y ≤ b) → a ≤ x ∧ x ≤ b := fun h q => q _ h
  obtain ⟨j, hj, j0, j1, j2⟩ : ∃ j : Int × List T_Cut, (bif (decide (0 < i) && decide (0 < (List.length z : Int))) then (
      Option.bind (Maker_Next 200 l k1 (List.length z : Int)) fun r2406 =>
      Option.bind (Maker_Next 200 l r2406.1 6) fun r2412 =>
      bif decide (r2412.2 = 0) then (
      Option.bind (idx z r2406.2) fun x2444 =>
      Option.bind (Maker_Pick 200 l r2412.1 ([(-1), 1])) fun r2450 =>
      Option.bind (in64 (x2444.To + r2450.2)) fun x2456 =>
      Option.bind (idx z r2406.2) fun x2459 =>
      some (r2450.1, (List.set z (Int.toNat r2406.2) (T_Cut.mk x2459.From x2456 x2459.Track x2459.Engine)))) else (
      bif decide (r2412.2 = 1) then (
      Option.bind (idx z r2406.2) fun x2490 =>
      Option.bind (Maker_Pick 200 l r2412.1 ([(-1), 1])) fun r2496 =>
      Option.bind (in64 (x2490.From + r2496.2)) fun x2502 =>
      Option.bind (idx z r2406.2) fun x2505 =>
      some (r2496.1, (List.set z (Int.toNat r2406.2) (T_Cut.mk x2502 x2505.To x2505.Track x2505.Engine)))) else (
      bif decide (r2412.2 = 2) then (
      Option.bind (idx z r2406.2) fun x2512 =>
      Option.bind (in64 (x2512.Track + 1)) fun x2515 =>
      Option.bind (idx z r2406.2) fun x2518 =>
      some (r2412.1, (List.set z (Int.toNat r2406.2) (T_Cut.mk x2518.From x2518.To x2515 x2518.Engine)))) else (
      bif decide (r2412.2 = 3) then (
      Option.bind (idx z r2406.2) fun x2525 =>
      Option.bind (idx z r2406.2) fun x2528 =>
      some (r2412.1, (List.set z (Int.toNat r2406.2) (T_Cut.mk x2528.From x2528.To x2528.Track (!x2525.Engine))))) else (
      bif decide (r2412.2 = 4) then (
      Option.bind (slc z 0 r2406.2) fun l2539 =>
      Option.bind (in64 (r2406.2 + 1)) fun x2542 =>
      Option.bind (slc z x2542 (List.length z : Int)) fun l2545 =>
      Option.bind (app 32 l2539 l2545) fun l2549 =>
      some (r2412.1, l2549)) else (
      Option.bind (idx z r2406.2) fun x2555 =>
      Option.bind (in64 (x2555.From + 1)) fun x2563 =>
      Option.bind (idx z r2406.2) fun x2566 =>
      Option.bind (in64 (x2555.From + 1)) fun x2571 =>
      Option.bind (in64 (r2406.2 + 1)) fun x2580 =>
      Option.bind (slc (List.set z (Int.toNat r2406.2) (T_Cut.mk x2566.From x2563 x2566.Track x2566.Engine)) 0 x2580) fun l2583 =>
      Option.bind (in64 (r2406.2 + 1)) fun x2586 =>
      Option.bind (slc (List.set z (Int.toNat r2406.2) (T_Cut.mk x2566.From x2563 x2566.Track x2566.Engine)) x2586 (List.length (List.set z (Int.toNat r2406.2) (T_Cut.mk x2566.From x2563 x2566.Track x2566.Engine)) : Int)) fun l2589 =>
      Option.bind (app 32 [(T_Cut.mk x2571 x2555.To x2555.Track x2555.Engine)] l2589) fun l2595 =>
      Option.bind (app 32 l2583 l2595) fun l2602 =>
      some (r2412.1, l2602))))))) else (
      some (k1, z))) = some j ∧ 0 ≤ j.1 ∧ j.1 ≤ k1 + 3 ∧ j.2.length ≤ 98 := by
    by_cases hc : (decide (0 < i) && decide (0 < (z.length : Int))) = true
    · have hzp : 0 < z.length := by simp only [Bool.and_eq_true, decide_eq_true_eq] at hc; omega
      obtain ⟨n, hn, n0, n1⟩ := next_ok 200 l (k := k1) (n := z.length) (by omega) (by omega) (by omega) (by omega)
      obtain ⟨n, rfl⟩ : ∃ m : Nat, n = m := ⟨n.toNat, by omega⟩
      have hnl : n < z.length := by omega
      obtain ⟨c, hcs, c0, c1⟩ := next_ok 200 l (k := k1 + 1) (n := 6) (by omega) (by omega) (by omega) (by omega)
      obtain ⟨⟨f0, f1⟩, t0, t1⟩ := hb z[n] (List.getElem_mem hnl)
      have htr := ht z[n] (List.getElem_mem hnl)
      have hx := idx_nat hnl
      obtain ⟨q, hq, qm⟩ := pick_ok 200 l (k := k1 + 1 + 1) (v := [-1, 1]) (by omega) (by omega) (by simp) (by simp)
      have hq2 := mem (a := -1) (b := 1) qm (by simp)
      by_cases e0 : c = 0
      · exact ⟨_, oit hc (obi hn (obi hcs (oit (by simpa using e0) (obi hx (obi hq (obi (in64_ok (by simp only; omega)) (obi hx rfl))))))), by simp only; omega, by simp only; omega, by simp; omega⟩
      by_cases e1 : c = 1
      · exact ⟨_, oit hc (obi hn (obi hcs (oif (by simpa using e0) (oit (by simpa using e1) (obi hx (obi hq (obi (in64_ok (by simp only; omega)) (obi hx rfl)))))))), by simp only; omega, by simp only; omega, by simp; omega⟩
      by_cases e2 : c = 2
      · exact ⟨_, oit hc (obi hn (obi hcs (oif (by simpa using e0) (oif (by simpa using e1) (oit (by simpa using e2) (obi hx (obi (in64_ok (by omega)) (obi hx rfl)))))))), by simp only; omega, by simp only; omega, by simp; omega⟩
      by_cases e3 : c = 3
      · exact ⟨_, oit hc (obi hn (obi hcs (oif (by simpa using e0) (oif (by simpa using e1) (oif (by simpa using e2) (oit (by simpa using e3) (obi hx (obi hx rfl)))))))), by simp only; omega, by simp only; omega, by simp; omega⟩
      have hin : in64 ((n : Int) + 1) = some ((n + 1 : Nat) : Int) := by rw [in64_ok (by omega)]; simp
      by_cases e4 : c = 4
      · exact ⟨_, oit hc (obi hn (obi hcs (oif (by simpa using e0) (oif (by simpa using e1) (oif (by simpa using e2) (oif (by simpa using e3) (oit (by simpa using e4) (obi (slc_nat (a := 0) (by omega) (by omega)) (obi hin (obi (slc_nat (by omega) (by omega)) (obi (app_ok (by simp; omega) (by simp; omega)) rfl))))))))))), by simp only; omega, by simp only; omega, by simp; omega⟩
      · exact ⟨_, oit hc (obi hn (obi hcs (oif (by simpa using e0) (oif (by simpa using e1) (oif (by simpa using e2) (oif (by simpa using e3) (oif (by simpa using e4) (obi hx (obi (in64_ok (by omega)) (obi hx (obi (in64_ok (by omega)) (obi hin (obi (slc_nat (a := 0) (by omega) (by simp; omega)) (obi hin (obi (slc_nat (by simp; omega) (by simp)) (obi (app_ok (by simp; omega) (by simp; omega)) (obi (app_ok (by simp; omega) (by simp; omega)) rfl))))))))))))))))), by simp only; omega, by simp only; omega, by simp; omega⟩
    · exact ⟨_, oif (by simpa using hc) rfl, p0, by simp only; omega, by simp only; omega⟩
  obtain ⟨m, hm, m0, m1, m2⟩ : ∃ m : Int × List T_Pushed × Int, (bif (decide (i = 3) && decide (0 < (List.length ps : Int))) then (
      Option.bind (Maker_Next 200 l j.1 (List.length ps : Int)) fun r2906 =>
      Option.bind (
      Option.bind (idx ps r2906.2) fun x3081 =>
      Option.bind (idx ps r2906.2) fun x3084 =>
      Option.bind (Maker_Pick 200 l r2906.1 ([x3081.Axles, 0, 9])) fun r3090 =>
      Option.bind (Maker_Pick 200 l r3090.1 ([x3084.Length, 0, 401])) fun r3099 =>
      Option.bind (idx ps r2906.2) fun x3105 =>
      Option.bind (idx (List.set ps (Int.toNat r2906.2) (T_Pushed.mk x3105.Length r3090.2 x3105.Mass x3105.Gentle x3105.Track)) r2906.2) fun x3110 =>
      some (r3099.1, (List.set (List.set ps (Int.toNat r2906.2) (T_Pushed.mk x3105.Length r3090.2 x3105.Mass x3105.Gentle x3105.Track)) (Int.toNat r2906.2) (T_Pushed.mk r3099.2 x3110.Axles x3110.Mass x3110.Gentle x3110.Track)))) fun j3040 =>
      Option.bind (Maker_Pick 200 l j3040.1 ([r.Axles, 1, 129, 2])) fun r3176 =>
      some (r3176.1, j3040.2, r3176.2)) else (
      some (j.1, ps, r.Axles))) = some m ∧ 0 ≤ m.1 ∧ m.1 ≤ j.1 + 4 ∧ m.2.1.length = ps.length := by
    by_cases hc : (decide (i = 3) && decide (0 < (ps.length : Int))) = true
    · have hpp : 0 < ps.length := by simp only [Bool.and_eq_true, decide_eq_true_eq] at hc; omega
      obtain ⟨n, hn, n0, n1⟩ := next_ok 200 l (k := j.1) (n := ps.length) (by omega) (by omega) (by omega) (by omega)
      obtain ⟨n, rfl⟩ : ∃ m : Nat, n = m := ⟨n.toNat, by omega⟩
      have hnl : n < ps.length := by omega
      have hx := idx_nat hnl
      obtain ⟨u, hu, _⟩ := pick_ok 200 l (k := j.1 + 1) (v := [ps[n].Axles, 0, 9]) (by omega) (by omega) (by simp) (by simp)
      obtain ⟨v, hv, _⟩ := pick_ok 200 l (k := j.1 + 1 + 1) (v := [ps[n].Length, 0, 401]) (by omega) (by omega) (by simp) (by simp)
      obtain ⟨x, hx3, _⟩ := pick_ok 200 l (k := j.1 + 1 + 1 + 1) (v := [r.Axles, 1, 129, 2]) (by omega) (by omega) (by simp) (by simp)
      exact ⟨_, oit hc (obi hn (obi (obi hx (obi hx (obi hu (obi hv (obi hx (obi (idx_nat (by simp; omega)) rfl)))))) (obi hx3 rfl))), by simp only; omega, by simp only; omega, by simp⟩
    · exact ⟨_, oif (by simpa using hc) rfl, by simp only; omega, by simp only; omega, rfl⟩
  obtain ⟨x, hx, _, _⟩ := from_ok 200 l (k := m.1) (a := -1) (b := (m.2.1.length : Int)) (by omega) (by omega) (by omega) (by omega) (by omega)
  obtain ⟨y, hy, _, _⟩ := from_ok 200 l (k := m.1 + 1) (a := -1) (b := (m.2.1.length : Int) + 1) (by omega) (by omega) (by omega) (by omega) (by omega)
  refine ⟨m.1 + 1 + 1, ?_, by omega, by omega⟩
  unfold law18_CutExact_l1
  exact oit (by simpa using hi4) (obi hp (obi hz (obi hj (obi hm (obi (in64_ok (by omega)) (obi hx (obi hy (obi (exact_ok m.2.1 _ j.2 (by omega) x y) (oif rfl (obi (in64_ok (by omega)) rfl))))))))))

theorem CutExact_true (t : List Int) (l : List T_Pushed) (r : T_CutRules) (cs : List T_Cut) (a b : Int) : law18_CutExact 200 t l r cs a b = some true := by
  obtain ⟨q, hq, rfl⟩ := iterN_run (f := fun s : Int × Int => law18_CutExact_l1 200 t s.1 s.2) (I := fun s => (0 ≤ s.1 ∧ s.1 ≤ 4) ∧ 0 ≤ s.2 ∧ s.2 ≤ 20000 * s.1) (Q := fun q => q = .inr ()) (fun s => (4 - s.1).toNat) (by
    rintro ⟨i, k⟩ ⟨⟨i0, i1⟩, k0, k1⟩
    simp only at i0 i1 k0 k1
    by_cases h : i < 4
    · obtain ⟨k', hk, h0, h1⟩ := exact_step t i k i0 h k0 k1
      exact .inl ⟨_, hk, ⟨⟨by simp only; omega, by simp only; omega⟩, h0, h1⟩, by simp only; omega⟩
    · refine .inr ⟨_, ?_, rfl⟩
      unfold law18_CutExact_l1
      exact oif (by simpa using h) rfl) 200 (0, 0) ⟨⟨by simp, by simp⟩, by simp, by simp⟩ (by simp)
  unfold law18_CutExact
  refine obi rfl (obi hq ?_)
  simp only
  by_cases hc : (decide (60 < (l.length : Int)) || decide (60 < (cs.length : Int))) = true
  · rw [hc]; simp [gO]
  · have hc' : (decide (60 < (l.length : Int)) || decide (60 < (cs.length : Int))) = false := by simpa using hc
    have hl : cs.length ≤ 190 := by simp only [Bool.or_eq_false_iff, decide_eq_false_iff_not] at hc'; omega
    rw [hc', exact_ok l r cs hl a b, sane_ok]
    simp [gO]
end Go.Gv
