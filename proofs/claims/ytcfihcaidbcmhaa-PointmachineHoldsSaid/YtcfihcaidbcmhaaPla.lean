/- Switch machines: what the functions compute; the laws in plain words. -/
import Derived.Test.YtcfihcaidbcmhaaPy
namespace Go.Gv

def lB (s : Int) : Bool := decide (s = 1) || decide (s = 2)
def tB (t : Int) : Bool := decide (0 ≤ t) && decide (t ≤ 1000000000)
def vB (m : T_Machine) : Bool := ((lB m.Side && tB m.Until) && decide (0 ≤ m.Cuts)) && decide (m.Cuts ≤ 96)
def z0 : T_Machine := T_Machine.mk 0 0 0 false
theorem tB_iff {t : Int} : tB t = true ↔ 0 ≤ t ∧ t ≤ 1000000000 := by simp [tB]
theorem lB_iff {s : Int} : lB s = true ↔ s = 1 ∨ s = 2 := by simp [lB]
theorem vB_iff {m : T_Machine} : vB m = true ↔ (m.Side = 1 ∨ m.Side = 2) ∧ (0 ≤ m.Until ∧ m.Until ≤ 1000000000) ∧ 0 ≤ m.Cuts ∧ m.Cuts ≤ 96 := by
  simp only [vB, Bool.and_eq_true, lB_iff, tB_iff, decide_eq_true_eq]
  omega

theorem lies_eq (N : Nat) (s : Int) : pointmachine_lies N s = some (lB s) := rfl
theorem time_eq (N : Nat) (s : Int) : pointmachine_time N s = some (tB s) := rfl
theorem side_eq (N : Nat) (s : Int) : r25_side N s = some (lB s) := rfl
theorem rtime_eq (N : Nat) (s : Int) : r25_time N s = some (tB s) := rfl
theorem valid_eq (N : Nat) (m : T_Machine) : pointmachine_Valid N m = some (vB m) := by
  unfold pointmachine_Valid vB
  simp only [lies_eq, time_eq, gO_pure, Option.bind_some]
  cases lB m.Side <;> simp
theorem rvalid_eq (N : Nat) (m : T_Machine) : r25_Valid N m = some (vB m) := by
  unfold r25_Valid vB
  simp only [side_eq, rtime_eq, gO_pure, Option.bind_some]
  cases lB m.Side <;> simp

def throwF (m : T_Machine) (s t d : Int) : T_Machine × Int :=
  bif !(((vB m && lB s) && tB t) && tB d) then (z0, 1) else bif m.Failed then (z0, 16) else bif !decide (m.Cuts = 0) || decide (t < m.Until) then (z0, 21) else
  bif decide (m.Side = s) then (m, 0) else bif decide (1000000000 < t + d) then (z0, 4) else (T_Machine.mk s (t + d) m.Cuts m.Failed, 0)
theorem throw_eq (N : Nat) (m : T_Machine) (s t d : Int) : pointmachine_Throw N m s t d = some (throwF m s t d) := by
  unfold pointmachine_Throw throwF
  rw [valid_eq]
  simp only [lies_eq, time_eq, gO_pure, Option.bind_some]
  cases vB m <;> cases lB s <;> try rfl
  cases ht : tB t <;> cases hd : tB d <;> try rfl
  rw [tB_iff] at ht hd
  rw [in64_ok (show -9223372036854775808 ≤ t + d ∧ t + d ≤ 9223372036854775807 by omega)]
  simp only [Bool.not_true, Bool.and_self, cond_false, Option.bind_some]
  cases m.Failed <;> try rfl
  cases (!decide (m.Cuts = 0) || decide (t < m.Until)) <;> try rfl
  cases decide (m.Side = s) <;> try rfl
  cases decide (1000000000 < t + d) <;> rfl
theorem rthrow_eq (N : Nat) (m : T_Machine) (s t d : Int) : r25_Throw N m s t d = some (throwF m s t d) := by
  unfold r25_Throw throwF
  rw [rvalid_eq]
  simp only [side_eq, rtime_eq, gO_pure, Option.bind_some]
  cases hv : vB m <;> cases lB s <;> try rfl
  cases ht : tB t <;> cases hd : tB d <;> try rfl
  rw [tB_iff] at ht hd
  rw [vB_iff] at hv
  rw [in64_ok (show -9223372036854775808 ≤ t + d ∧ t + d ≤ 9223372036854775807 by omega)]
  have e1 : decide (0 < m.Cuts) = !decide (m.Cuts = 0) := by
    by_cases h : m.Cuts = 0
    · simp [h]
    · simp [h]; omega
  have e2 : decide (s = m.Side) = decide (m.Side = s) := by congr 1; exact propext eq_comm
  rw [e1, e2]
  simp only [Bool.not_true, Bool.and_self, cond_false, Option.bind_some]
  cases m.Failed <;> try rfl
  cases (!decide (m.Cuts = 0) || decide (t < m.Until)) <;> try rfl
  cases decide (m.Side = s) <;> try rfl
  cases decide (1000000000 < t + d) <;> rfl

def enterF (m : T_Machine) (t : Int) : T_Machine × Int × Int :=
  bif !(vB m && tB t) then (z0, 0, 1) else bif decide (m.Cuts = 96) then (z0, 0, 18) else
  bif decide (t < m.Until) then (T_Machine.mk m.Side m.Until (m.Cuts + 1) true, 0, 0) else (T_Machine.mk m.Side m.Until (m.Cuts + 1) m.Failed, m.Side, 0)
theorem enter_eq (N : Nat) (m : T_Machine) (t : Int) : pointmachine_Enter N m t = some (enterF m t) := by
  unfold pointmachine_Enter enterF
  rw [valid_eq]
  simp only [time_eq, gO_pure, Option.bind_some]
  cases hv : vB m <;> cases ht : tB t <;> try rfl
  rw [vB_iff] at hv
  rw [in64_ok (show -9223372036854775808 ≤ m.Cuts + 1 ∧ m.Cuts + 1 ≤ 9223372036854775807 by omega)]
  simp only [Bool.not_true, Bool.and_self, cond_false, Option.bind_some]
  cases decide (m.Cuts = 96) <;> try rfl
  cases decide (t < m.Until) <;> rfl
theorem renter_eq (N : Nat) (m : T_Machine) (t : Int) : r25_Enter N m t = some (enterF m t) := by
  rw [← enter_eq N]
  unfold pointmachine_Enter r25_Enter
  rw [valid_eq, rvalid_eq]
  rfl
def leaveF (m : T_Machine) : T_Machine × Int :=
  bif !vB m then (z0, 1) else bif decide (m.Cuts = 0) then (z0, 16) else (T_Machine.mk m.Side m.Until (m.Cuts - 1) m.Failed, 0)
theorem leave_eq (N : Nat) (m : T_Machine) : pointmachine_Leave N m = some (leaveF m) := by
  unfold pointmachine_Leave leaveF
  rw [valid_eq]
  simp only [Option.bind_some]
  cases hv : vB m <;> try rfl
  rw [vB_iff] at hv
  rw [in64_ok (show -9223372036854775808 ≤ m.Cuts - 1 ∧ m.Cuts - 1 ≤ 9223372036854775807 by omega)]
  cases decide (m.Cuts = 0) <;> rfl
theorem rleave_eq (N : Nat) (m : T_Machine) : r25_Leave N m = some (leaveF m) := by
  rw [← leave_eq N]
  unfold pointmachine_Leave r25_Leave
  rw [valid_eq, rvalid_eq]
def repairF (m : T_Machine) (s : Int) : T_Machine × Int :=
  bif !(vB m && lB s) then (z0, 1) else bif !decide (m.Cuts = 0) then (z0, 21) else (T_Machine.mk s 0 0 false, 0)
theorem repair_eq (N : Nat) (m : T_Machine) (s : Int) : pointmachine_Repair N m s = some (repairF m s) := by
  unfold pointmachine_Repair repairF
  rw [valid_eq]
  simp only [lies_eq, gO_pure, Option.bind_some]
  cases hv : vB m <;> cases lB s <;> try rfl
  by_cases h : m.Cuts = 0
  · simp [h]
  · simp [h, z0]
theorem rrepair_eq (N : Nat) (m : T_Machine) (s : Int) : r25_Repair N m s = some (repairF m s) := by
  unfold r25_Repair repairF
  rw [rvalid_eq]
  simp only [side_eq, gO_pure, Option.bind_some]
  cases hv : vB m <;> cases lB s <;> try rfl
  rw [vB_iff] at hv
  by_cases h : m.Cuts = 0
  · simp [h]
  · have : 0 < m.Cuts := by omega
    simp [h, this, z0]

theorem sane_ok : law25_sane 200 = some true := by decide +kernel

/-! Exact -/
theorem exact_rest (m : T_Machine) (s t d i : Int) (hi : i < 1000) (h0 : 0 ≤ i) :
    (Option.bind (pointmachine_Throw 200 m s t d) fun r1135 =>
 Option.bind (r25_Throw 200 m s t d) fun r1146 =>
 Option.bind (pointmachine_Enter 200 m t) fun r1157 =>
 Option.bind (r25_Enter 200 m t) fun r1168 =>
 Option.bind (gO (!(((((!decide (r1135.1 = r1146.1)) || (!decide (r1135.2 = r1146.2))) || (!decide (r1157.1 = r1168.1))) || (!decide (r1157.2.1 = r1168.2.1))) || (!decide (r1157.2.2 = r1168.2.2)))) (pointmachine_Valid 200 m)) fun r1236 =>
 Option.bind (gO (!(((((!decide (r1135.1 = r1146.1)) || (!decide (r1135.2 = r1146.2))) || (!decide (r1157.1 = r1168.1))) || (!decide (r1157.2.1 = r1168.2.1))) || (!decide (r1157.2.2 = r1168.2.2)))) (r25_Valid 200 m)) fun r1243 =>
 bif ((((((!decide (r1135.1 = r1146.1)) || (!decide (r1135.2 = r1146.2))) || (!decide (r1157.1 = r1168.1))) || (!decide (r1157.2.1 = r1168.2.1))) || (!decide (r1157.2.2 = r1168.2.2))) || (!(r1236 == r1243))) then (
 some (.inr (Sum.inl false))) else (
 Option.bind (pointmachine_Leave 200 m) fun r1253 =>
 Option.bind (r25_Leave 200 m) fun r1261 =>
 Option.bind (pointmachine_Repair 200 m s) fun r1269 =>
 Option.bind (r25_Repair 200 m s) fun r1277 =>
 bif ((((!decide (r1253.1 = r1261.1)) || (!decide (r1253.2 = r1261.2))) || (!decide (r1269.1 = r1277.1))) || (!decide (r1269.2 = r1277.2))) then (
 some (.inr (Sum.inl false))) else (
 Option.bind (in64 (i + 1)) fun x1299 =>
 some (.inl x1299)))) = (some (.inl (i + 1)) : Option (Int ⊕ (Bool ⊕ Unit))) := by
  refine obi (throw_eq 200 m s t d) (obi (rthrow_eq 200 m s t d) (obi (enter_eq 200 m t) (obi (renter_eq 200 m t) ?_)))
  refine obi (x := vB m) (by rw [valid_eq]; simp [gO]) (obi (x := vB m) (by rw [rvalid_eq]; simp [gO]) (oif (by simp) ?_))
  refine obi (leave_eq 200 m) (obi (rleave_eq 200 m) (obi (repair_eq 200 m s) (obi (rrepair_eq 200 m s) (oif (by simp) (obi (in64_ok (by omega)) rfl)))))

theorem Exact_true (m : T_Machine) (s t d : Int) : law25_PointmachineExact 200 m s t d = some true := by
  obtain ⟨q, hq, rfl⟩ := iterN_run (f := fun x : Int => law25_PointmachineExact_l1 200 m s t d x) (I := fun x => 0 ≤ x ∧ x ≤ 4) (Q := fun q => q = .inr ()) (fun x => (4 - x).toNat) (by
    rintro i ⟨h0, h4⟩
    unfold law25_PointmachineExact_l1
    by_cases h : i < 4
    · refine .inl ⟨i + 1, oit (decide_eq_true h) ?_, ⟨by omega, by omega⟩, by omega⟩
      by_cases h1 : 0 < i
      · obtain ⟨a, ha, a0, a1⟩ := place_ok 200 m.Side (n := 2) (by omega) (by omega)
        obtain ⟨b, hb, b0, b1⟩ := place_ok 200 m.Until (n := 1000000001) (by omega) (by omega)
        obtain ⟨c, hc, c0, c1⟩ := place_ok 200 m.Cuts (n := 3) (by omega) (by omega)
        obtain ⟨s', hs, s0, s1⟩ := place_ok 200 s (n := 4) (by omega) (by omega)
        obtain ⟨t', ht, t0, t1⟩ := place_ok 200 t (n := 1000000002) (by omega) (by omega)
        obtain ⟨d', hd, d0, d1⟩ := place_ok 200 d (n := 1000000000) (by omega) (by omega)
        refine obi (oit (decide_eq_true h1) (obi ha (obi (in64_ok (by omega)) (obi hb (obi hc (obi hs (obi ht (obi hd rfl)))))))) ?_
        by_cases h2 : 1 < i
        · obtain ⟨u, hu, u0, u1⟩ := place_ok 200 t (n := 3) (by omega) (by omega)
          refine obi (oit (decide_eq_true h2) (obi (in64_ok (by omega)) (obi (in64_ok (by omega)) (obi hu (obi (in64_ok (by simp only; omega)) (obi (in64_ok (by simp only; omega)) rfl)))))) ?_
          exact exact_rest _ _ _ _ i (by omega) h0
        · refine obi (oif (decide_eq_false h2) rfl) ?_
          exact exact_rest _ _ _ _ i (by omega) h0
      · refine obi (oif (decide_eq_false h1) rfl) (obi (oif (decide_eq_false (by omega)) rfl) ?_)
        exact exact_rest _ _ _ _ i (by omega) h0
    · exact .inr ⟨_, oif (decide_eq_false h) rfl, rfl⟩) 200 0 ⟨by omega, by omega⟩ (by simp)
  unfold law25_PointmachineExact
  exact obi hq (obi sane_ok rfl)

/-! Throws -/
theorem Throws_true (m : T_Machine) (at_ time : Int) : law25_PointmachineThrows 200 m at_ time = some true := by
  obtain ⟨a, ha, a0, a1⟩ := place_ok 200 m.Side (n := 2) (by omega) (by omega)
  obtain ⟨b, hb, b0, b1⟩ := place_ok 200 m.Until (n := 100000) (by omega) (by omega)
  obtain ⟨c, hc, c0, c1⟩ := place_ok 200 at_ (n := 100000) (by omega) (by omega)
  obtain ⟨d, hd, d0, d1⟩ := place_ok 200 time (n := 5000) (by omega) (by omega)
  obtain ⟨q, hq, rfl⟩ := iterN_run (f := fun x : Int => law25_PointmachineThrows_l1 200 (1 + a) b (b + c) d x) (I := fun x => 1 ≤ x ∧ x ≤ 3) (Q := fun q => q = .inr ()) (fun x => (3 - x).toNat) (by
    rintro i ⟨h0, h4⟩
    unfold law25_PointmachineThrows_l1
    by_cases h : i ≤ 2
    · have hi : lB i = true := by rw [lB_iff]; omega
      have hs : lB (1 + a) = true := by rw [lB_iff]; omega
      have tb : tB b = true := by rw [tB_iff]; omega
      have tc : tB (b + c) = true := by rw [tB_iff]; omega
      have td : tB d = true := by rw [tB_iff]; omega
      have tcd : tB (b + c + d) = true := by rw [tB_iff]; omega
      have ev : vB (T_Machine.mk (1 + a) b 0 false) = true := by rw [vB_iff]; simp only; omega
      refine .inl ⟨i + 1, oit (decide_eq_true h) (obi (throw_eq ..) ?_), ⟨by omega, by omega⟩, by omega⟩
      by_cases e : i = 1 + a
      · have e2 : ¬ (b + c < b) := by omega
        have f : throwF (T_Machine.mk (1 + a) b 0 false) i (b + c) d = (T_Machine.mk (1 + a) b 0 false, 0) := by
          unfold throwF
          rw [ev, hi, tc, td, e]
          simp only [e2, decide_false, decide_true, Bool.and_self, Bool.not_true, Bool.or_self, cond_true, cond_false]
        rw [f]
        refine obi (x := b) (oif (by simp [e]) rfl) (oif (by simp [e]) (obi (throw_eq ..) (obi (enter_eq ..) (oif ?_ (obi (in64_ok (by omega)) rfl)))))
        have hm : max (b + c) b = b + c := by omega
        simp only [hm]
        rw [f]
        have g : enterF (T_Machine.mk (1 + a) b 0 false) (b + c) = (T_Machine.mk (1 + a) b 1 false, 1 + a, 0) := by
          unfold enterF
          rw [ev, tc]
          have e3 : ¬ ((0 : Int) = 96) := by omega
          simp only [e2, e3, decide_false, Bool.and_self, Bool.not_true, cond_false]
          rfl
        rw [g]; simp [e]
      · have f : throwF (T_Machine.mk (1 + a) b 0 false) i (b + c) d = (T_Machine.mk i (b + c + d) 0 false, 0) := by
          unfold throwF
          rw [ev, hi, tc, td]
          have e1 : ¬ (1 + a = i) := fun h => e h.symm
          have e2 : ¬ (b + c < b) := by omega
          have e3 : ¬ (1000000000 < b + c + d) := by omega
          simp [e1, e2, e3]
        rw [f]
        have ev2 : vB (T_Machine.mk i (b + c + d) 0 false) = true := by rw [vB_iff]; simp only; omega
        refine obi (x := b + c + d) (oit (by simp [e]) (obi (in64_ok (by omega)) rfl)) (oif (by simp) (obi (throw_eq ..) (obi (enter_eq ..) (oif ?_ (obi (in64_ok (by omega)) rfl)))))
        have hm : max (b + c) (b + c + d) = b + c + d := by omega
        simp only [hm]
        have f2 : throwF (T_Machine.mk i (b + c + d) 0 false) i (b + c + d) d = (T_Machine.mk i (b + c + d) 0 false, 0) := by
          unfold throwF
          rw [ev2, hi, tcd, td]
          simp
        have g : enterF (T_Machine.mk i (b + c + d) 0 false) (b + c + d) = (T_Machine.mk i (b + c + d) 1 false, i, 0) := by
          unfold enterF
          rw [ev2, tcd]
          simp
        rw [f2, g]; simp
    · exact .inr ⟨_, oif (decide_eq_false h) rfl, rfl⟩) 200 1 ⟨by omega, by omega⟩ (by simp)
  unfold law25_PointmachineThrows
  exact obi ha (obi (in64_ok (by omega)) (obi hb (obi hc (obi (in64_ok (by omega)) (obi hd (obi hq (obi sane_ok rfl)))))))

/-! Repairs -/
theorem Repairs_true (cuts side : Int) : law25_PointmachineRepairs 200 cuts side = some true := by
  obtain ⟨a, ha, a0, a1⟩ := place_ok 200 cuts (n := 5) (by omega) (by omega)
  obtain ⟨b, hb, b0, b1⟩ := place_ok 200 side (n := 2) (by omega) (by omega)
  have t50 : tB 50 = true := by decide
  obtain ⟨q, hq, rfl⟩ := iterN_run (f := fun s : Int × Int × Int × Int × Bool => law25_PointmachineRepairs_l1 200 (1 + a) s.1 s.2.1 s.2.2.1 s.2.2.2.1 s.2.2.2.2)
    (I := fun s => ∃ i : Int, s = (i, 1, 100, i, decide (0 < i)) ∧ 0 ≤ i ∧ i ≤ 1 + a) (Q := fun q => q = .inr (1, 100, 1 + a, true)) (fun s => (1 + a - s.1).toNat) (by
    rintro s ⟨i, rfl, h0, h4⟩
    unfold law25_PointmachineRepairs_l1
    by_cases h : i < 1 + a
    · have ev : vB (T_Machine.mk 1 100 i (decide (0 < i))) = true := by rw [vB_iff]; simp; omega
      have g : enterF (T_Machine.mk 1 100 i (decide (0 < i))) 50 = (T_Machine.mk 1 100 (i + 1) true, 0, 0) := by
        unfold enterF
        rw [ev, t50]
        have : ¬ i = 96 := by omega
        simp [this]
      refine .inl ⟨(i + 1, 1, 100, i + 1, true), oit (decide_eq_true h) (obi (enter_eq ..) ?_), ⟨i + 1, ?_, by omega, by omega⟩, by simp only [] ; omega⟩
      · rw [g]
        exact oif (by simp) (obi (in64_ok (by omega)) rfl)
      · have : 0 < i + 1 := by omega
        simp [this]
    · have : i = 1 + a := by omega
      subst this
      have h1 : 0 < 1 + a := by omega
      exact .inr ⟨_, oif (decide_eq_false h) rfl, by simp [h1]⟩) 200 (0, 1, 100, 0, false) ⟨0, by simp, by omega, by omega⟩ (by simp only; omega)
  have t1000 : tB 1000 = true := by decide
  have t10 : tB 10 = true := by decide
  obtain ⟨q2, hq2, rfl⟩ := iterN_run (f := fun s : Int × Int × Int × Int × Bool => law25_PointmachineRepairs_l2 200 (1 + a) s.1 s.2.1 s.2.2.1 s.2.2.2.1 s.2.2.2.2)
    (I := fun s => ∃ i : Int, s = (i, 1, 100, 1 + a - i, true) ∧ 0 ≤ i ∧ i ≤ 1 + a) (Q := fun q => q = .inr (1, 100, 0, true)) (fun s => (1 + a - s.1).toNat) (by
    rintro s ⟨i, rfl, h0, h4⟩
    unfold law25_PointmachineRepairs_l2
    by_cases h : i < 1 + a
    · have ev : vB (T_Machine.mk 1 100 (1 + a - i) true) = true := by rw [vB_iff]; simp; omega
      have hz : ¬ (1 + a - i = 0) := by omega
      have l1 : lB 1 = true := by decide
      have l2 : lB 2 = true := by decide
      have g1 : throwF (T_Machine.mk 1 100 (1 + a - i) true) 2 1000 10 = (z0, 16) := by
        unfold throwF; rw [ev, l2, t1000, t10]; rfl
      have g2 : repairF (T_Machine.mk 1 100 (1 + a - i) true) 1 = (z0, 21) := by
        unfold repairF; rw [ev, l1]; simp [hz]
      have g3 : leaveF (T_Machine.mk 1 100 (1 + a - i) true) = (T_Machine.mk 1 100 (1 + a - (i + 1)) true, 0) := by
        unfold leaveF; rw [ev]; simp only [hz, decide_false, Bool.not_true, cond_false]; congr 2; omega
      refine .inl ⟨(i + 1, 1, 100, 1 + a - (i + 1), true), oit (decide_eq_true h) (obi (throw_eq ..) (obi (repair_eq ..) (obi (leave_eq ..) ?_))), ⟨i + 1, rfl, by omega, by omega⟩, by simp only; omega⟩
      rw [g1, g2, g3]
      exact oif (by simp) (obi (in64_ok (by omega)) rfl)
    · have : i = 1 + a := by omega
      subst this
      exact .inr ⟨_, oif (decide_eq_false h) rfl, by simp⟩) 200 (0, 1, 100, 1 + a, true) ⟨0, by simp, by omega, by omega⟩ (by simp only; omega)
  have ev : vB (T_Machine.mk 1 100 0 true) = true := by decide
  have ls : lB (1 + b) = true := by rw [lB_iff]; omega
  have ls' : lB (3 - (1 + b)) = true := by rw [lB_iff]; omega
  have g : repairF (T_Machine.mk 1 100 0 true) (1 + b) = (T_Machine.mk (1 + b) 0 0 false, 0) := by
    unfold repairF; rw [ev, ls]; simp
  have ev2 : vB (T_Machine.mk (1 + b) 0 0 false) = true := by rw [vB_iff]; simp only; omega
  have t0 : tB 0 = true := by decide
  have f : throwF (T_Machine.mk (1 + b) 0 0 false) (3 - (1 + b)) 0 10 = (T_Machine.mk (3 - (1 + b)) 10 0 false, 0) := by
    unfold throwF
    rw [ev2, ls', t0, t10]
    have : ¬ (1 + b = 3 - (1 + b)) := by omega
    simp [this]
  unfold law25_PointmachineRepairs
  refine obi ha (obi (in64_ok (by omega)) (obi hq (obi hq2 (obi hb (obi (in64_ok (by omega)) (obi ((repair_eq ..).trans (congrArg some g)) (obi (in64_ok (by omega)) (obi ((throw_eq ..).trans (congrArg some f)) ?_))))))))
  refine obi (x := 3 - (1 + b)) ?_ (obi (x := true) ?_ ?_)
  · simp only [decide_true, Bool.and_self, gO, cond_true]; exact in64_ok (by omega)
  · simp only [decide_true, Bool.and_self, gO, cond_true]; exact sane_ok
  · simp
end Go.Gv
