/- PointmachineHolds, in plain words. -/
import Derived.Test.YtcfihcaidbcmhaaPla
namespace Go.Gv

theorem holds_step (l : List Int) (hl : ∀ x ∈ l, -9223372036854775808 ≤ x ∧ x ≤ 9223372036854775807) {now i : Int} {m : T_Machine} (h0 : 0 ≤ now ∧ now ≤ 750 * i) (hi : 0 ≤ i ∧ i ≤ 121) (hs : m.Side = 1 ∨ m.Side = 2) (hu : 0 ≤ m.Until ∧ m.Until ≤ now + 800) (hc : 0 ≤ m.Cuts ∧ 2 * m.Cuts ≤ i) :
    (∃ (now' : Int) (m' : T_Machine), law25_PointmachineHolds_l1 200 l now i m.Side m.Until m.Cuts m.Failed = some (.inl (now', i + 2, m'.Side, m'.Until, m'.Cuts, m'.Failed)) ∧ i < 120 ∧ (0 ≤ now' ∧ now' ≤ 750 * (i + 2)) ∧ (m'.Side = 1 ∨ m'.Side = 2) ∧ (0 ≤ m'.Until ∧ m'.Until ≤ now' + 800) ∧ (0 ≤ m'.Cuts ∧ 2 * m'.Cuts ≤ i + 2)) ∨
    law25_PointmachineHolds_l1 200 l now i m.Side m.Until m.Cuts m.Failed = some (.inr (.inr ())) := by
  unfold law25_PointmachineHolds_l1
  by_cases hlt : i + 1 < l.length ∧ i < 120
  · left
    obtain ⟨k, rfl⟩ : ∃ k : Nat, i = k := ⟨i.toNat, by omega⟩
    obtain ⟨a, ha, a0, a1⟩ := place_ok 200 (l[k]'(by omega)) (n := 1500) (by omega) (by omega)
    obtain ⟨b, hb, b0, b1⟩ := place_ok 200 (l[k + 1]'(by omega)) (n := 4) (by omega) (by omega)
    have e1 : in64 ((k : Int) + 1) = some ((k + 1 : Nat) : Int) := in64_nat (by omega) (by omega)
    have e2 : in64 ((k : Int) + 2) = some ((k : Int) + 2) := in64_ok (by omega)
    have en : in64 (now + a) = some (now + a) := in64_ok (by omega)
    have tn : tB (now + a) = true := by rw [tB_iff]; omega
    have vm : vB m = true := by rw [vB_iff]; omega
    have pre : ∀ R : Option ((Int × Int × Int × Int × Int × Bool) ⊕ (Bool ⊕ Unit)), ∀ K : Int → Int → Option ((Int × Int × Int × Int × Int × Bool) ⊕ (Bool ⊕ Unit)), K (now + a) b = R →
        (Option.bind (in64 ((k : Int) + 1)) fun x912 => bif (decide (x912 < (List.length l : Int)) && decide ((k : Int) < 120)) then (Option.bind (idx l k) fun x920 => Option.bind (yardgen_Place 200 x920 1500) fun r923 => Option.bind (in64 (now + r923)) fun x929 =>
          Option.bind (in64 ((k : Int) + 1)) fun x946 => Option.bind (idx l x946) fun x949 => Option.bind (yardgen_Place 200 x949 4) fun r952 => K x929 r952) else (some (.inr (Sum.inr ())))) = R := by
      intro R K hK
      exact obi e1 (oit (by simp; omega) (obi (idx_nat (by omega)) (obi ha (obi en (obi e1 (obi (idx_nat (by omega)) (obi hb hK)))))))
    by_cases hb2 : b = 2
    · -- a cut enters
      have g : enterF m (now + a) = (T_Machine.mk m.Side m.Until (m.Cuts + 1) (m.Failed || decide (now + a < m.Until)), (bif decide (now + a < m.Until) then 0 else m.Side), 0) := by
        unfold enterF
        rw [vm, tn]
        have : ¬ (m.Cuts = 96) := by omega
        by_cases h : now + a < m.Until <;> simp [this, h]
      have v2 : vB (T_Machine.mk m.Side m.Until (m.Cuts + 1) (m.Failed || decide (now + a < m.Until))) = true := by rw [vB_iff]; simp only; omega
      refine ⟨now + a, T_Machine.mk m.Side m.Until (m.Cuts + 1) (m.Failed || decide (now + a < m.Until)), pre _ _ ?_, by omega, by omega, hs, by simp only; omega, by simp only; omega⟩
      subst hb2
      refine obi (x := false) (oif (by simp) (by simp)) (oif rfl (oit (by simp) (obi ((enter_eq 200 m _).trans (congrArg some g)) (obi (x := m.Cuts + 1) ?_ (oif ?_ (obi ((valid_eq ..).trans (congrArg some v2)) (oif (by simp) (obi e2 rfl))))))))
      · simp only [gO]; exact oit (by simp) (in64_ok (by omega))
      · by_cases h : now + a < m.Until
        · have : ¬ (0 = m.Side) := by omega
          simp [h, this]
        · simp [h]
    · by_cases hb3 : b = 3
      · -- a cut leaves
        subst hb3
        by_cases hz : m.Cuts = 0
        · have g : leaveF m = (z0, 16) := by unfold leaveF; rw [vm]; simp [hz]
          refine ⟨now + a, m, pre _ _ ?_, by omega, by omega, hs, by omega, by omega⟩
          refine obi (x := false) (oif (by simp) (by simp)) (oif rfl (oif (by simp) (obi ((leave_eq 200 m).trans (congrArg some g)) (oif (by simp [hz]) (obi (x := (m.Side, m.Until, m.Cuts, m.Failed)) (oif (by simp) rfl) (obi (x := true) ?_ (oif (by simp) (obi e2 rfl))))))))
          simp only [gO]; exact oit (by simp) ((valid_eq ..).trans (congrArg some vm))
        · have g : leaveF m = (T_Machine.mk m.Side m.Until (m.Cuts - 1) m.Failed, 0) := by unfold leaveF; rw [vm]; simp [hz]
          have v2 : vB (T_Machine.mk m.Side m.Until (m.Cuts - 1) m.Failed) = true := by rw [vB_iff]; simp only; omega
          refine ⟨now + a, T_Machine.mk m.Side m.Until (m.Cuts - 1) m.Failed, pre _ _ ?_, by omega, by omega, hs, by simp only; omega, by simp only; omega⟩
          refine obi (x := false) (oif (by simp) (by simp)) (oif rfl (oif (by simp) (obi ((leave_eq 200 m).trans (congrArg some g)) (oif (by simp; omega) (obi (x := (m.Side, m.Until, m.Cuts - 1, m.Failed)) (oit (by simp) rfl) (obi (x := true) ?_ (oif (by simp) (obi e2 rfl))))))))
          simp only [gO]; exact oit (by simp) ((valid_eq ..).trans (congrArg some v2))
      · -- a command
        obtain ⟨c, hcq⟩ : ∃ c, quo64 (l[k + 1]'(by omega)) 4 = some c := by
          have := hl _ (List.getElem_mem (by omega : k + 1 < l.length))
          have h4 : ((l[k + 1]'(by omega)).tdiv 4).natAbs = (l[k + 1]'(by omega)).natAbs / 4 := Int.natAbs_tdiv _ _
          exact ⟨_, quo64_ok (by omega) (by omega)⟩
        obtain ⟨d, hd, d0, d1⟩ := place_ok 200 c (n := 2) (by omega) (by omega)
        have ld : lB (1 + d) = true := by rw [lB_iff]; omega
        have t8 : tB 800 = true := by decide
        have f : ∃ (m' : T_Machine) (e : Int), throwF m (1 + d) (now + a) 800 = (m', e) ∧ (e = 0 → m.Cuts = 0 ∧ m'.Cuts = 0 ∧ (m'.Side = 1 ∨ m'.Side = 2) ∧ (0 ≤ m'.Until ∧ m'.Until ≤ now + a + 800)) := by
          cases hf : m.Failed with
          | true => exact ⟨z0, 16, by unfold throwF; rw [vm, ld, tn, t8, hf]; rfl, by simp⟩
          | false =>
            by_cases hz : m.Cuts = 0
            · by_cases hl : now + a < m.Until
              · exact ⟨z0, 21, by unfold throwF; rw [vm, ld, tn, t8, hf]; simp [hl], by simp⟩
              · by_cases hsd : m.Side = 1 + d
                · exact ⟨m, 0, by unfold throwF; rw [vm, ld, tn, t8, hf]; simp [hz, hl, hsd], fun _ => ⟨hz, hz, hs, by omega⟩⟩
                · have h9 : ¬ (1000000000 < now + a + 800) := by omega
                  exact ⟨T_Machine.mk (1 + d) (now + a + 800) m.Cuts m.Failed, 0, by unfold throwF; rw [vm, ld, tn, t8, hf]; simp [hz, hl, hsd, h9], fun _ => ⟨hz, hz, by simp only; omega, by simp only; omega⟩⟩
            · exact ⟨z0, 21, by unfold throwF; rw [vm, ld, tn, t8, hf]; simp [hz], by simp⟩
        obtain ⟨m', e, hf, hok⟩ := f
        by_cases he : e = 0
        · obtain ⟨q1, q2, q3, q4⟩ := hok he
          have v2 : vB m' = true := by rw [vB_iff]; omega
          refine ⟨now + a, m', pre _ _ ?_, by omega, by omega, q3, q4, by omega⟩
          refine obi (x := true) ?_ (oit rfl (obi (x := (e, m'.Side, m'.Until, m'.Cuts, m'.Failed)) (obi e1 (obi (idx_nat (by omega)) (obi hcq (obi hd (obi (in64_ok (by omega)) (obi ((throw_eq 200 m _ _ _).trans (congrArg some hf)) rfl)))))) (obi (x := (m'.Side, m'.Until, m'.Cuts, m'.Failed)) (oit (by simpa using he) rfl) (oif (by simp [q1, q2]) (obi (x := true) ?_ (oif (by simp [q1]) (obi e2 rfl)))))))
          · have : b = 0 ∨ b = 1 := by omega
            rcases this with rfl | rfl
            · exact oit rfl rfl
            · exact oif rfl rfl
          · simp only [gO]; exact oit (by simp [q1]) ((valid_eq ..).trans (congrArg some v2))
        · refine ⟨now + a, m, pre _ _ ?_, by omega, by omega, hs, by omega, by omega⟩
          refine obi (x := true) ?_ (oit rfl (obi (x := (e, m'.Side, m'.Until, m'.Cuts, m'.Failed)) (obi e1 (obi (idx_nat (by omega)) (obi hcq (obi hd (obi (in64_ok (by omega)) (obi ((throw_eq 200 m _ _ _).trans (congrArg some hf)) rfl)))))) (obi (x := (m.Side, m.Until, m.Cuts, m.Failed)) (oif (by simpa using he) rfl) (oif (by simp [he]) (obi (x := true) ?_ (oif (by simp) (obi e2 rfl)))))))
          · have : b = 0 ∨ b = 1 := by omega
            rcases this with rfl | rfl
            · exact oit rfl rfl
            · exact oif rfl rfl
          · simp only [gO]; exact oit (by simp) ((valid_eq ..).trans (congrArg some vm))
  · right
    exact obi (in64_ok (by omega)) (oif (by simp; omega) rfl)

theorem Holds_true (l : List Int) (hl : ∀ x ∈ l, -9223372036854775808 ≤ x ∧ x ≤ 9223372036854775807) : law25_PointmachineHolds 200 l = some true := by
  obtain ⟨q, hq, rfl⟩ := iterN_run (f := fun s : Int × Int × Int × Int × Int × Bool => law25_PointmachineHolds_l1 200 l s.1 s.2.1 s.2.2.1 s.2.2.2.1 s.2.2.2.2.1 s.2.2.2.2.2)
    (I := fun s => ∃ (now i : Int) (m : T_Machine), s = (now, i, m.Side, m.Until, m.Cuts, m.Failed) ∧ (0 ≤ now ∧ now ≤ 750 * i) ∧ (0 ≤ i ∧ i ≤ 121) ∧ (m.Side = 1 ∨ m.Side = 2) ∧ (0 ≤ m.Until ∧ m.Until ≤ now + 800) ∧ (0 ≤ m.Cuts ∧ 2 * m.Cuts ≤ i))
    (Q := fun q => q = .inr ()) (fun s => (122 - s.2.1).toNat) (by
    rintro s ⟨now, i, m, rfl, h0, hi, hs, hu, hc⟩
    rcases holds_step l hl h0 hi hs hu hc with ⟨now', m', h, h1, h2, h3, h4, h5⟩ | h
    · exact .inl ⟨_, h, ⟨now', i + 2, m', rfl, h2, by omega, h3, h4, h5⟩, by simp only; omega⟩
    · exact .inr ⟨_, h, rfl⟩) 200 (0, 0, 1, 0, 0, false) ⟨0, 0, T_Machine.mk 1 0 0 false, rfl, by omega, by omega, by simp, by simp, by simp⟩ (by simp)
  unfold law25_PointmachineHolds
  exact obi hq (obi sane_ok rfl)
end Go.Gv
