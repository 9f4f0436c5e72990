/- Crews (chapter 40): covers. -/
import Derived.Test.YthoabchofjcigaaPld
namespace Go.Gv
/-- what 'reach' marks: duties F, crews B -/
structure Rch (d : List T_Task) (c : List T_Crew) (does : List Int) (i : Nat) (F B F' B' : List Bool) : Prop where
  fl : F'.length = F.length
  bl : B'.length = B.length
  fg : ∀ k, F.getD k false = true → F'.getD k false = true
  bg : ∀ k, B.getD k false = true → B'.getD k false = true
  le : unseen B' ≤ unseen B
  me : F'.getD i false = true
  c1 : ∀ j k, j < d.length → k < c.length → F'.getD j false = true → (F.getD j false = false ∨ j = i) → ft d c j k = true → B'.getD k false = true
  c2 : ∀ k, k < c.length → B'.getD k false = true → B.getD k false = false → ∀ j : Nat, does.getD k 0 = (j : Int) → F'.getD j false = true
  c3 : ∀ j, j < d.length → F'.getD j false = true → F.getD j false = false → j ≠ i → ∃ k, k < c.length ∧ B'.getD k false = true ∧ does.getD k 0 = (j : Int)
  c4 : ∀ X Y, Clo d c does X Y → X i = true → (∀ j, j < d.length → F'.getD j false = true → F.getD j false = false → X j = true) ∧ ∀ k, k < c.length → B'.getD k false = true → B.getD k false = false → Y k = true
theorem reach_ok {N : Nat} (hN : 2000 ≤ N) {d : List T_Task} {c : List T_Crew} (v : Val d c) {does of : List Int} {x : Int} (hcon : Cons d c does of x) : ∀ (M : Nat) (F B : List Bool) (i : Nat), unseen B < M → F.length = d.length → B.length = c.length → i < d.length →
    ∃ F' B', crew_Cover_1_r N M i F c B d does = some (F', B') ∧ Rch d c does i F B F' B' := by
  intro M
  induction M with
  | zero => intro F B i h; omega
  | succ M ih =>
  intro F B i hM hF hB hi
  have hdl := v.dl
  have hcl := v.cl
  have gF0 : ∀ q, (F.set i true).getD q false = if q = i then true else F.getD q false := fun q => getD_setB (by omega)
  obtain ⟨r, hr, hQ⟩ := runN (f := fun s : Int × List Bool × List Bool => crew_Cover_1_l1 N (crew_Cover_1_r N M) i c d does s.1 s.2.1 s.2.2) c.length
    (fun q s => s.1 = q ∧ s.2.1.length = F.length ∧ s.2.2.length = B.length ∧ (∀ k, (F.set i true).getD k false = true → s.2.1.getD k false = true) ∧ (∀ k, B.getD k false = true → s.2.2.getD k false = true) ∧ unseen s.2.2 ≤ unseen B ∧
      (∀ k, k < q → k < c.length → ft d c i k = true → s.2.2.getD k false = true) ∧
      (∀ j k, j < d.length → k < c.length → s.2.1.getD j false = true → F.getD j false = false → j ≠ i → ft d c j k = true → s.2.2.getD k false = true) ∧
      (∀ k, k < c.length → s.2.2.getD k false = true → B.getD k false = false → ∀ j : Nat, does.getD k 0 = (j : Int) → s.2.1.getD j false = true) ∧
      (∀ j, j < d.length → s.2.1.getD j false = true → F.getD j false = false → j ≠ i → ∃ k, k < c.length ∧ s.2.2.getD k false = true ∧ does.getD k 0 = (j : Int)) ∧
      (∀ X Y, Clo d c does X Y → X i = true → (∀ j, j < d.length → s.2.1.getD j false = true → F.getD j false = false → X j = true) ∧ ∀ k, k < c.length → s.2.2.getD k false = true → B.getD k false = false → Y k = true))
    (fun r => Rch d c does i F B r.1 r.2) (by
    rintro k ⟨k', F1, B1⟩ hk ⟨rfl, hFl, hBl, hFg, hBg, hle, hft, h1, h2, h3, h4⟩
    simp only at hFl hBl hFg hBg hle hft h1 h2 h3 h4 ⊢
    left
    have t0 : decide ((k : Int) < (List.length c : Int)) = true := decide_eq_true (by omega)
    have e1 := idx_ck hk
    have e2 : idx B1 (k : Int) = some (B1.getD k false) := idx_getD _ (by omega)
    have e3 := idx_dk hi
    have e4 := fits_eq N (ck c k) (v.small hi)
    have e5 : idx does (k : Int) = some (does.getD k 0) := idx_getD _ (by rw [hcon.dl]; exact hk)
    unfold crew_Cover_1_l1
    cases hs : B1.getD k false with
    | true =>
      rw [hs] at e2
      refine ⟨_, oit t0 (obi e1 (obi e2 (obi (gO_F rfl) (obi (gO_F rfl) (oit rfl (obi (inc_nat (by omega)) rfl)))))), rfl, hFl, hBl, hFg, hBg, hle, fun q hq hqc hf => ?_, h1, h2, h3, h4⟩
      by_cases e : q = k
      · subst e; exact hs
      · exact hft q (by omega) hqc hf
    | false =>
    rw [hs] at e2
    cases hf : ft d c i k with
    | false =>
      have hf' : fitB (dk d i) (ck c k) = false := hf
      rw [hf'] at e4
      refine ⟨_, oit t0 (obi e1 (obi e2 (obi (gO_T rfl e3) (obi (gO_T rfl e4) (oit rfl (obi (inc_nat (by omega)) rfl)))))), rfl, hFl, hBl, hFg, hBg, hle, fun q hq hqc hf2 => ?_, h1, h2, h3, h4⟩
      by_cases e : q = k
      · subst e; rw [hf] at hf2; cases hf2
      · exact hft q (by omega) hqc hf2
    | true =>
    have hf' : fitB (dk d i) (ck c k) = true := hf
    rw [hf'] at e4
    have hBk : B.getD k false = false := by
      cases h : B.getD k false with
      | false => rfl
      | true => have := hBg k h; rw [hs] at this; cases this
    have hus := unseen_set (s := B1) (k := k) (by omega) hs
    have gB : ∀ q, (B1.set k true).getD q false = if q = k then true else B1.getD q false := fun q => getD_setB (by omega)
    have gBk : ∀ q, B1.getD q false = true → (B1.set k true).getD q false = true := fun q hq => by rw [gB]; split; rfl; exact hq
    have hmark : ∀ q, (B1.set k true).getD q false = true → q = k ∨ B1.getD q false = true := fun q hq => by
      rw [gB] at hq
      by_cases e : q = k
      · exact .inl e
      · rw [if_neg e] at hq; exact .inr hq
    -- the case in which nothing is followed
    have stay : (∀ j : Nat, does.getD k 0 = (j : Int) → F1.getD j false = true) → (F1.length = F.length ∧ (B1.set k true).length = B.length ∧ (∀ k, (F.set i true).getD k false = true → F1.getD k false = true) ∧ (∀ q, B.getD q false = true → (B1.set k true).getD q false = true) ∧ unseen (B1.set k true) ≤ unseen B ∧
      (∀ q, q < k + 1 → q < c.length → ft d c i q = true → (B1.set k true).getD q false = true) ∧
      (∀ j q, j < d.length → q < c.length → F1.getD j false = true → F.getD j false = false → j ≠ i → ft d c j q = true → (B1.set k true).getD q false = true) ∧
      (∀ q, q < c.length → (B1.set k true).getD q false = true → B.getD q false = false → ∀ j : Nat, does.getD q 0 = (j : Int) → F1.getD j false = true) ∧
      (∀ j, j < d.length → F1.getD j false = true → F.getD j false = false → j ≠ i → ∃ q, q < c.length ∧ (B1.set k true).getD q false = true ∧ does.getD q 0 = (j : Int)) ∧
      (∀ X Y, Clo d c does X Y → X i = true → (∀ j, j < d.length → F1.getD j false = true → F.getD j false = false → X j = true) ∧ ∀ q, q < c.length → (B1.set k true).getD q false = true → B.getD q false = false → Y q = true)) := fun hj => by
      refine ⟨hFl, by simp [hBl], hFg, fun q hq => gBk q (hBg q hq), by omega, fun q hq hqc hf2 => ?_, fun j q hj hq a b e f => gBk q (h1 j q hj hq a b e f), fun q hq a b j e => ?_, fun j hj a b e => ?_, fun X Y hXY hX => ⟨(h4 X Y hXY hX).1, fun q hq a b => ?_⟩⟩
      · by_cases e : q = k
        · rw [gB, if_pos e]
        · exact gBk q (hft q (by omega) hqc hf2)
      · rcases hmark q a with rfl | a'
        · exact hj j e
        · exact h2 q hq a' b j e
      · obtain ⟨q, q1, q2, q3⟩ := h3 j hj a b e
        exact ⟨q, q1, gBk q q2, q3⟩
      · rcases hmark q a with rfl | a'
        · exact hXY.1 i q hi hq hX hf
        · exact (h4 X Y hXY hX).2 q hq a' b
    rcases hcon.lo k hk with hneg | ⟨j, hj, hjd⟩
    · rw [hneg] at e5
      refine ⟨_, oit t0 (obi e1 (obi e2 (obi (gO_T rfl e3) (obi (gO_T rfl e4) (oif rfl (obi e2 (obi e5 (obi (gO_F rfl) (oif rfl (obi (inc_nat (by omega)) rfl)))))))))), rfl, stay fun j h => ?_⟩
      rw [hneg] at h; omega
    · rw [hj] at e5
      have g0 : decide (0 ≤ ((j : Nat) : Int)) = true := decide_eq_true (by omega)
      have e6 : idx F1 (j : Int) = some (F1.getD j false) := idx_getD _ (by omega)
      cases hFj : F1.getD j false with
      | true =>
        rw [hFj] at e6
        refine ⟨_, oit t0 (obi e1 (obi e2 (obi (gO_T rfl e3) (obi (gO_T rfl e4) (oif rfl (obi e2 (obi e5 (obi (gO_T g0 e6) (oif (bandF2 rfl) (obi (inc_nat (by omega)) rfl)))))))))), rfl, stay fun j' h => ?_⟩
        have : j' = j := by rw [hj] at h; omega
        rw [this]; exact hFj
      | false =>
        rw [hFj] at e6
        have hji : j ≠ i := fun e => by
          have := hFg i (by rw [gF0, if_pos rfl])
          rw [e, this] at hFj; cases hFj
        have hFj0 : F.getD j false = false := by
          cases h : F.getD j false with
          | false => rfl
          | true => have := hFg j (by rw [gF0, if_neg hji]; exact h); rw [hFj] at this; cases this
        obtain ⟨F2, B2, hrec, hR⟩ := ih F1 (B1.set k true) j (by omega) (by omega) (by simp; omega) hjd
        obtain ⟨r1, r2, r3, r4, r5, r6, r7, r8, r9, r10⟩ := hR
        have cF : ∀ q, F2.getD q false = true → F.getD q false = false → (F1.getD q false = true ∨ (F1.getD q false = false)) := fun q _ _ => by cases F1.getD q false <;> simp
        refine ⟨_, oit t0 (obi e1 (obi e2 (obi (gO_T rfl e3) (obi (gO_T rfl e4) (oif rfl (obi e2 (obi e5 (obi (gO_T g0 e6) (oit (band g0 rfl) (obi hrec (obi (inc_nat (by omega)) rfl))))))))))), rfl, by simp only; omega, by simp only; rw [r2]; simp [hBl], fun q hq => r3 q (hFg q hq), fun q hq => r4 q (gBk q (hBg q hq)), by simp only; omega, fun q hq hqc hf2 => ?_, fun j2 q hj2 hq a b e f => ?_, fun q hq a b j2 e => ?_, fun j2 hj2 a b e => ?_, fun X Y hXY hX => ⟨fun j2 hj2 a b => ?_, fun q hq a b => ?_⟩⟩
        · by_cases e : q = k
          · exact r4 q (by rw [gB, if_pos e])
          · exact r4 q (gBk q (hft q (by omega) hqc hf2))
        · rcases cF j2 a b with h | h
          · exact r4 q (gBk q (h1 j2 q hj2 hq h b e f))
          · exact r7 j2 q hj2 hq a (.inl h) f
        · by_cases h : (B1.set k true).getD q false = true
          · rcases hmark q h with rfl | h'
            · have : j2 = j := by rw [hj] at e; omega
              rw [this]; exact r6
            · exact r3 j2 (h2 q hq h' b j2 e)
          · exact r8 q hq a (by simpa using h) j2 e
        · rcases cF j2 a b with h | h
          · obtain ⟨q, q1, q2, q3⟩ := h3 j2 hj2 h b e
            exact ⟨q, q1, r4 q (gBk q q2), q3⟩
          · by_cases ej : j2 = j
            · subst ej; exact ⟨k, hk, r4 k (by rw [gB, if_pos rfl]), hj⟩
            · exact r9 j2 hj2 a h ej
        · have hXj : X j = true := by
            have hY := hXY.1 i k hi hk hX hf
            obtain ⟨j3, a1, _, a3⟩ := hXY.2 k hk hY
            have : j3 = j := by rw [hj] at a1; omega
            rw [← this]; exact a3
          rcases cF j2 a b with h | h
          · exact (h4 X Y hXY hX).1 j2 hj2 h b
          · exact (r10 X Y hXY hXj).1 j2 hj2 a h
        · have hY := hXY.1 i k hi hk hX hf
          have hXj : X j = true := by
            obtain ⟨j3, a1, _, a3⟩ := hXY.2 k hk hY
            have : j3 = j := by rw [hj] at a1; omega
            rw [← this]; exact a3
          by_cases h : (B1.set k true).getD q false = true
          · rcases hmark q h with rfl | h'
            · exact hY
            · exact (h4 X Y hXY hX).2 q hq h' b
          · exact (r10 X Y hXY hXj).2 q hq a (by simpa using h)) (by
    rintro ⟨k', F1, B1⟩ ⟨rfl, hFl, hBl, hFg, hBg, hle, hft, h1, h2, h3, h4⟩
    simp only at hFl hBl hFg hBg hle hft h1 h2 h3 h4
    refine ⟨(F1, B1), oif (decide_eq_false (by simp)) rfl, hFl, hBl, fun q hq => hFg q (by rw [gF0]; split; rfl; exact hq), hBg, hle, hFg i (by rw [gF0, if_pos rfl]), fun j k hj hk a b f => ?_, h2, h3, h4⟩
    by_cases e : j = i
    · subst e; exact hft k hk hk f
    · exact h1 j k hj hk a (b.resolve_right e) e f) N (by omega) (0, F.set i true, B)
    ⟨rfl, by simp, rfl, fun _ h => h, fun _ h => h, Nat.le_refl _, fun k h => absurd h (Nat.not_lt_zero _), fun j k hj hk a b e => (by simp only at a; rw [gF0, if_neg e, b] at a; cases a), fun k hk a b => (by simp only at a; rw [a] at b; cases b), fun j hj a b e => (by simp only at a; rw [gF0, if_neg e, b] at a; cases a), fun X Y hXY hX => ⟨fun j hj a b => (by
      simp only at a
      by_cases e : j = i
      · rw [e]; exact hX
      · rw [gF0, if_neg e, b] at a; cases a), fun k hk a b => (by simp only at a; rw [a] at b; cases b)⟩⟩
  refine ⟨r.1, r.2, ?_, hQ⟩
  rw [crew_Cover_1_r]
  exact obi (idx_getD false (show i < F.length by omega)) (obi hr rfl)
/-- duties and crews that are marked behind the search from all free duties -/
structure Cov (d : List T_Task) (c : List T_Crew) (does of : List Int) (F B : List Bool) : Prop where
  fl : F.length = d.length
  bl : B.length = c.length
  c1 : ∀ j k, j < d.length → k < c.length → F.getD j false = true → ft d c j k = true → B.getD k false = true
  c2 : ∀ k, k < c.length → B.getD k false = true → ∃ j : Nat, does.getD k 0 = (j : Int) ∧ j < d.length ∧ F.getD j false = true
  c3 : ∀ j, j < d.length → F.getD j false = true → of.getD j 0 = -1 ∨ ∃ k, k < c.length ∧ B.getD k false = true ∧ does.getD k 0 = (j : Int)
  c5 : ∀ j, j < d.length → of.getD j 0 = -1 → F.getD j false = true
def iL (n : Nat) (p : Nat → Bool) : List Int := ((List.range n).filter p).map Int.ofNat
theorem iL_succ (n : Nat) (p : Nat → Bool) : iL (n + 1) p = iL n p ++ (bif p n then [(n : Int)] else []) := by
  unfold iL
  rw [List.range_succ, List.filter_append, List.map_append]
  congr 1
  cases h : p n
  · rw [List.filter_cons, if_neg (by simp [h])]; rfl
  · rw [List.filter_cons, if_pos h]; rfl
theorem iL_len (n : Nat) (p : Nat → Bool) : (iL n p).length ≤ n := by
  unfold iL; rw [List.length_map]; exact Nat.le_trans (List.length_filter_le _ _) (by simp)
theorem cover_ok {N : Nat} (hN : 2000 ≤ N) {d : List T_Task} {c : List T_Crew} (v : Val d c) {does of : List Int} (hm : crew_match N d c = some (of, does)) (hmat : Mat d c d.length does of) :
    ∃ F B, crew_Cover N d c = some (iL d.length fun i => !F.getD i false, iL c.length fun k => B.getD k false, 0) ∧ Cov d c does of F B := by
  have hdl := v.dl
  have hcl := v.cl
  obtain ⟨hcon, _, X, Y, hXY, hX⟩ := hmat
  have hol := hcon.ol
  obtain ⟨⟨F, B⟩, hr, hFl, hBl, h1, h2, h3, h4, h5⟩ := runN (f := fun s : Int × List Bool × List Bool => crew_Cover_l1 N d c (of, does) s.1 s.2.1 s.2.2) d.length
    (fun i s => s.1 = i ∧ s.2.1.length = d.length ∧ s.2.2.length = c.length ∧
      (∀ j k, j < d.length → k < c.length → s.2.1.getD j false = true → ft d c j k = true → s.2.2.getD k false = true) ∧
      (∀ k, k < c.length → s.2.2.getD k false = true → ∀ j : Nat, does.getD k 0 = (j : Int) → s.2.1.getD j false = true) ∧
      (∀ j, j < d.length → s.2.1.getD j false = true → of.getD j 0 = -1 ∨ ∃ k, k < c.length ∧ s.2.2.getD k false = true ∧ does.getD k 0 = (j : Int)) ∧
      ((∀ j, j < d.length → s.2.1.getD j false = true → X j = true) ∧ ∀ k, k < c.length → s.2.2.getD k false = true → Y k = true) ∧
      ∀ j, j < i → of.getD j 0 = -1 → s.2.1.getD j false = true)
    (fun s => s.1.length = d.length ∧ s.2.length = c.length ∧
      (∀ j k, j < d.length → k < c.length → s.1.getD j false = true → ft d c j k = true → s.2.getD k false = true) ∧
      (∀ k, k < c.length → s.2.getD k false = true → ∀ j : Nat, does.getD k 0 = (j : Int) → s.1.getD j false = true) ∧
      (∀ j, j < d.length → s.1.getD j false = true → of.getD j 0 = -1 ∨ ∃ k, k < c.length ∧ s.2.getD k false = true ∧ does.getD k 0 = (j : Int)) ∧
      ((∀ j, j < d.length → s.1.getD j false = true → X j = true) ∧ ∀ k, k < c.length → s.2.getD k false = true → Y k = true) ∧
      ∀ j, j < d.length → of.getD j 0 = -1 → s.1.getD j false = true) (by
    rintro i ⟨i', F, B⟩ hi ⟨rfl, hFl, hBl, h1, h2, h3, h4, h5⟩
    simp only at hFl hBl h1 h2 h3 h4 h5 ⊢
    left
    have t0 : decide ((i : Int) < (List.length of : Int)) = true := decide_eq_true (by omega)
    have e1 : idx of (i : Int) = some (of.getD i 0) := idx_getD _ (by omega)
    have e2 : idx F (i : Int) = some (F.getD i false) := idx_getD _ (by omega)
    unfold crew_Cover_l1
    by_cases hneg : of.getD i 0 < 0
    · have g0 : decide (of.getD i 0 < 0) = true := decide_eq_true hneg
      have hof : of.getD i 0 = -1 := by rcases hcon.on i hi with q | ⟨k, q, _⟩ <;> omega
      cases hFi : F.getD i false with
      | true =>
        rw [hFi] at e2
        refine ⟨_, oit t0 (obi e1 (obi (gO_T g0 e2) (oif (bandF2 rfl) (obi (inc_nat (by omega)) rfl)))), rfl, hFl, hBl, h1, h2, h3, h4, fun j hj ho => ?_⟩
        by_cases e : j = i
        · subst e; exact hFi
        · exact h5 j (by omega) ho
      | false =>
        rw [hFi] at e2
        have hub : unseen B ≤ c.length := by rw [← hBl]; exact List.count_le_length
        obtain ⟨F2, B2, hrec, hR⟩ := reach_ok hN v hcon N F B i (by omega) hFl hBl hi
        obtain ⟨r1, r2, r3, r4, r5, r6, r7, r8, r9, r10⟩ := hR
        have hXi := hX i hi hi hof
        obtain ⟨x1, x2⟩ := r10 X Y hXY hXi
        refine ⟨_, oit t0 (obi e1 (obi (gO_T g0 e2) (oit (band g0 rfl) (obi hrec (obi (inc_nat (by omega)) rfl))))), rfl, by simp only; omega, by simp only; omega, fun j k hj hk a f => ?_, fun k hk a j e => ?_, fun j hj a => ?_, ⟨fun j hj a => ?_, fun k hk a => ?_⟩, fun j hj ho => ?_⟩
        · cases hFj : F.getD j false with
          | true => exact r4 k (h1 j k hj hk hFj f)
          | false => exact r7 j k hj hk a (.inl hFj) f
        · cases hBk : B.getD k false with
          | true => exact r3 j (h2 k hk hBk j e)
          | false => exact r8 k hk a hBk j e
        · cases hFj : F.getD j false with
          | true =>
            rcases h3 j hj hFj with h | ⟨k, k1, k2, k3⟩
            · exact .inl h
            · exact .inr ⟨k, k1, r4 k k2, k3⟩
          | false =>
            by_cases e : j = i
            · subst e; exact .inl hof
            · exact .inr (r9 j hj a hFj e)
        · cases hFj : F.getD j false with
          | true => exact h4.1 j hj hFj
          | false => exact x1 j hj a hFj
        · cases hBk : B.getD k false with
          | true => exact h4.2 k hk hBk
          | false => exact x2 k hk a hBk
        · by_cases e : j = i
          · subst e; exact r6
          · exact r3 j (h5 j (by omega) ho)
    · have g0 : decide (of.getD i 0 < 0) = false := decide_eq_false hneg
      refine ⟨_, oit t0 (obi e1 (obi (gO_F g0) (oif (bandF g0) (obi (inc_nat (by omega)) rfl)))), rfl, hFl, hBl, h1, h2, h3, h4, fun j hj ho => ?_⟩
      by_cases e : j = i
      · subst e; omega
      · exact h5 j (by omega) ho) (by
    rintro ⟨i', F, B⟩ ⟨rfl, hh⟩
    exact ⟨(F, B), oif (decide_eq_false (by simp only; omega)) rfl, hh⟩) N (by omega) (0, List.replicate d.length false, List.replicate c.length false)
    ⟨rfl, by simp, by simp, fun j k hj hk a => (by simp only at a; rw [getD_repB] at a; cases a), fun k hk a => (by simp only at a; rw [getD_repB] at a; cases a), fun j hj a => (by simp only at a; rw [getD_repB] at a; cases a), ⟨fun j hj a => (by simp only at a; rw [getD_repB] at a; cases a), fun k hk a => (by simp only at a; rw [getD_repB] at a; cases a)⟩, fun j h => absurd h (Nat.not_lt_zero _)⟩
  simp only at hFl hBl h1 h2 h3 h4 h5
  have l2 : iterN (fun s : Int × List Int => crew_Cover_l2 N d (F, B) s.1 s.2) N (0, []) = some (iL d.length fun i => !F.getD i false) := by
    refine runN1 (f := fun s : Int × List Int => crew_Cover_l2 N d (F, B) s.1 s.2) d.length (fun i u => u.1 = i ∧ u.2 = iL i fun i => !F.getD i false) _ ?_ ?_ N (by omega) (0, []) ⟨rfl, rfl⟩
    · rintro i ⟨i', l⟩ hi ⟨rfl, rfl⟩
      simp only
      have e1 : idx F (i : Int) = some (F.getD i false) := idx_getD _ (by omega)
      have := iL_len i fun i => !F.getD i false
      have nx := iL_succ i fun i => !F.getD i false
      unfold crew_Cover_l2
      cases hb : F.getD i false with
      | true =>
        rw [hb] at e1 nx
        exact ⟨_, oit (decide_eq_true (by omega)) (obi e1 (oif rfl (obi (inc_nat (by omega)) rfl))), rfl, by simp only; rw [nx]; simp⟩
      | false =>
        rw [hb] at e1 nx
        exact ⟨_, oit (decide_eq_true (by omega)) (obi e1 (oit rfl (obi (app_ok (by simp only [List.length_cons, List.length_nil]; omega) (by simp only [List.length_cons, List.length_nil]; omega)) (obi (inc_nat (by omega)) rfl)))), rfl, by simp only; rw [nx]; rfl⟩
    · rintro ⟨i', l⟩ ⟨rfl, rfl⟩
      exact oif (decide_eq_false (by simp)) rfl
  have l3 : iterN (fun s : Int × List Int => crew_Cover_l3 N c (F, B) s.1 s.2) N (0, []) = some (iL c.length fun k => B.getD k false) := by
    refine runN1 (f := fun s : Int × List Int => crew_Cover_l3 N c (F, B) s.1 s.2) c.length (fun i u => u.1 = i ∧ u.2 = iL i fun k => B.getD k false) _ ?_ ?_ N (by omega) (0, []) ⟨rfl, rfl⟩
    · rintro i ⟨i', l⟩ hi ⟨rfl, rfl⟩
      simp only
      have e1 : idx B (i : Int) = some (B.getD i false) := idx_getD _ (by omega)
      have := iL_len i fun k => B.getD k false
      have nx := iL_succ i fun k => B.getD k false
      unfold crew_Cover_l3
      cases hb : B.getD i false with
      | false =>
        rw [hb] at e1 nx
        exact ⟨_, oit (decide_eq_true (by omega)) (obi e1 (oif rfl (obi (inc_nat (by omega)) rfl))), rfl, by simp only; rw [nx]; simp⟩
      | true =>
        rw [hb] at e1 nx
        exact ⟨_, oit (decide_eq_true (by omega)) (obi e1 (oit rfl (obi (app_ok (by simp only [List.length_cons, List.length_nil]; omega) (by simp only [List.length_cons, List.length_nil]; omega)) (obi (inc_nat (by omega)) rfl)))), rfl, by simp only; rw [nx]; rfl⟩
    · rintro ⟨i', l⟩ ⟨rfl, rfl⟩
      exact oif (decide_eq_false (by simp)) rfl
  refine ⟨F, B, ?_, hFl, hBl, h1, fun k hk a => ?_, h3, h5⟩
  · unfold crew_Cover
    refine obi (check_eq hN d c) ?_
    rw [vC_zero.2 v]
    exact oif rfl (obi hm (obi (obi (mk1 (by omega)) (obi (mk1 (by omega)) rfl)) (obi hr (obi l2 (obi l3 rfl)))))
  · obtain ⟨j, a1, a2, a3⟩ := hXY.2 k hk (h4.2 k hk a)
    exact ⟨j, a1, a2, h2 k hk a j a1⟩
theorem cover_bad {N : Nat} (hN : 2000 ≤ N) {d : List T_Task} {c : List T_Crew} (h : vC d c ≠ 0) : crew_Cover N d c = some ([], [], vC d c) := obi (check_eq hN d c) (oit (bnotIt (decide_eq_false h)) rfl)
theorem filter_split {α : Type} (p q : α → Bool) : ∀ l : List α, (l.filter p).length = (l.filter fun x => p x && q x).length + (l.filter fun x => p x && !q x).length
  | [] => rfl
  | a :: t => by
    have := filter_split p q t
    simp only [List.filter_cons]
    cases hp : p a <;> cases hq : q a <;> simp [this] <;> omega
/-- as many elements as pairs -/
theorem Cov.count {d : List T_Task} {c : List T_Crew} {does of : List Int} {F B : List Bool} (h : Cov d c does of F B) (hcon : Cons d c does of (-1)) : mcount of d.length = (iL d.length fun i => !F.getD i false).length + (iL c.length fun k => B.getD k false).length := by
  unfold mcount iL
  rw [List.length_map, List.length_map]
  rw [filter_split (fun i => decide (0 ≤ of.getD i 0)) (fun i => F.getD i false)]
  have e1 : ((List.range d.length).filter fun i => decide (0 ≤ of.getD i 0) && !F.getD i false) = (List.range d.length).filter fun i => !F.getD i false := by
    apply List.filter_congr
    intro i hi
    have hi := List.mem_range.1 hi
    cases hF : F.getD i false with
    | true => simp
    | false =>
      rcases hcon.on i hi with q | ⟨k, q, _⟩
      · have := h.c5 i hi q; rw [hF] at this; cases this
      · rw [decide_eq_true (by omega)]; rfl
  rw [e1]
  have nd1 : ((List.range d.length).filter fun i => decide (0 ≤ of.getD i 0) && F.getD i false).Nodup := List.Nodup.sublist List.filter_sublist List.nodup_range
  have nd2 : ((List.range c.length).filter fun k => B.getD k false).Nodup := List.Nodup.sublist List.filter_sublist List.nodup_range
  have key : ∀ i, i < d.length → 0 ≤ of.getD i 0 → F.getD i false = true → ∃ k, k < c.length ∧ B.getD k false = true ∧ does.getD k 0 = (i : Int) ∧ of.getD i 0 = (k : Int) := fun i hi h0 hF => by
    rcases h.c3 i hi hF with q | ⟨k, k1, k2, k3⟩
    · omega
    · exact ⟨k, k1, k2, k3, (hcon.one k i k1 hi (by omega) k3).1⟩
  have le1 : ((List.range d.length).filter fun i => decide (0 ≤ of.getD i 0) && F.getD i false).length ≤ ((List.range c.length).filter fun k => B.getD k false).length := by
    have a1 : (((List.range d.length).filter fun i => decide (0 ≤ of.getD i 0) && F.getD i false).map fun i => (of.getD i 0).toNat).Nodup := nodup_map_on nd1 fun i hi j hj e => by
      obtain ⟨i1, i2⟩ := List.mem_filter.1 hi
      obtain ⟨j1, j2⟩ := List.mem_filter.1 hj
      obtain ⟨k, _, _, k3, k4⟩ := key i (List.mem_range.1 i1) (of_decide_eq_true (bandl i2)) (bandr i2)
      obtain ⟨k', _, _, k3', k4'⟩ := key j (List.mem_range.1 j1) (of_decide_eq_true (bandl j2)) (bandr j2)
      have : k = k' := by omega
      subst this
      omega
    have a2 := a1.length_le_of_subset (l₂ := (List.range c.length).filter fun k => B.getD k false) fun k hk => by
      obtain ⟨i, hi, rfl⟩ := List.mem_map.1 hk
      obtain ⟨i1, i2⟩ := List.mem_filter.1 hi
      obtain ⟨k, k1, k2, k3, k4⟩ := key i (List.mem_range.1 i1) (of_decide_eq_true (bandl i2)) (bandr i2)
      exact List.mem_filter.2 ⟨List.mem_range.2 (by omega), by rw [k4, Int.toNat_natCast]; exact k2⟩
    rw [List.length_map] at a2; exact a2
  have le2 : ((List.range c.length).filter fun k => B.getD k false).length ≤ ((List.range d.length).filter fun i => decide (0 ≤ of.getD i 0) && F.getD i false).length := by
    have kk : ∀ k, k ∈ ((List.range c.length).filter fun k => B.getD k false) → ∃ j : Nat, does.getD k 0 = (j : Int) ∧ j < d.length ∧ F.getD j false = true ∧ of.getD j 0 = (k : Int) := fun k hk => by
      obtain ⟨k1, k2⟩ := List.mem_filter.1 hk
      obtain ⟨j, j1, j2, j3⟩ := h.c2 k (List.mem_range.1 k1) k2
      exact ⟨j, j1, j2, j3, (hcon.one k j (List.mem_range.1 k1) j2 (by omega) j1).1⟩
    have a1 : (((List.range c.length).filter fun k => B.getD k false).map fun k => (does.getD k 0).toNat).Nodup := nodup_map_on nd2 fun i hi j hj e => by
      obtain ⟨x, x1, _, _, x4⟩ := kk i hi
      obtain ⟨y, y1, _, _, y4⟩ := kk j hj
      have : x = y := by omega
      subst this
      omega
    have a2 := a1.length_le_of_subset (l₂ := (List.range d.length).filter fun i => decide (0 ≤ of.getD i 0) && F.getD i false) fun j hj => by
      obtain ⟨k, hk, rfl⟩ := List.mem_map.1 hj
      obtain ⟨x, x1, x2, x3, x4⟩ := kk k hk
      have ex : (does.getD k 0).toNat = x := by omega
      rw [ex]
      exact List.mem_filter.2 ⟨List.mem_range.2 x2, band (decide_eq_true (by omega)) x3⟩
    rw [List.length_map] at a2; exact a2
  omega
end Go.Gv
