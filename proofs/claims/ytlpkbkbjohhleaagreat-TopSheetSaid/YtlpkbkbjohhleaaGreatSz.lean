/- The plan of a job of first rounds: a sheet with its proof, or a refusal. -/
import Derived.Test.YtlpkbkbjohhleaaGreatSy
namespace Go.Gv
theorem check_nil {N : Nat} (hN : 5000 ≤ N) {l : List T_Item} {w : Nat} (J : JobOk l w) (h0 : l = []) : certificate_Check N l (w : Int) 0 [] [] = some 0 := by
  subst h0
  obtain ⟨M, hM, _⟩ := relations_ok (N := N) hN (l := []) (by simp) (w : Int)
  have S : SolveS [] w [] [] := ⟨rfl, rfl, fun y h => absurd h (Nat.not_lt_zero _)⟩
  have P : PlanOk [] w 0 [] := ⟨by omega, rfl, fun y h => absurd h (Nat.not_lt_zero _)⟩
  obtain ⟨m, rfl⟩ : ∃ m, N = m + 1 := ⟨N - 1, by omega⟩
  have hb : leastcode_Bound (m + 1) [] (w : Int) [] = some (0, 0) := by
    have q1 : iterN (fun s : Int => leastcode_Bound_l1 (m + 1) [] [] M s) (m + 1) 0 = some (.inr ()) := iterN_r rfl
    have q2 : iterN (fun s : Int × Int => leastcode_Bound_l2 (m + 1) [] (w : Int) [] M s.1 s.2) (m + 1) (0, 0) = some (.inr 0) := iterN_r rfl
    unfold leastcode_Bound
    exact obi (jobvalid_ok hN J) (oif rfl (obi hM (obi q1 (obi q2 rfl))))
  obtain ⟨n, hn, _, _, n3⟩ := steps_ok (N := m + 1) hN (k := 0) (by decide)
  have : n = 0 := by
    rcases n3 with h | h
    · exact h
    · have := Nat.two_pow_pos (n - 1); omega
  subst this
  have hv := rvalid_ok hN J P
  unfold certificate_Check
  exact obi hv (oif rfl (obi (pairs_ok hN J S) (obi hb (oif rfl (obi hn (oif rfl rfl))))))
/-- tracks in their ranges -/
def TkOk (tk : List Int) : Prop := tk.length ≤ 32 ∧ ∀ j, j < tk.length → 1 ≤ gi tk j ∧ gi tk j ≤ 38400
/-- a made sheet -/
structure SheetOk (N : Nat) (l : List T_Item) (tk : List Int) (w s : Nat) (c ch a : List Int) : Prop where
  job : JobOk l w
  sol : ∃ base, SolveS l w base c
  stp : StepsOf c s
  chk : certificate_Check N l (w : Int) (s : Int) c ch = some 0
  fit : ∃ ld, rollin_Loads N l (w : Int) (s : Int) c = some (ld, 0) ∧ LT ld tk ∧ Fit ld tk a
theorem sheet_ok {N : Nat} (hN : 5000 ≤ N) {l : List T_Item} {w : Nat} (J : JobOk l w) {tk : List Int} (T : TkOk tk) (hw : ∃ (s : Nat) (least : List Int), leastcode_Least N l (w : Int) = some ((s : Int), least, 0)) :
    (∃ r, planner_sheet N l (w : Int) tk = some ([], 0, 0, [], [], [], r, 14) ∧ 0 < r.length) ∨ ∃ (s : Nat) (c ch a : List Int), planner_sheet N l (w : Int) tk = some (l, (w : Int), (s : Int), c, ch, a, [], 0) ∧ SheetOk N l tk w s c ch a := by
  have hl := J.len
  have hcl := clonei_ok N (l := l) (by omega)
  rcases least_make hN J with ⟨h, _⟩ | ⟨s, c, ch, _, hm, ⟨base, S⟩, hM, hS⟩
  · obtain ⟨s, least, h2⟩ := hw
    have := h.symm.trans h2
    exact absurd (show (15 : Int) = 0 from congrArg (fun q : Int × List Int × Int => q.2.2) (Option.some.inj this)) (by decide)
  · have hchk : certificate_Check N l (w : Int) (s : Int) c ch = some 0 := by
      generalize hs : (s : Int) = s' at hM
      cases hM with
      | nil h => exact check_nil hN J h
      | @some s2 base2 _ out h0 S2 hS2 W => exact check_ok hN J S2 hS2 W.chain
    obtain ⟨ld, hld, l1, l2⟩ := loads_ok hN J (S.plan hS)
    have H : LT ld tk := ⟨by omega, fun j _ => l2 j, T.1, T.2⟩
    unfold planner_sheet
    rcases match_ok hN H with ⟨r, hr, r1⟩ | ⟨a, ha, F⟩
    · exact .inl ⟨r, obi hcl (obi hm (oif rfl (obi hld (oif rfl (obi hr (oit rfl rfl)))))), r1⟩
    · exact .inr ⟨s, c, ch, a, obi hcl (obi hm (oif rfl (obi hld (oif rfl (obi ha (oif rfl rfl)))))), J, ⟨base, S⟩, hS, hchk, ld, hld, H, F⟩
theorem plan_ok {N : Nat} (hN : 5000 ≤ N) {l : List T_Item} (J : ∀ w, w ≤ 12 → JobOk l w) (h0 : ∀ i, i < l.length → (it l i).Round = 0) {tk : List Int} (T : TkOk tk) :
    (∃ r, planner_Plan N l tk = some ([], 0, 0, [], [], [], r, 14) ∧ 0 < r.length) ∨ ∃ (w s : Nat) (c ch a : List Int), planner_Plan N l tk = some (l, (w : Int), (s : Int), c, ch, a, [], 0) ∧ SheetOk N l tk w s c ch a := by
  obtain ⟨xs, hxs, ⟨x0, x4⟩, X⟩ := schemes_ok hN J h0
  obtain ⟨q, hq, hQ⟩ := runN (f := fun s : Int × List Int => planner_Plan_l1 N l tk (xs, 0) s.1 s.2) xs.length
    (fun i s => s.1 = i ∧ (0 < i → 0 < s.2.length))
    (fun q => (∃ r, q = .inr r ∧ 0 < r.length) ∨ ∃ (w s : Nat) (c ch a : List Int), q = .inl (l, (w : Int), (s : Int), c, ch, a, [], 0) ∧ SheetOk N l tk w s c ch a) (by
    rintro i ⟨i', r0⟩ hi ⟨rfl, h1⟩
    simp only at h1 ⊢
    obtain ⟨⟨w, w1, w2, w3⟩, _, _⟩ := X xs[i] (List.getElem_mem hi)
    have hs := sheet_ok hN (J w w1) T w3
    rw [← w2] at hs
    unfold planner_Plan_l1
    rcases hs with ⟨r, hr, r1⟩ | ⟨s, c, ch, a, hr, hS⟩
    · left
      by_cases c : i = 0
      · exact ⟨_, oit (decide_eq_true (by simp only; omega)) (obi (idx_nat hi) (obi hr (oif rfl (oit rfl (oit (decide_eq_true (by omega)) (obi (inc_nat (by omega)) rfl)))))), rfl, fun _ => r1⟩
      · exact ⟨_, oit (decide_eq_true (by simp only; omega)) (obi (idx_nat hi) (obi hr (oif rfl (oit rfl (oif (decide_eq_false (by omega)) (obi (inc_nat (by omega)) rfl)))))), rfl, fun _ => h1 (by omega)⟩
    · right
      refine ⟨_, oit (decide_eq_true (by simp only; omega)) (obi (idx_nat hi) (obi hr (oit rfl rfl))), .inr ⟨w, s, c, ch, a, ?_, hS⟩⟩
      rw [w2]) (by
    rintro ⟨i', r0⟩ ⟨rfl, h1⟩
    unfold planner_Plan_l1
    exact ⟨_, oif (decide_eq_false (by simp only; omega)) rfl, .inl ⟨_, rfl, h1 x0⟩⟩) N (by omega) (0, []) ⟨rfl, fun h => absurd h (Nat.lt_irrefl _)⟩
  unfold planner_Plan
  rcases hQ with ⟨r, rfl, hr⟩ | ⟨w, s, c, ch, a, rfl, hS⟩
  · exact .inl ⟨r, obi hxs (oif rfl (obi hq rfl)), hr⟩
  · exact .inr ⟨w, s, c, ch, a, obi hxs (oif rfl (obi hq rfl)), hS⟩
theorem pcheck_ok {N : Nat} (hN : 5000 ≤ N) {l : List T_Item} {tk : List Int} {w s : Nat} {c ch a : List Int} (S : SheetOk N l tk w s c ch a) : planner_Check N l (w : Int) (s : Int) c ch a tk = some 0 := by
  obtain ⟨ld, hld, H, F⟩ := S.fit
  unfold planner_Check
  exact obi S.chk (oif rfl (obi hld (oif rfl (obi (fits_ok hN H F) (oif rfl rfl)))))
end Go.Gv
