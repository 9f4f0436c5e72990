/- Throwing (chapter 24): comparing, and the examples. -/
import Derived.Test.YtpelfidmcpcmjaaPll
namespace Go.Gv
theorem same_cmd {N : Nat} {a : List T_Command} (hN : a.length < N) (ha : a.length ≤ 100000) : yardgen_SameCommands N a a = some true := by
  have h : iterN (fun s : Int => yardgen_SameCommands_l1 N a a s) N 0 = some (.inr ()) := by
    refine runN1 (f := fun s : Int => yardgen_SameCommands_l1 N a a s) a.length (fun i s => s = i) _ ?_ ?_ N hN 0 rfl
    · rintro i s hi rfl
      exact ⟨_, oit (decide_eq_true (by omega)) (obi (idx_kc hi) (obi (idx_kc hi) (oif (bnotIf (decide_eq_true rfl)) (obi (inc_nat (by omega)) rfl)))), rfl⟩
    · rintro s rfl
      exact oif (decide_eq_false (by omega)) rfl
  exact oif (bnotIf (decide_eq_true rfl)) (obi h rfl)
theorem exact_ok {N : Nat} (hN : 2000 ≤ N) (l : List (List T_Span)) (r : List Int) (th : Int) (st : List T_Throw) (c : List T_Command) (hr : r.length < N) (hr2 : r.length ≤ 17592186044416) : law24_exact N l r th st c = some true := by
  obtain ⟨q, h1, h2, h3⟩ := Commands_both (l := l) (th := th) (st := st) hN hr hr2
  unfold law24_exact
  exact obi h1 (obi h2 (obi (Safe_eq hN l r th st c) (obi (rSafe_eq hN l r th st c hr hr2) (obi (same_cmd (by omega) (by omega)) (congrArg some (by simp))))))
def exL : List (List T_Span) := [[(T_Span.mk 2 2 3000 9000)], [(T_Span.mk 2 1 3000 9000)]]
def exC : List T_Command := [(T_Command.mk 0 2 2 0), (T_Command.mk 9000 2 1 1)]
theorem sane_ok {N : Nat} (hN : 2000 ≤ N) : law24_sane N = some true := by
  have k1 : ck24 exL [0, 10000] 2000 [] = 0 := by decide +kernel
  have k2 : ck24 exL [0, 7000] 2000 [] = 0 := by decide +kernel
  have o1 : allO exL [0, 10000] 2000 [] (List.range exL.length) [] = .inl exC := by decide +kernel
  have o2 : allO exL [0, 7000] 2000 [] (List.range exL.length) [] = .inr 21 := by decide +kernel
  have s1 : sfR exL [0, 10000] 2000 [] exC = (true, 0) := by decide +kernel
  have c1 : throwplan_Commands N exL [0, 10000] 2000 [] = some (exC, 0) := by
    rcases Commands_eq hN (v24 k1) k1 with ⟨e, a1, _, _⟩ | ⟨made, out, a1, a2, a3, a4, a5, a6⟩
    · rw [o1] at a1; cases a1
    · rw [o1] at a1
      injection a1 with a1
      subst a1
      have hex : AscK keyT exC := by unfold AscK keyT exC; simp
      have : out = exC := sorted_one hex a6 a5
      rw [a3, this]
  have c2 : throwplan_Commands N exL [0, 7000] 2000 [] = some ([], 21) := by
    rcases Commands_eq hN (v24 k2) k2 with ⟨e, a1, _, a3⟩ | ⟨made, out, a1, a2, a3, a4, a5, a6⟩
    · rw [o2] at a1
      injection a1 with a1
      rw [a3, a1]
    · rw [o2] at a1; cases a1
  have c3 := Safe_eq hN exL [0, 10000] 2000 [] exC
  rw [s1] at c3
  have c4 := same_cmd (N := N) (a := exC) (by unfold exC; simp; omega) (by unfold exC; simp)
  unfold law24_sane
  exact obi c1 (obi c3 (obi c2 (oit rfl (obi c4 rfl))))
end Go.Gv
