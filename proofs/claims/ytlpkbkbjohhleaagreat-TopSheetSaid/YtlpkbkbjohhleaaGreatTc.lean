/- The ones of a number: a table that the kernel looks through. -/
import Derived.Test.YtlpkbkbjohhleaaGreatPm
namespace Go.Gv
def pcF : Nat → Nat → Nat
  | 0, _ => 0
  | f + 1, k => if k = 0 then 0 else pcF f (k &&& (k - 1)) + 1
/-- how many ones a number below 4096 has -/
def pc (k : Nat) : Nat := pcF 13 k
def lowN (k : Nat) : Nat := k &&& (18446744073709551616 - k)
def chk1 (k : Nat) : Bool := decide (pc k ≤ 12) && (decide (k = 0) || ((decide ((k &&& (k - 1)) < k) && decide (pc k = pc (k &&& (k - 1)) + 1)) && (decide (andI (k : Int) (-(k : Int)) = (lowN k : Int)) && (decide (0 < lowN k ∧ k + lowN k ≤ 4096) && (List.range (lowN k)).all fun d => decide (pc k ≤ pc (k + d))))))
theorem chk1_all : (List.range 4096).all chk1 = true := by decide +kernel
theorem chk1_at {k : Nat} (h : k < 4096) : chk1 k = true := List.all_eq_true.1 chk1_all k (List.mem_range.2 h)
theorem pc_le {k : Nat} (h : k < 4096) : pc k ≤ 12 := of_decide_eq_true (bandl (chk1_at h))
theorem pc_zero : pc 0 = 0 := rfl
theorem pc_step {k : Nat} (h : k < 4096) (h0 : 0 < k) : ((k &&& (k - 1)) < k ∧ pc k = pc (k &&& (k - 1)) + 1) ∧ andI (k : Int) (-(k : Int)) = (lowN k : Int) ∧ (0 < lowN k ∧ k + lowN k ≤ 4096) ∧ ∀ y, k ≤ y → y < k + lowN k → pc k ≤ pc y := by
  have h1 := bandr (chk1_at h)
  rw [decide_eq_false (show ¬ k = 0 by omega), Bool.false_or] at h1
  refine ⟨⟨of_decide_eq_true (bandl (bandl h1)), of_decide_eq_true (bandr (bandl h1))⟩, of_decide_eq_true (bandl (bandr h1)), of_decide_eq_true (bandl (bandr (bandr h1))), fun y h2 h3 => ?_⟩
  have h4 := List.all_eq_true.1 (bandr (bandr (bandr h1))) (y - k) (List.mem_range.2 (by omega))
  have := of_decide_eq_true h4
  rwa [show k + (y - k) = y by omega] at this
end Go.Gv
