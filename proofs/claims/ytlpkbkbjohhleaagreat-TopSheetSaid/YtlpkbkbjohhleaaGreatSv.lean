/- The items of made wagons. -/
import Derived.Test.YtlpkbkbjohhleaaGreatSu
namespace Go.Gv
/-- the orders -/
def ordS : List (List Str) := [[(Str.mk ([98] : List UInt8)), (Str.mk ([97] : List UInt8)), (Str.mk ([110, 111, 114, 116, 104] : List UInt8))], [(Str.mk ([120, 57] : List UInt8)), (Str.mk ([99] : List UInt8)), (Str.mk ([97, 98, 99, 100, 101, 102, 103, 104, 105, 106, 107, 108] : List UInt8)), (Str.mk ([100] : List UInt8))], [(Str.mk ([115, 111, 117, 116, 104] : List UInt8)), (Str.mk ([112, 111, 114, 116, 49] : List UInt8)), (Str.mk ([101] : List UInt8))]]
def ordR (t : Nat) : List Str := ordS.getD t []
def ordN (t b : Nat) : Str := (ordR t).getD b default
/-- a place of a name in the orders -/
def AtOrd (y : List UInt8) (t b : Nat) : Prop := b < (ordR t).length ∧ (ordN t b).s = y ∧ ∀ j, j < b → (ordN t j).s ≠ y
theorem find_all : ∀ y ∈ nameS, ∃ t ∈ List.range 3, ∃ b ∈ List.range 4, planner_find 6000 ordS y.s = some ((t : Int), (b : Int), true) ∧ (b < (ordR t).length ∧ (ordN t b).s = y.s) ∧ ∀ j ∈ List.range b, (ordN t j).s ≠ y.s := by decide +kernel
theorem find_ok {y : Str} (hy : y ∈ nameS) : ∃ t b : Nat, t < 3 ∧ b < 4 ∧ planner_find 6000 ordS y.s = some ((t : Int), (b : Int), true) ∧ AtOrd y.s t b := by
  obtain ⟨t, ht, b, hb, h1, h2, h3⟩ := find_all y hy
  exact ⟨t, b, List.mem_range.1 ht, List.mem_range.1 hb, h1, h2.1, h2.2, fun j hj => h3 j (List.mem_range.2 hj)⟩
/-- the item of a wagon -/
def ItOf (x : T_Item) (w : T_Wagon) : Prop := ∃ t b : Nat, t < 3 ∧ b < 4 ∧ x = ⟨(t : Int), (b : Int), 0, w.Length⟩ ∧ AtOrd w.Dest t b
theorem it_app {l : List T_Item} {x : T_Item} {i : Nat} : it (l ++ [x]) i = if i < l.length then it l i else if i = l.length then x else default := getD_app
theorem items_ok {ws : List T_Wagon} (hw : ws.length ≤ 12) (W : ∀ x ∈ ws, WagOk 6000 x) : ∃ l, planner_Items 6000 ordS ws = some (l, 0) ∧ l.length = ws.length ∧ ∀ i (h : i < ws.length), ItOf (it l i) ws[i] := by
  have h1 : iterN (fun s : Int => planner_Items_l1 6000 ordS s) 6000 0 = some (.inr ()) := by decide +kernel
  obtain ⟨q, hq, l, rfl, q1, q2⟩ := runN (f := fun s : Int × List T_Item => planner_Items_l2 6000 ordS ws s.1 s.2) ws.length
    (fun i s => s.1 = i ∧ s.2.length = i ∧ ∀ j (h : j < ws.length), j < i → ItOf (it s.2 j) ws[j])
    (fun q => ∃ l, q = .inr l ∧ l.length = ws.length ∧ ∀ j (h : j < ws.length), ItOf (it l j) ws[j]) (by
    rintro i ⟨i', l⟩ hi ⟨rfl, h2, h3⟩
    simp only at h2 h3 ⊢
    left
    have hW := W ws[i] (List.getElem_mem hi)
    obtain ⟨y, hy, ey⟩ := hW.dst
    obtain ⟨t, b, t1, b1, hf, hA⟩ := find_ok hy
    rw [← ey] at hf hA
    unfold planner_Items_l2
    refine ⟨_, oit (decide_eq_true (by omega)) (obi (idx_nat hi) (obi hW.val (oif rfl (obi hf (oif rfl (obi (app_ok (by simp only [List.length_cons, List.length_nil]; omega) (by simp only [List.length_cons, List.length_nil]; omega)) (obi (inc_nat (by omega)) rfl))))))), rfl, by simp [h2], fun j hj hji => ?_⟩
    simp only
    rw [it_app]
    by_cases e : j < l.length
    · rw [if_pos e]; exact h3 j hj (by omega)
    · have : j = i := by omega
      subst this
      rw [if_neg e, if_pos (by omega)]
      exact ⟨t, b, t1, b1, rfl, hA⟩) (by
    rintro ⟨i', l⟩ ⟨rfl, h2, h3⟩
    unfold planner_Items_l2
    exact ⟨_, oif (decide_eq_false (by simp only; omega)) rfl, l, rfl, h2, fun j hj => h3 j hj hj⟩) 6000 (by omega) (0, []) ⟨rfl, rfl, fun j _ h => absurd h (Nat.not_lt_zero _)⟩
  refine ⟨l, ?_, q1, q2⟩
  unfold planner_Items
  exact oif (by rw [decide_eq_false (by decide), decide_eq_false (by omega)]; rfl) (obi h1 (obi hq rfl))
/-- the items make a job -/
theorem items_job {ws : List T_Wagon} (hw : ws.length ≤ 12) (W : ∀ x ∈ ws, WagOk 6000 x) {l : List T_Item} (hl : l.length = ws.length) (h : ∀ i (h : i < ws.length), ItOf (it l i) ws[i]) {w : Nat} (hwt : w ≤ 12) : JobOk l w ∧ ∀ i, i < l.length → (it l i).Round = 0 := by
  have r0 : ∀ i, i < l.length → (it l i).Round = 0 := fun i hi => by
    obtain ⟨t, b, _, _, e, _⟩ := h i (by omega)
    rw [e]
  refine ⟨⟨by omega, hwt, fun i hi => ?_, fun i hi => ?_, fun i hi => by rw [r0 i hi]; decide, fun i hi => ?_, fun i j hij hj => by rw [r0 i (by omega), r0 j hj]; exact Int.le_refl _⟩, r0⟩
  · obtain ⟨t, b, t1, b1, e, _⟩ := h i (by omega)
    rw [e]; simp only; omega
  · obtain ⟨t, b, t1, b1, e, _⟩ := h i (by omega)
    rw [e]; simp only; omega
  · obtain ⟨t, b, t1, b1, e, _⟩ := h i (by omega)
    have := (W ws[i] (List.getElem_mem _)).r.lgt
    rw [e]; simp only; omega
end Go.Gv
