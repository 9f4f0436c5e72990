/- The message of the wagons: Decode reads what Encode wrote. -/
import Derived.Test.YtlpkbkbjohhleaaGreatSg
namespace Go.Gv
/-- where a wagon begins -/
def off (Ls : List (List UInt8)) (i : Nat) : Nat := 1 + (Ls.take i).flatten.length
theorem off_succ {Ls : List (List UInt8)} {i : Nat} (h : i < Ls.length) : off Ls (i + 1) = off Ls i + Ls[i].length := by
  unfold off
  rw [take_snoc h, List.flatten_append, List.length_append]
  simp; omega
theorem off_len (Ls : List (List UInt8)) : off Ls Ls.length = 1 + Ls.flatten.length := by unfold off; rw [List.take_length]
theorem off_le {Ls : List (List UInt8)} {i : Nat} (h : i < Ls.length) : off Ls i + Ls[i].length ≤ 1 + Ls.flatten.length := by
  rw [← off_succ h]
  unfold off
  have : Ls.flatten = (Ls.take (i + 1)).flatten ++ (Ls.drop (i + 1)).flatten := by rw [← List.flatten_append, List.take_append_drop]
  rw [this, List.length_append]; omega
/-- a wagon's bytes in the message -/
theorem msg_at {n : UInt8} {Ls : List (List UInt8)} {tl : List UInt8} {i : Nat} (h : i < Ls.length) : ∃ pre post, (n :: Ls.flatten) ++ tl = pre ++ (Ls[i] ++ post) ∧ pre.length = off Ls i := by
  refine ⟨n :: (Ls.take i).flatten, (Ls.drop (i + 1)).flatten ++ tl, ?_, by unfold off; rw [List.length_cons]; omega⟩
  have : Ls.flatten = (Ls.take i).flatten ++ (Ls[i] ++ (Ls.drop (i + 1)).flatten) := by
    rw [← List.flatten_cons, ← drop_cons h, ← List.flatten_append, List.take_append_drop]
  rw [this]
  simp only [List.cons_append, List.append_assoc]
theorem cat_at {pre L post : List UInt8} : (∀ j, j < L.length → g8 (pre ++ (L ++ post)) (pre.length + j) = g8 L j) ∧ ((pre ++ (L ++ post)).take (pre.length + L.length)).drop (pre.length + 15) = L.drop 15 := by
  refine ⟨fun j hj => ?_, ?_⟩
  · rw [g8_cat, if_neg (by omega), g8_cat, if_pos (by omega)]
    congr 1; omega
  · rw [← List.append_assoc, List.take_left' (by rw [List.length_append]), List.drop_append, List.drop_of_length_le (by omega), List.nil_append]
    congr 1; omega
theorem end_ok {N : Nat} (hN : 5000 ≤ N) {ws : List T_Wagon} (hw : ws.length ≤ 96) (W : ∀ x ∈ ws, WagR x) {Ls : List (List UInt8)} (M : Msg ws Ls) {n h l : UInt8} (hn : n.toNat = ws.length) (hf : Ls.flatten.length ≤ 3000) : consist_end N ((n :: Ls.flatten) ++ [h, l]) = some ((((n :: Ls.flatten) ++ [h, l]).length : Int), true) := by
  have hl := M.len
  generalize hb : (n :: Ls.flatten) ++ [h, l] = b
  have hbl : b.length = Ls.flatten.length + 3 := by rw [← hb]; simp
  have e0 : idx b ((0 : Nat) : Int) = some n := by
    rw [idx_g8 (by omega), ← hb]; rfl
  have hq : iterN (fun s : Int × Int => consist_end_l1 N b s.1 s.2) N (1, 0) = some (.inr ((off Ls ws.length : Nat) : Int)) := by
    refine runN1 (f := fun s : Int × Int => consist_end_l1 N b s.1 s.2) ws.length (fun i s => s.2 = i ∧ s.1 = ((off Ls i : Nat) : Int)) _ ?_ ?_ N (by omega) (1, 0) ⟨rfl, rfl⟩
    · rintro i ⟨a, i'⟩ hi ⟨rfl, rfl⟩
      have hi2 : i < Ls.length := by omega
      have B := M.at_ i hi hi2
      have hbl2 := B.len
      have ho := off_le hi2
      have hs := off_succ hi2
      obtain ⟨pre, post, e, ep⟩ := msg_at (n := n) (tl := [h, l]) hi2
      rw [hb] at e
      have g := (cat_at (pre := pre) (L := Ls[i]) (post := post)).1 14 (by omega)
      rw [← e, ep, ] at g
      have hnam := B.nam
      unfold consist_end_l1
      refine ⟨_, obi e0 (obi (in64_nat (n := n.toNat) rfl (by omega)) (oit (decide_eq_true (by simp only; omega)) (obi (in64_nat (n := off Ls i + 15) (by omega) (by omega)) (oif (decide_eq_false (by omega)) (obi (in64_nat (n := off Ls i + 14) (by omega) (by omega)) (obi (idx_g8 (by omega)) (obi (in64_nat (n := (g8 b (off Ls i + 14)).toNat) rfl (by rw [g]; omega)) (obi (in64_nat (n := off Ls (i + 1)) (by rw [g]; omega) (by omega)) (obi (inc_nat (by omega)) rfl))))))))), rfl, rfl⟩
    · rintro ⟨a, i'⟩ ⟨rfl, rfl⟩
      unfold consist_end_l1
      exact obi e0 (obi (in64_nat (n := n.toNat) rfl (by omega)) (oif (decide_eq_false (by simp only; omega)) rfl))
  have hol := off_len Ls
  rw [hl] at hol
  unfold consist_end
  exact oif (decide_eq_false (by omega)) (obi hq (obi (in64_nat (n := b.length) (by omega) (by omega)) (by rw [decide_eq_true (Int.le_refl _)])))
end Go.Gv
