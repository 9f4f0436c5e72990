/- The message of the wagons: all of Encode. -/
import Derived.Test.YtlpkbkbjohhleaaGreatSc
namespace Go.Gv
theorem g8_cat {a b : List UInt8} {j : Nat} : g8 (a ++ b) j = if j < a.length then g8 a j else g8 b (j - a.length) := by
  unfold g8
  rw [List.getD_eq_getElem?_getD, List.getD_eq_getElem?_getD, List.getD_eq_getElem?_getD]
  by_cases h : j < a.length
  · rw [if_pos h, List.getElem?_append_left h]
  · rw [if_neg h, List.getElem?_append_right (by omega)]
theorem enc_step {N : Nat} (hN : 5000 ≤ N) {ws : List T_Wagon} (hw : ws.length ≤ 96) {i : Nat} (hi : i < ws.length) (W : WagR ws[i]) {b : List UInt8} (hb : b.length ≤ 5000) : ∃ L, WB ws[i] L ∧ consist_Encode_l3 N ws (i : Int) b = some (.inl (((i + 1 : Nat) : Int), b ++ L)) := by
  obtain ⟨B, hB, B1, B2⟩ := nibs_ok hN W (b := b) (by omega)
  have ex := idx_nat hi
  generalize ws[i] = x at W hB B2 ex
  obtain ⟨num, len, axl, mass, brake, goods, gentle, dest⟩ := x
  have w1 : 80 ≤ len ∧ len ≤ 400 := W.lgt
  have w2 : axl = 2 ∨ axl = 4 ∨ axl = 6 := W.axl
  have w3 : 50 ≤ mass ∧ mass ≤ 2000 := W.mas
  have w4 : 0 ≤ brake ∧ brake ≤ mass := W.bra
  have w5 : 0 ≤ goods ∧ goods ≤ 9 := W.goo
  have w6 : 1 ≤ dest.length ∧ dest.length ≤ 12 := W.dst
  obtain ⟨ln, hln⟩ : ∃ n : Nat, len = n := ⟨len.toNat, by omega⟩
  obtain ⟨ax, hax⟩ : ∃ n : Nat, axl = n := ⟨axl.toNat, by omega⟩
  obtain ⟨ms, hms⟩ : ∃ n : Nat, mass = n := ⟨mass.toNat, by omega⟩
  obtain ⟨br, hbr⟩ : ∃ n : Nat, brake = n := ⟨brake.toNat, by omega⟩
  obtain ⟨gd, hgd⟩ : ∃ n : Nat, goods = n := ⟨goods.toNat, by omega⟩
  subst hln hax hms hbr hgd
  obtain ⟨go, hgo, hgo2⟩ : ∃ go : Nat, (bif gentle then (Option.bind (in64 ((gd : Int) + 16)) fun x1196 => some x1196) else (some (gd : Int))) = some (go : Int) ∧ (go : Int) = (gd : Int) + bif gentle then 16 else 0 := by
    cases h : gentle
    · exact ⟨gd, oif rfl rfl, (Int.add_zero _).symm⟩
    · exact ⟨gd + 16, oit rfl (obi (in64_nat (n := gd + 16) (by omega) (by omega)) rfl), rfl⟩
  have hgo3 : go ≤ 25 := by cases h : gentle <;> rw [h] at hgo2 <;> simp at hgo2 <;> omega
  let R : List UInt8 := [toU8 ((ln / 256 : Nat) : Int), toU8 (ln : Int), toU8 (ax : Int), toU8 ((ms / 256 : Nat) : Int), toU8 (ms : Int), toU8 ((br / 256 : Nat) : Int), toU8 (br : Int), toU8 (go : Int), toU8 ((dest.length : Nat) : Int)]
  have hR : R.length = 9 := rfl
  have hg : ∀ j, 6 ≤ j → j < 15 → g8 (B ++ (R ++ dest)) j = g8 R (j - 6) := fun j h1 h2 => by
    rw [g8_cat, if_neg (by omega), B1, g8_cat, if_pos (by omega)]
  refine ⟨B ++ (R ++ dest), ⟨by simp only [List.length_append, hR, B1]; omega, fun j hj => by rw [g8_cat, if_pos (by omega)]; exact B2 j hj, ?_, ?_, ?_, ?_, ?_, ?_, ?_⟩, ?_⟩
  · rw [hg 6 (by omega) (by omega), hg 7 (by omega) (by omega)]
    show (ln : Int) = 256 * ((toU8 ((ln / 256 : Nat) : Int)).toNat : Int) + ((toU8 (ln : Int)).toNat : Int)
    rw [toU8_nat, toU8_nat]; omega
  · rw [hg 8 (by omega) (by omega)]
    show (ax : Int) = ((toU8 (ax : Int)).toNat : Int)
    rw [toU8_nat]; omega
  · rw [hg 9 (by omega) (by omega), hg 10 (by omega) (by omega)]
    show (ms : Int) = 256 * ((toU8 ((ms / 256 : Nat) : Int)).toNat : Int) + ((toU8 (ms : Int)).toNat : Int)
    rw [toU8_nat, toU8_nat]; omega
  · rw [hg 11 (by omega) (by omega), hg 12 (by omega) (by omega)]
    show (br : Int) = 256 * ((toU8 ((br / 256 : Nat) : Int)).toNat : Int) + ((toU8 (br : Int)).toNat : Int)
    rw [toU8_nat, toU8_nat]; omega
  · rw [hg 13 (by omega) (by omega), ← hgo2]
    show ((toU8 (go : Int)).toNat : Int) = (go : Int)
    rw [toU8_nat]; omega
  · rw [hg 14 (by omega) (by omega)]
    show (toU8 ((dest.length : Nat) : Int)).toNat = dest.length
    rw [toU8_nat]; omega
  · rw [← List.append_assoc, List.drop_append_of_le_length (by simp [B1, hR]), List.drop_of_length_le (by simp [B1, hR]), List.nil_append]
  · unfold consist_Encode_l3
    have lenB : (b ++ B).length ≤ 5006 := by rw [List.length_append]; omega
    have a1 := two_ok N (b := b ++ B) (by omega) ln
    have a2 : app 1 ((b ++ B) ++ [toU8 ((ln / 256 : Nat) : Int), toU8 (ln : Int)]) [toU8 (ax : Int)] = some _ := app_ok (by simp only [List.length_append, List.length_cons, List.length_nil] at *; omega) (by simp only [List.length_append, List.length_cons, List.length_nil] at *; omega)
    have a3 := two_ok N (b := ((b ++ B) ++ [toU8 ((ln / 256 : Nat) : Int), toU8 (ln : Int)]) ++ [toU8 (ax : Int)]) (by simp only [List.length_append, List.length_cons, List.length_nil] at *; omega) ms
    have a4 := two_ok N (b := (((b ++ B) ++ [toU8 ((ln / 256 : Nat) : Int), toU8 (ln : Int)]) ++ [toU8 (ax : Int)]) ++ [toU8 ((ms / 256 : Nat) : Int), toU8 (ms : Int)]) (by simp only [List.length_append, List.length_cons, List.length_nil] at *; omega) br
    have a5 := app_ok (b := 1) (l := ((((b ++ B) ++ [toU8 ((ln / 256 : Nat) : Int), toU8 (ln : Int)]) ++ [toU8 (ax : Int)]) ++ [toU8 ((ms / 256 : Nat) : Int), toU8 (ms : Int)]) ++ [toU8 ((br / 256 : Nat) : Int), toU8 (br : Int)]) (r := [toU8 (go : Int), toU8 ((dest.length : Nat) : Int)]) (by simp only [List.length_append, List.length_cons, List.length_nil] at *; omega) (by simp only [List.length_append, List.length_cons, List.length_nil] at *; omega)
    have a6 := app_ok (b := 1) (l := (((((b ++ B) ++ [toU8 ((ln / 256 : Nat) : Int), toU8 (ln : Int)]) ++ [toU8 (ax : Int)]) ++ [toU8 ((ms / 256 : Nat) : Int), toU8 (ms : Int)]) ++ [toU8 ((br / 256 : Nat) : Int), toU8 (br : Int)]) ++ [toU8 (go : Int), toU8 ((dest.length : Nat) : Int)]) (r := dest) (by simp only [List.length_append, List.length_cons, List.length_nil] at *; omega) (by simp only [List.length_append, List.length_cons, List.length_nil] at *; omega)
    refine oit (decide_eq_true (by omega)) (obi ex (obi hB (obi (obi a1 (obi a2 rfl)) (obi a3 (obi a4 (obi hgo (obi a5 (obi a6 (obi (inc_nat (by omega)) ?_)))))))))
    exact congrArg (fun z => some (Sum.inl (((i + 1 : Nat) : Int), z))) (by simp only [R, List.append_assoc, List.cons_append, List.nil_append])
end Go.Gv
