/- The message of the wagons: what Encode writes. -/
import Derived.Test.YtlpkbkbjohhleaaGreatSb
namespace Go.Gv
theorem shr8_ok {x : Nat} : shr_i64 (x : Int) 8 = some ((x / 256 : Nat) : Int) := by
  have := shr_ok (x := x) (s := 8) (by decide)
  exact this
theorem toU8_nat (x : Nat) : (toU8 (x : Int)).toNat = x % 256 := by have := toU8_toNat (x : Int); omega
theorem two_ok (N : Nat) {b : List UInt8} (hb : b.length ≤ 100000) (x : Nat) : consist_two N b (x : Int) = some (b ++ [toU8 ((x / 256 : Nat) : Int), toU8 (x : Int)]) := by
  unfold consist_two
  exact obi shr8_ok (app_ok (by simp only [List.length_cons, List.length_nil]; omega) (by simp only [List.length_cons, List.length_nil]; omega))
/-- the bytes of a wagon -/
structure WB (x : T_Wagon) (L : List UInt8) : Prop where
  len : L.length = 15 + x.Dest.length
  nib : ∀ i, i < 6 → (g8 L i).toNat = 16 * ((g8 x.Number (2 * i)).toNat - 48) + ((g8 x.Number (2 * i + 1)).toNat - 48)
  lgt : (x.Length : Int) = 256 * (g8 L 6).toNat + (g8 L 7).toNat
  axl : x.Axles = (g8 L 8).toNat
  mas : x.Mass = 256 * (g8 L 9).toNat + (g8 L 10).toNat
  bra : x.Brake = 256 * (g8 L 11).toNat + (g8 L 12).toNat
  goo : ((g8 L 13).toNat : Int) = x.Goods + bif x.Gentle then 16 else 0
  nam : (g8 L 14).toNat = x.Dest.length
  dst : L.drop 15 = x.Dest
theorem nib_byte {a b : UInt8} (ha : 48 ≤ a.toNat ∧ a.toNat ≤ 57) (hb : 48 ≤ b.toNat ∧ b.toNat ≤ 57) : ∃ c, shl_u8 ((toU8 ((a.toNat : Int) - 48)).toNat : Int) 4 = some c ∧ (c ||| toU8 ((b.toNat : Int) - 48)).toNat = 16 * (a.toNat - 48) + (b.toNat - 48) := by
  have h1 : ((toU8 ((a.toNat : Int) - 48)).toNat : Int) = ((a.toNat - 48 : Nat) : Int) := by rw [toU8_toNat]; omega
  have h2 : (toU8 ((b.toNat : Int) - 48)).toNat = b.toNat - 48 := by have := toU8_toNat ((b.toNat : Int) - 48); omega
  refine ⟨toU8 (((a.toNat - 48 : Nat) : Int) * 2 ^ 4), by rw [h1]; rfl, ?_⟩
  have h3 : (toU8 (((a.toNat - 48 : Nat) : Int) * 2 ^ 4)).toNat = 2 ^ 4 * (a.toNat - 48) := by
    have := toU8_toNat (((a.toNat - 48 : Nat) : Int) * 2 ^ 4)
    have e : (2 : Int) ^ 4 = 16 := by decide
    have e2 : (2 : Nat) ^ 4 = 16 := by decide
    rw [e] at this ⊢
    rw [e2]
    omega
  rw [UInt8.toNat_or, h2, h3, ← Nat.two_pow_add_eq_or_of_lt (show b.toNat - 48 < 2 ^ 4 by omega)]
theorem nibs_ok {N : Nat} (hN : 5000 ≤ N) {x : T_Wagon} (W : WagR x) {b : List UInt8} (hb : b.length ≤ 10000) : ∃ B : List UInt8, iterN (fun s : Int × List UInt8 => consist_Encode_l4 N x s.1 s.2) N (0, b) = some (b ++ B) ∧ B.length = 6 ∧ ∀ i, i < 6 → (g8 B i).toNat = 16 * ((g8 x.Number (2 * i)).toNat - 48) + ((g8 x.Number (2 * i + 1)).toNat - 48) := by
  have hl := W.len
  obtain ⟨q, hq, B, rfl, q1, q2⟩ := runN (f := fun s : Int × List UInt8 => consist_Encode_l4 N x s.1 s.2) 6
    (fun i s => s.1 = ((2 * i : Nat) : Int) ∧ ∃ B : List UInt8, s.2 = b ++ B ∧ B.length = i ∧ ∀ j, j < i → (g8 B j).toNat = 16 * ((g8 x.Number (2 * j)).toNat - 48) + ((g8 x.Number (2 * j + 1)).toNat - 48))
    (fun q => ∃ B : List UInt8, q = b ++ B ∧ B.length = 6 ∧ ∀ j, j < 6 → (g8 B j).toNat = 16 * ((g8 x.Number (2 * j)).toNat - 48) + ((g8 x.Number (2 * j + 1)).toNat - 48)) (by
    rintro i ⟨i', b'⟩ hi ⟨rfl, B, rfl, h1, h2⟩
    simp only
    left
    obtain ⟨c, c1, c2⟩ := nib_byte (W.dig (2 * i) (by omega)) (W.dig (2 * i + 1) (by omega))
    unfold consist_Encode_l4
    refine ⟨_, oit (decide_eq_true (by omega)) (obi (idx_g8 (i := 2 * i) (by omega)) (obi c1 (obi (inc_nat (by omega)) (obi (idx_g8 (i := 2 * i + 1) (by omega)) (obi (app_ok (by simp only [List.length_append, List.length_cons, List.length_nil]; omega) (by simp only [List.length_append, List.length_cons, List.length_nil]; omega)) (obi (in64_nat (n := 2 * (i + 1)) (by omega) (by omega)) rfl)))))), rfl, B ++ [c ||| toU8 (((g8 x.Number (2 * i + 1)).toNat : Int) - 48)], by rw [List.append_assoc], by simp [h1], fun j hj => ?_⟩
    rw [g8_app]
    by_cases e : j < B.length
    · rw [if_pos e]; exact h2 j (by omega)
    · rw [if_neg e, if_pos (by omega), show j = i by omega]; exact c2) (by
    rintro ⟨i', b'⟩ ⟨rfl, B, rfl, h1, h2⟩
    unfold consist_Encode_l4
    exact ⟨_, oif (decide_eq_false (by simp only; omega)) rfl, B, rfl, h1, h2⟩) N (by omega) (0, b) ⟨rfl, [], by simp, rfl, fun j h => absurd h (Nat.not_lt_zero _)⟩
  exact ⟨B, hq, q1, q2⟩
end Go.Gv
