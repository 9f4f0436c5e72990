/- The message of the wagons: the check sum, and all wagons. -/
import Derived.Test.YtlpkbkbjohhleaaGreatSe
namespace Go.Gv
theorem chk_ok {N : Nat} (hN : 5000 ≤ N) {b : List UInt8} (hb : b.length ≤ 4000) : ∃ c : Nat, consist_Check N b = some (c : Int) ∧ c < 65521 := by
  obtain ⟨q, hq, c, rfl, hc⟩ := runN (f := fun s : Int × Int => consist_Check_l1 N b s.1 s.2) b.length (fun i s => s.2 = i ∧ ∃ c : Nat, s.1 = c ∧ c < 65521) (fun q => ∃ c : Nat, q = c ∧ c < 65521) (by
    rintro i ⟨a, i'⟩ hi ⟨rfl, c, rfl, hc⟩
    simp only
    left
    have h1 := (g8 b i).toNat_lt
    have em : Int.tmod ((i + 1 : Nat) : Int) 65521 = ((i + 1 : Nat) : Int) := by rw [Int.tmod_eq_emod_of_nonneg (by omega)]; omega
    have hm : (i + 1) * (g8 b i).toNat ≤ 4000 * 256 := Nat.mul_le_mul (by omega) (by omega)
    have e1 : in64 (Int.tmod ((i + 1 : Nat) : Int) 65521 * ((g8 b i).toNat : Int)) = some (((i + 1) * (g8 b i).toNat : Nat) : Int) := by
      rw [em]; exact in64_nat (by rw [Int.natCast_mul]) (by omega)
    generalize (i + 1) * (g8 b i).toNat = m at hm e1
    have e2 : in64 ((c : Int) + (m : Int)) = some ((c + m : Nat) : Int) := in64_nat (by omega) (by omega)
    have e3 : Int.tmod ((c + m : Nat) : Int) 65521 = (((c + m) % 65521 : Nat) : Int) := by rw [Int.tmod_eq_emod_of_nonneg (by omega)]; omega
    unfold consist_Check_l1
    exact ⟨_, oit (decide_eq_true (by omega)) (obi (idx_g8 hi) (obi (inc_nat (by omega)) (obi (in64_ok (by omega)) (obi e1 (obi e2 rfl))))), rfl, _, e3, Nat.mod_lt _ (by decide)⟩) (by
    rintro ⟨a, i'⟩ ⟨rfl, c, rfl, hc⟩
    unfold consist_Check_l1
    exact ⟨_, oif (decide_eq_false (by simp)) rfl, c, rfl, hc⟩) N (by omega) (0, 0) ⟨rfl, 0, rfl, by decide⟩
  exact ⟨c, obi hq rfl, hc⟩
/-- the bytes of the wagons, one after another -/
structure Msg (ws : List T_Wagon) (Ls : List (List UInt8)) : Prop where
  len : Ls.length = ws.length
  at_ : ∀ i (h : i < ws.length) (h2 : i < Ls.length), WB ws[i] Ls[i]
theorem flat_le {Ls : List (List UInt8)} (h : ∀ L ∈ Ls, L.length ≤ 27) : Ls.flatten.length ≤ 27 * Ls.length := by
  induction Ls with
  | nil => simp
  | cons L Ls ih =>
    have h1 := ih fun x hx => h x (List.mem_cons_of_mem _ hx)
    have h2 := h L (List.mem_cons_self)
    rw [List.flatten_cons, List.length_append, List.length_cons]
    omega
theorem enc_all {N : Nat} (hN : 5000 ≤ N) {ws : List T_Wagon} (hw : ws.length ≤ 96) (W : ∀ x ∈ ws, WagR x) (n : UInt8) : ∃ Ls, iterN (fun s : Int × List UInt8 => consist_Encode_l3 N ws s.1 s.2) N (0, [n]) = some (n :: Ls.flatten) ∧ Msg ws Ls := by
  obtain ⟨q, hq, Ls, rfl, h1, h2⟩ := runN (f := fun s : Int × List UInt8 => consist_Encode_l3 N ws s.1 s.2) ws.length
    (fun i s => s.1 = i ∧ ∃ Ls : List (List UInt8), s.2 = n :: Ls.flatten ∧ Ls.length = i ∧ (∀ L ∈ Ls, L.length ≤ 27) ∧ ∀ j (h : j < ws.length) (h2 : j < Ls.length), WB ws[j] Ls[j])
    (fun q => ∃ Ls : List (List UInt8), q = n :: Ls.flatten ∧ Ls.length = ws.length ∧ ∀ j (h : j < ws.length) (h2 : j < Ls.length), WB ws[j] Ls[j]) (by
    rintro i ⟨i', b⟩ hi ⟨rfl, Ls, rfl, h1, h2, h3⟩
    simp only
    left
    have hf := flat_le h2
    have Wi := W ws[i] (List.getElem_mem hi)
    obtain ⟨L, hL, e⟩ := enc_step hN hw hi Wi (b := n :: Ls.flatten) (by rw [List.length_cons]; omega)
    refine ⟨_, e, rfl, Ls ++ [L], by simp, by simp [h1], fun x hx => ?_, fun j hj hj2 => ?_⟩
    · rcases List.mem_append.1 hx with hx | hx
      · exact h2 x hx
      · rw [List.mem_singleton.1 hx, hL.len]
        have := Wi.dst
        omega
    · simp only [List.length_append, List.length_cons, List.length_nil] at hj2
      by_cases e : j < Ls.length
      · rw [List.getElem_append_left e]; exact h3 j hj e
      · have : j = i := by omega
        subst this
        rw [List.getElem_append_right (by omega)]
        simp only [h1, Nat.sub_self, List.getElem_cons_zero]
        exact hL) (by
    rintro ⟨i', b⟩ ⟨rfl, Ls, rfl, h1, h2, h3⟩
    unfold consist_Encode_l3
    exact ⟨_, oif (decide_eq_false (by simp)) rfl, Ls, rfl, h1, h3⟩) N (by omega) (0, [n]) ⟨rfl, [], rfl, rfl, fun L h => absurd h (by simp), fun j _ h => absurd h (Nat.not_lt_zero _)⟩
  exact ⟨Ls, hq, h1, h2⟩
end Go.Gv
