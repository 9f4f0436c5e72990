/- The message of the wagons: the round trip. -/
import Derived.Test.YtlpkbkbjohhleaaGreatSq
namespace Go.Gv
theorem trip_ok {N : Nat} (hN : 5000 ≤ N) {ws : List T_Wagon} (hw : ws.length ≤ 96) (W : ∀ x ∈ ws, WagR x) (hc : consist_check N ws = some 0) : ∃ b, consist_Encode N ws = some (b, 0) ∧ consist_Decode N b = some (ws, 0) := by
  have hn : (toU8 ((ws.length : Nat) : Int)).toNat = ws.length := by rw [toU8_nat]; omega
  obtain ⟨Ls, hLs, M⟩ := enc_all hN hw W (toU8 ((ws.length : Nat) : Int))
  generalize hnn : toU8 ((ws.length : Nat) : Int) = n at hn hLs
  have hl := M.len
  have hf : Ls.flatten.length ≤ 2600 := by
    have := flat_le (Ls := Ls) fun L hL => by
      obtain ⟨i, hi, rfl⟩ := List.getElem_of_mem hL
      rw [(M.at_ i (by omega) hi).len]
      have := (W ws[i] (List.getElem_mem _)).dst
      omega
    omega
  obtain ⟨c, hck, hcl⟩ := chk_ok hN (b := n :: Ls.flatten) (by rw [List.length_cons]; omega)
  have h2 := two_ok N (b := n :: Ls.flatten) (by rw [List.length_cons]; omega) c
  have henc : consist_Encode N ws = some ((n :: Ls.flatten) ++ [toU8 ((c / 256 : Nat) : Int), toU8 (c : Int)], 0) := by
    unfold consist_Encode
    exact obi hc (oif rfl (obi (by rw [hnn]; exact hLs) (obi hck (obi h2 rfl))))
  refine ⟨_, henc, ?_⟩
  have hend := end_ok hN hw W M (n := n) (h := toU8 ((c / 256 : Nat) : Int)) (l := toU8 (c : Int)) hn (by omega)
  generalize hb : (n :: Ls.flatten) ++ [toU8 ((c / 256 : Nat) : Int), toU8 (c : Int)] = b at hend
  have hbl : b.length = Ls.flatten.length + 3 := by rw [← hb]; simp
  have e0 : idx b ((0 : Nat) : Int) = some n := by
    rw [idx_g8 (by omega), ← hb]; rfl
  have hsl : slc b 0 ((b.length - 2 : Nat) : Int) = some (n :: Ls.flatten) := by
    have h := slc_nat (l := b) (a := 0) (b := b.length - 2) (by omega) (by omega)
    rw [List.drop_zero, ← hb, List.take_append_of_le_length (by simp), List.take_of_length_le (by simp)] at h
    rw [← hb]; exact h
  have ht := rtwo_ok N (b := b) (p := b.length - 2) (by omega) (by omega)
  have g1 : (g8 b (b.length - 2)).toNat = c / 256 := by
    rw [← hb, g8_cat, if_neg (by simp)]
    have : ((n :: Ls.flatten) ++ [toU8 ((c / 256 : Nat) : Int), toU8 (c : Int)]).length - 2 - (n :: Ls.flatten).length = 0 := by simp
    rw [this]
    show (toU8 ((c / 256 : Nat) : Int)).toNat = c / 256
    rw [toU8_nat]; omega
  have g2 : (g8 b (b.length - 2 + 1)).toNat = c % 256 := by
    rw [← hb, g8_cat, if_neg (by simp)]
    have : ((n :: Ls.flatten) ++ [toU8 ((c / 256 : Nat) : Int), toU8 (c : Int)]).length - 2 + 1 - (n :: Ls.flatten).length = 1 := by simp
    rw [this]
    show (toU8 (c : Int)).toNat = c % 256
    rw [toU8_nat]
  rw [g1, g2] at ht
  have hq : iterN (fun s : Bool × Int × Int × List T_Wagon => consist_Decode_l1 N b s.1 s.2.1 s.2.2.1 s.2.2.2) N (true, 0, 1, []) = some (true, ws) := by
    refine runN1 (f := fun s : Bool × Int × Int × List T_Wagon => consist_Decode_l1 N b s.1 s.2.1 s.2.2.1 s.2.2.2) ws.length (fun i s => s.1 = true ∧ s.2.1 = i ∧ s.2.2.1 = ((off Ls i : Nat) : Int) ∧ s.2.2.2 = ws.take i) _ ?_ ?_ N (by omega) (true, 0, 1, []) ⟨rfl, rfl, rfl, rfl⟩
    · rintro i ⟨t, i', p, l⟩ hi ⟨rfl, rfl, rfl, rfl⟩
      have hi2 : i < Ls.length := by omega
      have ho := off_le hi2
      have hs := off_succ hi2
      obtain ⟨pre, post, e, ep⟩ := msg_at (n := n) (tl := [toU8 ((c / 256 : Nat) : Int), toU8 (c : Int)]) hi2
      rw [hb] at e
      obtain ⟨k1, k2⟩ := cat_at (pre := pre) (L := Ls[i]) (post := post)
      rw [← e, ep] at k1 k2
      have hr := rwagon_ok hN (W ws[i] (List.getElem_mem hi)) (M.at_ i hi hi2) (b := b) (p := off Ls i) (by omega) (by omega) k1 k2
      rw [← hs] at hr
      unfold consist_Decode_l1
      refine ⟨_, obi e0 (obi (in64_nat (n := n.toNat) rfl (by omega)) (oit (decide_eq_true (by simp only; omega)) (obi hr (obi (app_ok (by simp only [List.length_take, List.length_cons, List.length_nil]; omega) (by simp only [List.length_take, List.length_cons, List.length_nil]; omega)) (obi (inc_nat (by omega)) rfl))))), rfl, rfl, rfl, ?_⟩
      simp only
      rw [take_snoc hi]
    · rintro ⟨t, i', p, l⟩ ⟨rfl, rfl, rfl, rfl⟩
      unfold consist_Decode_l1
      refine obi e0 (obi (in64_nat (n := n.toNat) rfl (by omega)) (oif (decide_eq_false (by simp only; omega)) ?_))
      simp only [List.take_length]
  unfold consist_Decode
  refine obi hend (oif rfl (oif (decide_eq_false (by simp only; omega)) (obi (in64_nat (n := b.length - 2) (by simp only; omega) (by omega)) (obi hsl (obi ht (obi hck (oif ?_ (obi hq (oif rfl (obi hc (oif rfl rfl)))))))))))
  rw [decide_eq_true (by simp only; omega)]; rfl
end Go.Gv
