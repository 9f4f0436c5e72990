/- Throwing (chapter 24): the reference's Commands, rows and insertion. -/
import Derived.Test.YtpelfidmcpcmjaaPli
namespace Go.Gv
theorem srvO_len {l : List (List T_Span)} {r : List Int} {th : Int} {st : List T_Throw} {k : Nat} {s : T_Span} {m m' : List T_Command} (h : srvO l r th st m k s = .inl m') (hm : m.length ≤ 1024) : m'.length ≤ 1024 := by
  unfold srvO at h
  split at h
  · injection h with h; rw [← h]; exact hm
  split at h
  · cases h
  split at h
  · cases h
  split at h
  · cases h
  split at h
  · cases h
  injection h with h
  rw [← h]; simp only [List.length_append, List.length_cons, List.length_nil]; omega
theorem rrow {N : Nat} (hN : 2000 ≤ N) {l : List (List T_Span)} {r : List Int} {th : Int} {st : List T_Throw} (v : V24 l r th st) {made : List T_Command} {k : Nat} (hk : k < l.length) (hm : made.length ≤ 1024) :
    ∃ q, iterN (fun s : Int × List T_Command => r24_Commands_l29 N l r th st (k : Int) s.1 s.2) N (0, made) = some q ∧
      ((∃ e, rowO l r th st k (lk l k) made = .inr e ∧ q = .inl ([], e)) ∨ ∃ m', rowO l r th st k (lk l k) made = .inl m' ∧ m'.length ≤ 1024 ∧ q = .inr m') := by
  have hlen := (v.gd _ (lk_mem hk)).len
  have hrl := v.rl
  have hth := v.th0
  have hrb := v.rb k (by omega)
  have er : idx r (k : Int) = some (rk r k) := idx_rk (by omega)
  have el := idx_lk hk
  refine runN (f := fun s : Int × List T_Command => r24_Commands_l29 N l r th st (k : Int) s.1 s.2) (lk l k).length
    (fun i s => s.1 = i ∧ s.2.length ≤ 1024 ∧ rowO l r th st k ((lk l k).drop i) s.2 = rowO l r th st k (lk l k) made) _ ?_ ?_ N (by omega) (0, made) ⟨rfl, hm, rfl⟩
  · rintro i ⟨i', md⟩ hi ⟨rfl, hm, hV⟩
    simp only at hm hV ⊢
    have hs := v.span hk hi
    have htm := tm_bound v (pk2 (lk l k) i).Element k (by omega)
    have t0 : decide ((i : Int) < (List.length (lk l k) : Int)) = true := decide_eq_true (by omega)
    have ep := idx_pk2 hi
    have inc : in64 ((i : Int) + 1) = some ((i + 1 : Nat) : Int) := inc_nat (by omega)
    have hf := first_eq hN v.sl (pk2 (lk l k) i).Element
    have h30 := r30 (N := N) (made := md) (by omega) hm st (pk2 (lk l k) i)
    have h31 := r31 hN v (k := k) (by omega) (pk2 (lk l k) i)
    have hlen2 := fun m' h => srvO_len (l := l) (r := r) (th := th) (st := st) (k := k) (s := pk2 (lk l k) i) (m := md) (m' := m') h hm
    rw [drop_pk2 hi, rowO] at hV
    unfold srvO at hV hlen2
    unfold r24_Commands_l29
    by_cases c0 : (pk2 (lk l k) i).Side = 0
    · rw [if_pos (.inl c0)] at hV
      exact .inl ⟨_, obi el (oit t0 (obi el (obi ep (oit (decide_eq_true c0) (obi inc rfl))))), rfl, hm, hV⟩
    by_cases c1 : lastS md st (pk2 (lk l k) i).Element = (pk2 (lk l k) i).Side
    · rw [if_pos (.inr c1)] at hV
      exact .inl ⟨_, obi el (oit t0 (obi el (obi ep (oif (decide_eq_false c0) (obi hf (obi h30 (oit (decide_eq_true c1) (obi inc rfl)))))))), rfl, hm, hV⟩
    rw [if_neg (fun h => h.elim c0 c1)] at hV hlen2
    by_cases c2 : slE l (pk2 (lk l k) i).Element k = true
    · rw [if_pos c2] at hV
      exact .inr ⟨_, obi el (oit t0 (obi el (obi ep (oif (decide_eq_false c0) (obi hf (obi h30 (oif (decide_eq_false c1) (obi h31 (oit c2 rfl))))))))), .inl ⟨24, hV.symm, rfl⟩⟩
    rw [if_neg c2] at hV hlen2
    have c2 : slE l (pk2 (lk l k) i).Element k = false := by simpa using c2
    by_cases c3 : 1000000000 < tmE l r (pk2 (lk l k) i).Element k
    · rw [if_pos c3] at hV
      exact .inr ⟨_, obi el (oit t0 (obi el (obi ep (oif (decide_eq_false c0) (obi hf (obi h30 (oif (decide_eq_false c1) (obi h31 (oif c2 (oit (decide_eq_true c3) rfl)))))))))), .inl ⟨4, hV.symm, rfl⟩⟩
    rw [if_neg c3] at hV hlen2
    have a1 : in64 (tmE l r (pk2 (lk l k) i).Element k + th) = some (tmE l r (pk2 (lk l k) i).Element k + th) := in64_ok (by omega)
    have f1 : in64 (rk r k + (pk2 (lk l k) i).From) = some (rk r k + (pk2 (lk l k) i).From) := in64_ok (by omega)
    by_cases c4 : rk r k + (pk2 (lk l k) i).From < tmE l r (pk2 (lk l k) i).Element k + th
    · rw [if_pos c4] at hV
      exact .inr ⟨_, obi el (oit t0 (obi el (obi ep (oif (decide_eq_false c0) (obi hf (obi h30 (oif (decide_eq_false c1) (obi h31 (oif c2 (oif (decide_eq_false c3) (obi a1 (obi er (obi f1 (oit (decide_eq_true c4) rfl)))))))))))))), .inl ⟨21, hV.symm, rfl⟩⟩
    rw [if_neg c4] at hV hlen2
    by_cases c5 : md.length = 1024
    · rw [if_pos c5] at hV
      exact .inr ⟨_, obi el (oit t0 (obi el (obi ep (oif (decide_eq_false c0) (obi hf (obi h30 (oif (decide_eq_false c1) (obi h31 (oif c2 (oif (decide_eq_false c3) (obi a1 (obi er (obi f1 (oif (decide_eq_false c4) (oit (decide_eq_true (by omega)) rfl))))))))))))))), .inl ⟨3, hV.symm, rfl⟩⟩
    rw [if_neg c5] at hV hlen2
    exact .inl ⟨_, obi el (oit t0 (obi el (obi ep (oif (decide_eq_false c0) (obi hf (obi h30 (oif (decide_eq_false c1) (obi h31 (oif c2 (oif (decide_eq_false c3) (obi a1 (obi er (obi f1 (oif (decide_eq_false c4) (oif (decide_eq_false (by omega)) (obi (app_ok (by simp only [List.length_cons, List.length_nil]; omega) (by simp only [List.length_cons, List.length_nil]; omega)) (obi inc rfl))))))))))))))))), rfl, hlen2 _ rfl, hV⟩
  · rintro ⟨i', md⟩ ⟨rfl, hm, hV⟩
    simp only at hm hV
    rw [List.drop_length, rowO] at hV
    exact ⟨_, obi el (oif (decide_eq_false (by simp)) rfl), .inr ⟨md, hV.symm, hm, rfl⟩⟩
end Go.Gv
