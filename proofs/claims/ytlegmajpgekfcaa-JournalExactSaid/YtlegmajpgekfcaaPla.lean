/- Journals: what the check numbers, frames and readers compute, in plain words. -/
import Derived.Test.YtlegmajpgekfcaaPm
namespace Go.Gv

/-! small words -/
theorem xorN_nat {b x y : Nat} (hx : x < 2 ^ b) (hy : y < 2 ^ b) : xorN b (x : Int) (y : Int) = some ((x ^^^ y : Nat) : Int) := by
  unfold xorN bitN
  rw [if_pos ⟨⟨Int.natCast_nonneg _, by exact_mod_cast hx⟩, Int.natCast_nonneg _, by exact_mod_cast hy⟩]
  rfl
theorem orN_nat {b x y : Nat} (hx : x < 2 ^ b) (hy : y < 2 ^ b) : orN b (x : Int) (y : Int) = some ((x ||| y : Nat) : Int) := by
  unfold orN bitN
  rw [if_pos ⟨⟨Int.natCast_nonneg _, by exact_mod_cast hx⟩, Int.natCast_nonneg _, by exact_mod_cast hy⟩]
  rfl
theorem andN_nat {b x y : Nat} (hx : x < 2 ^ b) (hy : y < 2 ^ b) : andN b (x : Int) (y : Int) = some ((x &&& y : Nat) : Int) := by
  unfold andN bitN
  rw [if_pos ⟨⟨Int.natCast_nonneg _, by exact_mod_cast hx⟩, Int.natCast_nonneg _, by exact_mod_cast hy⟩]
  rfl
theorem shr16_15 (n : Nat) : shr_u16 (n : Int) 15 = some ((n / 32768 : Nat) : Int) := by
  unfold shr_u16 shrW
  rw [if_pos (by decide), show (2 : Int) ^ (min (Int.toNat 15) 16) = ((32768 : Nat) : Int) from rfl, Int.fdiv_eq_ediv_of_nonneg _ (Int.natCast_nonneg _), Int.natCast_ediv]
theorem shr16_8 (n : Nat) : shr_u16 (n : Int) 8 = some ((n / 256 : Nat) : Int) := by
  unfold shr_u16 shrW
  rw [if_pos (by decide), show (2 : Int) ^ (min (Int.toNat 8) 16) = ((256 : Nat) : Int) from rfl, Int.fdiv_eq_ediv_of_nonneg _ (Int.natCast_nonneg _), Int.natCast_ediv]
theorem shr64_8 (n : Nat) : shr_i64 (n : Int) 8 = some ((n / 256 : Nat) : Int) := by
  unfold shr_i64 shrW
  rw [if_pos (by decide), show (2 : Int) ^ (min (Int.toNat 8) 64) = ((256 : Nat) : Int) from rfl, Int.fdiv_eq_ediv_of_nonneg _ (Int.natCast_nonneg _), Int.natCast_ediv]
theorem shl16_1 (n : Nat) : shl_u16 (n : Int) 1 = some ((n * 2 % 65536 : Nat) : Int) := by
  unfold shl_u16 shlW
  rw [if_pos (by decide), show (2 : Int) ^ (min (Int.toNat 1) 16) = 2 from rfl]
  congr 1
theorem shl16_8 (n : Nat) : shl_u16 (n : Int) 8 = some ((n * 256 % 65536 : Nat) : Int) := by
  unfold shl_u16 shlW
  rw [if_pos (by decide), show (2 : Int) ^ (min (Int.toNat 8) 16) = 256 from rfl]
  congr 1
theorem shl64_1 {n : Nat} (h : n < 1000000000) : shl_i64 (n : Int) 1 = some ((n * 2 : Nat) : Int) := by
  unfold shl_i64
  rw [if_pos (by decide), show (2 : Int) ^ (min (Int.toNat 1) 64) = 2 from rfl]
  exact in64_nat (by omega) (by omega)
theorem shl64_8 {n : Nat} (h : n < 1000000000) : shl_i64 (n : Int) 8 = some ((n * 256 : Nat) : Int) := by
  unfold shl_i64
  rw [if_pos (by decide), show (2 : Int) ^ (min (Int.toNat 8) 64) = 256 from rfl]
  exact in64_nat (by omega) (by omega)
theorem toU8_nat (n : Nat) : (toU8 (n : Int)).toNat = n % 256 := by
  unfold toU8
  rw [UInt8.toNat_ofNat']
  omega
theorem inc_nat {n : Nat} (h : n ≤ 100000000000) : in64 ((n : Int) + 1) = some ((n + 1 : Nat) : Int) := in64_nat (by omega) (by omega)

/-! the check number -/
def st16 (n : Nat) : Nat := if 32768 ≤ n then (n * 2 % 65536) ^^^ 4129 else n * 2
theorem st16_lt {n : Nat} (h : n < 65536) : st16 n < 65536 := by
  unfold st16
  split
  · exact Nat.xor_lt_two_pow (n := 16) (by omega) (by decide)
  · omega
def un16 (y : Nat) : Nat := if y % 2 = 1 then (y ^^^ 4129) / 2 + 32768 else y / 2
theorem un_st {n : Nat} (h : n < 65536) : un16 (st16 n) = n := by
  unfold st16
  split
  · have e : ((n * 2 % 65536) ^^^ 4129) % 2 = 1 := by
      have h1 := Nat.xor_mod_two_pow (a := n * 2 % 65536) (b := 4129) (n := 1)
      have h2 : n * 2 % 65536 % 2 ^ 1 = 0 := by omega
      rw [h2] at h1
      exact h1
    unfold un16
    rw [if_pos e, Nat.xor_assoc, Nat.xor_self, Nat.xor_zero]
    omega
  · unfold un16
    rw [if_neg (by omega)]
    omega
theorem st16_inj {a b : Nat} (ha : a < 65536) (hb : b < 65536) (h : st16 a = st16 b) : a = b := by rw [← un_st ha, ← un_st hb, h]
def it16 : Nat → Nat → Nat
  | 0, n => n
  | k + 1, n => it16 k (st16 n)
theorem it16_lt : ∀ (k : Nat) {n : Nat}, n < 65536 → it16 k n < 65536
  | 0, _, h => h
  | k + 1, _, h => it16_lt k (st16_lt h)
theorem it16_inj : ∀ (k : Nat) {a b : Nat}, a < 65536 → b < 65536 → it16 k a = it16 k b → a = b
  | 0, _, _, _, _, h => h
  | k + 1, _, _, ha, hb, h => st16_inj ha hb (it16_inj k (st16_lt ha) (st16_lt hb) h)
def bst (n : Nat) (x : UInt8) : Nat := it16 8 (n ^^^ (x.toNat * 256))
theorem x256 (x : UInt8) : x.toNat * 256 < 65536 := by have := x.toNat_lt; omega
theorem pre_lt {n : Nat} (h : n < 65536) (x : UInt8) : n ^^^ (x.toNat * 256) < 65536 := Nat.xor_lt_two_pow (n := 16) h (x256 x)
theorem bst_lt {n : Nat} (h : n < 65536) (x : UInt8) : bst n x < 65536 := it16_lt 8 (pre_lt h x)
theorem xr_cancel {a b c : Nat} (h : a ^^^ c = b ^^^ c) : a = b := by
  have := congrArg (· ^^^ c) h
  simpa [Nat.xor_assoc] using this
theorem xl_cancel {a b c : Nat} (h : c ^^^ a = c ^^^ b) : a = b := by
  rw [Nat.xor_comm c a, Nat.xor_comm c b] at h
  exact xr_cancel h
theorem bst_inj {a b : Nat} (ha : a < 65536) (hb : b < 65536) {x : UInt8} (h : bst a x = bst b x) : a = b := xr_cancel (it16_inj 8 (pre_lt ha x) (pre_lt hb x) h)
theorem bst_byte {a : Nat} (ha : a < 65536) {x y : UInt8} (h : bst a x = bst a y) : x = y := by
  have h1 := xl_cancel (it16_inj 8 (pre_lt ha x) (pre_lt ha y) h)
  exact UInt8.toNat_inj.1 (by omega)
def crc (n : Nat) (l : List UInt8) : Nat := l.foldl bst n
theorem crc_cons (n : Nat) (x : UInt8) (l : List UInt8) : crc n (x :: l) = crc (bst n x) l := by simp only [crc, List.foldl_cons]
theorem crc_nil (n : Nat) : crc n [] = n := by simp only [crc, List.foldl_nil]
theorem crc_lt (l : List UInt8) {n : Nat} (h : n < 65536) : crc n l < 65536 := by
  induction l generalizing n with
  | nil => rw [crc_nil]; exact h
  | cons x l ih => rw [crc_cons]; exact ih (bst_lt h x)
theorem crc_inj (l : List UInt8) {a b : Nat} (ha : a < 65536) (hb : b < 65536) (h : crc a l = crc b l) : a = b := by
  induction l generalizing a b with
  | nil => rw [crc_nil, crc_nil] at h; exact h
  | cons x l ih => rw [crc_cons, crc_cons] at h; exact bst_inj ha hb (ih (bst_lt ha x) (bst_lt hb x) h)
theorem crc_app (n : Nat) (a b : List UInt8) : crc n (a ++ b) = crc (crc n a) b := List.foldl_append
theorem crc_set {n : Nat} (hn : n < 65536) (l : List UInt8) (i : Nat) (h : i < l.length) (y : UInt8) (hh : crc n (l.set i y) = crc n l) : y = l[i] := by
  induction l generalizing n i with
  | nil => simp at h
  | cons x l ih =>
    cases i with
    | zero =>
      rw [List.set_cons_zero, crc_cons, crc_cons] at hh
      exact bst_byte hn (crc_inj l (bst_lt hn y) (bst_lt hn x) hh)
    | succ i =>
      rw [List.set_cons_succ, crc_cons, crc_cons] at hh
      have := ih (bst_lt hn x) i (by simpa using h) hh
      simpa using this

theorem fur4 (N : Nat) (hN : 9 < N) {m : Nat} (hm : m < 65536) : iterN (fun s : Int × Int => journal_further_l4 N s.1 s.2) N ((m : Int), 0) = some ((it16 8 m : Nat) : Int) := by
  obtain ⟨q, hq, rfl⟩ := iterN_run (f := fun s : Int × Int => journal_further_l4 N s.1 s.2) (I := fun s => ∃ k n : Nat, s = ((n : Int), (k : Int)) ∧ k ≤ 8 ∧ n < 65536 ∧ it16 (8 - k) n = it16 8 m) (Q := fun q => q = ((it16 8 m : Nat) : Int)) (fun s => (8 - s.2).toNat) (by
    rintro s ⟨k, n, rfl, hk, hn, e⟩
    simp only
    unfold journal_further_l4
    by_cases h : k < 8
    · have e2 : it16 (8 - k) n = it16 (8 - (k + 1)) (st16 n) := by rw [show 8 - k = (8 - (k + 1)) + 1 by omega]; rfl
      refine .inl ⟨(((st16 n : Nat) : Int), ((k + 1 : Nat) : Int)), oit (decide_eq_true (by omega)) (obi (shr16_15 n) (obi (shl16_1 n) ?_)), ⟨k + 1, st16 n, rfl, h, st16_lt hn, by rw [← e2, e]⟩, by omega⟩
      by_cases hb : 32768 ≤ n
      · refine oit (decide_eq_true (by omega)) (obi (xorN_nat (y := 4129) (by omega) (by decide)) (obi (inc_nat (by omega)) ?_))
        rw [show st16 n = (n * 2 % 65536) ^^^ 4129 from if_pos hb]
      · refine oif (decide_eq_false (by omega)) (obi (inc_nat (by omega)) ?_)
        rw [show st16 n = n * 2 from if_neg hb, Nat.mod_eq_of_lt (show n * 2 < 65536 by omega)]
    · refine .inr ⟨_, oif (decide_eq_false (by omega)) rfl, ?_⟩
      have : k = 8 := by omega
      subst this
      rw [← e]; rfl) N ((m : Int), 0) ⟨0, m, rfl, by omega, hm, rfl⟩ (by simp only; omega)
  exact hq
theorem rchk4 (N : Nat) (hN : 9 < N) {m : Nat} (hm : m < 65536) : iterN (fun s : Int × Int => r43_Check_l4 N s.1 s.2) N ((m : Int), 0) = some ((it16 8 m : Nat) : Int) := by
  obtain ⟨q, hq, rfl⟩ := iterN_run (f := fun s : Int × Int => r43_Check_l4 N s.1 s.2) (I := fun s => ∃ k n : Nat, s = ((n : Int), (k : Int)) ∧ k ≤ 8 ∧ n < 65536 ∧ it16 (8 - k) n = it16 8 m) (Q := fun q => q = ((it16 8 m : Nat) : Int)) (fun s => (8 - s.2).toNat) (by
    rintro s ⟨k, n, rfl, hk, hn, e⟩
    simp only
    unfold r43_Check_l4
    by_cases h : k < 8
    · have e2 : it16 (8 - k) n = it16 (8 - (k + 1)) (st16 n) := by rw [show 8 - k = (8 - (k + 1)) + 1 by omega]; rfl
      refine .inl ⟨(((st16 n : Nat) : Int), ((k + 1 : Nat) : Int)), oit (decide_eq_true (by omega)) (obi (shl64_1 (by omega)) ?_), ⟨k + 1, st16 n, rfl, h, st16_lt hn, by rw [← e2, e]⟩, by omega⟩
      by_cases hb : 32768 ≤ n
      · have ea : (n * 2) &&& 65535 = n * 2 % 65536 := Nat.and_two_pow_sub_one_eq_mod (n * 2) 16
        refine oit (decide_eq_true (by omega)) (obi (andN_nat (y := 65535) (by omega) (by decide)) (obi (xorN_nat (y := 4129) (by rw [ea]; omega) (by decide)) (obi (inc_nat (by omega)) ?_)))
        rw [show st16 n = (n * 2 % 65536) ^^^ 4129 from if_pos hb, ea]
      · refine oif (decide_eq_false (by omega)) (obi (inc_nat (by omega)) ?_)
        rw [show st16 n = n * 2 from if_neg hb]
    · refine .inr ⟨_, oif (decide_eq_false (by omega)) rfl, ?_⟩
      have : k = 8 := by omega
      subst this
      rw [← e]; rfl) N ((m : Int), 0) ⟨0, m, rfl, by omega, hm, rfl⟩ (by simp only; omega)
  exact hq

theorem further_eq (N : Nat) (hN : 9 < N) (l : List UInt8) (hl : l.length < N) (hl2 : l.length ≤ 100000000) {m : Nat} (hm : m < 65536) : journal_further N (m : Int) l = some ((crc m l : Nat) : Int) := by
  obtain ⟨q, hq, rfl⟩ := iterN_run (f := fun s : Int × Int => journal_further_l3 N l s.1 s.2) (I := fun s => ∃ i n : Nat, s = ((n : Int), (i : Int)) ∧ i ≤ l.length ∧ n < 65536 ∧ crc n (l.drop i) = crc m l) (Q := fun q => q = ((crc m l : Nat) : Int)) (fun s => l.length - s.2.toNat) (by
    rintro s ⟨i, n, rfl, hi, hn, e⟩
    simp only
    unfold journal_further_l3
    by_cases h : i < l.length
    · have hx := (l[i]).toNat_lt
      refine .inl ⟨(((bst n l[i] : Nat) : Int), ((i + 1 : Nat) : Int)), oit (decide_eq_true (by omega)) (obi (idx_nat h) (obi (x := ((l[i].toNat * 256 : Nat) : Int)) ?_ (obi (xorN_nat (by omega) (x256 l[i])) (obi (fur4 N hN (pre_lt hn _)) (obi (inc_nat (by omega)) rfl))))), ⟨i + 1, _, rfl, h, bst_lt hn _, ?_⟩, by omega⟩
      · have e1 : ((l[i].toNat : Int) % 65536) = ((l[i].toNat : Nat) : Int) := by omega
        rw [e1, shl16_8, Nat.mod_eq_of_lt (x256 _)]
      · rw [← e, List.drop_eq_getElem_cons h, crc_cons]
    · refine .inr ⟨_, oif (decide_eq_false (by omega)) rfl, ?_⟩
      rw [List.drop_of_length_le (by omega)] at e
      rw [← e, crc_nil]) N ((m : Int), 0) ⟨0, m, rfl, by omega, hm, by simp⟩ (by simp only; omega)
  exact obi hq rfl
theorem rcheck_eq (N : Nat) (hN : 9 < N) (l : List UInt8) (hl : l.length < N) (hl2 : l.length ≤ 100000000) : r43_Check N l = some ((crc 65535 l : Nat) : Int) := by
  obtain ⟨q, hq, rfl⟩ := iterN_run (f := fun s : Int × Int => r43_Check_l3 N l s.1 s.2) (I := fun s => ∃ i n : Nat, s = ((n : Int), (i : Int)) ∧ i ≤ l.length ∧ n < 65536 ∧ crc n (l.drop i) = crc 65535 l) (Q := fun q => q = ((crc 65535 l : Nat) : Int)) (fun s => l.length - s.2.toNat) (by
    rintro s ⟨i, n, rfl, hi, hn, e⟩
    simp only
    unfold r43_Check_l3
    by_cases h : i < l.length
    · have hx := (l[i]).toNat_lt
      have hb := x256 l[i]
      refine .inl ⟨(((bst n l[i] : Nat) : Int), ((i + 1 : Nat) : Int)), oit (decide_eq_true (by omega)) (obi (idx_nat h) (obi (in64_nat rfl (by omega)) (obi (shl64_8 (by omega)) (obi (xorN_nat (by omega) (by omega)) (obi (rchk4 N hN (pre_lt hn _)) (obi (inc_nat (by omega)) rfl)))))), ⟨i + 1, _, rfl, h, bst_lt hn _, ?_⟩, by omega⟩
      rw [← e, List.drop_eq_getElem_cons h, crc_cons]
    · refine .inr ⟨_, oif (decide_eq_false (by omega)) rfl, ?_⟩
      rw [List.drop_of_length_le (by omega)] at e
      rw [← e, crc_nil]) N (65535, 0) ⟨0, 65535, rfl, by omega, by decide, by simp⟩ (by simp only; omega)
  exact obi hq rfl

/-! frames -/
def lenb (n : Nat) : List UInt8 := [toU8 ((n / 256 : Nat) : Int), toU8 (n : Int)]
def cks (r : List UInt8) : Nat := crc 65535 (lenb r.length ++ r)
theorem cks_lt (r : List UInt8) : cks r < 65536 := crc_lt _ (by decide)
def ckb (c : Nat) : List UInt8 := [toU8 ((c / 256 : Nat) : Int), toU8 (c : Int)]
def frame (r : List UInt8) : List UInt8 := (lenb r.length ++ ckb (cks r)) ++ r
theorem frame_len (r : List UInt8) : (frame r).length = 4 + r.length := by simp [frame, lenb, ckb]; omega
theorem check_eq (N : Nat) (hN : 9 < N) (r : List UInt8) (hl : r.length < N) (hl2 : r.length ≤ 100000000) : journal_check N r = some ((cks r : Nat) : Int) := by
  unfold journal_check
  refine obi (shr64_8 r.length) (obi (further_eq N hN _ (by simp; omega) (by simp) (m := 65535) (by decide)) (obi (further_eq N hN r hl hl2 (crc_lt _ (by decide))) ?_))
  unfold cks
  rw [crc_app]; rfl
theorem append_eq (N : Nat) (hN : 9 < N) (b r : List UInt8) (hl : r.length < N) (hr : r.length ≤ 8192) (hb : b.length ≤ 100000000) : journal_Append N b r = some (b ++ frame r, 0) := by
  unfold journal_Append
  refine oif (decide_eq_false (by omega)) (obi (check_eq N hN r hl (by omega)) (obi (in64_ok (by omega)) (obi (in64_ok (by omega)) (obi (x := []) ?_ (obi (app_ok (by simp; omega) (by simp; omega)) (obi (shr64_8 _) (obi (shr16_8 _) (obi (app_ok (by simp; omega) (by simp; omega)) (obi (app_ok (by simp; omega) (by simp; omega)) ?_)))))))))
  · unfold mkC
    rw [if_pos (by omega)]; rfl
  · simp [frame, lenb, ckb]
theorem rappend_eq (N : Nat) (hN : 9 < N) (b r : List UInt8) (hl : r.length + 2 < N) (hr : r.length ≤ 8192) (hb : b.length ≤ 100000000) : r43_Append N b r = some (b ++ frame r, 0) := by
  unfold r43_Append
  refine oif (decide_eq_false (by omega)) (obi (shr64_8 _) (obi (app_ok (by simp) (by simp)) (obi (app_ok (by simp; omega) (by simp; omega)) (obi (rcheck_eq N hN _ (by simp; omega) (by simp; omega)) (obi (app_ok (by simp; omega) (by simp; omega)) (obi rfl (obi rfl (obi (shr64_8 _) (obi (app_ok (by simp; omega) (by simp; omega)) (obi (app_ok (by simp; omega) (by simp; omega)) ?_))))))))))
  simp [frame, lenb, ckb, cks]
theorem append_big (N : Nat) (b r : List UInt8) (hr : 8192 < r.length) : journal_Append N b r = some ([], 3) := oit (decide_eq_true (by omega)) rfl
theorem rappend_big (N : Nat) (b r : List UInt8) (hr : 8192 < r.length) : r43_Append N b r = some ([], 3) := oit (decide_eq_true (by omega)) rfl

/-- What a reader does at one place. -/
def seen (Q : List UInt8) (at_ : Int) (ls : List (List UInt8)) : (Int × List (List UInt8)) ⊕ ((List (List UInt8) × Int × Int) ⊕ (Int × List (List UInt8))) :=
  match Q with
  | h0 :: h1 :: h2 :: h3 :: rest =>
    if 8192 < h0.toNat * 256 + h1.toNat then .inr (.inl (ls, at_, 11))
    else if rest.length < h0.toNat * 256 + h1.toNat then .inr (.inr (at_, ls))
    else if [h2, h3] = ckb (cks (rest.take (h0.toNat * 256 + h1.toNat))) then .inl (at_ + ((4 + (h0.toNat * 256 + h1.toNat) : Nat) : Int), ls ++ [rest.take (h0.toNat * 256 + h1.toNat)])
    else .inr (.inl (ls, at_, 9))
  | _ => .inr (.inr (at_, ls))
theorem or256 (a b : UInt8) : a.toNat * 256 ||| b.toNat = a.toNat * 256 + b.toNat := by
  have := Nat.shiftLeft_add_eq_or_of_lt (i := 8) (b := b.toNat) b.toNat_lt a.toNat
  rw [Nat.shiftLeft_eq] at this
  exact this.symm
theorem u8_dec (a b : UInt8) : decide ((a.toNat : Int) = (b.toNat : Int)) = decide (a = b) := by
  congr 1
  apply propext
  constructor
  · intro h; exact UInt8.toNat_inj.1 (by omega)
  · rintro rfl; rfl

theorem rec_step (N : Nat) (hN : 9 < N) (P Q : List UInt8) (ls : List (List UInt8)) (hNb : (P ++ Q).length < N) (hb : (P ++ Q).length ≤ 10000000) (hls : ls.length ≤ 10000000) : journal_Records_l1 N (P ++ Q) (P.length : Int) ls = some (seen Q P.length ls) := by
  have hPQ : (P ++ Q).length = P.length + Q.length := List.length_append
  unfold journal_Records_l1
  refine obi (in64_nat (n := Q.length) (by omega) (by omega)) ?_
  by_cases h4 : Q.length < 4
  · refine oif (decide_eq_false (by omega)) ?_
    rcases Q with _ | ⟨h0, _ | ⟨h1, _ | ⟨h2, _ | ⟨h3, rest⟩⟩⟩⟩ <;> first | rfl | (simp at h4; omega)
  · obtain ⟨h0, h1, h2, h3, rest, rfl⟩ : ∃ h0 h1 h2 h3 rest, Q = h0 :: h1 :: h2 :: h3 :: rest := by
      rcases Q with _ | ⟨h0, _ | ⟨h1, _ | ⟨h2, _ | ⟨h3, rest⟩⟩⟩⟩ <;> first | exact ⟨_, _, _, _, _, rfl⟩ | (simp at h4)
    have hl0 := h0.toNat_lt
    have hl1 := h1.toNat_lt
    have hlen : (h0 :: h1 :: h2 :: h3 :: rest).length = rest.length + 4 := by simp
    refine oit (decide_eq_true (by omega)) (obi (x := h0 :: h1 :: h2 :: h3 :: rest) ?_ (obi rfl (obi (in64_nat rfl (by omega)) (obi (shl64_8 (by omega)) (obi rfl (obi (in64_nat rfl (by omega)) (obi (orN_nat (by omega) (by omega)) ?_)))))))
    · rw [slc_nat (by omega) (Nat.le_refl _), List.take_of_length_le (Nat.le_refl _), List.drop_left]
    · rw [or256]
      simp only [seen]
      generalize hn : h0.toNat * 256 + h1.toNat = n
      by_cases hn1 : 8192 < n
      · rw [if_pos hn1]
        exact oit (decide_eq_true (by omega)) rfl
      · rw [if_neg hn1]
        refine oif (decide_eq_false (by omega)) (obi (in64_nat (n := 4 + n) (by omega) (by omega)) ?_)
        by_cases hn2 : rest.length < n
        · rw [if_pos hn2]
          exact oit (decide_eq_true (by rw [hlen]; omega)) rfl
        · rw [if_neg hn2]
          have hs : slc (h0 :: h1 :: h2 :: h3 :: rest) 4 ((4 + n : Nat) : Int) = some (rest.take n) := by
            have := slc_nat (l := h0 :: h1 :: h2 :: h3 :: rest) (a := 4) (b := 4 + n) (by omega) (by rw [hlen]; omega)
            rw [show ((4 : Nat) : Int) = 4 from rfl] at this
            rw [this, show 4 + n = n + 1 + 1 + 1 + 1 by omega]; rfl
          have htl : (rest.take n).length = n := by simp; omega
          refine oif (decide_eq_false (by rw [hlen]; omega)) (obi (in64_nat (n := 4 + n) (by omega) (by omega)) (obi hs (obi (app_ok (by simp; omega) (by simp; omega)) (obi (check_eq N (by omega) _ (by simp; rw [hlen] at hPQ; omega) (by simp; omega)) (obi (shr16_8 _) (obi rfl ?_))))))
          simp only [List.nil_append]
          rw [u8_dec]
          have e3 : idx (h0 :: h1 :: h2 :: h3 :: rest) 3 = some h3 := rfl
          rw [e3, gO_pure]
          refine obi rfl ?_
          by_cases c1 : toU8 ((cks (rest.take n) / 256 : Nat) : Int) = h2
          · simp only [c1, decide_true, Bool.not_true, Bool.not_false, cond_true, Bool.false_or]
            rw [u8_dec]
            by_cases c2 : toU8 ((cks (rest.take n) : Nat) : Int) = h3
            · rw [if_pos (by unfold ckb; rw [c1, c2])]
              simp only [c2, decide_true, Bool.not_true, cond_false]
              refine obi (app_ok (by simp; omega) (by simp; omega)) (obi (in64_nat (n := 4 + n) (by omega) (by omega)) (obi (in64_ok (by omega)) rfl))
            · rw [if_neg (by unfold ckb; intro h; injection h with _ h; injection h with h _; exact c2 h.symm)]
              simp [c2]
          · rw [if_neg (by unfold ckb; intro h; injection h with h _; exact c1 h.symm)]
            simp only [decide_eq_false c1, Bool.not_false, Bool.true_or, cond_true]

/-! what is seen -/
theorem len_back {n : Nat} (h : n ≤ 8192) : (toU8 ((n / 256 : Nat) : Int)).toNat * 256 + (toU8 (n : Int)).toNat = n := by
  rw [toU8_nat, toU8_nat]; omega
theorem seen_frame {r Q : List UInt8} (hr : r.length ≤ 8192) (at_ : Int) (ls : List (List UInt8)) : seen (frame r ++ Q) at_ ls = .inl (at_ + ((frame r).length : Int), ls ++ [r]) := by
  have e : frame r ++ Q = toU8 ((r.length / 256 : Nat) : Int) :: toU8 (r.length : Int) :: toU8 ((cks r / 256 : Nat) : Int) :: toU8 ((cks r : Nat) : Int) :: (r ++ Q) := by simp [frame, lenb, ckb]
  rw [e]
  simp only [seen, len_back hr]
  rw [if_neg (by omega), if_neg (by simp), List.take_left, if_pos (show [toU8 ((cks r / 256 : Nat) : Int), toU8 ((cks r : Nat) : Int)] = ckb (cks r) from rfl), frame_len]
theorem seen_part {r : List UInt8} (hr : r.length ≤ 8192) {m : Nat} (hm : m < (frame r).length) (at_ : Int) (ls : List (List UInt8)) : seen ((frame r).take m) at_ ls = .inr (.inr (at_, ls)) := by
  have e : frame r = toU8 ((r.length / 256 : Nat) : Int) :: toU8 (r.length : Int) :: toU8 ((cks r / 256 : Nat) : Int) :: toU8 ((cks r : Nat) : Int) :: r := by simp [frame, lenb, ckb]
  rw [frame_len] at hm
  rw [e]
  rcases m with _ | _ | _ | _ | m
  · rfl
  · rfl
  · rfl
  · rfl
  · simp only [List.take_succ_cons, seen, len_back hr]
    rw [if_neg (by omega), if_pos (by simp; omega)]
theorem ckb_inj {a b : Nat} (ha : a < 65536) (hb : b < 65536) (h : ckb a = ckb b) : a = b := by
  unfold ckb at h
  injection h with h1 h2
  injection h2 with h2 _
  have e1 := congrArg UInt8.toNat h1
  have e2 := congrArg UInt8.toNat h2
  rw [toU8_nat, toU8_nat] at e1 e2
  omega
/-- A frame in which the check number or one byte of the record is another one. -/
theorem seen_bad {r : List UInt8} (hr : r.length ≤ 8192) {i : Nat} (hi : i < 2 + r.length) {y : UInt8} (hy : (frame r)[2 + i]? ≠ some y) (Q : List UInt8) (at_ : Int) (ls : List (List UInt8)) : seen ((frame r).set (2 + i) y ++ Q) at_ ls = .inr (.inl (ls, at_, 9)) := by
  have e : frame r = toU8 ((r.length / 256 : Nat) : Int) :: toU8 (r.length : Int) :: toU8 ((cks r / 256 : Nat) : Int) :: toU8 ((cks r : Nat) : Int) :: r := by simp [frame, lenb, ckb]
  rw [e] at hy ⊢
  rcases i with _ | _ | i
  · simp only [Nat.reduceAdd, List.set_cons_succ, List.set_cons_zero, List.cons_append, seen, len_back hr]
    rw [if_neg (by omega), if_neg (by simp), List.take_left, if_neg]
    intro h
    unfold ckb at h
    injection h with h _
    exact hy (by rw [h]; rfl)
  · simp only [Nat.reduceAdd, List.set_cons_succ, List.set_cons_zero, List.cons_append, seen, len_back hr]
    rw [if_neg (by omega), if_neg (by simp), List.take_left, if_neg]
    intro h
    unfold ckb at h
    injection h with _ h
    injection h with h _
    exact hy (by rw [h]; rfl)
  · have hil : i < r.length := by omega
    have e2 : 2 + (i + 1 + 1) = i + 1 + 1 + 1 + 1 := by omega
    rw [e2] at hy ⊢
    simp only [List.set_cons_succ, List.cons_append, seen, len_back hr]
    rw [if_neg (by omega), if_neg (by simp)]
    have ht : (r.set i y ++ Q).take r.length = r.set i y := by rw [List.take_append_of_le_length (by simp), List.take_of_length_le (by simp)]
    rw [ht, if_neg]
    intro h
    have h1 := ckb_inj (cks_lt _) (cks_lt _) (show ckb (cks r) = ckb (cks (r.set i y)) from h)
    unfold cks at h1
    rw [List.length_set, crc_app, crc_app] at h1
    have := crc_set (crc_lt _ (by decide)) r i hil y h1.symm
    apply hy
    simp [this, hil]

/-! a whole journal -/
def frames (l : List (List UInt8)) : List UInt8 := l.flatMap frame
theorem frames_app (a b : List (List UInt8)) : frames (a ++ b) = frames a ++ frames b := List.flatMap_append
theorem frames_len {l : List (List UInt8)} {m : Nat} (h : ∀ r ∈ l, r.length ≤ m) : (frames l).length ≤ l.length * (4 + m) := by
  induction l with
  | nil => simp [frames]
  | cons x l ih =>
    have h1 := ih fun r hr => h r (List.mem_cons_of_mem _ hr)
    have h2 := h x List.mem_cons_self
    have e : frames (x :: l) = frame x ++ frames l := rfl
    rw [e, List.length_append, frame_len, List.length_cons, Nat.add_mul]
    omega
theorem records_eq (N : Nat) (hN : 9 < N) (rs : List (List UInt8)) (T : List UInt8) (hrs : ∀ r ∈ rs, r.length ≤ 8192) (hNb : (frames rs ++ T).length < N) (hb : (frames rs ++ T).length ≤ 10000000) (hl : rs.length < N) (hl2 : rs.length ≤ 10000000) {q : (List (List UInt8) × Int × Int) ⊕ (Int × List (List UInt8))} (hT : seen T (frames rs).length rs = .inr q) :
    iterN (fun s : Int × List (List UInt8) => journal_Records_l1 N (frames rs ++ T) s.1 s.2) N (0, []) = some q := by
  obtain ⟨q', hq, rfl⟩ := iterN_run (f := fun s : Int × List (List UInt8) => journal_Records_l1 N (frames rs ++ T) s.1 s.2) (I := fun s => ∃ i : Nat, s = (((frames (rs.take i)).length : Int), rs.take i) ∧ i ≤ rs.length) (Q := fun x => x = q) (fun s => rs.length - s.2.length) (by
    rintro s ⟨i, rfl, hi⟩
    simp only
    by_cases h : i < rs.length
    · have hsp : rs = rs.take i ++ (rs[i] :: rs.drop (i + 1)) := by rw [← List.drop_eq_getElem_cons h, List.take_append_drop]
      have e : frames rs ++ T = frames (rs.take i) ++ (frame rs[i] ++ (frames (rs.drop (i + 1)) ++ T)) := by
        conv => lhs; rw [hsp]
        rw [frames_app, List.append_assoc]
        congr 1
        show (frame rs[i] ++ frames (rs.drop (i + 1))) ++ T = _
        rw [List.append_assoc]
      rw [e, rec_step N hN _ _ _ (by rw [← e]; exact hNb) (by rw [← e]; exact hb) (by simp; omega), seen_frame (hrs _ (List.getElem_mem h))]
      refine .inl ⟨_, rfl, ⟨i + 1, ?_, h⟩, by simp; omega⟩
      rw [List.take_succ_eq_append_getElem h, frames_app]
      simp [frames]
    · have : i = rs.length := by omega
      subst this
      rw [List.take_of_length_le (Nat.le_refl _)]
      rw [rec_step N hN _ _ _ hNb hb (by omega), hT]
      exact .inr ⟨_, rfl, rfl⟩) N (0, []) ⟨0, by simp [frames], by omega⟩ (by simp; omega)
  exact hq
theorem records_ok (N : Nat) (hN : 9 < N) (rs : List (List UInt8)) (T : List UInt8) (hrs : ∀ r ∈ rs, r.length ≤ 8192) (hNb : (frames rs ++ T).length < N) (hb : (frames rs ++ T).length ≤ 10000000) (hl : rs.length < N) (hl2 : rs.length ≤ 10000000) (hT : seen T (frames rs).length rs = .inr (.inr ((frames rs).length, rs))) :
    journal_Records N (frames rs ++ T) = some (rs, ((frames rs).length : Int), 0) := by
  unfold journal_Records
  exact obi (records_eq N hN rs T hrs hNb hb hl hl2 hT) rfl
theorem mend_ok (N : Nat) (hN : 9 < N) (rs : List (List UInt8)) (T : List UInt8) (hrs : ∀ r ∈ rs, r.length ≤ 8192) (hNb : (frames rs ++ T).length < N) (hb : (frames rs ++ T).length ≤ 10000000) (hl : rs.length < N) (hl2 : rs.length ≤ 10000000) (hT : seen T (frames rs).length rs = .inr (.inr ((frames rs).length, rs))) :
    journal_Mend N (frames rs ++ T) = some (frames rs, 0) := by
  unfold journal_Mend
  refine obi (records_ok N hN rs T hrs hNb hb hl hl2 hT) (oif (by simp) (obi (slc_nat (a := 0) (by omega) (by simp)) (obi (app_ok (by simp; simp at hb; omega) (by simp; simp at hb; omega)) ?_)))
  simp

/-! comparing -/
theorem bytes_eq (N : Nat) (b : List UInt8) (h : b.length < N) (h2 : b.length ≤ 100000000) : humpgen_Bytes N b b = some true := by
  obtain ⟨q, hq, rfl⟩ := iterN_run (f := fun s : Int => humpgen_Bytes_l1 N b b s) (I := fun s => ∃ i : Nat, s = i ∧ i ≤ b.length) (Q := fun q => q = .inr ()) (fun s => b.length - s.toNat) (by
    rintro s ⟨i, rfl, hi⟩
    unfold humpgen_Bytes_l1
    by_cases h : i < b.length
    · exact .inl ⟨((i + 1 : Nat) : Int), oit (decide_eq_true (by omega)) (obi (idx_nat h) (obi (idx_nat h) (oif (by simp) (obi (inc_nat (by omega)) rfl)))), ⟨i + 1, rfl, h⟩, by omega⟩
    · exact .inr ⟨_, oif (decide_eq_false (by omega)) rfl, rfl⟩) N 0 ⟨0, rfl, Nat.zero_le _⟩ (by simp; omega)
  unfold humpgen_Bytes
  exact oif (by simp) (obi hq rfl)
theorem same_eq (N : Nat) (l : List (List UInt8)) (h : l.length < N) (h2 : l.length ≤ 100000000) (hr : ∀ r ∈ l, r.length < N ∧ r.length ≤ 100000000) : law43_same N l l = some true := by
  obtain ⟨q, hq, rfl⟩ := iterN_run (f := fun s : Int => law43_same_l1 N l l s) (I := fun s => ∃ i : Nat, s = i ∧ i ≤ l.length) (Q := fun q => q = .inr ()) (fun s => l.length - s.toNat) (by
    rintro s ⟨i, rfl, hi⟩
    unfold law43_same_l1
    by_cases h : i < l.length
    · have := hr _ (List.getElem_mem h)
      exact .inl ⟨((i + 1 : Nat) : Int), oit (decide_eq_true (by omega)) (obi (idx_nat h) (obi (idx_nat h) (obi (bytes_eq N _ this.1 this.2) (oif rfl (obi (inc_nat (by omega)) rfl))))), ⟨i + 1, rfl, h⟩, by omega⟩
    · exact .inr ⟨_, oif (decide_eq_false (by omega)) rfl, rfl⟩) N 0 ⟨0, rfl, Nat.zero_le _⟩ (by simp; omega)
  unfold law43_same
  exact oif (by simp) (obi hq rfl)
end Go.Gv
