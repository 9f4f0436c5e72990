/- Journals: the functions and the reference agree on all bytes (JournalExact). -/
import Derived.Test.YtlegmajpgekfcaaPlb
namespace Go.Gv
theorem bnT {b : Bool} (h : b = false) : (!b) = true := by rw [h]; rfl
theorem bnF {b : Bool} (h : b = true) : (!b) = false := by rw [h]; rfl
theorem baT {a b : Bool} (h : a = true) (k : b = true) : (a && b) = true := by rw [h, k]; rfl
theorem obx {α β : Type} {m : Option α} {f : α → Option β} {x : α} {Q : β → Prop} (h : m = some x) (k : ∃ b, f x = some b ∧ Q b) : ∃ b, Option.bind m f = some b ∧ Q b := by subst h; exact k
theorem oitx {α : Type} {b : Bool} {x y : Option α} {Q : α → Prop} (h : b = true) (k : ∃ r, x = some r ∧ Q r) : ∃ r, (bif b then x else y) = some r ∧ Q r := by subst h; exact k
theorem oifx {α : Type} {b : Bool} {x y : Option α} {Q : α → Prop} (h : b = false) (k : ∃ r, y = some r ∧ Q r) : ∃ r, (bif b then x else y) = some r ∧ Q r := by subst h; exact k
theorem obe {α β : Type} {m : Option α} {f : α → Option β} {P : α → Prop} {Q : β → Prop} (h : ∃ a, m = some a ∧ P a) (g : ∀ a, P a → ∃ b, f a = some b ∧ Q b) : ∃ b, Option.bind m f = some b ∧ Q b := by
  obtain ⟨a, rfl, h⟩ := h
  exact g a h
theorem recX5 (l : List Int) (m : Nat) (hm : m ≤ 100) {k0 : Int} (h0 : 0 ≤ k0) (h1 : k0 ≤ 1000000) (r0 : List UInt8) (hr : r0.length = m) : ∃ k r, iterN (fun s : Int × Int × List UInt8 => law43_records_l5 10000 l s.1 s.2.1 s.2.2) 10000 (0, k0, r0) = some (k, r) ∧ k0 ≤ k ∧ k ≤ k0 + m ∧ r.length = m := by
  obtain ⟨q, hq, q1, q2, q3⟩ := iterN_run (f := fun s : Int × Int × List UInt8 => law43_records_l5 10000 l s.1 s.2.1 s.2.2)
    (I := fun s => ∃ i : Nat, s.1 = i ∧ i ≤ m ∧ s.2.1 = k0 + i ∧ s.2.2.length = m) (Q := fun q => k0 ≤ q.1 ∧ q.1 ≤ k0 + m ∧ q.2.length = m) (fun s => m - s.1.toNat) (by
    rintro ⟨i', k, r⟩ ⟨i, rfl, hi, rfl, hl⟩
    simp only at hl ⊢
    unfold law43_records_l5
    by_cases h : i < m
    · obtain ⟨x, hx, x0, x1⟩ := next_ok 10000 l (k := k0 + i) (n := 256) (by omega) (by omega) (by omega) (by omega)
      exact .inl ⟨_, oit (decide_eq_true (by omega)) (obi hx (obi (idx_nat (by omega)) (obi (inc_nat (by omega)) rfl))), ⟨i + 1, rfl, h, by simp only; omega, by simp [hl]⟩, by simp only; omega⟩
    · exact .inr ⟨_, oif (decide_eq_false (by omega)) rfl, by simp only; omega, by simp only; omega, hl⟩) 10000 (0, k0, r0) ⟨0, rfl, by omega, by simp, hr⟩ (by simp only; omega)
  exact ⟨q.1, q.2, hq, q1, q2, q3⟩

theorem recordsX (l : List Int) (n : Nat) (hn : n ≤ 20) {q0 : Int} (h0 : 0 ≤ q0) (h1 : q0 ≤ 100000) : ∃ k ls, law43_records 10000 l q0 n = some (k, ls) ∧ q0 ≤ k ∧ k ≤ q0 + 1000 ∧ ls.length ≤ n ∧ ∀ r ∈ ls, r.length ≤ 17 := by
  obtain ⟨m, hm, m0, m1⟩ := next_ok 10000 l (k := q0) (n := (n : Int) + 1) (by omega) (by omega) (by omega) (by omega)
  obtain ⟨m, rfl⟩ : ∃ j : Nat, m = j := ⟨m.toNat, by omega⟩
  obtain ⟨q, hq, b0, b1, b2, b3⟩ := iterN_run (f := fun s : Int × Int × List (List UInt8) => law43_records_l4 10000 l s.1 s.2.1 s.2.2)
    (I := fun s => (0 ≤ s.1 ∧ s.1 + s.2.2.length = m) ∧ (q0 ≤ s.2.1 ∧ s.2.1 ≤ q0 + 1 + 20 * s.2.2.length) ∧ ∀ r ∈ s.2.2, r.length ≤ 17)
    (Q := fun q => q0 ≤ q.1 ∧ q.1 ≤ q0 + 1 + 20 * q.2.length ∧ q.2.length ≤ m ∧ ∀ r ∈ q.2, r.length ≤ 17) (fun s => s.1.toNat) (by
    rintro ⟨c, k, ls⟩ ⟨⟨c0, c1⟩, ⟨k0, k1⟩, hall⟩
    simp only at c0 c1 k0 k1 hall ⊢
    unfold law43_records_l4
    by_cases h : 0 < c
    · obtain ⟨x, hx, xm⟩ := pick_ok 10000 l (k := k) (v := [0, 1, 2, 5, 17]) (by omega) (by omega) (by simp) (by simp)
      have hx17 : 0 ≤ x ∧ x ≤ 17 := by simp only [List.mem_cons, List.not_mem_nil, or_false] at xm; omega
      obtain ⟨j, rfl⟩ : ∃ j : Nat, x = j := ⟨x.toNat, by omega⟩
      obtain ⟨k', r, hr, r0, r1, r2⟩ := recX5 l j (by omega) (k0 := k + 1) (by omega) (by omega) (List.replicate j 0) (by simp)
      refine .inl ⟨(c - 1, k', ls ++ [r]), oit (decide_eq_true h) (obi hx (obi (x := List.replicate j 0) ?_ (obi hr (obi (app_ok (by simp; omega) (by simp; omega)) (obi (in64_ok (by omega)) rfl))))), ⟨⟨by simp only; omega, by simp; omega⟩, ⟨by simp only; omega, by simp; omega⟩, ?_⟩, by simp only; omega⟩
      · unfold mkL
        rw [if_pos (by omega)]; simp
      · intro y hy
        rcases List.mem_append.1 hy with hy | hy
        · exact hall y hy
        · simp at hy; subst hy; omega
    · exact .inr ⟨_, oif (decide_eq_false h) rfl, k0, k1, by simp only; omega, hall⟩) 10000 ((m : Int), q0 + 1, []) ⟨⟨by simp, by simp⟩, ⟨by simp only; omega, by simp⟩, by simp⟩ (by simp only; omega)
  refine ⟨q.1, q.2, ?_, b0, by omega, by omega, b3⟩
  unfold law43_records
  exact obi (in64_ok (by omega)) (obi hm (obi hq rfl))
theorem writtenX (l : List (List UInt8)) (hl : l.length ≤ 100) (hr : ∀ r ∈ l, r.length ≤ 17) : law43_written 10000 l = some (frames l, endsL l l.length) := by
  obtain ⟨q, hq, rfl⟩ := iterN_run (f := fun s : Int × List UInt8 × List Int => law43_written_l1 10000 l s.1 s.2.1 s.2.2) (I := fun s => ∃ i : Nat, s = ((i : Int), frames (l.take i), endsL l i) ∧ i ≤ l.length) (Q := fun q => q = (frames l, endsL l l.length)) (fun s => l.length - s.1.toNat) (by
    rintro s ⟨i, rfl, hi⟩
    simp only
    unfold law43_written_l1
    by_cases h : i < l.length
    · have h17 := hr _ (List.getElem_mem h)
      have hfl := take_frames hr i
      have e : frames (l.take i) ++ frame l[i] = frames (l.take (i + 1)) := by rw [List.take_succ_eq_append_getElem h, frames_app]; simp [frames]
      refine .inl ⟨((i + 1 : Nat), frames (l.take (i + 1)), endsL l (i + 1)), oit (decide_eq_true (by omega)) (obi (idx_nat h) (obi (rappend_eq 10000 (by omega) _ _ (by omega) (by omega) (by omega)) (obi (app_ok (by simp [endsL_len]; omega) (by simp [endsL_len]; omega)) (obi (inc_nat (by omega)) ?_)))), ⟨i + 1, rfl, h⟩, by simp only; omega⟩
      rw [e]
      simp [endsL, List.range_succ]
    · refine .inr ⟨_, oif (decide_eq_false (by omega)) rfl, ?_⟩
      have : i = l.length := by omega
      subst this
      rw [List.take_of_length_le (Nat.le_refl _)]) 10000 (0, [], []) ⟨0, by simp [frames, endsL], by omega⟩ (by simp only; omega)
  exact obi hq rfl

theorem saneX_a : journal_Append 10000 [] [] = some ([0, 0, 29, 15], 0) := by
  have a1 := append_eq 10000 (by omega) [] [] (by simp) (by simp) (by simp)
  rw [frame_nil] at a1
  exact a1
theorem seenX_three (n : Int) (ls : List (List UInt8)) : seen [0, 1, 2] n ls = .inr (.inr (n, ls)) := rfl
theorem saneX_r1 : journal_Records 10000 [0, 1, 2] = some ([], 0, 0) := by
  have r1 := records_ok 10000 (by omega) [] [0, 1, 2] (by simp) (by simp [frames]) (by simp [frames]) (by simp) (by simp) (seenX_three _ _)
  have fe : frames [] = [] := by simp only [frames, List.flatMap_nil]
  rw [fe] at r1
  exact r1
theorem seenX_one (n : Int) (ls : List (List UInt8)) : seen [0] n ls = .inr (.inr (n, ls)) := rfl
theorem saneX_r2 : journal_Records 10000 [0, 0, 29, 15, 0] = some ([[]], 4, 0) := by
  have fe : frames [[]] = [0, 0, 29, 15] := by simp only [frames, List.flatMap_cons, List.flatMap_nil, frame_nil, List.append_nil]
  have r2 := records_ok 10000 (by omega) [[]] [0] (by simp) (by rw [fe]; simp) (by rw [fe]; simp) (by simp) (by simp) (seenX_one _ _)
  rw [fe] at r2
  exact r2
theorem saneX_c : journal_Check 10000 [49, 50, 51, 52, 53, 54, 55, 56, 57] = some 10673 := by
  have c1 := further_eq 10000 (by omega) [49, 50, 51, 52, 53, 54, 55, 56, 57] (by simp) (by simp) (m := 65535) (by omega)
  rw [crc_sane] at c1
  unfold journal_Check
  exact obi c1 (obi (in64_ok (by omega)) rfl)
theorem saneX_b : humpgen_Bytes 10000 [0, 0, 29, 15] [0, 0, 29, 15] = some true := bytes_eq 10000 [0, 0, 29, 15] (by simp) (by simp)
theorem saneX_ok : law43_sane 10000 = some true := by
  unfold law43_sane
  refine obi saneX_a (obi saneX_r1 (obi (x := [0, 0, 29, 15, 0]) (app_ok (by simp) (by simp)) (obi saneX_r2 (obi saneX_c ?_))))
  simp only [decide_true, Bool.and_self, cond_true, saneX_b, Option.bind_some, List.length_nil, List.length_cons, gO]
  rfl
/-! the reference's frames -/
theorem idx_off {P Q : List UInt8} (j : Nat) {x : UInt8} (h : Q[j]? = some x) {i : Int} (hi : i = ((P.length + j : Nat) : Int)) : idx (P ++ Q) i = some x := by
  subst hi
  unfold idx
  rw [if_pos (by omega), Int.toNat_natCast, List.getElem?_append_right (by omega), show P.length + j - P.length = j by omega]
  exact h
theorem ckb_iff {c : Nat} (hc : c < 65536) (a b : UInt8) : [a, b] = ckb c ↔ c = a.toNat * 256 + b.toNat := by
  unfold ckb
  constructor
  · intro h
    injection h with h1 h2
    injection h2 with h2 _
    rw [h1, h2, toU8_nat, toU8_nat]; omega
  · rintro rfl
    have ha := a.toNat_lt
    have hb := b.toNat_lt
    have e1 : toU8 (((a.toNat * 256 + b.toNat) / 256 : Nat) : Int) = a := UInt8.toNat_inj.1 (by rw [toU8_nat]; omega)
    have e2 : toU8 ((a.toNat * 256 + b.toNat : Nat) : Int) = b := UInt8.toNat_inj.1 (by rw [toU8_nat]; omega)
    rw [e1, e2]
theorem lenb_eq (a b : UInt8) : lenb (a.toNat * 256 + b.toNat) = [a, b] := by
  have ha := a.toNat_lt
  have hb := b.toNat_lt
  unfold lenb
  have e1 : toU8 (((a.toNat * 256 + b.toNat) / 256 : Nat) : Int) = a := UInt8.toNat_inj.1 (by rw [toU8_nat]; omega)
  have e2 : toU8 ((a.toNat * 256 + b.toNat : Nat) : Int) = b := UInt8.toNat_inj.1 (by rw [toU8_nat]; omega)
  rw [e1, e2]
theorem rrec_step (N : Nat) (hN : 9 < N) (P Q : List UInt8) (ls : List (List UInt8)) (hNb : (P ++ Q).length + 2 < N) (hb : (P ++ Q).length ≤ 10000000) (hls : ls.length ≤ 10000000) : r43_Records_l1 N (P ++ Q) (P.length : Int) ls = some (seen Q P.length ls) := by
  have hPQ : (P ++ Q).length = P.length + Q.length := List.length_append
  unfold r43_Records_l1
  refine obi (in64_nat (n := Q.length) (by omega) (by omega)) ?_
  by_cases h4 : Q.length < 4
  · refine oif (decide_eq_false (by omega)) ?_
    rcases Q with _ | ⟨h0, _ | ⟨h1, _ | ⟨h2, _ | ⟨h3, rest⟩⟩⟩⟩ <;> first | rfl | (simp at h4; omega)
  · obtain ⟨h0, h1, h2, h3, rest, rfl⟩ : ∃ h0 h1 h2 h3 rest, Q = h0 :: h1 :: h2 :: h3 :: rest := by
      rcases Q with _ | ⟨h0, _ | ⟨h1, _ | ⟨h2, _ | ⟨h3, rest⟩⟩⟩⟩ <;> first | exact ⟨_, _, _, _, _, rfl⟩ | (simp at h4)
    have hl0 := h0.toNat_lt
    have hl1 := h1.toNat_lt
    have hl2 := h2.toNat_lt
    have hl3 := h3.toNat_lt
    have hlen : (h0 :: h1 :: h2 :: h3 :: rest).length = rest.length + 4 := by simp
    have e0 : idx (P ++ (h0 :: h1 :: h2 :: h3 :: rest)) (P.length : Int) = some h0 := idx_off 0 rfl (by omega)
    have e1 : idx (P ++ (h0 :: h1 :: h2 :: h3 :: rest)) ((P.length + 1 : Nat) : Int) = some h1 := idx_off 1 rfl rfl
    have e2 : idx (P ++ (h0 :: h1 :: h2 :: h3 :: rest)) ((P.length + 2 : Nat) : Int) = some h2 := idx_off 2 rfl rfl
    have e3 : idx (P ++ (h0 :: h1 :: h2 :: h3 :: rest)) ((P.length + 3 : Nat) : Int) = some h3 := idx_off 3 rfl rfl
    have i1 : in64 ((P.length : Int) + 1) = some ((P.length + 1 : Nat) : Int) := in64_nat (by omega) (by omega)
    have i2 : in64 ((P.length : Int) + 2) = some ((P.length + 2 : Nat) : Int) := in64_nat (by omega) (by omega)
    have i3 : in64 ((P.length : Int) + 3) = some ((P.length + 3 : Nat) : Int) := in64_nat (by omega) (by omega)
    have i4 : in64 ((P.length : Int) + 4) = some ((P.length + 4 : Nat) : Int) := in64_nat (by omega) (by omega)
    refine oit (decide_eq_true (by omega)) (obi e0 (obi (in64_nat rfl (by omega)) (obi (shl64_8 (by omega)) (obi i1 (obi e1 (obi (in64_nat rfl (by omega)) (obi (orN_nat (by omega) (by omega)) ?_)))))))
    rw [or256]
    simp only [seen]
    have hlb := lenb_eq h0 h1
    generalize hn : h0.toNat * 256 + h1.toNat = n at hlb
    by_cases hn1 : 8192 < n
    · rw [if_pos hn1]
      exact oit (decide_eq_true (by omega)) rfl
    · rw [if_neg hn1]
      refine oif (decide_eq_false (by omega)) (obi (in64_nat (n := rest.length + 4) (by omega) (by omega)) (obi (in64_nat (n := rest.length) (by omega) (by omega)) ?_))
      by_cases hn2 : rest.length < n
      · rw [if_pos hn2]
        exact oit (decide_eq_true (by omega)) rfl
      · rw [if_neg hn2]
        have hs : slc (P ++ (h0 :: h1 :: h2 :: h3 :: rest)) ((P.length + 4 : Nat) : Int) ((P.length + 4 + n : Nat) : Int) = some (rest.take n) := by
          rw [slc_nat (by omega) (by omega)]
          refine congrArg some ?_
          rw [List.drop_take, List.drop_append, show P.length + 4 - P.length = 4 by omega, show P.length + 4 + n - (P.length + 4) = n by omega, List.drop_of_length_le (by omega)]
          rfl
        have htl : (rest.take n).length = n := by simp; omega
        have hck : cks (rest.take n) = crc 65535 ([h0, h1] ++ rest.take n) := by unfold cks; rw [htl, hlb]
        refine oif (decide_eq_false (by omega)) (obi i4 (obi i4 (obi (in64_nat (n := P.length + 4 + n) (by omega) (by omega)) (obi hs (obi (app_ok (by simp; omega) (by simp; omega)) (obi e0 (obi i1 (obi e1 (obi i2 (obi e2 (obi (in64_nat rfl (by omega)) (obi (shl64_8 (by omega)) (obi i3 (obi e3 (obi (in64_nat rfl (by omega)) (obi (orN_nat (by omega) (by omega)) (obi (app_ok (by simp; omega) (by simp; omega)) ?_)))))))))))))))))
        simp only [List.nil_append]
        rw [or256]
        refine obi (rcheck_eq N (by omega) _ (by simp; omega) (by simp; omega)) ?_
        rw [← hck]
        by_cases hc : [h2, h3] = ckb (cks (rest.take n))
        · rw [if_pos hc]
          have := (ckb_iff (cks_lt _) h2 h3).1 hc
          exact oif (bnF (decide_eq_true (by omega))) (obi (app_ok (by simp; omega) (by simp; omega)) (obi (in64_nat (n := 4 + n) (by omega) (by omega)) (obi (in64_ok (by omega)) rfl)))
        · rw [if_neg hc]
          have : ¬ cks (rest.take n) = h2.toNat * 256 + h3.toNat := fun h => hc ((ckb_iff (cks_lt _) h2 h3).2 h)
          exact oit (bnT (decide_eq_false (by omega))) rfl
theorem seen_cases (Q : List UInt8) (at_ : Int) (ls : List (List UInt8)) : (∃ r, seen Q at_ ls = .inl (at_ + ((4 + r.length : Nat) : Int), ls ++ [r]) ∧ 4 + r.length ≤ Q.length) ∨ (∃ e : Int, seen Q at_ ls = .inr (.inl (ls, at_, e))) ∨ seen Q at_ ls = .inr (.inr (at_, ls)) := by
  rcases Q with _ | ⟨h0, _ | ⟨h1, _ | ⟨h2, _ | ⟨h3, rest⟩⟩⟩⟩
  · exact .inr (.inr rfl)
  · exact .inr (.inr rfl)
  · exact .inr (.inr rfl)
  · exact .inr (.inr rfl)
  · simp only [seen]
    generalize h0.toNat * 256 + h1.toNat = n
    by_cases c1 : 8192 < n
    · rw [if_pos c1]; exact .inr (.inl ⟨_, rfl⟩)
    · rw [if_neg c1]
      by_cases c2 : rest.length < n
      · rw [if_pos c2]; exact .inr (.inr rfl)
      · rw [if_neg c2]
        have htl : (rest.take n).length = n := by simp; omega
        by_cases c3 : [h2, h3] = ckb (cks (rest.take n))
        · rw [if_pos c3]
          exact .inl ⟨rest.take n, by rw [htl], by rw [htl]; simp; omega⟩
        · rw [if_neg c3]; exact .inr (.inl ⟨_, rfl⟩)
theorem iterN_same {σ ρ : Type} {f g : σ → Option (σ ⊕ ρ)} {I : σ → Prop} (hf : ∀ s, I s → f s = g s) (hI : ∀ s s', I s → f s = some (.inl s') → I s') : ∀ (N : Nat) (s : σ), I s → iterN f N s = iterN g N s
  | 0, _, _ => rfl
  | N + 1, s, h => by
    simp only [iterN]
    rw [← hf s h]
    cases hs : f s with
    | none => rfl
    | some r =>
      cases r with
      | inl s' => exact iterN_same hf hI N s' (hI s s' h hs)
      | inr _ => rfl
theorem recs_run (N : Nat) (hN : 9 < N) (b : List UInt8) (hb : b.length + 2 < N) (hb2 : b.length ≤ 10000000) : ∃ ls, ∃ n : Nat, ∃ e : Int, journal_Records N b = some (ls, (n : Int), e) ∧ r43_Records N b = some (ls, (n : Int), e) ∧ n ≤ b.length ∧ ls.length ≤ b.length ∧ ∀ r ∈ ls, r.length ≤ b.length := by
  have stp : ∀ (i : Nat) (ls : List (List UInt8)), i ≤ b.length → ls.length ≤ i → journal_Records_l1 N b i ls = some (seen (b.drop i) i ls) ∧ r43_Records_l1 N b i ls = some (seen (b.drop i) i ls) := fun i ls hi hl => by
    have e : b.take i ++ b.drop i = b := List.take_append_drop i b
    have el : (b.take i).length = i := by simp; omega
    have h1 := rec_step N hN (b.take i) (b.drop i) ls (by rw [e]; omega) (by rw [e]; omega) (by omega)
    have h2 := rrec_step N hN (b.take i) (b.drop i) ls (by rw [e]; omega) (by rw [e]; omega) (by omega)
    rw [e, el] at h1 h2
    exact ⟨h1, h2⟩
  have nxt : ∀ s : Int × List (List UInt8), (∃ i : Nat, s.1 = i ∧ i ≤ b.length ∧ s.2.length ≤ i ∧ ∀ r ∈ s.2, r.length ≤ b.length) → ∀ s', journal_Records_l1 N b s.1 s.2 = some (.inl s') → (∃ i : Nat, s'.1 = i ∧ i ≤ b.length ∧ s'.2.length ≤ i ∧ ∀ r ∈ s'.2, r.length ≤ b.length) ∧ b.length - s'.1.toNat < b.length - s.1.toNat := by
    rintro ⟨i', ls⟩ ⟨i, rfl, hi, hl, hr⟩ s' hs
    simp only at hl hr hs
    rw [(stp i ls hi hl).1] at hs
    rcases seen_cases (b.drop i) i ls with ⟨r, h1, h2⟩ | ⟨e, h1⟩ | h1
    · rw [h1] at hs
      injection hs with hs
      injection hs with hs
      subst hs
      simp only [List.length_drop] at h2
      refine ⟨⟨i + (4 + r.length), by simp only; omega, by omega, by simp only [List.length_append, List.length_cons, List.length_nil]; omega, fun y hy => ?_⟩, by simp only; omega⟩
      rcases List.mem_append.1 hy with hy | hy
      · exact hr y hy
      · simp at hy; rw [hy]; omega
    · rw [h1] at hs; cases hs
    · rw [h1] at hs; cases hs
  obtain ⟨q, hq, hQ⟩ := iterN_run (f := fun s : Int × List (List UInt8) => journal_Records_l1 N b s.1 s.2)
    (I := fun s => ∃ i : Nat, s.1 = i ∧ i ≤ b.length ∧ s.2.length ≤ i ∧ ∀ r ∈ s.2, r.length ≤ b.length)
    (Q := fun q => ∃ ls, ∃ n : Nat, ∃ e : Int, (q = .inl (ls, (n : Int), e) ∨ (q = .inr ((n : Int), ls) ∧ e = 0)) ∧ n ≤ b.length ∧ ls.length ≤ b.length ∧ ∀ r ∈ ls, r.length ≤ b.length) (fun s => b.length - s.1.toNat) (by
    rintro ⟨i', ls⟩ ⟨i, rfl, hi, hl, hr⟩
    simp only at hl hr ⊢
    have h := nxt ((i : Int), ls) ⟨i, rfl, hi, hl, hr⟩
    simp only at h
    have hs := (stp i ls hi hl).1
    rcases seen_cases (b.drop i) i ls with ⟨r, h1, _⟩ | ⟨e, h1⟩ | h1
    · rw [h1] at hs
      obtain ⟨a1, a2⟩ := h _ hs
      exact .inl ⟨_, hs, a1, a2⟩
    · rw [h1] at hs
      exact .inr ⟨_, hs, ls, i, e, .inl rfl, hi, by omega, hr⟩
    · rw [h1] at hs
      exact .inr ⟨_, hs, ls, i, 0, .inr ⟨rfl, rfl⟩, hi, by omega, hr⟩) N (0, []) ⟨0, rfl, Nat.zero_le _, Nat.le_refl _, fun r h => by simp at h⟩ (by simp only; omega)
  have hq2 : iterN (fun s : Int × List (List UInt8) => r43_Records_l1 N b s.1 s.2) N (0, []) = some q := by
    rw [← hq]
    refine (iterN_same (I := fun s : Int × List (List UInt8) => ∃ i : Nat, s.1 = i ∧ i ≤ b.length ∧ s.2.length ≤ i ∧ ∀ r ∈ s.2, r.length ≤ b.length) ?_ (fun s s' hs he => (nxt s hs s' he).1) N (0, []) ⟨0, rfl, Nat.zero_le _, Nat.le_refl _, fun r h => by simp at h⟩).symm
    rintro ⟨i', ls⟩ ⟨i, rfl, hi, hl, hr⟩
    exact ((stp i ls hi hl).1).trans ((stp i ls hi hl).2).symm
  obtain ⟨ls, n, e, h, h1, h2, h3⟩ := hQ
  refine ⟨ls, n, e, ?_, ?_, h1, h2, h3⟩
  · unfold journal_Records
    refine obi hq ?_
    rcases h with rfl | ⟨rfl, rfl⟩ <;> rfl
  · unfold r43_Records
    refine obi hq2 ?_
    rcases h with rfl | ⟨rfl, rfl⟩ <;> rfl
theorem check_any (N : Nat) (hN : 9 < N) (l : List UInt8) (hl : l.length < N) (hl2 : l.length ≤ 100000000) : journal_Check N l = some ((crc 65535 l : Nat) : Int) := by
  have h1 := further_eq N hN l hl hl2 (m := 65535) (by omega)
  have h2 := crc_lt l (n := 65535) (by omega)
  unfold journal_Check
  exact obi h1 (obi (in64_nat rfl (by omega)) rfl)
theorem exact_ok (b r : List UInt8) (hb : b.length ≤ 3000) (hr : r.length ≤ 3000) : law43_exact 10000 b r = some true := by
  obtain ⟨ls, n, e, h1, h2, hn, hl, hrows⟩ := recs_run 10000 (by omega) b (by omega) (by omega)
  have hm : ∃ z, ∃ f : Int, journal_Mend 10000 b = some (z, f) ∧ r43_Mend 10000 b = some (z, f) ∧ z.length ≤ b.length := by
    unfold journal_Mend r43_Mend
    by_cases he : e = 0
    · subst he
      have e1 : slc b 0 (n : Int) = some (b.take n) := by
        have := slc_nat (l := b) (a := 0) (b := n) (by omega) hn
        rw [List.drop_zero] at this
        exact this
      have e2 : app 1 [] (b.take n) = some (b.take n) := app_ok (by simp; omega) (by simp; omega)
      exact ⟨b.take n, 0, obi h1 (oif (by simp) (obi e1 (obi e2 rfl))), obi h2 (oif (by simp) (obi e1 (obi e2 rfl))), by simp; omega⟩
    · exact ⟨[], e, obi h1 (oit (bnT (decide_eq_false he)) rfl), obi h2 (oit (bnT (decide_eq_false he)) rfl), by simp⟩
  obtain ⟨z, f, m1, m2, hz⟩ := hm
  have hfl : (b ++ frame r).length = b.length + (4 + r.length) := by rw [List.length_append, frame_len]
  unfold law43_exact
  refine obi (append_eq 10000 (by omega) b r (by omega) (by omega) (by omega)) (obi (rappend_eq 10000 (by omega) b r (by omega) (by omega) (by omega)) (obi h1 (obi h2 (obi m1 (obi m2 (obi (bytes_eq 10000 (b ++ frame r) (by omega) (by omega)) (obi (gO_T (by simp) (same_eq 10000 ls (by omega) (by omega) fun x hx => ⟨by have := hrows x hx; omega, by have := hrows x hx; omega⟩)) (obi (gO_T (by simp) (bytes_eq 10000 z (by omega) (by omega))) (obi (gO_T (by simp) (check_any 10000 (by omega) b (by omega) (by omega))) (obi (gO_T (by simp) (rcheck_eq 10000 (by omega) b (by omega) (by omega))) (obi (gO_T (by simp) (check_any 10000 (by omega) r (by omega) (by omega))) (obi (gO_T (by simp) (rcheck_eq 10000 (by omega) r (by omega) (by omega))) (congrArg some (by simp))))))))))))))
theorem spoil_ok (t : List Int) (l : List UInt8) (hl : l.length ≤ 100000) {k : Int} (hk : 0 ≤ k) (hk2 : k ≤ 100000) : ∃ r, Maker_SpoilBytes 10000 t k l = some r ∧ k ≤ r.1 ∧ r.1 ≤ k + 3 ∧ r.2.length ≤ l.length + 1 := by
  have ap : ∀ a b : List UInt8, a.length + b.length ≤ 1000000 → appS a b = some (a ++ b) := fun a b h => if_pos (by omega)
  unfold Maker_SpoilBytes
  refine obe (P := fun r => k ≤ r.1 ∧ r.1 ≤ k + 3 ∧ r.2.length ≤ l.length + 1) ?_ fun r hr => obx (x := r.2) (if_pos (by omega)) ⟨_, rfl, hr⟩
  unfold Maker_Spoil
  by_cases h : l = []
  · obtain ⟨x, hx, _⟩ := next_ok 10000 t (k := k) (n := 256) (by omega) (by omega) (by omega) (by omega)
    exact oitx (decide_eq_true h) (obx hx ⟨_, rfl, by simp only; omega, by simp only; omega, by simp⟩)
  · have hpos := List.length_pos_iff.2 h
    refine oifx (decide_eq_false h) ?_
    obtain ⟨i, hi, i0, i1⟩ := next_ok 10000 t (k := k) (n := (l.length : Int)) (by omega) (by omega) (by omega) (by omega)
    obtain ⟨i, rfl⟩ : ∃ j : Nat, i = j := ⟨i.toNat, by omega⟩
    obtain ⟨m, hm, m0, m1⟩ := next_ok 10000 t (k := k + 1) (n := 4) (by omega) (by omega) (by omega) (by omega)
    have e1 : slc l 0 (i : Int) = some (l.take i) := by
      have := slc_nat (l := l) (a := 0) (b := i) (by omega) (by omega)
      rw [List.drop_zero] at this
      exact this
    have e2 : slc l ((i + 1 : Nat) : Int) (l.length : Int) = some (l.drop (i + 1)) := by
      rw [slc_nat (by omega) (Nat.le_refl _), List.take_of_length_le (Nat.le_refl _)]
    have e3 : slc l (i : Int) (l.length : Int) = some (l.drop i) := by
      rw [slc_nat (by omega) (Nat.le_refl _), List.take_of_length_le (Nat.le_refl _)]
    refine obx hi (obx hm ?_)
    by_cases c0 : m = 0
    · refine oitx (decide_eq_true c0) (obx e1 (obx (inc_nat (by omega)) (obx e2 (obx (ap _ _ (by simp; omega)) ⟨_, rfl, by simp only; omega, by simp only; omega, by simp; omega⟩))))
    · refine oifx (decide_eq_false c0) ?_
      by_cases c1 : m = 1
      · obtain ⟨x, hx, _⟩ := next_ok 10000 t (k := k + 1 + 1) (n := 256) (by omega) (by omega) (by omega) (by omega)
        exact oitx (decide_eq_true c1) (obx e1 (obx e3 (obx hx (obx (ap _ _ (by simp; omega)) (obx (ap _ _ (by simp; omega)) ⟨_, rfl, by simp only; omega, by simp only; omega, by simp; omega⟩)))))
      · refine oifx (decide_eq_false c1) ?_
        by_cases c2 : m = 2
        · obtain ⟨x, hx, x0, x1⟩ := next_ok 10000 t (k := k + 1 + 1) (n := 10) (by omega) (by omega) (by omega) (by omega)
          exact oitx (decide_eq_true c2) (obx e1 (obx (inc_nat (by omega)) (obx e2 (obx hx (obx (in64_ok (by simp only; omega)) (obx (ap _ _ (by simp; omega)) (obx (ap _ _ (by simp; omega)) ⟨_, rfl, by simp only; omega, by simp only; omega, by simp; omega⟩)))))))
        · obtain ⟨x, hx, _⟩ := next_ok 10000 t (k := k + 1 + 1) (n := 256) (by omega) (by omega) (by omega) (by omega)
          exact oifx (decide_eq_false c2) (obx e1 (obx (inc_nat (by omega)) (obx e2 (obx hx (obx (ap _ _ (by simp; omega)) (obx (ap _ _ (by simp; omega)) ⟨_, rfl, by simp only; omega, by simp only; omega, by simp; omega⟩))))))
theorem turn_ok (t : List Int) (i : Nat) (hi : i < 5) {k : Int} (hk : 0 ≤ k) (hk2 : k ≤ 20000) : ∃ r, law43_JournalExact_l1 10000 t i k = some r ∧ ∃ k' : Int, r = .inl (((i + 1 : Nat) : Int), k') ∧ 0 ≤ k' ∧ k' ≤ k + 2000 := by
  obtain ⟨k1, ls, hr, r0, r1, r2, r3⟩ := recordsX t 5 (by omega) (q0 := k) hk (by omega)
  have hw := writtenX ls (by omega) r3
  have hfl := frames_len r3
  unfold law43_JournalExact_l1
  refine oitx (decide_eq_true (by omega)) (obx hr (obx hw (obe (P := fun j => k ≤ j.1 ∧ j.1 ≤ k + 1010 ∧ j.2.length ≤ 200) ?_ fun j hj => obe (P := fun j => k ≤ j.1 ∧ j.1 ≤ k + 1020 ∧ j.2.length ≤ 210) ?_ fun q hq => ?_)))
  · by_cases h : 1 < i
    · refine oitx (decide_eq_true (by omega)) (obe (spoil_ok t (frames ls) (by omega) (k := k1) (by omega) (by omega)) fun r hr => ⟨_, rfl, by simp only; omega, by simp only; omega, by simp only; omega⟩)
    · exact oifx (decide_eq_false (by omega)) ⟨_, rfl, by simp only; omega, by simp only; omega, by simp only; omega⟩
  · by_cases h : i = 4
    · obtain ⟨x, hx, _⟩ := pick_ok 10000 t (k := j.1) (v := [0, 31, 32, 33, 255]) (by omega) (by omega) (by simp) (by simp)
      obtain ⟨y, hy, _⟩ := pick_ok 10000 t (k := j.1 + 1) (v := [0, 1, 255]) (by omega) (by omega) (by simp) (by simp)
      exact oitx (decide_eq_true (by omega)) (obx hx (obx hy (obx (app_ok (by simp; omega) (by simp; omega)) ⟨_, rfl, by simp only; omega, by simp only; omega, by simp; omega⟩)))
    · exact oifx (decide_eq_false (by omega)) ⟨_, rfl, by simp only; omega, by simp only; omega, by simp only; omega⟩
  · obtain ⟨x, hx, _⟩ := next_ok 10000 t (k := q.1) (n := 256) (by omega) (by omega) (by omega) (by omega)
    exact obx hx (obx (exact_ok q.2 _ (by omega) (by simp)) (oifx rfl (obx (inc_nat (by omega)) ⟨_, rfl, _, rfl, by omega, by omega⟩)))
theorem JournalExact_true (t : List Int) (b r : List UInt8) : law43_JournalExact 10000 t b r = some true := by
  obtain ⟨q, hq, rfl⟩ := iterN_run (f := fun s : Int × Int => law43_JournalExact_l1 10000 t s.1 s.2) (I := fun s => ∃ i : Nat, s.1 = i ∧ i ≤ 5 ∧ 0 ≤ s.2 ∧ s.2 ≤ 2000 * i) (Q := fun q => q = .inr ()) (fun s => 5 - s.1.toNat) (by
    rintro ⟨i', k⟩ ⟨i, rfl, hi, h0, h1⟩
    simp only at h0 h1 ⊢
    by_cases h : i < 5
    · obtain ⟨r, hr, k', rfl, q0, q1⟩ := turn_ok t i h h0 (by omega)
      exact .inl ⟨_, hr, ⟨i + 1, rfl, h, q0, by simp only; omega⟩, by simp only; omega⟩
    · exact .inr ⟨_, oif (decide_eq_false (by omega)) rfl, rfl⟩) 10000 (0, 0) ⟨0, rfl, by omega, by simp, by simp⟩ (by simp only; omega)
  unfold law43_JournalExact
  refine obi rfl (obi hq ?_)
  simp only
  cases hc : (decide (3000 < (List.length b : Int)) || decide (3000 < (List.length r : Int))) with
  | true => exact oit rfl (obi saneX_ok rfl)
  | false =>
    have c1 : b.length ≤ 3000 ∧ r.length ≤ 3000 := by
      rw [Bool.or_eq_false_iff, decide_eq_false_iff_not, decide_eq_false_iff_not] at hc
      omega
    have a1 := append_big 10000 [] (List.replicate 8193 0) (by rw [List.length_replicate]; omega)
    have a2 := append_eq 10000 (by omega) [] (List.replicate 8192 0) (by rw [List.length_replicate]; omega) (by rw [List.length_replicate]; omega) (by simp)
    obtain ⟨L1, hL1⟩ : ∃ L, L = List.replicate 8193 (0 : UInt8) := ⟨_, rfl⟩
    obtain ⟨L2, hL2⟩ : ∃ L, L = List.replicate 8192 (0 : UInt8) := ⟨_, rfl⟩
    have m1 : mkL 1 8193 (0 : UInt8) = some L1 := by rw [hL1]; exact if_pos (by decide)
    have m2 : mkL 1 8192 (0 : UInt8) = some L2 := by rw [hL2]; exact if_pos (by decide)
    rw [← hL1] at a1
    rw [← hL2] at a2
    have hl : ([] ++ frame L2).length = 8196 := by rw [List.nil_append, frame_len, hL2, List.length_replicate]
    have g1 : ((decide ((3 : Int) = 3) && decide ((0 : Int) = 0)) && decide ((List.length ([] ++ frame L2) : Int) = 8196)) = true := by rw [hl]; rfl
    refine oif rfl (obi m1 (obi a1 (obi m2 (obi a2 (obi (gO_T g1 (exact_ok b r c1.1 c1.2)) (obi (gO_T (baT g1 rfl) saneX_ok) (congrArg some (baT (baT g1 rfl) rfl))))))))
end Go.Gv
