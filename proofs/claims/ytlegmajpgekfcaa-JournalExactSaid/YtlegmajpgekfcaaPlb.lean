/- Journals: the laws on made records. -/
import Derived.Test.YtlegmajpgekfcaaPla
namespace Go.Gv

theorem rec5 (l : List Int) (m : Nat) (hm : m ≤ 100) {k0 : Int} (h0 : 0 ≤ k0) (h1 : k0 ≤ 1000000) (r0 : List UInt8) (hr : r0.length = m) : ∃ k r, iterN (fun s : Int × Int × List UInt8 => law43_records_l5 1000 l s.1 s.2.1 s.2.2) 1000 (0, k0, r0) = some (k, r) ∧ k0 ≤ k ∧ k ≤ k0 + m ∧ r.length = m := by
  obtain ⟨q, hq, q1, q2, q3⟩ := iterN_run (f := fun s : Int × Int × List UInt8 => law43_records_l5 1000 l s.1 s.2.1 s.2.2)
    (I := fun s => ∃ i : Nat, s.1 = i ∧ i ≤ m ∧ s.2.1 = k0 + i ∧ s.2.2.length = m) (Q := fun q => k0 ≤ q.1 ∧ q.1 ≤ k0 + m ∧ q.2.length = m) (fun s => m - s.1.toNat) (by
    rintro ⟨i', k, r⟩ ⟨i, rfl, hi, rfl, hl⟩
    simp only at hl ⊢
    unfold law43_records_l5
    by_cases h : i < m
    · obtain ⟨x, hx, x0, x1⟩ := next_ok 1000 l (k := k0 + i) (n := 256) (by omega) (by omega) (by omega) (by omega)
      exact .inl ⟨_, oit (decide_eq_true (by omega)) (obi hx (obi (idx_nat (by omega)) (obi (inc_nat (by omega)) rfl))), ⟨i + 1, rfl, h, by simp only; omega, by simp [hl]⟩, by simp only; omega⟩
    · exact .inr ⟨_, oif (decide_eq_false (by omega)) rfl, by simp only; omega, by simp only; omega, hl⟩) 1000 (0, k0, r0) ⟨0, rfl, by omega, by simp, hr⟩ (by simp only; omega)
  exact ⟨q.1, q.2, hq, q1, q2, q3⟩

theorem records_made (l : List Int) (n : Nat) (hn : n ≤ 20) : ∃ k ls, law43_records 1000 l 0 n = some (k, ls) ∧ 0 ≤ k ∧ k ≤ 10000 ∧ ls.length ≤ n ∧ ∀ r ∈ ls, r.length ≤ 17 := by
  obtain ⟨m, hm, m0, m1⟩ := next_ok 1000 l (k := 0) (n := (n : Int) + 1) (by omega) (by omega) (by omega) (by omega)
  obtain ⟨m, rfl⟩ : ∃ j : Nat, m = j := ⟨m.toNat, by omega⟩
  obtain ⟨q, hq, q0, q1, q2, q3⟩ := iterN_run (f := fun s : Int × Int × List (List UInt8) => law43_records_l4 1000 l s.1 s.2.1 s.2.2)
    (I := fun s => (0 ≤ s.1 ∧ s.1 + s.2.2.length = m) ∧ (0 ≤ s.2.1 ∧ s.2.1 ≤ 1 + 20 * s.2.2.length) ∧ ∀ r ∈ s.2.2, r.length ≤ 17)
    (Q := fun q => 0 ≤ q.1 ∧ q.1 ≤ 1 + 20 * q.2.length ∧ q.2.length ≤ m ∧ ∀ r ∈ q.2, r.length ≤ 17) (fun s => s.1.toNat) (by
    rintro ⟨c, k, ls⟩ ⟨⟨c0, c1⟩, ⟨k0, k1⟩, hall⟩
    simp only at c0 c1 k0 k1 hall ⊢
    unfold law43_records_l4
    by_cases h : 0 < c
    · obtain ⟨x, hx, xm⟩ := pick_ok 1000 l (k := k) (v := [0, 1, 2, 5, 17]) (by omega) (by omega) (by simp) (by simp)
      have hx17 : 0 ≤ x ∧ x ≤ 17 := by simp only [List.mem_cons, List.not_mem_nil, or_false] at xm; omega
      obtain ⟨j, rfl⟩ : ∃ j : Nat, x = j := ⟨x.toNat, by omega⟩
      obtain ⟨k', r, hr, r0, r1, r2⟩ := rec5 l j (by omega) (k0 := k + 1) (by omega) (by omega) (List.replicate j 0) (by simp)
      refine .inl ⟨(c - 1, k', ls ++ [r]), oit (decide_eq_true h) (obi hx (obi (x := List.replicate j 0) ?_ (obi hr (obi (app_ok (by simp; omega) (by simp; omega)) (obi (in64_ok (by omega)) rfl))))), ⟨⟨by simp only; omega, by simp; omega⟩, ⟨by simp only; omega, by simp; omega⟩, ?_⟩, by simp only; omega⟩
      · unfold mkL
        rw [if_pos (by omega)]; simp
      · intro y hy
        rcases List.mem_append.1 hy with hy | hy
        · exact hall y hy
        · simp at hy; subst hy; omega
    · exact .inr ⟨_, oif (decide_eq_false h) rfl, k0, k1, by simp only; omega, hall⟩) 1000 ((m : Int), 0 + 1, []) ⟨⟨by simp, by simp⟩, ⟨by simp, by simp⟩, by simp⟩ (by simp only; omega)
  refine ⟨q.1, q.2, ?_, q0, by omega, by omega, q3⟩
  unfold law43_records
  exact obi (in64_ok (by omega)) (obi hm (obi hq rfl))

def endsL (l : List (List UInt8)) (i : Nat) : List Int := (List.range i).map fun j => ((frames (l.take (j + 1))).length : Int)
theorem endsL_get {l : List (List UInt8)} {n i : Nat} (h : i < n) : (endsL l n)[i]'(by simp [endsL]; exact h) = ((frames (l.take (i + 1))).length : Int) := by simp [endsL]
theorem endsL_len (l : List (List UInt8)) (n : Nat) : (endsL l n).length = n := by simp [endsL]
theorem take_frames {l : List (List UInt8)} {m : Nat} (h : ∀ r ∈ l, r.length ≤ m) (i : Nat) : (frames (l.take i)).length ≤ l.length * (4 + m) := by
  have := frames_len (l := l.take i) (m := m) fun r hr => h r (List.mem_of_mem_take hr)
  have h2 : (l.take i).length ≤ l.length := by simp; omega
  exact Nat.le_trans this (Nat.mul_le_mul_right _ h2)

theorem written_eq (l : List (List UInt8)) (hl : l.length ≤ 100) (hr : ∀ r ∈ l, r.length ≤ 17) : law43_written 1000 l = some (frames l, endsL l l.length) := by
  obtain ⟨q, hq, rfl⟩ := iterN_run (f := fun s : Int × List UInt8 × List Int => law43_written_l1 1000 l s.1 s.2.1 s.2.2) (I := fun s => ∃ i : Nat, s = ((i : Int), frames (l.take i), endsL l i) ∧ i ≤ l.length) (Q := fun q => q = (frames l, endsL l l.length)) (fun s => l.length - s.1.toNat) (by
    rintro s ⟨i, rfl, hi⟩
    simp only
    unfold law43_written_l1
    by_cases h : i < l.length
    · have h17 := hr _ (List.getElem_mem h)
      have hfl := take_frames hr i
      have e : frames (l.take i) ++ frame l[i] = frames (l.take (i + 1)) := by rw [List.take_succ_eq_append_getElem h, frames_app]; simp [frames]
      refine .inl ⟨((i + 1 : Nat), frames (l.take (i + 1)), endsL l (i + 1)), oit (decide_eq_true (by omega)) (obi (idx_nat h) (obi (rappend_eq 1000 (by omega) _ _ (by omega) (by omega) (by omega)) (obi (app_ok (by simp [endsL_len]; omega) (by simp [endsL_len]; omega)) (obi (inc_nat (by omega)) ?_)))), ⟨i + 1, rfl, h⟩, by simp only; omega⟩
      rw [e]
      simp [endsL, List.range_succ]
    · refine .inr ⟨_, oif (decide_eq_false (by omega)) rfl, ?_⟩
      have : i = l.length := by omega
      subst this
      rw [List.take_of_length_le (Nat.le_refl _)]) 1000 (0, [], []) ⟨0, by simp [frames, endsL], by omega⟩ (by simp only; omega)
  exact obi hq rfl

theorem bc0 : bst 65535 49 = 51074 := by decide +kernel
theorem bc1 : bst 51074 50 = 15802 := by decide +kernel
theorem bc2 : bst 15802 51 = 23502 := by decide +kernel
theorem bc3 : bst 23502 52 = 21321 := by decide +kernel
theorem bc4 : bst 21321 53 = 17760 := by decide +kernel
theorem bc5 : bst 17760 54 = 12020 := by decide +kernel
theorem bc6 : bst 12020 55 = 30488 := by decide +kernel
theorem bc7 : bst 30488 56 = 41259 := by decide +kernel
theorem bc8 : bst 41259 57 = 10673 := by decide +kernel
theorem bc9 : bst 65535 0 = 57840 := by decide +kernel
theorem bc10 : bst 57840 0 = 7439 := by decide +kernel
theorem crc_sane : crc 65535 [49, 50, 51, 52, 53, 54, 55, 56, 57] = 10673 := by
  simp only [crc_cons, crc_nil, bc0, bc1, bc2, bc3, bc4, bc5, bc6, bc7, bc8]
theorem cks_nil : cks [] = 7439 := by
  have e : lenb ([] : List UInt8).length ++ [] = [0, 0] := by decide
  unfold cks
  rw [e]
  simp only [crc_cons, crc_nil, bc9, bc10]
theorem frame_nil : frame [] = [0, 0, 29, 15] := by
  unfold frame
  rw [cks_nil]
  decide
theorem sane_a : journal_Append 1000 [] [] = some ([0, 0, 29, 15], 0) := by
  have a1 := append_eq 1000 (by omega) [] [] (by simp) (by simp) (by simp)
  rw [frame_nil] at a1
  exact a1
theorem seen_three (n : Int) (ls : List (List UInt8)) : seen [0, 1, 2] n ls = .inr (.inr (n, ls)) := rfl
theorem sane_r1 : journal_Records 1000 [0, 1, 2] = some ([], 0, 0) := by
  have r1 := records_ok 1000 (by omega) [] [0, 1, 2] (by simp) (by simp [frames]) (by simp [frames]) (by simp) (by simp) (seen_three _ _)
  have fe : frames [] = [] := by simp only [frames, List.flatMap_nil]
  rw [fe] at r1
  exact r1
theorem seen_one (n : Int) (ls : List (List UInt8)) : seen [0] n ls = .inr (.inr (n, ls)) := rfl
theorem sane_r2 : journal_Records 1000 [0, 0, 29, 15, 0] = some ([[]], 4, 0) := by
  have fe : frames [[]] = [0, 0, 29, 15] := by simp only [frames, List.flatMap_cons, List.flatMap_nil, frame_nil, List.append_nil]
  have r2 := records_ok 1000 (by omega) [[]] [0] (by simp) (by rw [fe]; simp) (by rw [fe]; simp) (by simp) (by simp) (seen_one _ _)
  rw [fe] at r2
  exact r2
theorem sane_c : journal_Check 1000 [49, 50, 51, 52, 53, 54, 55, 56, 57] = some 10673 := by
  have c1 := further_eq 1000 (by omega) [49, 50, 51, 52, 53, 54, 55, 56, 57] (by simp) (by simp) (m := 65535) (by omega)
  rw [crc_sane] at c1
  unfold journal_Check
  exact obi c1 (obi (in64_ok (by omega)) rfl)
theorem sane_b : humpgen_Bytes 1000 [0, 0, 29, 15] [0, 0, 29, 15] = some true := bytes_eq 1000 [0, 0, 29, 15] (by simp) (by simp)
theorem sane_ok : law43_sane 1000 = some true := by
  unfold law43_sane
  refine obi sane_a (obi sane_r1 (obi (x := [0, 0, 29, 15, 0]) (app_ok (by simp) (by simp)) (obi sane_r2 (obi sane_c ?_))))
  simp only [decide_true, Bool.and_self, cond_true, sane_b, Option.bind_some, List.length_nil, List.length_cons, gO]
  rfl
theorem seen_end (n : Int) (ls : List (List UInt8)) : seen [] n ls = .inr (.inr (n, ls)) := rfl

theorem gO_T {α : Type} [Inhabited α] {g : Bool} {m : Option α} {x : α} (hg : g = true) (h : m = some x) : gO g m = some x := by subst hg; exact h
theorem reads_loop (k : Int) (ls : List (List UInt8)) (hl : ls.length ≤ 9) (hr : ∀ r ∈ ls, r.length ≤ 17) : iterN (fun s : Int × List UInt8 => law43_JournalReads_l1 1000 (k, ls) s.1 s.2) 1000 (0, []) = some (.inr (frames ls)) := by
  obtain ⟨q, hq, rfl⟩ := iterN_run (f := fun s : Int × List UInt8 => law43_JournalReads_l1 1000 (k, ls) s.1 s.2) (I := fun s => ∃ i : Nat, s = ((i : Int), frames (ls.take i)) ∧ i ≤ ls.length) (Q := fun q => q = .inr (frames ls)) (fun s => ls.length - s.1.toNat) (by
    rintro s ⟨i, rfl, hi⟩
    simp only
    unfold law43_JournalReads_l1
    by_cases h : i < ls.length
    · have h17 := hr _ (List.getElem_mem h)
      have hfl := take_frames hr i
      have e : frames (ls.take i) ++ frame ls[i] = frames (ls.take (i + 1)) := by rw [List.take_succ_eq_append_getElem h, frames_app]; simp [frames]
      have hap := append_eq 1000 (by omega) (frames (ls.take i)) ls[i] (by omega) (by omega) (by omega)
      obtain ⟨A, hA⟩ : ∃ A, A = frames (ls.take i) := ⟨_, rfl⟩
      obtain ⟨B, hB⟩ : ∃ B, B = frames (ls.take i) ++ frame ls[i] := ⟨_, rfl⟩
      have hlen : B.length = A.length + 4 + ls[i].length := by rw [hB, hA, List.length_append, frame_len]; omega
      have htk : B.take A.length = A := by rw [hB, hA, List.take_left]
      rw [← hB] at hap e
      rw [← hA] at hap hfl ⊢
      refine .inl ⟨((i + 1 : Nat), frames (ls.take (i + 1))), oit (decide_eq_true (by simp only; omega)) (obi (idx_nat h) (obi hap ?_)), ⟨i + 1, rfl, h⟩, by simp only; omega⟩
      have hd : decide ((B.length : Int) = (A.length : Int) + 4 + (ls[i].length : Int)) = true := decide_eq_true (by rw [hlen]; omega)
      have g1 : (!(!decide ((0 : Int) = 0))) = true := by decide
      have g2 : (!((!decide ((0 : Int) = 0)) || (!decide ((B.length : Int) = (A.length : Int) + 4 + (ls[i].length : Int))))) = true := by rw [hd]; decide
      have g3 : (((!decide ((0 : Int) = 0)) || (!decide ((B.length : Int) = (A.length : Int) + 4 + (ls[i].length : Int)))) || (!true)) = false := by rw [hd]; decide
      have hs := slc_nat (l := B) (a := 0) (b := A.length) (by omega) (by rw [hlen]; omega)
      rw [List.drop_zero, htk] at hs
      refine obi (gO_T g1 (in64_ok (by omega))) (obi (gO_T g1 (idx_nat h)) (obi (gO_T g1 (in64_ok (by omega))) (obi (gO_T g2 hs) (obi (gO_T g2 (bytes_eq 1000 _ (by omega) (by omega))) (oif g3 (obi (inc_nat (by omega)) ?_))))))
      rw [← e]
    · refine .inr ⟨_, oif (decide_eq_false (by simp only; omega)) rfl, ?_⟩
      have : i = ls.length := by omega
      subst this
      rw [List.take_of_length_le (Nat.le_refl _)]) 1000 (0, []) ⟨0, by simp [frames], by omega⟩ (by simp only; omega)
  exact hq
theorem JournalReads_true (t : List Int) : law43_JournalReads 1000 t = some true := by
  obtain ⟨k, ls, hk, k0, k1, hl, hr⟩ := records_made t 9 (by omega)
  have hall : ∀ r ∈ ls, r.length ≤ 8192 := fun r h => by have := hr r h; omega
  have hq := reads_loop k ls hl hr
  have hfl : (frames ls).length ≤ 250 := by have := frames_len hr; omega
  have e0 : frames ls = frames ls ++ [] := by simp
  have h1 := records_ok 1000 (by omega) ls [] hall (by rw [← e0]; omega) (by rw [← e0]; omega) (by omega) (by omega) (seen_end _ _)
  have h2 := mend_ok 1000 (by omega) ls [] hall (by rw [← e0]; omega) (by rw [← e0]; omega) (by omega) (by omega) (seen_end _ _)
  rw [← e0] at h1 h2
  have hsame := same_eq 1000 ls (by omega) (by omega) fun r h => by have := hr r h; omega
  have hby := bytes_eq 1000 (frames ls) (by omega) (by omega)
  unfold law43_JournalReads
  refine obi rfl (obi hk (obi hq ?_))
  simp only
  refine obi h1 (obi h2 ?_)
  simp only [decide_true, Bool.and_self, Bool.and_true, Bool.true_and, cond_true, gO, hsame, hby, sane_ok, Option.bind_some]

/-- The whole frames ahead of a place, and the rest. -/
theorem cut_at (l : List (List UInt8)) (hr : ∀ r ∈ l, r.length ≤ 17) {w at_ : Nat} (hw : w ≤ l.length) (h1 : (frames (l.take w)).length ≤ at_) (h2 : w < l.length → at_ < (frames (l.take (w + 1))).length) (n : Int) (ls : List (List UInt8)) :
    ∃ T, (frames l).take at_ = frames (l.take w) ++ T ∧ seen T n ls = .inr (.inr (n, ls)) := by
  by_cases h : w < l.length
  · have hsp : frames l = frames (l.take w) ++ (frame l[w] ++ frames (l.drop (w + 1))) := by
      conv => lhs; rw [← List.take_append_drop w l, frames_app, List.drop_eq_getElem_cons h]
      rfl
    have e2 : frames (l.take (w + 1)) = frames (l.take w) ++ frame l[w] := by rw [List.take_succ_eq_append_getElem h, frames_app]; simp [frames]
    have h4 := h2 h
    rw [e2, List.length_append] at h4
    refine ⟨(frame l[w]).take (at_ - (frames (l.take w)).length), ?_, seen_part (by have := hr _ (List.getElem_mem h); omega) (by omega) n ls⟩
    rw [hsp, List.take_append, List.take_of_length_le h1, List.take_append_of_le_length (by omega)]
  · have : w = l.length := by omega
    subst this
    rw [List.take_of_length_le (Nat.le_refl _)] at h1 ⊢
    exact ⟨[], by rw [List.take_of_length_le (by omega)]; simp, seen_end _ _⟩

theorem frames_mono (l : List (List UInt8)) {i j : Nat} (h : i ≤ j) : (frames (l.take i)).length ≤ (frames (l.take j)).length := by
  have : l.take j = l.take i ++ (l.take j).drop i := by
    conv => lhs; rw [← List.take_append_drop i (l.take j)]
    rw [List.take_take, Nat.min_eq_left h]
  rw [this, frames_app, List.length_append]; omega

theorem JournalCuts_true (t : List Int) (at0 : Int) (r : List UInt8) : law43_JournalCuts 1000 t at0 r = some true := by
  obtain ⟨k, ls, hk, k0, k1, hl, hr⟩ := records_made t 9 (by omega)
  have hall : ∀ r ∈ ls, r.length ≤ 8192 := fun r h => by have := hr r h; omega
  have hfl : (frames ls).length ≤ 250 := by have := frames_len hr; omega
  obtain ⟨p, hp, p0, p1⟩ := place_ok 1000 at0 (n := ((frames ls).length : Int) + 1) (by omega) (by omega)
  obtain ⟨p, rfl⟩ : ∃ j : Nat, p = j := ⟨p.toNat, by omega⟩
  obtain ⟨q, hq, w, rfl, hw, w1, w2⟩ := iterN_run (f := fun s : Int × Int × Int => law43_JournalCuts_l1 1000 (frames ls, endsL ls ls.length) (p : Int) s.1 s.2.1 s.2.2)
    (I := fun s => ∃ i : Nat, s = ((i : Int), ((frames (ls.take i)).length : Int), (i : Int)) ∧ i ≤ ls.length ∧ (frames (ls.take i)).length ≤ p)
    (Q := fun q => ∃ w : Nat, q = ((w : Int), ((frames (ls.take w)).length : Int)) ∧ w ≤ ls.length ∧ (frames (ls.take w)).length ≤ p ∧ (w < ls.length → p < (frames (ls.take (w + 1))).length)) (fun s => ls.length - s.1.toNat) (by
    rintro s ⟨i, rfl, hi, hip⟩
    simp only
    unfold law43_JournalCuts_l1
    by_cases h : i < ls.length
    · have hx : idx (endsL ls ls.length) (i : Int) = some ((frames (ls.take (i + 1))).length : Int) := by rw [idx_nat (by rw [endsL_len]; exact h), endsL_get h]
      have hd : decide ((i : Int) < ((endsL ls ls.length).length : Int)) = true := decide_eq_true (by rw [endsL_len]; omega)
      simp only [hd, gO, cond_true, Bool.true_and]
      rw [hx]
      refine (?_ : _ ∨ _)
      by_cases hc : (frames (ls.take (i + 1))).length ≤ p
      · exact .inl ⟨_, obi rfl (oit (decide_eq_true (by omega)) (obi (inc_nat (by omega)) (obi rfl (obi (inc_nat (by omega)) rfl)))), ⟨i + 1, rfl, h, hc⟩, by simp only; omega⟩
      · exact .inr ⟨_, obi rfl (oif (decide_eq_false (by omega)) rfl), i, rfl, hi, hip, fun _ => by omega⟩
    · have hd : decide ((i : Int) < ((endsL ls ls.length).length : Int)) = false := decide_eq_false (by rw [endsL_len]; omega)
      simp only [hd, gO, cond_false, Bool.false_and]
      exact .inr ⟨_, obi rfl rfl, i, rfl, hi, hip, fun h' => absurd h' h⟩) 1000 (0, 0, 0) ⟨0, by simp [frames], by omega, by simp [frames]⟩ (by simp only; omega)
  obtain ⟨T, hT, hs⟩ := cut_at ls hr hw w1 w2 ((frames (ls.take w)).length : Int) (ls.take w)
  have hw17 : ∀ r ∈ ls.take w, r.length ≤ 17 := fun r h => hr r (List.mem_of_mem_take h)
  have hwall : ∀ r ∈ ls.take w, r.length ≤ 8192 := fun r h => hall r (List.mem_of_mem_take h)
  have hTl : (frames (ls.take w) ++ T).length ≤ 250 := by rw [← hT, List.length_take]; omega
  have hwl : (ls.take w).length ≤ 9 := by simp; omega
  have hwf := take_frames hr w
  have h1 := records_ok 1000 (by omega) (ls.take w) T hwall (by omega) (by omega) (by omega) (by omega) hs
  have h2 := mend_ok 1000 (by omega) (ls.take w) T hwall (by omega) (by omega) (by omega) (by omega) hs
  rw [← hT] at h1 h2
  have hsl : slc (frames ls) 0 (p : Int) = some ((frames ls).take p) := by
    have := slc_nat (l := frames ls) (a := 0) (b := p) (by omega) (by omega)
    rw [List.drop_zero] at this; exact this
  have hs2 : slc ls 0 (w : Int) = some (ls.take w) := by
    have := slc_nat (l := ls) (a := 0) (b := w) (by omega) hw
    rw [List.drop_zero] at this; exact this
  have hs3 : slc (frames ls) 0 ((frames (ls.take w)).length : Int) = some (frames (ls.take w)) := by
    have := slc_nat (l := frames ls) (a := 0) (b := (frames (ls.take w)).length) (by omega) (by omega)
    rw [List.drop_zero] at this
    rw [show ((0 : Nat) : Int) = 0 from rfl] at this
    rw [this]
    congr 1
    conv => lhs; rw [← List.take_append_drop w ls, frames_app]
    rw [List.take_append_drop, List.take_left]
  have hsame := same_eq 1000 (ls.take w) (by omega) (by omega) fun r h => by have := hw17 r h; omega
  have hby := bytes_eq 1000 (frames (ls.take w)) (by omega) (by omega)
  unfold law43_JournalCuts
  refine obi rfl (obi hk (obi (written_eq ls (by omega) hr) (obi (in64_ok (by simp only; omega)) (obi hp (obi hq (obi hsl (obi h1 (obi hsl (obi h2 ?_)))))))))
  simp only [decide_true, Bool.not_true, Bool.or_self, Bool.not_false, gO, cond_true]
  refine obi hs2 (obi hsame ?_)
  simp only [Bool.not_true, Bool.or_self, Bool.not_false, cond_true]
  refine obi hs3 (obi hby ?_)
  simp only [Bool.not_true, Bool.or_self, cond_false]
  by_cases hrl : 200 < r.length
  · exact oit (decide_eq_true (by omega)) (obi sane_ok rfl)
  · refine oif (decide_eq_false (by omega)) (obi (append_eq 1000 (by omega) _ r (by omega) (by omega) (by omega)) ?_)
    have e4 : frames (ls.take w) ++ frame r = frames (ls.take w ++ [r]) ++ [] := by rw [frames_app]; simp [frames]
    have hall4 : ∀ y ∈ ls.take w ++ [r], y.length ≤ 8192 := fun y hy => by
      rcases List.mem_append.1 hy with hy | hy
      · exact hwall y hy
      · simp at hy; subst hy; omega
    have hl4 : (frames (ls.take w ++ [r]) ++ []).length ≤ 600 := by rw [← e4, List.length_append, frame_len]; omega
    have h5 := records_ok 1000 (by omega) (ls.take w ++ [r]) [] hall4 (by omega) (by omega) (by simp; omega) (by simp; omega) (seen_end _ _)
    rw [← e4] at h5
    have hsame2 := same_eq 1000 (ls.take w ++ [r]) (by simp; omega) (by simp; omega) fun y hy => by
      rcases List.mem_append.1 hy with hy | hy
      · have := hw17 y hy; omega
      · simp at hy; subst hy; omega
    refine obi h5 ?_
    simp only [decide_true, Bool.and_self, cond_true]
    refine obi hs2 (obi (app_ok (by simp; omega) (by simp; omega)) (obi (app_ok (by simp; omega) (by simp; omega)) ?_))
    rw [List.nil_append]
    refine obi hsame2 ?_

    simp only [Bool.and_self, cond_true, Bool.true_and, sane_ok, Option.bind_some]

theorem JournalFinds_true (t : List Int) (i0 b0 : Int) : law43_JournalFinds 1000 t i0 b0 = some true := by
  obtain ⟨k, ms, hk, k0, k1, hml, hmr⟩ := records_made t 6 (by omega)
  obtain ⟨ls, hls⟩ : ∃ ls, ls = ms ++ [[(1 : UInt8), 2]] := ⟨_, rfl⟩
  have hl : ls.length ≤ 7 ∧ 1 ≤ ls.length := by rw [hls]; simp; omega
  have hr : ∀ r ∈ ls, r.length ≤ 17 := fun r h => by
    rw [hls] at h
    rcases List.mem_append.1 h with h | h
    · exact hmr r h
    · simp at h; subst h; simp
  have hall : ∀ r ∈ ls, r.length ≤ 8192 := fun r h => by have := hr r h; omega
  have hfl : (frames ls).length ≤ 250 := by have := frames_len hr; omega
  obtain ⟨i, hi, i0, i1⟩ := place_ok 1000 i0 (n := (ls.length : Int)) (by omega) (by omega)
  obtain ⟨i, rfl⟩ : ∃ j : Nat, i = j := ⟨i.toNat, by omega⟩
  have hil : i < ls.length := by omega
  have h17 := hr _ (List.getElem_mem hil)
  have hfi := take_frames hr i
  have e1 : frames (ls.take (i + 1)) = frames (ls.take i) ++ frame ls[i] := by rw [List.take_succ_eq_append_getElem hil, frames_app]; simp [frames]
  have hl1 : (frames (ls.take (i + 1))).length = (frames (ls.take i)).length + (4 + ls[i].length) := by rw [e1, List.length_append, frame_len]
  have hsp : frames ls = frames (ls.take i) ++ (frame ls[i] ++ frames (ls.drop (i + 1))) := by
    conv => lhs; rw [← List.take_append_drop i ls, frames_app, List.drop_eq_getElem_cons hil]
    rfl
  obtain ⟨b, hb, b0, b1⟩ := place_ok 1000 b0 (n := 8 * (2 + (ls[i].length : Int))) (by omega) (by omega)
  obtain ⟨b, rfl⟩ : ∃ j : Nat, b = j := ⟨b.toNat, by omega⟩
  have hfrom : (bif decide (0 < (i : Int)) then (Option.bind (in64 ((i : Int) - 1)) fun x62 => Option.bind (idx (endsL ls ls.length) x62) fun x65 => some x65) else some 0) = some ((frames (ls.take i)).length : Int) := by
    by_cases hz : 0 < i
    · refine oit (decide_eq_true (by omega)) (obi (in64_nat (n := i - 1) (by omega) (by omega)) (obi (idx_nat (by rw [endsL_len]; omega)) ?_))
      rw [endsL_get (by omega), show i - 1 + 1 = i by omega]
    · have : i = 0 := by omega
      subst this
      exact oif (decide_eq_false (by omega)) (by simp [frames])
  have hpos : b / 8 < 2 + ls[i].length := by omega
  obtain ⟨P, hP⟩ : ∃ P, P = (frames (ls.take i)).length := ⟨_, rfl⟩
  rw [← hP] at hfrom hl1 hfi
  have hlt : P + 2 + b / 8 < (frames ls).length := by rw [hsp, List.length_append, List.length_append, frame_len, ← hP]; omega
  -- the byte that changes
  have hx := idx_nat hlt
  have hget : (frames ls)[P + 2 + b / 8]'hlt = (frame ls[i])[2 + b / 8]'(by rw [frame_len]; omega) := by
    have h2 : (frames ls)[P + 2 + b / 8]? = (frame ls[i])[2 + b / 8]? := by
      rw [hsp, List.getElem?_append_right (by omega), List.getElem?_append_left (by rw [frame_len]; omega), ← hP]
      congr 1
      omega
    rw [List.getElem?_eq_getElem hlt, List.getElem?_eq_getElem (by rw [frame_len]; omega)] at h2
    exact Option.some.inj h2
  obtain ⟨y, hy, hne⟩ : ∃ y, shl_u8 1 ((Int.tmod (b : Int) 8) % 18446744073709551616) = some y ∧ ∀ x : UInt8, x ^^^ y ≠ x := by
    have e : (Int.tmod (b : Int) 8) % 18446744073709551616 = ((b % 8 : Nat) : Int) := by
      rw [Int.tmod_eq_emod_of_nonneg (by omega)]; omega
    rw [e]
    have hne0 : ∀ y : UInt8, y ≠ 0 → ∀ x : UInt8, x ^^^ y ≠ x := fun y hy x h => hy (by
      have h2 := congrArg (x ^^^ ·) h
      simpa [← UInt8.xor_assoc] using h2)
    have hb8 : b % 8 < 8 := Nat.mod_lt _ (by decide)
    generalize b % 8 = m at hb8
    refine ⟨toU8 (1 * 2 ^ (min (m : Int).toNat 8)), if_pos (Int.natCast_nonneg _), hne0 _ ?_⟩
    rcases m with _ | _ | _ | _ | _ | _ | _ | _ | m <;> first | decide | omega
  have hbad := seen_bad (r := ls[i]) (by omega) hpos (y := (frame ls[i])[2 + b / 8]'(by rw [frame_len]; omega) ^^^ y) (by
    rw [List.getElem?_eq_getElem (by rw [frame_len]; omega)]
    intro h
    exact hne _ (Option.some.inj h).symm) (frames (ls.drop (i + 1))) (P : Int) (ls.take i)
  have hset : (frames ls).set (P + 2 + b / 8) ((frames ls)[P + 2 + b / 8]'hlt ^^^ y) = frames (ls.take i) ++ ((frame ls[i]).set (2 + b / 8) ((frame ls[i])[2 + b / 8]'(by rw [frame_len]; omega) ^^^ y) ++ frames (ls.drop (i + 1))) := by
    rw [hget]
    conv => lhs; rw [hsp]
    rw [List.set_append_right _ _ (by omega), ← hP, show P + 2 + b / 8 - P = 2 + b / 8 by omega, List.set_append_left _ _ (by rw [frame_len]; omega)]
  have hrec := records_eq 1000 (by omega) (ls.take i) ((frame ls[i]).set (2 + b / 8) ((frame ls[i])[2 + b / 8]'(by rw [frame_len]; omega) ^^^ y) ++ frames (ls.drop (i + 1))) (fun r h => hall r (List.mem_of_mem_take h))
    (by rw [← hset, List.length_set]; omega) (by rw [← hset, List.length_set]; omega) (by simp; omega) (by simp; omega) (by rw [← hP]; exact hbad)
  rw [← hset] at hrec
  have hs2 : slc ls 0 (i : Int) = some (ls.take i) := by
    have := slc_nat (l := ls) (a := 0) (b := i) (by omega) (by omega)
    rw [List.drop_zero] at this; exact this
  have hsame := same_eq 1000 (ls.take i) (by simp; omega) (by simp; omega) fun r h => by have := hr r (List.mem_of_mem_take h); omega
  have hl7 : ms.length ≤ 6 := hml
  unfold law43_JournalFinds
  refine obi rfl (obi hk (obi (x := ls) ?_ (obi (written_eq ls (by omega) hr) (obi hi (obi hfrom (obi (idx_nat (by rw [endsL_len]; exact hil)) ?_))))))
  · rw [hls]; exact app_ok (by simp; omega) (by simp; omega)
  rw [endsL_get hil]
  refine obi (in64_nat (n := 4 + ls[i].length) (by omega) (by omega)) (obi (in64_nat (n := 2 + ls[i].length) (by omega) (by omega)) (obi (in64_ok (by omega)) (obi (x := (b : Int)) (by rw [show (8 * ((2 + ls[i].length : Nat) : Int)) = 8 * (2 + (ls[i].length : Int)) by omega]; exact hb) (obi (in64_nat (n := P + 2) (by omega) (by omega)) (obi (x := ((b / 8 : Nat) : Int)) ?_ (obi (in64_nat (n := P + 2 + b / 8) (by omega) (by omega)) (obi hx (obi hy (obi hx ?_)))))))))
  · have : (b : Int).tdiv 8 = ((b / 8 : Nat) : Int) := by rw [Int.tdiv_eq_ediv_of_nonneg (by omega)]; omega
    rw [quo64_ok (by decide) (by rw [this]; omega), this]
  rw [Int.toNat_natCast]
  refine obi (x := (ls.take i, (P : Int), 9)) (obi hrec rfl) ?_
  simp [gO, hs2, hsame, sane_ok]
end Go.Gv
