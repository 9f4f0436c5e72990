/- The order that the reference's machine leaves. -/
import Derived.Test.YtlpkbkbjohhleaaGreatTn
namespace Go.Gv
def cd (c : List Int) (x : Nat) : Nat := (gi c x).toNat
/-- x before y by the low bits of their codes, then by their numbers -/
def Lex (c : List Int) (t x y : Nat) : Prop := cd c x % 2 ^ t < cd c y % 2 ^ t ∨ (cd c x % 2 ^ t = cd c y % 2 ^ t ∧ x < y)
/-- the tracks behind the pushes of the times before t -/
structure Inv (l : List T_Item) (s : Nat) (c : List Int) (t : Nat) (C : List (List Int)) (L : Nat → List Nat) : Prop where
  eq : ∀ n, gl C n = (L n).map (fun x : Nat => (x : Int))
  mem : ∀ n x, x ∈ L n → x < l.length ∧ (it l x).Round < (t : Int) ∧ Dst (cd c x) s (t - 1) (it l x).Train.toNat n
  ord : ∀ n, (L n).Pairwise (Lex c (t - 1))
  len : ∀ n, (L n).length ≤ 5 * 3 ^ t
theorem bit_low {k t : Nat} (h : k / 2 ^ t % 2 = 0) : k % 2 ^ (t + 1) = k % 2 ^ t := by
  rw [Nat.pow_succ, Nat.mod_mul, h, Nat.mul_zero, Nat.add_zero]
theorem bit_high {k t : Nat} (h : k / 2 ^ t % 2 = 1) : k % 2 ^ (t + 1) = k % 2 ^ t + 2 ^ t := by
  rw [Nat.pow_succ, Nat.mod_mul, h, Nat.mul_one]
theorem dst_next {k s t tr n : Nat} (h : Dst k s t tr n) (hn : n ≠ t) (ht : t < s) : k / 2 ^ t % 2 = 0 ∧ Dst k s (t + 1) tr n := by
  rcases h with ⟨h1, h2, h3, h4⟩ | ⟨h1, h2⟩
  · exact ⟨h4 t (Nat.le_refl _) (by omega), .inl ⟨by omega, h2, h3, fun b b1 b2 => h4 b (by omega) b2⟩⟩
  · exact ⟨h2 t (Nat.le_refl _) ht, .inr ⟨h1, fun b b1 b2 => h2 b (by omega) b2⟩⟩
theorem dst_this {k s t tr : Nat} (h : Dst k s t tr t) (ht : t < s) : k / 2 ^ t % 2 = 1 := by
  rcases h with ⟨h1, h2, h3, h4⟩ | ⟨h1, h2⟩
  · exact h3
  · omega
/-- the items that a time pushes again -/
def olds (L : Nat → List Nat) (t : Nat) : List Nat := if t = 0 then [] else L (t - 1)
def keep (L : Nat → List Nat) (t n : Nat) : List Nat := if t ≠ 0 ∧ n = t - 1 then [] else L n
theorem inv_step {l : List T_Item} {w s : Nat} {c : List Int} (J : JobOk l w) (P : PlanOk l w s c) (hl5 : l.length ≤ 5) {t : Nat} (ht : t ≤ s) {C C1 C2 : List (List Int)} {L : Nat → List Nat} (I : Inv l s c t C L) (hC1 : C1 = if t = 0 then C else C.set (t - 1) []) (hlen : s ≤ C.length) {f : Nat → Nat} (hf : ∀ x, x < l.length → Dst (cd c x) s t (it l x).Train.toNat (f x)) (hfl : ∀ x, x < l.length → f x < C.length) (hC2 : C2 = pushAll f C1 (olds L t ++ news l t l.length)) :
    Inv l s c (t + 1) C2 fun n => keep L t n ++ (olds L t ++ news l t l.length).filter (fun x => f x = n) := by
  have hold : ∀ x ∈ olds L t, x < l.length ∧ (it l x).Round < (t : Int) ∧ 0 < t ∧ cd c x % 2 ^ t = cd c x % 2 ^ (t - 1) + 2 ^ (t - 1) := fun x hx => by
    unfold olds at hx
    by_cases h0 : t = 0
    · rw [if_pos h0] at hx; exact absurd hx (by simp)
    · rw [if_neg h0] at hx
      obtain ⟨m1, m2, m3⟩ := I.mem _ x hx
      have := bit_high (dst_this m3 (by omega))
      rw [show t - 1 + 1 = t by omega] at this
      exact ⟨m1, m2, by omega, this⟩
  have hkeep : ∀ n, ∀ x ∈ keep L t n, x ∈ L n ∧ 0 < t ∧ cd c x % 2 ^ t = cd c x % 2 ^ (t - 1) ∧ Dst (cd c x) s t (it l x).Train.toNat n := fun n x hx => by
    unfold keep at hx
    by_cases h : t ≠ 0 ∧ n = t - 1
    · rw [if_pos h] at hx; exact absurd hx (by simp)
    · rw [if_neg h] at hx
      obtain ⟨m1, m2, m3⟩ := I.mem _ x hx
      have hr := J.rd x m1
      have h0 : 0 < t := by omega
      obtain ⟨d1, d2⟩ := dst_next m3 (fun e => h ⟨by omega, e⟩) (by omega)
      have := bit_low d1
      rw [show t - 1 + 1 = t by omega] at this d2
      exact ⟨hx, h0, this, d2⟩
  have hnew : ∀ x ∈ news l t l.length, x < l.length ∧ (it l x).Round = (t : Int) ∧ cd c x % 2 ^ t = 2 ^ t - 1 := fun x hx => by
    have h1 := news_mem hx
    have h2 : (it l x).Round = (t : Int) := of_decide_eq_true (List.mem_filter.1 hx).2
    obtain ⟨k, hk, _, k2⟩ := P.at_ x h1
    have er : rdN l x = t := by unfold rdN; rw [h2]; rfl
    have := k2.2.1
    rw [er] at this
    exact ⟨h1, h2, by unfold cd; rw [hk, Int.toNat_natCast]; exact this⟩
  have hpw : 1 ≤ 2 ^ t := Nat.one_le_two_pow
  have lt_new : ∀ x y, x < l.length → (it l x).Round < (t : Int) → y ∈ news l t l.length → Lex c t x y := fun x y hx hr hy => by
    obtain ⟨y1, y2, y3⟩ := hnew y hy
    have hm := Nat.mod_lt (cd c x) (show 0 < 2 ^ t by omega)
    have hxy : x < y := by
      rcases Nat.lt_or_ge x y with h | h
      · exact h
      · rcases Nat.lt_or_ge y x with h' | h'
        · have := J.as y x h' hx; omega
        · have : x = y := by omega
          subst this; omega
    unfold Lex
    rw [y3]
    omega
  have all : ∀ x ∈ olds L t ++ news l t l.length, x < l.length ∧ (it l x).Round < ((t + 1 : Nat) : Int) := fun x hx => by
    rcases List.mem_append.1 hx with h | h
    · have := hold x h; exact ⟨this.1, by omega⟩
    · have := hnew x h; exact ⟨this.1, by omega⟩
  have hgC1 : ∀ n, gl C1 n = (keep L t n).map (fun x : Nat => (x : Int)) := fun n => by
    rw [hC1]
    unfold keep
    by_cases h0 : t = 0
    · rw [if_pos h0, if_neg (by omega)]; exact I.eq n
    · rw [if_neg h0, gl_set (by omega)]
      by_cases h : n = t - 1
      · rw [if_pos h, if_pos ⟨h0, h⟩]; rfl
      · rw [if_neg h, if_neg (fun e => h e.2)]; exact I.eq n
  have hC1l : C1.length = C.length := by rw [hC1]; split <;> simp
  refine ⟨fun n => ?_, fun n x hx => ?_, fun n => ?_, fun n => ?_⟩
  · rw [hC2, gl_pushAll (fun x hx => by rw [hC1l]; exact hfl x (all x hx).1), hgC1, List.map_append]
  · rw [show t + 1 - 1 = t by omega]
    rcases List.mem_append.1 hx with h | h
    · obtain ⟨k1, k2, k3, k4⟩ := hkeep n x h
      obtain ⟨m1, m2, _⟩ := I.mem n x k1
      exact ⟨m1, by omega, k4⟩
    · obtain ⟨h1, h2⟩ := List.mem_filter.1 h
      have ha := all x h1
      have e : f x = n := of_decide_eq_true h2
      exact ⟨ha.1, ha.2, by rw [← e]; exact hf x ha.1⟩
  · rw [show t + 1 - 1 = t by omega]
    rw [List.filter_append, ← List.append_assoc, List.pairwise_append, List.pairwise_append]
    refine ⟨⟨?_, ?_, fun x hx y hy => ?_⟩, ?_, fun x hx y hy => ?_⟩
    · have hp : (keep L t n).Pairwise (Lex c (t - 1)) := by
        unfold keep; split
        · exact List.Pairwise.nil
        · exact I.ord n
      refine hp.imp_of_mem fun {a b} ha hb hab => ?_
      have h1 := (hkeep n a ha).2.2.1
      have h2 := (hkeep n b hb).2.2.1
      unfold Lex; rw [h1, h2]; exact hab
    · have hp : (olds L t).Pairwise (Lex c (t - 1)) := by
        unfold olds; split
        · exact List.Pairwise.nil
        · exact I.ord _
      refine (hp.filter _).imp_of_mem fun {a b} ha hb hab => ?_
      have h1 := (hold a (List.mem_filter.1 ha).1).2.2.2
      have h2 := (hold b (List.mem_filter.1 hb).1).2.2.2
      unfold Lex at hab ⊢
      rw [h1, h2]; omega
    · have h1 := hkeep n x hx
      have h2 := hold y (List.mem_filter.1 hy).1
      have hm := Nat.mod_lt (cd c x) (show 0 < 2 ^ (t - 1) from Nat.two_pow_pos _)
      unfold Lex
      rw [h1.2.2.1, h2.2.2.2]; omega
    · refine List.Pairwise.filter _ ?_
      have hr : (List.range l.length).Pairwise (· < ·) := List.pairwise_lt_range
      refine (List.Pairwise.filter _ hr).imp_of_mem fun {a b} ha hb hab => ?_
      have h1 := (hnew a ha).2.2
      have h2 := (hnew b hb).2.2
      unfold Lex
      rw [h1, h2]; exact .inr ⟨rfl, hab⟩
    · have hy2 := (List.mem_filter.1 hy).1
      rcases List.mem_append.1 hx with h | h
      · have k := hkeep n x h
        have m := I.mem n x k.1
        exact lt_new x y m.1 m.2.1 hy2
      · have k := hold x (List.mem_filter.1 h).1
        exact lt_new x y k.1 k.2.1 hy2
  · have e1 : (keep L t n).length ≤ 5 * 3 ^ t := by
      unfold keep; split
      · simp
      · exact I.len n
    have e2 : (olds L t).length ≤ 5 * 3 ^ t := by
      unfold olds; split
      · simp
      · exact I.len _
    have e3 := news_len l t l.length
    have e4 := List.length_filter_le (fun x => decide (f x = n)) (olds L t ++ news l t l.length)
    rw [List.length_append] at e4 ⊢
    have e5 : 3 ^ (t + 1) = 3 ^ t * 3 := Nat.pow_succ ..
    have e6 : 1 ≤ 3 ^ t := Nat.one_le_pow _ _ (by decide)
    omega
theorem At_ok {N : Nat} (hN : 5000 ≤ N) {l : List T_Item} {w s : Nat} {c : List Int} (J : JobOk l w) (P : PlanOk l w s c) (hl5 : l.length ≤ 5) (hs2 : s ≤ 2) :
    ∃ (st tr : List (List Int)) (mv pu : Int) (L : Nat → List Nat), r14_At N l (w : Int) (s : Int) c (s : Int) = some (st, tr, mv, pu) ∧ tr.length = trs l l.length ∧ (∀ T, gl tr T = (L T).map (fun x : Nat => (x : Int))) ∧ (∀ T x, x ∈ L T → x < l.length ∧ (it l x).Train.toNat = T) ∧ (∀ T, (L T).Pairwise (Lex c s)) ∧ ∀ T, (L T).length ≤ 135 := by
  have hl := J.len
  have htl : ∀ x, x < l.length → (it l x).Train.toNat < trs l l.length := fun x hx => trs_lt hx
  have htr : trs l l.length ≤ 16 := trs_le (m := 15) fun i hi => by have := J.tr i hi; omega
  have p27 : ∀ {t : Nat}, t ≤ 3 → 3 ^ t ≤ 27 := fun h => by
    have := Nat.pow_le_pow_right (show 0 < 3 by decide) h
    omega
  obtain ⟨q, hq, L, q1, q2, q3⟩ := runN (f := fun x : Int × Int × Int × List (List Int) × List (List Int) => r14_At_l7 N l (w : Int) (s : Int) c (s : Int) x.1 x.2.1 x.2.2.1 x.2.2.2.1 x.2.2.2.2) (s + 1)
    (fun t x => x.1 = t ∧ (∃ mv : Nat, x.2.1 = mv ∧ mv ≤ 10 * 3 ^ t) ∧ (0 ≤ x.2.2.1 ∧ x.2.2.1 ≤ t) ∧ x.2.2.2.1.length = s ∧ x.2.2.2.2.length = trs l l.length ∧ ∃ L, Inv l s c t (x.2.2.2.1 ++ x.2.2.2.2) L)
    (fun q => ∃ L, q.2.2.1.length = s ∧ q.2.2.2.length = trs l l.length ∧ Inv l s c (s + 1) (q.2.2.1 ++ q.2.2.2) L) (by
    rintro t ⟨t', mv', pu, st, tr⟩ hts ⟨rfl, ⟨mv, rfl, hmv⟩, hpu, g1, g2, L, I⟩
    simp only at hmv hpu g1 g2 I ⊢
    left
    have hts' : t ≤ s := by omega
    have ht27 := p27 (show t ≤ 3 by omega)
    obtain ⟨f, hf⟩ : ∃ f : Nat → Nat, ∀ x, Dst (cd c x) s t (it l x).Train.toNat (f x) := Classical.axiomOfChoice fun x => dst_ex (cd c x) s (it l x).Train.toNat (s - t) t rfl
    have hfk : ∀ x, x < l.length → ∀ k : Nat, gi c x = (k : Int) → Dst k s t (it l x).Train.toNat (f x) := fun x hx k hk => by
      have := hf x
      unfold cd at this
      rw [hk, Int.toNat_natCast] at this
      exact this
    have hlen : (st ++ tr).length = s + trs l l.length := by rw [List.length_append, g1, g2]
    have hfl : ∀ x, x < l.length → f x < (st ++ tr).length := fun x hx => by rw [hlen]; exact dst_lt (hf x) (htl x hx)
    have hB : ∀ y, (gl (st ++ tr) y).length ≤ 5 * 3 ^ t := fun y => by rw [I.eq, List.length_map]; exact I.len y
    have hol : (olds L t).length ≤ 5 * 3 ^ t := by
      unfold olds; split
      · simp
      · exact I.len _
    have holm : ∀ x ∈ olds L t, x < l.length := fun x hx => by
      unfold olds at hx
      by_cases h0 : t = 0
      · rw [if_pos h0] at hx; exact absurd hx (by simp)
      · rw [if_neg h0] at hx; exact (I.mem _ x hx).1
    -- the items of the track before
    obtain ⟨st1, tr1, C1, e1, f1, f2, f3, f4⟩ : ∃ (st1 tr1 C1 : List (List Int)), (bif decide (0 < (t : Int)) then (
        Option.bind (in64 ((t : Int) - 1)) fun x1688 =>
        Option.bind (idx st x1688) fun x1691 =>
        Option.bind (iterN (fun s_1 : Int × Int × List (List Int) × List (List Int) => r14_At_l9 N l (w : Int) (s : Int) c (t : Int) pu x1691 s_1.1 s_1.2.1 s_1.2.2.1 s_1.2.2.2) N (0, (mv : Int), (List.set st (Int.toNat x1688) []), tr)) fun r1810 =>
        some (r1810.1, r1810.2.1, r1810.2.2)) else (some ((mv : Int), st, tr))) = some (((mv + (olds L t).length : Nat) : Int), st1, tr1) ∧ st1.length = s ∧ tr1.length = trs l l.length ∧ C1 = (if t = 0 then st ++ tr else (st ++ tr).set (t - 1) []) ∧ st1 ++ tr1 = pushAll f C1 (olds L t) := by
      by_cases h0 : t = 0
      · subst h0
        exact ⟨st, tr, st ++ tr, oif rfl rfl, g1, g2, by simp, by simp [olds, pushAll]⟩
      · have eo : olds L t = L (t - 1) := if_neg h0
        have ei : idx st ((t - 1 : Nat) : Int) = some ((olds L t).map (fun x : Nat => (x : Int))) := by
          rw [idx_gl (by omega), eo, ← I.eq (t - 1), gl_append, if_pos (by omega)]
        have hsl : st.set (t - 1) [] ++ tr = (st ++ tr).set (t - 1) [] := by rw [List.set_append_left _ _ (by omega)]
        obtain ⟨st1, tr1, e, u1, u2, u3⟩ := yat_old hN J P hts' hfk (st := st.set (t - 1) []) (tr := tr) (by simpa using g1) (by rw [g2]; exact htl) (B := 5 * 3 ^ t) (by omega) (fun y => by
          rw [hsl, gl_set (by rw [hlen]; omega)]
          split
          · simp
          · exact hB y) (mv := mv) (by omega) pu (xs := olds L t) holm (by omega)
        exact ⟨st1, tr1, (st ++ tr).set (t - 1) [], oit (decide_eq_true (by omega)) (obi (sub1n (by omega) (by omega)) (obi ei (obi (by rw [Int.toNat_natCast]; exact e) rfl))), u1, by rw [u2, g2], by rw [if_neg h0], by rw [u3, hsl]⟩
    have hC1l : C1.length = (st ++ tr).length := by rw [f3]; split <;> simp
    have hB1 : ∀ y, (gl (st1 ++ tr1) y).length ≤ 10 * 3 ^ t := fun y => by
      rw [f4, gl_pushAll (fun x hx => by rw [hC1l]; exact hfl x (holm x hx)), List.length_append, List.length_map]
      have h1 := List.length_filter_le (fun x => decide (f x = y)) (olds L t)
      have h2 : (gl C1 y).length ≤ 5 * 3 ^ t := by
        rw [f3]
        by_cases h0 : t = 0
        · rw [if_pos h0]; exact hB y
        · rw [if_neg h0, gl_set (by rw [hlen]; omega)]
          split
          · simp
          · exact hB y
      omega
    obtain ⟨st2, tr2, e2, u1, u2, u3⟩ := yat_new hN J P hts' hfk (st := st1) (tr := tr1) f1 (by rw [f2]; exact htl) (B := 10 * 3 ^ t) (by omega) hB1 (mv := mv + (olds L t).length) (by omega) pu
    have hnl := news_len l t l.length
    have e5 : 3 ^ (t + 1) = 3 ^ t * 3 := Nat.pow_succ ..
    have e6 : 1 ≤ 3 ^ t := Nat.one_le_pow _ _ (by decide)
    have hI := inv_step J P hl5 hts' I f3 (by rw [hlen]; omega) (f := f) (fun x hx => hf x) hfl (C2 := st2 ++ tr2) (by rw [u3, f4]; unfold pushAll; rw [List.foldl_append])
    unfold r14_At_l7
    by_cases hm : (mv : Int) < ((mv + (olds L t).length + (news l t l.length).length : Nat) : Int)
    · exact ⟨_, oit (decide_eq_true (by omega)) (obi e1 (obi e2 (oit (decide_eq_true hm) (obi (in64_ok (by omega)) (obi (inc_nat (by omega)) rfl))))), rfl, ⟨_, rfl, by omega⟩, by simp only; omega, u1, by rw [u2, f2], _, hI⟩
    · exact ⟨_, oit (decide_eq_true (by omega)) (obi e1 (obi e2 (oif (decide_eq_false hm) (obi (inc_nat (by omega)) rfl)))), rfl, ⟨_, rfl, by omega⟩, by simp only; omega, u1, by rw [u2, f2], _, hI⟩) (by
    rintro ⟨t', mv', pu, st, tr⟩ ⟨rfl, ⟨mv, rfl, hmv⟩, hpu, g1, g2, L, I⟩
    unfold r14_At_l7
    exact ⟨_, oif (decide_eq_false (by simp only; omega)) rfl, L, g1, g2, I⟩) N (by omega) (0, 0, 0, List.replicate s [], List.replicate (trs l l.length) []) ⟨rfl, ⟨0, rfl, by omega⟩, ⟨Int.le_refl _, Int.le_refl _⟩, by simp, by simp, fun _ => [], ⟨fun n => by rw [gl_append]; split <;> exact gl_rep _ _, fun n x h => absurd h (by simp), fun n => List.Pairwise.nil, fun n => by simp⟩⟩
  have h27 := p27 (show s + 1 ≤ 3 by omega)
  refine ⟨q.2.2.1, q.2.2.2, q.1, q.2.1, fun T => L (s + T), obi (x := (List.replicate s [], List.replicate (trs l l.length) [])) (obi (mkL_ok _ (by omega) (by omega)) (obi (ytrains_ok hN J) (obi (mkL_ok _ (by omega) (by omega)) rfl))) (obi hq rfl), q2, fun T => ?_, fun T x hx => ?_, fun T => q3.ord _, fun T => by have := q3.len (s + T); show (L (s + T)).length ≤ 135; omega⟩
  · have := q3.eq (s + T)
    rw [gl_append, if_neg (by omega), q1, show s + T - s = T by omega] at this
    exact this
  · obtain ⟨m1, _, m3⟩ := q3.mem _ x hx
    refine ⟨m1, ?_⟩
    rcases m3 with ⟨_, h, _⟩ | ⟨h, _⟩ <;> omega
end Go.Gv
