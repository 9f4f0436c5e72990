/- The machine: plans that fit, the start, and one push. -/
import Derived.Test.YtlpkbkbjohhleaaGreatTf
namespace Go.Gv
/-- a plan that fits its job -/
structure PlanOk (l : List T_Item) (w : Nat) (s : Nat) (c : List Int) : Prop where
  le : s ≤ 12
  len : c.length = l.length
  at_ : ∀ i, i < l.length → ∃ k : Nat, gi c i = k ∧ k < 2 ^ s ∧ IsC k (rdN l i) w
theorem SolveS.plan {l : List T_Item} {w : Nat} {base least : List Int} (S : SolveS l w base least) {s : Nat} (h : StepsOf least s) : PlanOk l w s least where
  le := h.le
  len := S.ll
  at_ := fun i hi => by
    obtain ⟨b, k, _, h2, h3, _⟩ := S.at_ i hi
    refine ⟨k, h2, ?_, h3.2.1⟩
    have := h.lt i (by rw [S.ll]; exact hi)
    omega
theorem rvalid_ok {N : Nat} (hN : 5000 ≤ N) {l : List T_Item} {w s : Nat} {c : List Int} (J : JobOk l w) (P : PlanOk l w s c) : rollin_Valid N l (w : Int) (s : Int) c = some 0 := by
  have hl := J.len
  have hs := P.le
  have hc := P.len
  have hq : iterN (fun x : Int => rollin_Valid_l1 N l (w : Int) (s : Int) c x) N 0 = some (.inr ()) := by
    refine runN1 (f := fun x : Int => rollin_Valid_l1 N l (w : Int) (s : Int) c x) l.length (fun i x => x = i) _ ?_ ?_ N (by omega) 0 rfl
    · rintro i x hi rfl
      obtain ⟨k, hk, k1, k2⟩ := P.at_ i hi
      have hrd := J.rd i hi
      have erd : (it l i).Round = ((rdN l i : Nat) : Int) := by unfold rdN; omega
      obtain ⟨b, hb, hb2⟩ := is_ok (N := N) hN (k := k) k2.1 (r := rdN l i) (by omega) J.wt
      rw [← erd] at hb
      have e : idx c (i : Int) = some (k : Int) := by rw [idx_gi (by omega), hk]
      have e2 : shr_i64 (k : Int) (s : Int) = some 0 := by
        have := shr_ok (x := k) (s := s) hs
        rw [Nat.div_eq_of_lt k1] at this
        exact this
      have hbt := hb2.2 k2
      subst hbt
      unfold rollin_Valid_l1
      exact ⟨((i + 1 : Nat) : Int), oit (decide_eq_true (by omega)) (obi e (obi (idx_it hi) (obi hb (obi (gO_T rfl e2) (oif rfl (obi (inc_nat (by omega)) rfl)))))), rfl⟩
    · rintro x rfl
      unfold rollin_Valid_l1
      exact oif (decide_eq_false (by omega)) rfl
  unfold rollin_Valid
  exact obi (jobvalid_ok hN J) (oif rfl (oif (by rw [decide_eq_false (by omega), decide_eq_false (by omega), decide_eq_true (by omega)]; rfl) (obi hq rfl)))
/-- the number of the trains among the first items -/
def trs (l : List T_Item) : Nat → Nat
  | 0 => 0
  | n + 1 => max (trs l n) ((it l n).Train.toNat + 1)
theorem trs_lt {l : List T_Item} : ∀ {n i : Nat}, i < n → (it l i).Train.toNat < trs l n := by
  intro n
  induction n with
  | zero => intro i h; exact absurd h (Nat.not_lt_zero _)
  | succ n ih =>
    intro i h
    unfold trs
    by_cases e : i = n
    · subst e; omega
    · have := ih (i := i) (by omega); omega
theorem trs_le {l : List T_Item} {m : Nat} : ∀ {n : Nat}, (∀ i, i < n → (it l i).Train ≤ m) → trs l n ≤ m + 1 := by
  intro n
  induction n with
  | zero => intro _; unfold trs; omega
  | succ n ih =>
    intro h
    have h1 := ih fun i hi => h i (by omega)
    have h2 := h n (by omega)
    unfold trs
    omega
theorem start_ok {N : Nat} (hN : 5000 ≤ N) {l : List T_Item} {w s : Nat} (c : List Int) (J : JobOk l w) (hs : s ≤ 12) : rollin_start N l (w : Int) (s : Int) c = some ((w : Int), (s : Int), List.replicate s [], List.replicate (trs l l.length) [], 0, 0) := by
  have hl := J.len
  have hq : iterN (fun x : Int × List (List Int) => rollin_start_l4 N l x.1 x.2) N (0, []) = some (List.replicate (trs l l.length) []) := by
    refine runN1 (f := fun x : Int × List (List Int) => rollin_start_l4 N l x.1 x.2) l.length (fun i x => x.1 = i ∧ x.2 = List.replicate (trs l i) []) _ ?_ ?_ N (by omega) (0, []) ⟨rfl, rfl⟩
    · rintro i ⟨i', b⟩ hi ⟨rfl, rfl⟩
      have htr := J.tr i hi
      obtain ⟨q, hq, rfl⟩ := iterN_run (f := fun x : List (List Int) => rollin_start_l5 N (it l i) x)
        (I := fun x => ∃ T : Nat, x = List.replicate T [] ∧ trs l i ≤ T ∧ T ≤ trs l (i + 1) ∧ T ≤ 16 + trs l i) (Q := fun x => x = List.replicate (trs l (i + 1)) []) (fun x => trs l (i + 1) - x.length) (by
        rintro x ⟨T, rfl, h1, h2, h3⟩
        have e : trs l (i + 1) = max (trs l i) ((it l i).Train.toNat + 1) := rfl
        unfold rollin_start_l5
        have h16 : trs l i ≤ 16 := trs_le (m := 15) fun j hj => by have := J.tr j (by omega); omega
        by_cases h : (T : Int) ≤ (it l i).Train
        · exact .inl ⟨_, oit (decide_eq_true (by simp only [List.length_replicate]; exact h)) (obi (app_ok (by simp only [List.length_replicate, List.length_cons, List.length_nil]; omega) (by simp only [List.length_replicate, List.length_cons, List.length_nil]; omega)) rfl), ⟨T + 1, by rw [List.replicate_succ'], by omega, by omega, by omega⟩, by simp only [List.length_append, List.length_replicate, List.length_cons, List.length_nil]; omega⟩
        · exact .inr ⟨_, oif (decide_eq_false (by simp only [List.length_replicate]; exact h)) rfl, by rw [show trs l (i + 1) = T by omega]⟩) N (List.replicate (trs l i) []) ⟨trs l i, rfl, Nat.le_refl _, Nat.le_max_left _ _, by omega⟩ (by
        have h16 : trs l (i + 1) ≤ 16 := trs_le (m := 15) fun j hj => by have := J.tr j (by omega); omega
        omega)
      unfold rollin_start_l4
      exact ⟨_, oit (decide_eq_true (by simp only; omega)) (obi (idx_it hi) (obi hq (obi (inc_nat (by omega)) rfl))), rfl, rfl⟩
    · rintro ⟨i', b⟩ ⟨rfl, rfl⟩
      unfold rollin_start_l4
      exact oif (decide_eq_false (by simp only; omega)) rfl
  exact obi (mkL_ok _ (by omega) (by omega)) (obi hq rfl)
/-- where a push at a time brings an item -/
def Dst (k s t tr d : Nat) : Prop := (t ≤ d ∧ d < s ∧ k / 2 ^ d % 2 = 1 ∧ ∀ b, t ≤ b → b < d → k / 2 ^ b % 2 = 0) ∨ (d = s + tr ∧ ∀ b, t ≤ b → b < s → k / 2 ^ b % 2 = 0)
theorem dst_ex (k s tr : Nat) : ∀ (n t : Nat), s - t = n → ∃ d, Dst k s t tr d := by
  intro n
  induction n with
  | zero => intro t h; exact ⟨s + tr, .inr ⟨rfl, fun b h1 h2 => by omega⟩⟩
  | succ n ih =>
    intro t h
    by_cases c : k / 2 ^ t % 2 = 1
    · exact ⟨t, .inl ⟨Nat.le_refl _, by omega, c, fun b h1 h2 => by omega⟩⟩
    · obtain ⟨d, hd⟩ := ih (t + 1) (by omega)
      have low : ∀ b, (t + 1 ≤ b → k / 2 ^ b % 2 = 0) → t ≤ b → k / 2 ^ b % 2 = 0 := fun b h1 h2 => by
        by_cases e : b = t
        · subst e; omega
        · exact h1 (by omega)
      rcases hd with ⟨h1, h2, h3, h4⟩ | ⟨h1, h2⟩
      · exact ⟨d, .inl ⟨by omega, h2, h3, fun b g1 g2 => low b (fun g => h4 b g g2) g1⟩⟩
      · exact ⟨d, .inr ⟨h1, fun b g1 g2 => low b (fun g => h2 b g g2) g1⟩⟩
theorem dst_lt {k s t tr d T : Nat} (h : Dst k s t tr d) (ht : tr < T) : d < s + T := by
  rcases h with ⟨_, h, _⟩ | ⟨h, _⟩ <;> omega
/-- an item is put on a track -/
def put (C : List (List Int)) (d : Nat) (x : Int) : List (List Int) := C.set d (gl C d ++ [x])
theorem gl_append {a b : List (List Int)} {d : Nat} : gl (a ++ b) d = if d < a.length then gl a d else gl b (d - a.length) := by
  unfold gl
  rw [List.getD_eq_getElem?_getD, List.getD_eq_getElem?_getD, List.getD_eq_getElem?_getD]
  by_cases h : d < a.length
  · rw [if_pos h, List.getElem?_append_left h]
  · rw [if_neg h, List.getElem?_append_right (by omega)]
theorem push_ok {N : Nat} (hN : 5000 ≤ N) {l : List T_Item} {w s : Nat} {c : List Int} (hc : c.length = l.length) (hs : s ≤ 12) {st tr : List (List Int)} (h1 : st.length = s) {x : Nat} (hx : x < l.length) (hxl : l.length ≤ 96) {k : Nat} (hk : gi c x = k) (hk2 : k < 4294967296) (htr0 : 0 ≤ (it l x).Train) (htr : (it l x).Train.toNat < tr.length) (h2 : ∀ y, y < st.length → (gl st y).length ≤ 10000) (h3 : ∀ y, y < tr.length → (gl tr y).length ≤ 10000) {mv : Nat} (hmv : mv ≤ 10000) (pu : Int) {t d : Nat} (hts : t ≤ s) (hd : Dst k s t (it l x).Train.toNat d) :
    ∃ st' tr', machine_push N l (w : Int) (s : Int) c st tr (mv : Int) pu (x : Int) (t : Int) = some (st', tr', ((mv + 1 : Nat) : Int)) ∧ st'.length = s ∧ tr'.length = tr.length ∧ st' ++ tr' = put (st ++ tr) d (x : Int) := by
  have e1 : idx c (x : Int) = some (k : Int) := by rw [idx_gi (by omega), hk]
  have bit : ∀ b : Nat, b < s → (k / 2 ^ b % 2 = 1 ∧ andN 63 ((k / 2 ^ b : Nat) : Int) 1 = some 1) ∨ (k / 2 ^ b % 2 = 0 ∧ andN 63 ((k / 2 ^ b : Nat) : Int) 1 = some 0) := fun b hb => by
    have hle : k / 2 ^ b ≤ k := Nat.div_le_self _ _
    have h := andN_nat (a := k / 2 ^ b) (b := 1) (by omega) (by omega)
    rw [Nat.and_one_is_mod] at h
    rcases Nat.mod_two_eq_zero_or_one (k / 2 ^ b) with h0 | h0
    · right; rw [h0] at h; exact ⟨h0, h⟩
    · left; rw [h0] at h; exact ⟨h0, h⟩
  obtain ⟨q, hq, hQ⟩ := iterN_run (f := fun b : Int => machine_push_l1 N (s : Int) c st tr (x : Int) ((mv + 1 : Nat) : Int) b) (I := fun b => ∃ b' : Nat, b = b' ∧ t ≤ b' ∧ b' ≤ s ∧ ∀ y, t ≤ y → y < b' → k / 2 ^ y % 2 = 0)
    (Q := fun q => (d < s ∧ q = .inl (st.set d (gl st d ++ [(x : Int)]), tr, ((mv + 1 : Nat) : Int))) ∨ (d = s + (it l x).Train.toNat ∧ q = .inr ())) (fun b => s - b.toNat) (by
    rintro b ⟨b', rfl, g1, g2, g3⟩
    unfold machine_push_l1
    by_cases h : b' < s
    · have e2 := shr_ok (x := k) (s := b') (by omega)
      rcases bit b' h with ⟨c1, c2⟩ | ⟨c1, c2⟩
      · right
        have ed : d = b' := by
          rcases hd with ⟨d1, d2, d3, d4⟩ | ⟨d1, d2⟩
          · rcases Nat.lt_trichotomy d b' with g | g | g
            · have := g3 d d1 g; omega
            · exact g
            · have := d4 b' g1 g; omega
          · have := d2 b' g1 h; omega
        subst ed
        have hle := h2 d (by omega)
        exact ⟨_, oit (decide_eq_true (by omega)) (obi e1 (obi e2 (obi c2 (oit rfl (obi (idx_gl (r := st) (i := d) (by omega)) (obi (app_ok (by simp only [List.length_cons, List.length_nil]; omega) (by simp only [List.length_cons, List.length_nil]; omega)) rfl)))))), .inl ⟨h, by rw [Int.toNat_natCast]⟩⟩
      · left
        exact ⟨_, oit (decide_eq_true (by omega)) (obi e1 (obi e2 (obi c2 (oif rfl (obi (inc_nat (by omega)) rfl))))), ⟨b' + 1, rfl, by omega, by omega, fun y y1 y2 => by
          by_cases e : y = b'
          · subst e; exact c1
          · exact g3 y y1 (by omega)⟩, by simp only [Int.toNat_natCast]; omega⟩
    · right
      refine ⟨_, oif (decide_eq_false (by omega)) rfl, .inr ⟨?_, rfl⟩⟩
      rcases hd with ⟨d1, d2, d3, d4⟩ | ⟨d1, d2⟩
      · have := g3 d d1 (by omega); omega
      · exact d1) N (t : Int) ⟨t, rfl, Nat.le_refl _, hts, fun y h1 h2 => by omega⟩ (by omega)
  unfold machine_push
  have em : in64 ((mv : Int) + 1) = some ((mv + 1 : Nat) : Int) := inc_nat (by omega)
  rcases hQ with ⟨hd1, rfl⟩ | ⟨hd1, rfl⟩
  · refine ⟨_, _, obi em (obi hq rfl), by simp [h1], rfl, ?_⟩
    unfold put
    rw [gl_append, if_pos (by omega), List.set_append_left _ _ (by omega)]
  · have et : (it l x).Train = (((it l x).Train.toNat : Nat) : Int) := by omega
    have hle := h3 _ htr
    have ei : idx tr (it l x).Train = some (gl tr (it l x).Train.toNat) := by
      rw [et]; exact idx_gl htr
    refine ⟨_, _, obi em (obi hq (obi (idx_it hx) (obi ei (obi (app_ok (by simp only [List.length_cons, List.length_nil]; omega) (by simp only [List.length_cons, List.length_nil]; omega)) rfl)))), h1, by simp, ?_⟩
    unfold put
    rw [gl_append, if_neg (by omega), List.set_append_right _ _ (by omega)]
    rw [show d - st.length = (it l x).Train.toNat by omega]
end Go.Gv
