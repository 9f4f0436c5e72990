/- Jobs: their checks, the relations of items, and what 'solve' finds. -/
import Derived.Test.YtlpkbkbjohhleaaGreatTa
namespace Go.Gv
def it (l : List T_Item) (i : Nat) : T_Item := l.getD i default
theorem idx_it {l : List T_Item} {i : Nat} (h : i < l.length) : idx l (i : Int) = some (it l i) := idx_getD _ h
def gi (r : List Int) (i : Nat) : Int := r.getD i 0
theorem idx_gi {r : List Int} {i : Nat} (h : i < r.length) : idx r (i : Int) = some (gi r i) := idx_getD _ h
def gl (r : List (List Int)) (i : Nat) : List Int := r.getD i []
theorem idx_gl {r : List (List Int)} {i : Nat} (h : i < r.length) : idx r (i : Int) = some (gl r i) := idx_getD _ h
theorem getD_set' {α : Type} {r : List α} {i j : Nat} {x d : α} (h : i < r.length) : (r.set i x).getD j d = if j = i then x else r.getD j d := by
  rw [List.getD_eq_getElem?_getD, List.getD_eq_getElem?_getD, List.getElem?_set]
  by_cases e : i = j
  · subst e
    rw [if_pos rfl, if_pos h, if_pos rfl]; rfl
  · rw [if_neg e, if_neg (fun h => e h.symm)]
theorem gi_set {r : List Int} {i j : Nat} {x : Int} (h : i < r.length) : gi (r.set i x) j = if j = i then x else gi r j := getD_set' h
theorem gl_set {r : List (List Int)} {i j : Nat} {x : List Int} (h : i < r.length) : gl (r.set i x) j = if j = i then x else gl r j := getD_set' h
theorem getD_app {α : Type} {b : List α} {x d : α} {j : Nat} : (b ++ [x]).getD j d = if j < b.length then b.getD j d else if j = b.length then x else d := by
  rw [List.getD_eq_getElem?_getD, List.getD_eq_getElem?_getD]
  by_cases h : j < b.length
  · rw [if_pos h, List.getElem?_append_left h]
  · rw [if_neg h, List.getElem?_append_right (by omega)]
    by_cases e : j = b.length
    · rw [if_pos e, e]; simp
    · rw [if_neg e, List.getElem?_eq_none (by simp; omega)]; rfl
theorem getElem_gi {r : List Int} {i : Nat} (h : i < r.length) : r[i] = gi r i := by unfold gi; rw [List.getD_eq_getElem?_getD, List.getElem?_eq_getElem h]; rfl
theorem gi_rep (n j : Nat) : gi (List.replicate n 0) j = 0 := by
  unfold gi
  rw [List.getD_eq_getElem?_getD, List.getElem?_replicate]
  split <;> rfl
theorem gl_rep (n j : Nat) : gl (List.replicate n []) j = [] := by
  unfold gl
  rw [List.getD_eq_getElem?_getD, List.getElem?_replicate]
  split <;> rfl
theorem mkL_ok {α : Type} {b n : Nat} (z : α) (h : b * n ≤ 1000000) (hn : n ≤ 1000000) : mkL b (n : Int) z = some (List.replicate n z) := by
  have h1 : ((b * n : Nat) : Int) ≤ 1000000 := by omega
  rw [Int.natCast_mul] at h1
  unfold mkL
  rw [if_pos ⟨by omega, by omega, by omega⟩, Int.toNat_natCast]
theorem sub1n {i : Nat} (h : 0 < i) (h2 : i ≤ 100000) : in64 ((i : Int) - 1) = some ((i - 1 : Nat) : Int) := in64_nat (by omega) (by omega)
/-- a job in its ranges -/
structure JobOk (l : List T_Item) (w : Nat) : Prop where
  len : l.length ≤ 96
  wt : w ≤ 12
  tr : ∀ i, i < l.length → 0 ≤ (it l i).Train ∧ (it l i).Train ≤ 15
  bl : ∀ i, i < l.length → 0 ≤ (it l i).Block ∧ (it l i).Block ≤ 31
  rd : ∀ i, i < l.length → 0 ≤ (it l i).Round ∧ (it l i).Round ≤ 12
  le : ∀ i, i < l.length → 1 ≤ (it l i).Length ∧ (it l i).Length ≤ 400
  as : ∀ i j, i < j → j < l.length → (it l i).Round ≤ (it l j).Round
theorem job_in_T {N : Nat} {a b c : Int} (h : b ≤ a ∧ a ≤ c) : job_in N a b c = some true := by unfold job_in; rw [decide_eq_true h.1, decide_eq_true h.2]; rfl
theorem jobvalid_ok {N : Nat} (hN : 5000 ≤ N) {l : List T_Item} {w : Nat} (J : JobOk l w) : job_Valid N l (w : Int) = some 0 := by
  have hl := J.len
  have hw := J.wt
  have hq : iterN (fun s : Int => job_Valid_l1 N l s) N 0 = some (.inr ()) := by
    refine runN1 (f := fun s : Int => job_Valid_l1 N l s) l.length (fun i s => s = i) _ ?_ ?_ N (by omega) 0 rfl
    · rintro i s hi rfl
      have e := idx_it hi
      unfold job_Valid_l1
      refine ⟨_, oit (decide_eq_true (by omega)) (obi e (obi (job_in_T (J.tr i hi)) (obi (gO_T rfl (job_in_T (J.bl i hi))) (obi (gO_T rfl (job_in_T (J.rd i hi))) (obi (gO_T rfl (job_in_T (J.le i hi))) (oif rfl ?_)))))), rfl⟩
      by_cases h0 : 0 < i
      · have := J.as (i - 1) i (by omega) hi
        exact obi (gO_T (decide_eq_true (by omega)) (sub1n h0 (by omega))) (obi (gO_T (decide_eq_true (by omega)) (idx_it (i := i - 1) (by omega))) (oif (bandF2 (decide_eq_false (by omega))) (obi (inc_nat (by omega)) rfl)))
      · exact obi (gO_F (decide_eq_false (by omega))) (obi (gO_F (decide_eq_false (by omega))) (oif (bandF (decide_eq_false (by omega))) (obi (inc_nat (by omega)) rfl)))
    · rintro s rfl
      exact oif (decide_eq_false (by omega)) rfl
  unfold job_Valid
  exact oif (decide_eq_false (by omega)) (obi (job_in_T ⟨by omega, by omega⟩) (oif rfl (obi hq rfl)))
/-- 2, 1 or 0: x comes strictly, weakly or not before y -/
def rel (l : List T_Item) (x y : Nat) : Int := if (it l x).Train ≠ (it l y).Train ∨ (it l y).Block ≤ (it l x).Block then 0 else if y < x then 2 else 1
theorem rel_rng (l : List T_Item) (x y : Nat) : 0 ≤ rel l x y ∧ rel l x y ≤ 2 := by
  unfold rel
  split
  · omega
  · split <;> omega
theorem rel_pos {l : List T_Item} {x y : Nat} (h : 0 < rel l x y) : (it l x).Train = (it l y).Train ∧ (it l x).Block < (it l y).Block := by
  unfold rel at h
  split at h
  · omega
  · rename_i hc
    exact ⟨Classical.not_not.1 fun e => hc (.inl e), by omega⟩
structure RelM (l : List T_Item) (M : List (List Int)) : Prop where
  len : M.length = l.length
  row : ∀ x, x < l.length → (gl M x).length = l.length
  at_ : ∀ x y, x < l.length → y < l.length → gi (gl M x) y = rel l x y
theorem relrow {N : Nat} (hN : 5000 ≤ N) {l : List T_Item} (hl : l.length ≤ 96) {x : Nat} (hx : x < l.length) {L : List (List Int)} (hL : L.length = l.length) (hr : gl L x = List.replicate l.length 0) :
    ∃ L', iterN (fun s : Int × List (List Int) => leastcode_relations_l4 N l (x : Int) (List.replicate l.length 0) s.1 s.2) N (0, L) = some L' ∧ L'.length = l.length ∧ (∀ z, z ≠ x → gl L' z = gl L z) ∧ (gl L' x).length = l.length ∧ ∀ y, y < l.length → gi (gl L' x) y = rel l x y := by
  obtain ⟨L', hq, q1, q2, q3, q4⟩ := runN (f := fun s : Int × List (List Int) => leastcode_relations_l4 N l (x : Int) (List.replicate l.length 0) s.1 s.2) l.length
    (fun i s => s.1 = i ∧ s.2.length = l.length ∧ (∀ z, z ≠ x → gl s.2 z = gl L z) ∧ (gl s.2 x).length = l.length ∧ (∀ y, y < i → gi (gl s.2 x) y = rel l x y) ∧ ∀ y, i ≤ y → gi (gl s.2 x) y = 0)
    (fun q => q.length = l.length ∧ (∀ z, z ≠ x → gl q z = gl L z) ∧ (gl q x).length = l.length ∧ ∀ y, y < l.length → gi (gl q x) y = rel l x y) (by
    rintro i ⟨i', S⟩ hi ⟨rfl, h1, h2, h3, h4, h5⟩
    simp only at h1 h2 h3 h4 h5 ⊢
    left
    have hgi := h5 i (Nat.le_refl _)
    have ex := idx_it hx
    have ey := idx_it hi
    have eL := idx_gl (r := S) (i := x) (by omega)
    have er := idx_gi (r := gl S x) (i := i) (by omega)
    have hlen : ((i : Int) < (List.length (List.replicate l.length (0 : Int)) : Int)) := by rw [List.length_replicate]; omega
    unfold leastcode_relations_l4
    have upd : ∀ v : Int, v = rel l x i → (((List.set S (Int.toNat (x : Int)) (List.set (gl S x) (Int.toNat (i : Int)) v)).length = l.length) ∧ (∀ z, z ≠ x → gl (List.set S (Int.toNat (x : Int)) (List.set (gl S x) (Int.toNat (i : Int)) v)) z = gl L z) ∧ (gl (List.set S (Int.toNat (x : Int)) (List.set (gl S x) (Int.toNat (i : Int)) v)) x).length = l.length ∧ (∀ y, y < i + 1 → gi (gl (List.set S (Int.toNat (x : Int)) (List.set (gl S x) (Int.toNat (i : Int)) v)) x) y = rel l x y) ∧ ∀ y, i + 1 ≤ y → gi (gl (List.set S (Int.toNat (x : Int)) (List.set (gl S x) (Int.toNat (i : Int)) v)) x) y = 0) := fun v hv => by
      rw [Int.toNat_natCast, Int.toNat_natCast]
      have hg : gl (S.set x ((gl S x).set i v)) x = (gl S x).set i v := by rw [gl_set (by omega), if_pos rfl]
      refine ⟨by simpa using h1, fun z hz => by rw [gl_set (by omega), if_neg hz]; exact h2 z hz, by rw [hg]; simpa using h3, fun y hy => ?_, fun y hy => ?_⟩
      · rw [hg, gi_set (by omega)]
        by_cases e : y = i
        · rw [if_pos e, e]; exact hv
        · rw [if_neg e]; exact h4 y (by omega)
      · rw [hg, gi_set (by omega), if_neg (by omega)]
        exact h5 y (by omega)
    by_cases c0 : (it l x).Train ≠ (it l i).Train ∨ (it l i).Block ≤ (it l x).Block
    · have hr0 : rel l x i = 0 := by unfold rel; rw [if_pos c0]
      have hb : ((!decide ((it l x).Train = (it l i).Train)) || decide ((it l i).Block ≤ (it l x).Block)) = true := by
        rcases c0 with h | h
        · exact borT (bnotIt (decide_eq_false h))
        · exact borT2 (decide_eq_true h)
      refine ⟨_, oit (decide_eq_true hlen) (obi (obi ex (obi ey rfl)) (oit hb (obi (inc_nat (by omega)) rfl))), rfl, h1, h2, h3, fun y hy => ?_, fun y hy => h5 y (by omega)⟩
      by_cases e : y = i
      · rw [e, hr0]; exact hgi
      · exact h4 y (by omega)
    · have hb : ((!decide ((it l x).Train = (it l i).Train)) || decide ((it l i).Block ≤ (it l x).Block)) = false := borF (bnotIf (decide_eq_true (Classical.not_not.1 fun e => c0 (.inl e)))) (decide_eq_false fun e => c0 (.inr e))
      by_cases c1 : i < x
      · have hr2 : (2 : Int) = rel l x i := by unfold rel; rw [if_neg c0, if_pos c1]
        obtain ⟨u1, u2, u3, u4, u5⟩ := upd 2 hr2
        exact ⟨_, oit (decide_eq_true hlen) (obi (obi ex (obi ey rfl)) (oif hb (oit (decide_eq_true (by omega)) (obi eL (obi er (obi (inc_nat (by omega)) rfl)))))), rfl, u1, u2, u3, u4, u5⟩
      · have hr1 : (1 : Int) = rel l x i := by unfold rel; rw [if_neg c0, if_neg c1]
        obtain ⟨u1, u2, u3, u4, u5⟩ := upd 1 hr1
        exact ⟨_, oit (decide_eq_true hlen) (obi (obi ex (obi ey rfl)) (oif hb (oif (decide_eq_false (by omega)) (obi eL (obi er (obi (inc_nat (by omega)) rfl)))))), rfl, u1, u2, u3, u4, u5⟩) (by
    rintro ⟨i', S⟩ ⟨rfl, h1, h2, h3, h4, h5⟩
    exact ⟨_, oif (decide_eq_false (by simp)) rfl, h1, h2, h3, h4⟩) N (by omega) (0, L) ⟨rfl, hL, fun z _ => rfl, by simp only; rw [hr]; simp, fun y h => absurd h (Nat.not_lt_zero _), fun y _ => by simp only; rw [hr]; exact gi_rep _ _⟩
  exact ⟨L', hq, q1, q2, q3, q4⟩
theorem relations_ok {N : Nat} (hN : 5000 ≤ N) {l : List T_Item} (hl : l.length ≤ 96) (w : Int) : ∃ M, leastcode_relations N l w = some M ∧ RelM l M := by
  have hm : mkL 24 (l.length : Int) ([] : List Int) = some (List.replicate l.length []) := mkL_ok _ (by omega) (by omega)
  obtain ⟨M, hq, q1, q2, q3⟩ := runN (f := fun s : Int × List (List Int) => leastcode_relations_l3 N l (List.replicate l.length []) s.1 s.2) l.length
    (fun x s => s.1 = x ∧ s.2.length = l.length ∧ (∀ z, z < x → (gl s.2 z).length = l.length ∧ ∀ y, y < l.length → gi (gl s.2 z) y = rel l z y))
    (fun M => M.length = l.length ∧ (∀ z, z < l.length → (gl M z).length = l.length ∧ ∀ y, y < l.length → gi (gl M z) y = rel l z y) ∧ True) (by
    rintro x ⟨x', S⟩ hx ⟨rfl, h1, h2⟩
    simp only at h1 h2 ⊢
    left
    have hm2 : mkL 8 (l.length : Int) (0 : Int) = some (List.replicate l.length 0) := mkL_ok _ (by omega) (by omega)
    have hg : gl (S.set x (List.replicate l.length 0)) x = List.replicate l.length 0 := by rw [gl_set (by omega), if_pos rfl]
    obtain ⟨L', k1, k2, k3, k4, k5⟩ := relrow hN hl hx (L := S.set x (List.replicate l.length 0)) (by simpa using h1) hg
    have e2 : idx (List.set S (Int.toNat (x : Int)) (List.replicate l.length 0)) (x : Int) = some (List.replicate l.length 0) := by
      rw [Int.toNat_natCast, idx_gl (by simpa using (show x < S.length by omega)), hg]
    unfold leastcode_relations_l3
    refine ⟨_, oit (decide_eq_true (by rw [List.length_replicate]; omega)) (obi hm2 (obi (idx_gl (r := S) (i := x) (by omega)) (obi e2 (obi (by rw [Int.toNat_natCast]; exact k1) (obi (inc_nat (by omega)) rfl))))), rfl, k2, fun z hz => ?_⟩
    simp only
    by_cases e : z = x
    · subst e; exact ⟨k4, k5⟩
    · rw [k3 z e, gl_set (by omega), if_neg e]
      exact h2 z (by omega)) (by
    rintro ⟨x', S⟩ ⟨rfl, h1, h2⟩
    exact ⟨_, oif (decide_eq_false (by simp)) rfl, h1, h2, trivial⟩) N (by omega) (0, List.replicate l.length []) ⟨rfl, by simp, fun z h => absurd h (Nat.not_lt_zero _)⟩
  exact ⟨M, obi hm (obi hq rfl), q1, fun x hx => (q2 x hx).1, fun x y hx hy => (q2 x hx).2 y hy⟩
end Go.Gv
