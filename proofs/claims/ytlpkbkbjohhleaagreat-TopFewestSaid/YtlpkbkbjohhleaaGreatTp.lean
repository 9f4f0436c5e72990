/- What Sorted answers; no plan with a step less sorts. -/
import Derived.Test.YtlpkbkbjohhleaaGreatTo
namespace Go.Gv
theorem r11valid_ok {N : Nat} (hN : 5000 ≤ N) {l : List T_Item} {w : Nat} (J : JobOk l w) : r11_Valid N l (w : Int) = some 0 := by
  have hl := J.len
  have hw := J.wt
  have hq : iterN (fun s : Int => r11_Valid_l1 N l s) N 0 = some (.inr ()) := by
    refine runN1 (f := fun s : Int => r11_Valid_l1 N l s) l.length (fun i s => s = i) _ ?_ ?_ N (by omega) 0 rfl
    · rintro i s hi rfl
      have h1 := J.tr i hi
      have h2 := J.bl i hi
      have h3 := J.rd i hi
      have h4 := J.le i hi
      have g : (((((((decide ((it l i).Train < 0) || decide (16 ≤ (it l i).Train)) || decide ((it l i).Block < 0)) || decide (32 ≤ (it l i).Block)) || decide ((it l i).Round < 0)) || decide (13 ≤ (it l i).Round)) || decide ((it l i).Length < 1)) || decide (400 < (it l i).Length)) = false :=
        borF (borF (borF (borF (borF (borF (borF (decide_eq_false (by omega)) (decide_eq_false (by omega))) (decide_eq_false (by omega))) (decide_eq_false (by omega))) (decide_eq_false (by omega))) (decide_eq_false (by omega))) (decide_eq_false (by omega))) (decide_eq_false (by omega))
      unfold r11_Valid_l1
      refine ⟨_, oit (decide_eq_true (by omega)) (obi (idx_it hi) (oif g ?_)), rfl⟩
      by_cases h0 : 0 < i
      · have := J.as (i - 1) i (by omega) hi
        exact obi (gO_T (decide_eq_true (by omega)) (sub1n h0 (by omega))) (obi (gO_T (decide_eq_true (by omega)) (idx_it (i := i - 1) (by omega))) (oif (bandF2 (decide_eq_false (by omega))) (obi (inc_nat (by omega)) rfl)))
      · exact obi (gO_F (decide_eq_false (by omega))) (obi (gO_F (decide_eq_false (by omega))) (oif (bandF (decide_eq_false (by omega))) (obi (inc_nat (by omega)) rfl)))
    · rintro s rfl
      unfold r11_Valid_l1
      exact oif (decide_eq_false (by omega)) rfl
  unfold r11_Valid
  exact oif (decide_eq_false (by omega)) (oif (borF (decide_eq_false (by omega)) (decide_eq_false (by omega))) (obi hq rfl))
def gb (r : List Bool) (i : Nat) : Bool := r.getD i false
theorem idx_gb {r : List Bool} {i : Nat} (h : i < r.length) : idx r (i : Int) = some (gb r i) := idx_getD _ h
theorem gb_set {r : List Bool} {i j : Nat} {x : Bool} (h : i < r.length) : gb (r.set i x) j = if j = i then x else gb r j := getD_set' h
theorem getElem_gb {r : List Bool} {i : Nat} (h : i < r.length) : r[i] = gb r i := by unfold gb; rw [List.getD_eq_getElem?_getD, List.getElem?_eq_getElem h]; rfl
theorem count_set {r : List Bool} {i : Nat} (h : i < r.length) (h0 : gb r i = false) : (r.set i true).countP id = r.countP id + 1 := by
  rw [List.countP_set h, getElem_gb h, h0]; rfl
def gn (L : List Nat) (p : Nat) : Nat := L.getD p 0
theorem getElem_gn {r : List Nat} {i : Nat} (h : i < r.length) : r[i] = gn r i := by unfold gn; rw [List.getD_eq_getElem?_getD, List.getElem?_eq_getElem h]; rfl
theorem sorted_ok {N : Nat} (hN : 5000 ≤ N) {l : List T_Item} {w : Nat} (J : JobOk l w) {tr : List (List Int)} {L : Nat → List Nat} (ht : tr.length ≤ 16) (h1 : ∀ T, gl tr T = (L T).map (fun x : Nat => (x : Int))) (h2 : ∀ T x, x ∈ L T → x < l.length ∧ (it l x).Train.toNat = T) (h3 : ∀ T, (L T).length ≤ 135) :
    ∃ b e, r11_Sorted N l (w : Int) tr = some (b, e) ∧ (b = true → (∀ x, x < l.length → ∃ T, x ∈ L T ∧ T < tr.length) ∧ ∀ T, T < tr.length → ∀ p, p + 1 < (L T).length → (it l (gn (L T) p)).Block ≤ (it l (gn (L T) (p + 1))).Block) := by
  have hl := J.len
  let S : List Bool → Int → Prop := fun seen n => seen.length = l.length ∧ n = ((seen.countP id : Nat) : Int) ∧ ∀ x, x < l.length → gb seen x = true → ∃ T, x ∈ L T ∧ T < tr.length
  obtain ⟨q, hq, hQ⟩ := runN (f := fun s : Int × Int × List Bool => r11_Sorted_l3 N l tr s.1 s.2.1 s.2.2) tr.length
    (fun T s => s.2.1 = T ∧ S s.2.2 s.1 ∧ ∀ T', T' < T → ∀ p, p + 1 < (L T').length → (it l (gn (L T') p)).Block ≤ (it l (gn (L T') (p + 1))).Block)
    (fun q => q = .inl (false, 0) ∨ ∃ n seen, q = .inr (n, seen) ∧ S seen n ∧ ∀ T', T' < tr.length → ∀ p, p + 1 < (L T').length → (it l (gn (L T') p)).Block ≤ (it l (gn (L T') (p + 1))).Block) (by
    rintro T ⟨n, T', seen⟩ hT ⟨rfl, hS, hO⟩
    simp only at hS hO ⊢
    have h3T := h3 T
    have eT : idx tr (T : Int) = some ((L T).map (fun x : Nat => (x : Int))) := by rw [idx_gl hT, h1]
    have hml : ((L T).map (fun x : Nat => (x : Int))).length = (L T).length := List.length_map _
    obtain ⟨q, hq, hQ⟩ := runN (f := fun s : Int × Int × List Bool => r11_Sorted_l4 N l tr (T : Int) s.1 s.2.1 s.2.2) (L T).length
      (fun k s => s.2.1 = k ∧ S s.2.2 s.1 ∧ ∀ p, p + 1 < k → (it l (gn (L T) p)).Block ≤ (it l (gn (L T) (p + 1))).Block)
      (fun q => q = .inl (false, 0) ∨ ∃ n seen, q = .inr (n, seen) ∧ S seen n ∧ ∀ p, p + 1 < (L T).length → (it l (gn (L T) p)).Block ≤ (it l (gn (L T) (p + 1))).Block) (by
      rintro k ⟨n, k', seen⟩ hk ⟨rfl, ⟨s1, s2, s3⟩, hO⟩
      simp only at s1 s2 s3 hO ⊢
      have hmem : gn (L T) k ∈ L T := by rw [← getElem_gn hk]; exact List.getElem_mem hk
      obtain ⟨hx, htx⟩ := h2 T _ hmem
      have htr := J.tr _ hx
      have etr : (it l (gn (L T) k)).Train = (T : Int) := by omega
      have ex : ∀ p, p < (L T).length → idx ((L T).map (fun x : Nat => (x : Int))) (p : Int) = some ((gn (L T) p : Nat) : Int) := fun p hp => by rw [idx_nat (by rw [hml]; exact hp), List.getElem_map, getElem_gn hp]
      have es : idx seen ((gn (L T) k : Nat) : Int) = some (gb seen (gn (L T) k)) := idx_gb (by omega)
      have ei := idx_it hx
      have g0 : (decide (((gn (L T) k : Nat) : Int) < 0) || decide ((List.length seen : Int) ≤ ((gn (L T) k : Nat) : Int))) = false := borF (decide_eq_false (by omega)) (decide_eq_false (by omega))
      unfold r11_Sorted_l4
      by_cases hb : gb seen (gn (L T) k) = true
      · right
        have g1 : ((decide (((gn (L T) k : Nat) : Int) < 0) || decide ((List.length seen : Int) ≤ ((gn (L T) k : Nat) : Int))) || gb seen (gn (L T) k)) = true := borT2 hb
        have g2 : ((!(((decide (((gn (L T) k : Nat) : Int) < 0) || decide ((List.length seen : Int) ≤ ((gn (L T) k : Nat) : Int))) || gb seen (gn (L T) k)) || (!decide ((default : T_Item).Train = (T : Int))))) && decide (0 < (k : Int))) = false := bandF (bnotIf (borT g1))
        exact ⟨_, obi eT (oit (decide_eq_true (by rw [hml]; omega)) (obi (ex k hk) (obi (gO_T (bnotIt g0) es) (obi (gO_F (bnotIf g1)) (obi (gO_F g2) (obi (gO_F g2) (obi (gO_F g2) (obi (gO_F g2) (obi (gO_F g2) (oit (borT (borT g1)) rfl)))))))))), .inl rfl⟩
      · have hb' : gb seen (gn (L T) k) = false := by
          cases h : gb seen (gn (L T) k)
          · rfl
          · exact absurd h hb
        have g1 : ((decide (((gn (L T) k : Nat) : Int) < 0) || decide ((List.length seen : Int) ≤ ((gn (L T) k : Nat) : Int))) || gb seen (gn (L T) k)) = false := borF g0 hb'
        have g2 : (((decide (((gn (L T) k : Nat) : Int) < 0) || decide ((List.length seen : Int) ≤ ((gn (L T) k : Nat) : Int))) || gb seen (gn (L T) k)) || (!decide ((it l (gn (L T) k)).Train = (T : Int)))) = false := borF g1 (bnotIf (decide_eq_true etr))
        have hS' : S (List.set seen (Int.toNat ((gn (L T) k : Nat) : Int)) true) (n + 1) := by
          rw [Int.toNat_natCast]
          refine ⟨by simpa using s1, by rw [count_set (by omega) hb', s2]; rfl, fun x hx hb => ?_⟩
          rw [gb_set (by omega)] at hb
          by_cases e : x = gn (L T) k
          · exact ⟨T, by rw [e]; exact hmem, hT⟩
          · rw [if_neg e] at hb; exact s3 x hx hb
        have hcl : seen.countP id ≤ seen.length := List.countP_le_length
        have en : in64 (n + 1) = some (n + 1) := in64_ok (by omega)
        by_cases hk0 : 0 < k
        · have g3 := band (bnotIt g2) (decide_eq_true (show 0 < (k : Int) by omega))
          have hpm : gn (L T) (k - 1) ∈ L T := by rw [← getElem_gn (by omega)]; exact List.getElem_mem _
          have hpx := (h2 T _ hpm).1
          by_cases hc : (it l (gn (L T) k)).Block < (it l (gn (L T) (k - 1))).Block
          · right
            exact ⟨_, obi eT (oit (decide_eq_true (by rw [hml]; omega)) (obi (ex k hk) (obi (gO_T (bnotIt g0) es) (obi (gO_T (bnotIt g1) ei) (obi (gO_T g3 ei) (obi (gO_T g3 eT) (obi (gO_T g3 (sub1n hk0 (by omega))) (obi (gO_T g3 (ex (k - 1) (by omega))) (obi (gO_T g3 (idx_it hpx)) (oit (borT2 (band (decide_eq_true (by omega)) (decide_eq_true hc))) rfl)))))))))), .inl rfl⟩
          · left
            refine ⟨_, obi eT (oit (decide_eq_true (by rw [hml]; omega)) (obi (ex k hk) (obi (gO_T (bnotIt g0) es) (obi (gO_T (bnotIt g1) ei) (obi (gO_T g3 ei) (obi (gO_T g3 eT) (obi (gO_T g3 (sub1n hk0 (by omega))) (obi (gO_T g3 (ex (k - 1) (by omega))) (obi (gO_T g3 (idx_it hpx)) (oif (borF g2 (bandF2 (decide_eq_false hc))) (obi es (obi en (obi (inc_nat (by omega)) rfl))))))))))))), rfl, hS', fun p hp => ?_⟩
            by_cases e : p + 1 = k
            · rw [e, show p = k - 1 by omega]; omega
            · exact hO p (by omega)
        · left
          have g3 : ((!(((decide (((gn (L T) k : Nat) : Int) < 0) || decide ((List.length seen : Int) ≤ ((gn (L T) k : Nat) : Int))) || gb seen (gn (L T) k)) || (!decide ((it l (gn (L T) k)).Train = (T : Int))))) && decide (0 < (k : Int))) = false := bandF2 (decide_eq_false (by omega))
          exact ⟨_, obi eT (oit (decide_eq_true (by rw [hml]; omega)) (obi (ex k hk) (obi (gO_T (bnotIt g0) es) (obi (gO_T (bnotIt g1) ei) (obi (gO_F g3) (obi (gO_F g3) (obi (gO_F g3) (obi (gO_F g3) (obi (gO_F g3) (oif (borF g2 (bandF (decide_eq_false (by omega)))) (obi es (obi en (obi (inc_nat (by omega)) rfl))))))))))))), rfl, hS', fun p hp => by omega⟩) (by
      rintro ⟨n, k', seen⟩ ⟨rfl, hS, hO⟩
      unfold r11_Sorted_l4
      exact ⟨_, obi eT (oif (decide_eq_false (by rw [hml]; simp)) rfl), .inr ⟨_, _, rfl, hS, hO⟩⟩) N (by omega) (n, 0, seen) ⟨rfl, hS, fun p h => by omega⟩
    unfold r11_Sorted_l3
    rcases hQ with rfl | ⟨n', seen', rfl, hS', hO'⟩
    · right
      exact ⟨_, oit (decide_eq_true (by omega)) (obi hq rfl), .inl rfl⟩
    · left
      refine ⟨_, oit (decide_eq_true (by omega)) (obi hq (obi (inc_nat (by omega)) rfl)), rfl, hS', fun T' hT' => ?_⟩
      by_cases e : T' = T
      · subst e; exact hO'
      · exact hO T' (by omega)) (by
    rintro ⟨n, T', seen⟩ ⟨rfl, hS, hO⟩
    unfold r11_Sorted_l3
    exact ⟨_, oif (decide_eq_false (by simp)) rfl, .inr ⟨_, _, rfl, hS, hO⟩⟩) N (by omega) (0, 0, List.replicate l.length false) ⟨rfl, ⟨by simp, by simp [List.countP_replicate], fun x hx h => by
      unfold gb at h
      rw [List.getD_eq_getElem?_getD, List.getElem?_replicate] at h
      split at h <;> cases h⟩, fun T' h => absurd h (Nat.not_lt_zero _)⟩
  have hm : mkL 1 (l.length : Int) false = some (List.replicate l.length false) := mkL_ok _ (by omega) (by omega)
  unfold r11_Sorted
  rcases hQ with rfl | ⟨n, seen, rfl, ⟨s1, s2, s3⟩, hO⟩
  · exact ⟨false, 0, obi (r11valid_ok hN J) (oif rfl (obi hm (obi hq rfl))), fun h => by cases h⟩
  · refine ⟨decide (n = (List.length seen : Int)), 0, obi (r11valid_ok hN J) (oif rfl (obi hm (obi hq rfl))), fun h => ⟨fun x hx => ?_, hO⟩⟩
    have h := of_decide_eq_true h
    have hall := List.countP_eq_length.1 (show seen.countP id = seen.length by omega)
    exact s3 x hx (by rw [← getElem_gb (by omega)]; exact hall _ (List.getElem_mem _))
theorem no_fewer {N : Nat} (hN : 5000 ≤ N) {l : List T_Item} {w : Nat} (J : JobOk l w) (hl5 : l.length ≤ 5) {base least : List Int} (S : SolveS l w base least) {s : Nat} (hS : StepsOf least s) (hs : 1 ≤ s ∧ s ≤ 3) {c : List Int} (P : PlanOk l w (s - 1) c) :
    ∃ r b e, r14_At N l (w : Int) ((s - 1 : Nat) : Int) c ((s - 1 : Nat) : Int) = some r ∧ r11_Sorted N l (w : Int) r.2.1 = some (b, e) ∧ b = false := by
  obtain ⟨st, tr, mv, pu, L, h0, h1, h2, h3, h4, h5⟩ := At_ok hN J P hl5 (by omega)
  have htr : trs l l.length ≤ 16 := trs_le (m := 15) fun i hi => by have := J.tr i hi; omega
  obtain ⟨b, e, hb, hB⟩ := sorted_ok hN J (by omega) h2 h3 h5
  refine ⟨_, b, e, h0, hb, ?_⟩
  cases b with
  | false => rfl
  | true =>
    exfalso
    obtain ⟨hall, hord⟩ := hB rfl
    have hcd : ∀ x, x < l.length → cd c x < 2 ^ (s - 1) ∧ IsC (cd c x) (rdN l x) w := fun x hx => by
      obtain ⟨k, hk, k1, k2⟩ := P.at_ x hx
      unfold cd; rw [hk, Int.toNat_natCast]; exact ⟨k1, k2⟩
    have key : ∀ x y, x < l.length → y < l.length → 0 < rel l x y → (cd c x : Int) + rel l x y - 1 ≤ cd c y := fun x y hx hy hr => by
      obtain ⟨r1, r2⟩ := rel_pos hr
      obtain ⟨Tx, mx, hTx⟩ := hall x hx
      obtain ⟨Ty, my, _⟩ := hall y hy
      have ex := (h3 Tx x mx).2
      have ey := (h3 Ty y my).2
      have eT : Ty = Tx := by rw [← ex, ← ey, r1]
      subst eT
      obtain ⟨p, hp, ep⟩ := List.getElem_of_mem mx
      obtain ⟨q, hq, eq⟩ := List.getElem_of_mem my
      have mono : ∀ d a, a + d < (L Ty).length → (it l (gn (L Ty) a)).Block ≤ (it l (gn (L Ty) (a + d))).Block := by
        intro d
        induction d with
        | zero => intro a _; exact Int.le_refl _
        | succ d ih =>
          intro a ha
          have := ih a (by omega)
          have := hord Ty hTx (a + d) (by omega)
          rw [show a + (d + 1) = a + d + 1 by omega]
          omega
      have hpq : p < q := by
        rcases Nat.lt_or_ge p q with h | h
        · exact h
        · have := mono (p - q) q (by omega)
          rw [show q + (p - q) = p by omega, ← getElem_gn hq, ← getElem_gn hp, ep, eq] at this
          omega
      have hlex := List.pairwise_iff_getElem.1 (h4 Ty) p q hp hq hpq
      rw [ep, eq] at hlex
      unfold Lex at hlex
      rw [Nat.mod_eq_of_lt (hcd x hx).1, Nat.mod_eq_of_lt (hcd y hy).1] at hlex
      unfold rel
      rw [if_neg (fun h => by rcases h with h | h; exact h r1; omega)]
      split <;> omega
    have least_le : ∀ n y, y < l.length → (it l y).Block.toNat < n → gi least y ≤ cd c y := by
      intro n
      induction n with
      | zero => intro y _ h; exact absurd h (Nat.not_lt_zero _)
      | succ n ih =>
        intro y hy hn
        obtain ⟨b, k, _, e2, e3, e4⟩ := S.at_ y hy
        have hbc : b ≤ cd c y := by
          rcases e4.2 with h | ⟨x, hx, hr, he⟩
          · omega
          · have hb1 := J.bl x hx
            have hb2 := J.bl y hy
            have := ih x hx (by have := (rel_pos hr).2; omega)
            have := key x y hx hy hr
            omega
        have := e3.2.2 (cd c y) (hcd y hy).2 hbc
        omega
    rcases hS.one with h | ⟨i, hi, h⟩
    · omega
    · have hi' : i < l.length := by rw [← S.ll]; exact hi
      have := least_le _ i hi' (Nat.lt_succ_self _)
      have := (hcd i hi').1
      omega
end Go.Gv
