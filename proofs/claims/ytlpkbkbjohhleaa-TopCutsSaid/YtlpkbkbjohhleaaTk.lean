/- The cuts of a push divide the wagons as the plan does. -/
import Derived.Test.YtlpkbkbjohhleaaTj
namespace Go.Gv
theorem ints_self (N : Nat) (x : List Int) (h : x.length < N) (h2 : x.length ≤ 10000) : humpgen_Ints N x x = some true := by
  have hq : iterN (fun s : Int => humpgen_Ints_l1 N x x s) N 0 = some (.inr ()) := by
    refine runN1 (f := fun s : Int => humpgen_Ints_l1 N x x s) x.length (fun i s => s = i) _ ?_ ?_ N h 0 rfl
    · rintro i s hi rfl
      unfold humpgen_Ints_l1
      exact ⟨((i + 1 : Nat) : Int), oit (decide_eq_true (by omega)) (obi (idx_nat hi) (obi (idx_nat hi) (oif (by simp) (obi (inc_nat (by omega)) rfl)))), rfl⟩
    · rintro s rfl
      unfold humpgen_Ints_l1
      exact oif (decide_eq_false (by omega)) rfl
  unfold humpgen_Ints
  exact oif (by simp) (obi hq rfl)
theorem lists_self (N : Nat) (C : List (List Int)) (h : C.length < N) (h2 : C.length ≤ 10000) (h3 : ∀ n, (gl C n).length < N ∧ (gl C n).length ≤ 10000) : humpgen_Lists N C C = some true := by
  have hq : iterN (fun s : Int => humpgen_Lists_l1 N C C s) N 0 = some (.inr ()) := by
    refine runN1 (f := fun s : Int => humpgen_Lists_l1 N C C s) C.length (fun i s => s = i) _ ?_ ?_ N h 0 rfl
    · rintro i s hi rfl
      unfold humpgen_Lists_l1
      exact ⟨((i + 1 : Nat) : Int), oit (decide_eq_true (by omega)) (obi (idx_gl hi) (obi (idx_gl hi) (obi (ints_self N _ (h3 i).1 (h3 i).2) (oif rfl (obi (inc_nat (by omega)) rfl))))), rfl⟩
    · rintro s rfl
      unfold humpgen_Lists_l1
      exact oif (decide_eq_false (by omega)) rfl
  unfold humpgen_Lists
  exact oif (by simp) (obi hq rfl)
/-- the tracks of the items -/
def lay (f : Nat → Nat) (b n : Nat) : List Int := ((List.range b).filter (fun x => f x = n)).map (fun x : Nat => (x : Int))
theorem lay_len (f : Nat → Nat) (b n : Nat) : (lay f b n).length ≤ b := by
  unfold lay
  rw [List.length_map]
  have := List.length_filter_le (fun x => decide (f x = n)) (List.range b)
  rw [List.length_range] at this
  exact this
theorem lay_succ (f : Nat → Nat) (b n : Nat) : lay f (b + 1) n = if n = f b then lay f b n ++ [(b : Int)] else lay f b n := by
  unfold lay
  rw [List.range_succ, List.filter_append, List.map_append]
  by_cases h : n = f b
  · rw [if_pos h, List.filter_cons, if_pos (decide_eq_true h.symm)]; rfl
  · rw [if_neg h, List.filter_cons, if_neg (by simp; exact fun e => h e.symm)]; simp
theorem lay_at {f : Nat → Nat} {b n p : Nat} (h : p < (lay f b n).length) : ∃ i : Nat, gi (lay f b n) p = i ∧ i < b ∧ f i = n := by
  have hm : (lay f b n)[p] ∈ lay f b n := List.getElem_mem h
  obtain ⟨i, hi, e⟩ := List.mem_map.1 hm
  have h2 := List.mem_filter.1 hi
  refine ⟨i, by rw [← getElem_gi h, ← e], List.mem_range.1 h2.1, of_decide_eq_true h2.2⟩
theorem lay_of {f : Nat → Nat} {b i : Nat} (h : i < b) : ∃ p, p < (lay f b (f i)).length ∧ gi (lay f b (f i)) p = i := by
  have hm : (i : Int) ∈ lay f b (f i) := List.mem_map.2 ⟨i, List.mem_filter.2 ⟨List.mem_range.2 h, decide_eq_true rfl⟩, rfl⟩
  obtain ⟨p, hp, e⟩ := List.getElem_of_mem hm
  exact ⟨p, hp, by rw [← getElem_gi hp, e]⟩
def gp (ps : List T_Pushed) (i : Nat) : T_Pushed := ps.getD i default
theorem idx_gp {r : List T_Pushed} {i : Nat} (h : i < r.length) : idx r (i : Int) = some (gp r i) := idx_getD _ h
theorem gp_set {r : List T_Pushed} {i j : Nat} {x : T_Pushed} (h : i < r.length) : gp (r.set i x) j = if j = i then x else gp r j := getD_set' h
theorem getElem_gp {r : List T_Pushed} {i : Nat} (h : i < r.length) : r[i] = gp r i := by unfold gp; rw [List.getD_eq_getElem?_getD, List.getElem?_eq_getElem h]; rfl
def full (l : List T_Item) (f : Nat → Nat) (i : Nat) : T_Pushed := ⟨(it l i).Length, 4, 300, false, (f i : Int)⟩
theorem fill_ok {N : Nat} (hN : 5000 ≤ N) {l : List T_Item} (hl : l.length ≤ 96) {f : Nat → Nat} {C : List (List Int)} (hC : C.length ≤ 100) (hf : ∀ x, x < l.length → f x < C.length) (hg : ∀ n, gl C n = lay f l.length n) {ps0 : List T_Pushed} (h0 : ps0.length = l.length) :
    ∃ ps, iterN (fun s : Int × List T_Pushed => humpyardtop_TopCuts_l4 N l C s.1 s.2) N (0, ps0) = some (.inr ps) ∧ ps.length = l.length ∧ ∀ i, i < l.length → gp ps i = full l f i := by
  obtain ⟨q, hq, ps, rfl, q1, q2⟩ := runN (f := fun s : Int × List T_Pushed => humpyardtop_TopCuts_l4 N l C s.1 s.2) C.length
    (fun n s => s.1 = n ∧ s.2.length = l.length ∧ ∀ i, i < l.length → f i < n → gp s.2 i = full l f i)
    (fun q => ∃ ps, q = .inr ps ∧ ps.length = l.length ∧ ∀ i, i < l.length → gp ps i = full l f i) (by
    rintro n ⟨n', ps⟩ hn ⟨rfl, h1, h2⟩
    simp only at h1 h2 ⊢
    left
    have hll := lay_len f l.length n
    obtain ⟨q, hq, ps', rfl, u1, u2⟩ := runN (f := fun s : Int × List T_Pushed => humpyardtop_TopCuts_l5 N l (n : Int) (lay f l.length n) s.1 s.2) (lay f l.length n).length
      (fun p s => s.1 = p ∧ s.2.length = l.length ∧ ∀ i, i < l.length → (f i < n ∨ f i = n ∧ ∃ q, q < p ∧ gi (lay f l.length n) q = i) → gp s.2 i = full l f i)
      (fun q => ∃ ps, q = .inr ps ∧ ps.length = l.length ∧ ∀ i, i < l.length → f i < n + 1 → gp ps i = full l f i) (by
      rintro p ⟨p', ps⟩ hp ⟨rfl, h1, h2⟩
      simp only at h1 h2 ⊢
      left
      obtain ⟨i, e, hi, hfi⟩ := lay_at hp
      have ei : idx (lay f l.length n) (p : Int) = some (i : Int) := by rw [idx_gi hp, e]
      unfold humpyardtop_TopCuts_l5
      refine ⟨_, oit (decide_eq_true (by omega)) (obi ei (oif (by rw [decide_eq_false (by omega), decide_eq_false (by omega)]; rfl) (obi (idx_it hi) (obi (idx_gp (r := ps) (i := i) (by omega)) (obi (inc_nat (by omega)) rfl))))), rfl, by simpa using h1, fun j hj hc => ?_⟩
      simp only [Int.toNat_natCast]
      rw [gp_set (by omega)]
      by_cases ej : j = i
      · rw [if_pos ej, ej]; unfold full; rw [hfi]
      · rw [if_neg ej]
        refine h2 j hj ?_
        rcases hc with hc | ⟨hc, q, hq, he⟩
        · exact .inl hc
        · refine .inr ⟨hc, q, ?_, he⟩
          by_cases eq : q = p
          · subst eq; rw [e] at he; omega
          · omega) (by
      rintro ⟨p', ps⟩ ⟨rfl, h1, h2⟩
      simp only at h1 h2 ⊢
      unfold humpyardtop_TopCuts_l5
      refine ⟨_, oif (decide_eq_false (by omega)) rfl, ps, rfl, h1, fun i hi hfi => h2 i hi ?_⟩
      by_cases e : f i = n
      · subst e
        obtain ⟨p, hp, hp2⟩ := lay_of (f := f) hi
        exact .inr ⟨rfl, p, hp, hp2⟩
      · exact .inl (by omega)) N (by omega) (0, ps) ⟨rfl, h1, fun i hi hc => by
        rcases hc with hc | ⟨_, q, hq, _⟩
        · exact h2 i hi hc
        · exact absurd hq (Nat.not_lt_zero _)⟩
    unfold humpyardtop_TopCuts_l4
    have ex : idx C (n : Int) = some (lay f l.length n) := by rw [idx_gl hn, hg]
    exact ⟨_, oit (decide_eq_true (by omega)) (obi ex (obi hq (obi (inc_nat (by omega)) rfl))), rfl, u1, u2⟩) (by
    rintro ⟨n', ps⟩ ⟨rfl, h1, h2⟩
    unfold humpyardtop_TopCuts_l4
    exact ⟨_, oif (decide_eq_false (by simp only; omega)) rfl, ps, rfl, h1, fun i hi => h2 i hi (hf i hi)⟩) N (by omega) (0, ps0) ⟨rfl, h0, fun i _ h => absurd h (Nat.not_lt_zero _)⟩
  exact ⟨ps, hq, q1, q2⟩
theorem Seg.ends {l : List T_Pushed} {r : T_CutRules} {e : Nat} {cs : List T_Cut} (h : Seg l r 0 e cs) : ∃ B : Nat → Nat, B 0 = 0 ∧ B cs.length = e ∧ ∀ j, j < cs.length → cs[j]? = some (cutOf l (B j) (B (j + 1))) ∧ B j < l.length ∧ may l r (B j) (B (j + 1)) := by
  induction h with
  | nil => exact ⟨fun _ => 0, rfl, rfl, fun j h => absurd h (Nat.not_lt_zero _)⟩
  | @snoc b b' cs h hb hm hx ih =>
    obtain ⟨B, h1, h2, h3⟩ := ih
    refine ⟨fun j => if j ≤ cs.length then B j else b', by simp [h1], by simp only [List.length_append, List.length_cons, List.length_nil]; rw [if_neg (by omega)], fun j hj => ?_⟩
    simp only [List.length_append, List.length_cons, List.length_nil] at hj
    by_cases e : j < cs.length
    · simp only
      rw [if_pos (by omega), if_pos (by omega), List.getElem?_append_left e]
      exact h3 j e
    · have : j = cs.length := by omega
      subst this
      simp only
      rw [if_pos (Nat.le_refl _), if_neg (by omega), h2]
      exact ⟨by simp, hb, hm⟩
theorem back_ok {N : Nat} (hN : 5000 ≤ N) {l : List T_Item} (hl : l.length ≤ 96) {f : Nat → Nat} {T : Nat} (hT : T ≤ 100) (hf : ∀ x, x < l.length → f x < T) {ps : List T_Pushed} (h1 : ps.length = l.length) (h2 : ∀ i, i < l.length → gp ps i = full l f i) {r : T_CutRules} {cs : List T_Cut} (e : Int) (hs : Seg ps r 0 ps.length cs) :
    ∃ bk, iterN (fun s : Int × List (List Int) => humpyardtop_TopCuts_l8 N ps (cs, e) s.1 s.2) N (0, List.replicate T []) = some (.inr bk) ∧ bk.length = T ∧ ∀ n, n < T → gl bk n = lay f l.length n := by
  have hcl := hs.len
  obtain ⟨B, b1, b2, b3⟩ := hs.ends
  obtain ⟨q, hq, bk, rfl, q1, q2⟩ := runN (f := fun s : Int × List (List Int) => humpyardtop_TopCuts_l8 N ps (cs, e) s.1 s.2) cs.length
    (fun j s => s.1 = j ∧ s.2.length = T ∧ ∀ n, n < T → gl s.2 n = lay f (B j) n)
    (fun q => ∃ bk, q = .inr bk ∧ bk.length = T ∧ ∀ n, n < T → gl bk n = lay f l.length n) (by
    rintro j ⟨j', bk⟩ hj ⟨rfl, g1, g2⟩
    simp only at g1 g2 ⊢
    left
    obtain ⟨c1, c2, m⟩ := b3 j hj
    have hlt := m.lt
    have hle := m.le
    have hB : B j < l.length := by omega
    have etr : (cutOf ps (B j) (B (j + 1))).Track = (f (B j) : Int) := by
      show (ps[B j]?.getD default).Track = _
      have : ps[B j]?.getD default = gp ps (B j) := by unfold gp; rw [List.getD_eq_getElem?_getD]
      rw [this, h2 _ hB]; rfl
    have hfB := hf _ hB
    have same : ∀ i, B j ≤ i → i < B (j + 1) → f i = f (B j) := fun i i1 i2 => by
      have := m.track i (by omega) i1 i2
      rw [getElem_gp (by omega), getElem_gp (by omega), h2 i (by omega), h2 _ hB] at this
      have e2 : (f i : Int) = (f (B j) : Int) := this
      omega
    obtain ⟨bk', hb, u1, u2⟩ := iterN_run (f := fun s : Int × List (List Int) => humpyardtop_TopCuts_l9 N (cutOf ps (B j) (B (j + 1))) s.1 s.2)
      (I := fun s => ∃ i : Nat, s.1 = i ∧ B j ≤ i ∧ i ≤ B (j + 1) ∧ s.2.length = T ∧ ∀ n, n < T → gl s.2 n = lay f i n)
      (Q := fun bk => bk.length = T ∧ ∀ n, n < T → gl bk n = lay f (B (j + 1)) n) (fun s => B (j + 1) - s.1.toNat) (by
      rintro ⟨i', bk⟩ ⟨i, rfl, i1, i2, g1, g2⟩
      simp only at g1 g2 ⊢
      unfold humpyardtop_TopCuts_l9
      rw [etr]
      have eto : (cutOf ps (B j) (B (j + 1))).To = ((B (j + 1) : Nat) : Int) := rfl
      rw [eto]
      by_cases h : i < B (j + 1)
      · have hll := lay_len f i (f (B j))
        have ex : idx bk ((f (B j) : Nat) : Int) = some (lay f i (f (B j))) := by rw [idx_gl (by omega), g2 _ hfB]
        refine .inl ⟨_, oit (decide_eq_true (by omega)) (obi ex (obi (app_ok (by simp only [List.length_cons, List.length_nil]; omega) (by simp only [List.length_cons, List.length_nil]; omega)) (obi (inc_nat (by omega)) rfl))), ⟨i + 1, rfl, by omega, by omega, by simpa using g1, fun n hn => ?_⟩, by simp only [Int.toNat_natCast]; omega⟩
        simp only [Int.toNat_natCast]
        rw [gl_set (by omega), lay_succ, same i i1 h]
        by_cases en : n = f (B j)
        · rw [if_pos en, if_pos en, en]
        · rw [if_neg en, if_neg en, g2 n hn]
      · have : i = B (j + 1) := by omega
        subst this
        exact .inr ⟨_, oif (decide_eq_false (by omega)) rfl, g1, g2⟩) N ((B j : Nat), bk) ⟨B j, rfl, Nat.le_refl _, by omega, g1, g2⟩ (by simp only [Int.toNat_natCast]; omega)
    have ec : idx (cs, e).1 (j : Int) = some (cutOf ps (B j) (B (j + 1))) := idx_some_of c1
    have efr : (cutOf ps (B j) (B (j + 1))).From = ((B j : Nat) : Int) := rfl
    have eto : (cutOf ps (B j) (B (j + 1))).To = ((B (j + 1) : Nat) : Int) := rfl
    unfold humpyardtop_TopCuts_l8
    refine ⟨_, oit (decide_eq_true (by simp only; omega)) (obi ec (oif ?_ (obi (by rw [efr]; exact hb) (obi (inc_nat (by omega)) rfl)))), rfl, u1, u2⟩
    rw [etr, efr, eto, decide_eq_false (by omega), decide_eq_false (by omega), decide_eq_false (by omega), decide_eq_false (by omega)]; rfl) (by
    rintro ⟨j', bk⟩ ⟨rfl, g1, g2⟩
    unfold humpyardtop_TopCuts_l8
    exact ⟨_, oif (decide_eq_false (by simp only; omega)) rfl, bk, rfl, g1, fun n hn => by have := g2 n hn; rw [b2, h1] at this; exact this⟩) N (by omega) (0, List.replicate T []) ⟨rfl, by simp, fun n _ => by simp only; rw [gl_rep, b1]; rfl⟩
  exact ⟨bk, hq, q1, q2⟩
theorem lists_ext {a b : List (List Int)} (h : a.length = b.length) (h2 : ∀ n, n < a.length → gl a n = gl b n) : a = b :=
  List.ext_getElem h fun n h3 h4 => by rw [getElem_gl h3, getElem_gl h4]; exact h2 n h3
theorem clear_ok {N : Nat} (hN : 5000 ≤ N) {k w : Int} {l : List T_Item} (hl : l.length ≤ 96) : ∃ l', iterN (fun s : Int × List T_Item => humpyardtop_TopCuts_l1 N (k, l, w) s.1 s.2) N (0, l) = some l' ∧ l'.length = l.length ∧ ∀ i, i < l.length → it l' i = ⟨(it l i).Train, (it l i).Block, 0, (it l i).Length⟩ := by
  obtain ⟨l', hq, q1, q2⟩ := runN (f := fun s : Int × List T_Item => humpyardtop_TopCuts_l1 N (k, l, w) s.1 s.2) l.length
    (fun i s => s.1 = i ∧ s.2.length = l.length ∧ ∀ j, j < l.length → it s.2 j = if j < i then ⟨(it l j).Train, (it l j).Block, 0, (it l j).Length⟩ else it l j)
    (fun l' => l'.length = l.length ∧ ∀ i, i < l.length → it l' i = ⟨(it l i).Train, (it l i).Block, 0, (it l i).Length⟩) (by
    rintro i ⟨i', b⟩ hi ⟨rfl, h1, h2⟩
    simp only at h1 h2 ⊢
    left
    unfold humpyardtop_TopCuts_l1
    have ei : idx b (i : Int) = some (it l i) := by rw [idx_it (by omega), h2 i hi, if_neg (Nat.lt_irrefl _)]
    refine ⟨_, oit (decide_eq_true (by simp only; omega)) (obi ei (obi (inc_nat (by omega)) rfl)), rfl, by simpa using h1, fun j hj => ?_⟩
    simp only [Int.toNat_natCast]
    have : ∀ x, it (b.set i x) j = if j = i then x else it b j := fun x => getD_set' (by omega)
    rw [this]
    by_cases e : j = i
    · rw [if_pos e, if_pos (by omega), e]
    · rw [if_neg e, h2 j hj]
      by_cases e2 : j < i
      · rw [if_pos e2, if_pos (by omega)]
      · rw [if_neg e2, if_neg (by omega)]) (by
    rintro ⟨i', b⟩ ⟨rfl, h1, h2⟩
    unfold humpyardtop_TopCuts_l1
    exact ⟨_, oif (decide_eq_false (by simp)) rfl, h1, fun i hi => by rw [h2 i hi, if_pos hi]⟩) N (by omega) (0, l) ⟨rfl, rfl, fun j _ => by simp⟩
  exact ⟨l', hq, q1, q2⟩
theorem TopCuts_true (t : List Int) : humpyardtop_TopCuts 6000 t = some true := by
  have hN : 5000 ≤ 6000 := by decide
  obtain ⟨k, l0, w, hj, k1, k2, M, hl0, hw⟩ := job_made hN t (n := 14) (by decide)
  obtain ⟨l, hl, l1, l2⟩ := clear_ok hN (k := k) (w := (w : Int)) (l := l0) (by omega)
  have M' : MadeI l 0 := by
    refine ⟨fun i hi => ?_, fun i hi => ?_, fun i hi => ?_, fun i hi => ?_, fun i j hij hj => ?_⟩
    · rw [l2 i (by omega)]; exact M.tr i (by omega)
    · rw [l2 i (by omega)]; exact M.bl i (by omega)
    · rw [l2 i (by omega)]; exact ⟨Int.le_refl _, Int.le_refl _⟩
    · rw [l2 i (by omega)]; exact M.le i (by omega)
    · rw [l2 i (by omega), l2 j (by omega)]; exact Int.le_refl _
  have J : JobOk l w := M'.job (by decide) hw (by omega)
  unfold humpyardtop_TopCuts
  refine obi rfl (obi hj (obi hl ?_))
  rcases least_make hN J with ⟨_, hm⟩ | ⟨s, least, chain, _, hm, ⟨base, S⟩, _, hS⟩
  · exact obi hm (oit rfl (obi (gO_T rfl awake_ok) rfl))
  · have P := S.plan hS
    have hs := P.le
    obtain ⟨st, tr, f, hc, c1, c2, c3, c4⟩ := contents_ok hN J P (fun i hi => by rw [l2 i (by omega)])
    have htr : trs l l.length ≤ 3 := trs_le (m := 2) fun i hi => by have := M'.tr i hi; omega
    have hlen : (st ++ tr).length = s + trs l l.length := by rw [List.length_append, c1, c2]
    obtain ⟨ps, hp, p1, p2⟩ := fill_ok hN (l := l) (by omega) (f := f) (C := st ++ tr) (by omega) (fun x hx => by rw [hlen]; exact c3 x hx) c4 (ps0 := List.replicate l.length ⟨0, 0, 0, false, 0⟩) (by simp)
    obtain ⟨v, hv, v1, v2⟩ := next_ok 6000 t (k := k) (n := 5) k1 (by omega) (by decide) (by decide)
    have hfrom : Maker_From 6000 t k 1 5 = some (k + 1, 1 + v) := obi (x := 4) rfl (obi (x := 5) rfl (obi hv (obi (in64_ok (by omega)) rfl)))
    have G : good ps ⟨1 + v, 20, 1000⟩ := by
      refine ⟨?_, by omega, fun j hj => ?_⟩
      · simp only [okR, Bool.and_eq_true, decide_eq_true_eq]; omega
      · rw [getElem_gp hj, p2 j (by omega)]
        have := M'.le j (by omega)
        have := c3 j (by omega)
        exact band (band (band (band (decide_eq_true (show 1 ≤ (it l j).Length by omega)) (decide_eq_true (show (it l j).Length ≤ 400 by omega))) (band rfl rfl)) (band rfl rfl)) (band (decide_eq_true (show (0 : Int) ≤ f j by omega)) (decide_eq_true (show (f j : Int) ≤ 31 by omega)))
    obtain ⟨cs, hcs, hseg⟩ := form_spec 6000 G (by decide)
    obtain ⟨bk, hb, g1, g2⟩ := back_ok hN (l := l) (by omega) (f := f) (T := (st ++ tr).length) (by omega) (fun x hx => by rw [hlen]; exact c3 x hx) p1 p2 0 hseg
    have hbk : bk = st ++ tr := lists_ext g1 fun n hn => by rw [g2 n (by omega), c4]; rfl
    have hself := lists_self 6000 (st ++ tr) (by omega) (by omega) fun n => by
      have := lay_len f l.length n
      have e : gl (st ++ tr) n = lay f l.length n := c4 n
      rw [e]; omega
    rw [hbk] at hb
    refine obi hm (oif rfl (obi hc (oif rfl (obi (app_ok (l := []) (r := st) (by simp only [List.length_nil]; omega) (by simp only [List.length_nil]; omega)) (obi (x := st ++ tr) (app_ok (by simp only [List.nil_append]; omega) (by simp only [List.nil_append]; omega)) (oif (decide_eq_false (by omega)) ?_))))))
    refine obi (mkL_ok _ (by omega) (by omega)) (obi hp (obi hfrom (obi hcs (oif rfl (obi (mkL_ok _ (by omega) (by omega)) (obi hb (obi hself (obi (gO_T rfl awake_ok) rfl))))))))
end Go.Gv
