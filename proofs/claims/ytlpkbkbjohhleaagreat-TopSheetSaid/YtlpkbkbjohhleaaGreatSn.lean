/- The trains hold the wagons of their orders, in the order of the blocks. -/
import Derived.Test.YtlpkbkbjohhleaaGreatSz
namespace Go.Gv
theorem ordR_len (t : Nat) : (ordR t).length ≤ 4 := by
  match t with
  | 0 => decide
  | 1 => decide
  | 2 => decide
  | n + 3 => exact Nat.zero_le _
theorem idx_ordS {t : Nat} (h : t < 3) : idx ordS (t : Int) = some (ordR t) := idx_getD _ h
theorem idx_ordN {t b : Nat} (h : b < (ordR t).length) : idx (ordR t) (b : Int) = some (ordN t b) := idx_getD _ h
theorem blk_ok {N : Nat} (hN : 5000 ≤ N) {ws : List T_Wagon} {k : Int} {t b x : Nat} (ht : t < 3) (hx : x < ws.length) (A : AtOrd ws[x].Dest t b) {b0 : Nat} (h0 : b0 ≤ b) : iterN (fun s : Int => humpyardtop_TopSheet_l14 N (k, ws) (t : Int) (x : Int) s) N (b0 : Int) = some (b : Int) := by
  have hb4 := ordR_len t
  obtain ⟨a1, a2, a3⟩ := A
  obtain ⟨q, hq, rfl⟩ := iterN_run (f := fun s : Int => humpyardtop_TopSheet_l14 N (k, ws) (t : Int) (x : Int) s)
    (I := fun s => ∃ b' : Nat, s = b' ∧ b' ≤ b) (Q := fun q => q = (b : Int)) (fun s => b - s.toNat) (by
    rintro s ⟨b', rfl, h1⟩
    have hlt : b' < (ordR t).length := by omega
    have g : decide ((b' : Int) < ((ordR t).length : Int)) = true := decide_eq_true (by omega)
    unfold humpyardtop_TopSheet_l14
    by_cases e : b' = b
    · subst e
      exact .inr ⟨_, obi (idx_ordS ht) (obi (gO_T g (idx_ordS ht)) (obi (gO_T g (idx_ordN hlt)) (obi (gO_T g (idx_nat hx)) (oif (bandF2 (bnotIf (decide_eq_true a2))) rfl)))), rfl⟩
    · exact .inl ⟨_, obi (idx_ordS ht) (obi (gO_T g (idx_ordS ht)) (obi (gO_T g (idx_ordN hlt)) (obi (gO_T g (idx_nat hx)) (oit (band g (bnotIt (decide_eq_false (a3 b' (by omega))))) (obi (inc_nat (by omega)) rfl))))), ⟨b' + 1, rfl, by omega⟩, by simp only [Int.toNat_natCast]; omega⟩) N (b0 : Int) ⟨b0, rfl, h0⟩ (by omega)
  exact hq
/-- the block of a wagon's item -/
def bkN (l : List T_Item) (x : Nat) : Nat := (it l x).Block.toNat
theorem train_ok {N : Nat} (hN : 5000 ≤ N) {ws : List T_Wagon} {k : Int} {l : List T_Item} (hl : l.length = ws.length) (h12 : ws.length ≤ 12) (I : ∀ i (h : i < ws.length), ItOf (it l i) ws[i]) {T : Nat} {Lt : List Nat} (h1 : ∀ x ∈ Lt, x < l.length ∧ (it l x).Train.toNat = T) (h2 : Lt.Pairwise fun x y => bkN l x ≤ bkN l y) (hlen : Lt.length ≤ 100) {n : Nat} (hn : n ≤ 1000) : iterN (fun s : Int × Int × Int => humpyardtop_TopSheet_l13 N (k, ws) (T : Int) (Lt.map (fun x : Nat => (x : Int))) s.1 s.2.1 s.2.2) N ((n : Int), 0, 0) = some (.inr ((n + Lt.length : Nat) : Int)) := by
  have hml : (Lt.map (fun x : Nat => (x : Int))).length = Lt.length := List.length_map _
  refine runN1 (f := fun s : Int × Int × Int => humpyardtop_TopSheet_l13 N (k, ws) (T : Int) (Lt.map (fun x : Nat => (x : Int))) s.1 s.2.1 s.2.2) Lt.length
    (fun i s => s.2.2 = i ∧ s.1 = ((n + i : Nat) : Int) ∧ ∃ b : Nat, s.2.1 = b ∧ ∀ j (h : j < Lt.length), i ≤ j → b ≤ bkN l Lt[j]) _ ?_ ?_ N (by omega) ((n : Int), 0, 0) ⟨rfl, rfl, 0, rfl, fun j _ _ => Nat.zero_le _⟩
  · rintro i ⟨n', b', i'⟩ hi ⟨rfl, rfl, b, rfl, hb⟩
    simp only at hb ⊢
    obtain ⟨m1, m2⟩ := h1 Lt[i] (List.getElem_mem hi)
    obtain ⟨t, bb, t1, b1, e, A⟩ := I Lt[i] (by omega)
    have et : (it l Lt[i]).Train = (t : Int) := by rw [e]
    have eb : bkN l Lt[i] = bb := by unfold bkN; rw [e]; rfl
    have htT : t = T := by rw [et] at m2; exact m2
    subst htT
    have ei : idx (Lt.map (fun x : Nat => (x : Int))) (i : Int) = some ((Lt[i] : Nat) : Int) := by
      rw [idx_nat (by rw [hml]; exact hi), List.getElem_map]
    have hbb := hb i hi (Nat.le_refl _)
    rw [eb] at hbb
    have hk := blk_ok (N := N) hN (k := k) t1 (by omega) A hbb
    have hne : ¬ (bb : Int) = ((ordR t).length : Int) := by have := A.1; omega
    unfold humpyardtop_TopSheet_l13
    refine ⟨_, oit (decide_eq_true (by rw [hml]; omega)) (obi ei (oif (borF (borF (decide_eq_false (by omega)) (decide_eq_false (by simp only; omega))) (decide_eq_false (show ¬ (3 : Int) ≤ (t : Int) by omega))) (obi hk (obi (idx_ordS t1) (oif (decide_eq_false hne) (obi (inc_nat (by omega)) (obi (inc_nat (by omega)) rfl))))))), rfl, rfl, bb, rfl, fun j hj hij => ?_⟩
    rw [← eb]
    exact List.pairwise_iff_getElem.1 h2 i j hi hj (by omega)
  · rintro ⟨n', b', i'⟩ ⟨rfl, rfl, b, rfl, hb⟩
    unfold humpyardtop_TopSheet_l13
    exact oif (decide_eq_false (by simp only; rw [hml]; omega)) rfl
/-- the items of the first trains -/
def firsts (L : Nat → List Nat) : Nat → List Nat
  | 0 => []
  | T + 1 => firsts L T ++ L T
theorem firsts_mem {L : Nat → List Nat} {x : Nat} : ∀ {T : Nat}, x ∈ firsts L T ↔ ∃ t, t < T ∧ x ∈ L t := by
  intro T
  induction T with
  | zero => exact ⟨fun h => absurd h (by simp [firsts]), fun ⟨t, h, _⟩ => absurd h (Nat.not_lt_zero _)⟩
  | succ T ih =>
    unfold firsts
    rw [List.mem_append, ih]
    constructor
    · rintro (⟨t, h1, h2⟩ | h)
      · exact ⟨t, by omega, h2⟩
      · exact ⟨T, by omega, h⟩
    · rintro ⟨t, h1, h2⟩
      by_cases e : t = T
      · subst e; exact .inr h2
      · exact .inl ⟨t, by omega, h2⟩
theorem cover_len : ∀ (m : Nat) (M : List Nat), (∀ x, x < m → x ∈ M) → m ≤ M.length := by
  intro m
  induction m with
  | zero => intro M _; exact Nat.zero_le _
  | succ m ih =>
    intro M h
    have hm := h m (by omega)
    have h1 := ih (M.erase m) fun x hx => (List.mem_erase_of_ne (by omega)).2 (h x (by omega))
    have h2 := List.length_erase_of_mem hm
    have h3 := List.length_pos_of_mem hm
    omega
theorem firsts_nodup {L : Nat → List Nat} {f : Nat → Nat} (h1 : ∀ t x, x ∈ L t → f x = t) (h2 : ∀ t, (L t).Nodup) : ∀ T, (firsts L T).Nodup := by
  intro T
  induction T with
  | zero => exact List.Pairwise.nil
  | succ T ih =>
    refine List.pairwise_append.2 ⟨ih, h2 T, fun a ha b hb e => ?_⟩
    subst e
    obtain ⟨t, h3, h4⟩ := firsts_mem.1 ha
    have := h1 t a h4
    have := h1 T a hb
    omega
theorem lex_irr {c : List Int} {t x : Nat} (h : Lex c t x x) : False := by unfold Lex at h; omega
/-- the trains' items are ordered by their blocks -/
theorem lex_blocks {l : List T_Item} {w s : Nat} {base c : List Int} (S : SolveS l w base c) (hS : StepsOf c s) {x y : Nat} (hx : x < l.length) (hy : y < l.length) (J : JobOk l w) (et : (it l x).Train.toNat = (it l y).Train.toNat) (h : Lex c s x y) : bkN l x ≤ bkN l y := by
  have P := S.plan hS
  obtain ⟨kx, e1, e2, _⟩ := P.at_ x hx
  obtain ⟨ky, f1, f2, _⟩ := P.at_ y hy
  have tx := J.tr x hx
  have ty := J.tr y hy
  have bx := J.bl x hx
  have by_ := J.bl y hy
  have cx : cd c x = kx := by unfold cd; rw [e1]; rfl
  have cy : cd c y = ky := by unfold cd; rw [f1]; rfl
  unfold Lex at h
  rw [cx, cy, Nat.mod_eq_of_lt e2, Nat.mod_eq_of_lt f2] at h
  unfold bkN
  by_cases g : (it l y).Block < (it l x).Block
  · have hr : rel l y x = if x < y then 2 else 1 := by
      unfold rel
      rw [if_neg]
      intro hh
      rcases hh with hh | hh <;> omega
    have ho := S.ord hy hx (by rw [hr]; split <;> decide)
    rw [e1, f1, hr] at ho
    split at ho <;> omega
  · omega
theorem trains_ok {N : Nat} (hN : 5000 ≤ N) {ws : List T_Wagon} {k : Int} {l : List T_Item} (hl : l.length = ws.length) (h12 : ws.length ≤ 12) (I : ∀ i (h : i < ws.length), ItOf (it l i) ws[i]) {tr : List (List Int)} (mv e : Int) {L : Nat → List Nat} (htr : tr.length ≤ 16) (hg : ∀ T, gl tr T = (L T).map (fun x : Nat => (x : Int))) (h1 : ∀ T x, x ∈ L T → x < l.length ∧ (it l x).Train.toNat = T) (h2 : ∀ T, (L T).Pairwise fun x y => bkN l x ≤ bkN l y) (h3 : ∀ T, (L T).Nodup) (h4 : ∀ x, x < l.length → (it l x).Train.toNat < tr.length ∧ x ∈ L (it l x).Train.toNat) :
    iterN (fun s : Int × Int => humpyardtop_TopSheet_l10 N (k, ws) (tr, mv, e) s.1 s.2) N (0, 0) = some (.inr (ws.length : Int)) := by
  have hnd := firsts_nodup (f := fun x => (it l x).Train.toNat) (fun t x hx => (h1 t x hx).2) h3
  have hle : ∀ T, (firsts L T).length ≤ l.length := fun T => nodup_len _ _ (hnd T) fun x hx => by
    obtain ⟨t, _, h⟩ := firsts_mem.1 hx
    exact (h1 t x h).1
  have hfull : (firsts L tr.length).length = ws.length := by
    have := hle tr.length
    have := cover_len l.length (firsts L tr.length) fun x hx => firsts_mem.2 ⟨_, (h4 x hx).1, (h4 x hx).2⟩
    omega
  rw [← hfull]
  refine runN1 (f := fun s : Int × Int => humpyardtop_TopSheet_l10 N (k, ws) (tr, mv, e) s.1 s.2) tr.length (fun T s => s.2 = T ∧ s.1 = (((firsts L T).length : Nat) : Int)) _ ?_ ?_ N (by omega) (0, 0) ⟨rfl, rfl⟩
  · rintro T ⟨n, T'⟩ hT ⟨rfl, rfl⟩
    have hlt := hle T
    have hLl : (L T).length ≤ l.length := nodup_len _ _ (h3 T) fun x hx => (h1 T x hx).1
    have ei : idx tr (T : Int) = some ((L T).map (fun x : Nat => (x : Int))) := by rw [idx_gl hT, hg]
    have ht := train_ok hN (k := k) hl h12 I (h1 T) (h2 T) (by omega) (n := (firsts L T).length) (by omega)
    unfold humpyardtop_TopSheet_l10
    refine ⟨_, oit (decide_eq_true (by simp only; omega)) (obi ei (obi ht (obi (inc_nat (by omega)) rfl))), rfl, ?_⟩
    simp only [firsts, List.length_append]
  · rintro ⟨n, T'⟩ ⟨rfl, rfl⟩
    unfold humpyardtop_TopSheet_l10
    exact oif (decide_eq_false (by simp only; omega)) rfl
/-- the tracks -/
theorem tracks_made {N : Nat} (hN : 5000 ≤ N) (t : List Int) {i k : Int} (h0 : 3 ≤ i ∧ i ≤ 9) (h1 : 0 ≤ k ∧ k ≤ 100000) : ∃ tk, iterN (fun s : Int × Int × List Int => humpyardtop_TopSheet_l1 N t s.1 s.2.1 s.2.2) N (i, k, []) = some tk ∧ TkOk tk := by
  obtain ⟨q, hq, q1, q2⟩ := iterN_run (f := fun s : Int × Int × List Int => humpyardtop_TopSheet_l1 N t s.1 s.2.1 s.2.2)
    (I := fun s => 0 ≤ s.1 ∧ s.1 + s.2.2.length ≤ 9 ∧ 0 ≤ s.2.1 ∧ s.2.1 ≤ k + s.2.2.length ∧ ∀ x ∈ s.2.2, 1 ≤ x ∧ x ≤ 38400)
    (Q := fun q => q.length ≤ 32 ∧ ∀ x ∈ q, 1 ≤ x ∧ x ≤ 38400) (fun s => s.1.toNat) (by
    rintro ⟨m, k', l⟩ ⟨g1, g2, g3, g4, g5⟩
    simp only at g1 g2 g3 g4 g5 ⊢
    unfold humpyardtop_TopSheet_l1
    by_cases hm : 0 < m
    · obtain ⟨x, hx, x1⟩ := pick_ok N t (k := k') (v := [900, 2000, 5000]) (by omega) (by omega) (by decide) (by decide)
      have hx2 : 1 ≤ x ∧ x ≤ 38400 := by
        simp only [List.mem_cons, List.not_mem_nil, or_false] at x1
        omega
      refine .inl ⟨_, oit (decide_eq_true hm) (obi hx (obi (app_ok (by simp only [List.length_cons, List.length_nil]; omega) (by simp only [List.length_cons, List.length_nil]; omega)) (obi (in64_ok (by omega)) rfl))), ⟨by simp only; omega, ?_, by simp only; omega, ?_, fun y hy => ?_⟩, by simp only; omega⟩
      · simp only [List.length_append, List.length_cons, List.length_nil]; omega
      · simp only [List.length_append, List.length_cons, List.length_nil]; omega
      · rcases List.mem_append.1 hy with hy | hy
        · exact g5 y hy
        · rw [List.mem_singleton.1 hy]; exact hx2
    · exact .inr ⟨_, oif (decide_eq_false hm) rfl, by omega, g5⟩) N (i, k, []) ⟨by simp only; omega, by simp only [List.length_nil]; omega, by simp only; omega, by simp only [List.length_nil]; omega, fun x hx => absurd hx (by simp)⟩ (by simp only; omega)
  exact ⟨q, hq, q1, fun j hj => by rw [← getElem_gi hj]; exact q2 _ (List.getElem_mem hj)⟩
theorem TopSheet_true (t : List Int) : humpyardtop_TopSheet 6000 t = some true := by
  have hN : 5000 ≤ 6000 := by decide
  obtain ⟨k, ws, hws, k1, k2, h12, W, D⟩ := wagons_made hN t (n := 12) (by decide)
  have hc := wcheck_ok hN h12 W D
  obtain ⟨b, hb, hd⟩ := trip_ok hN (by omega) (fun x hx => (W x hx).r) hc
  obtain ⟨l, hit, hl, hI⟩ := items_ok h12 W
  have J := fun w (hw : w ≤ 12) => (items_job h12 W hl hI hw).1
  have h0 := (items_job h12 W hl hI (w := 0) (by decide)).2
  obtain ⟨x, hx, x0, x1⟩ := next_ok 6000 t (k := k) (n := 7) (by omega) (by omega) (by decide) (by decide)
  have hfrom : Maker_From 6000 t k 3 9 = some (k + 1, 3 + x) := by
    unfold Maker_From
    exact obi (x := 6) rfl (obi (x := 7) rfl (obi hx (obi (in64_ok (by simp only; omega)) rfl)))
  obtain ⟨tk, htk, T⟩ := tracks_made hN t (i := 3 + x) (k := k + 1) (by omega) (by omega)
  unfold humpyardtop_TopSheet
  refine obi rfl (obi hws (obi hb (obi hd (oif rfl (obi hit (oif (borF rfl (bnotIf (decide_eq_true (by simp only; omega)))) (obi hfrom (obi htk ?_))))))))
  rcases plan_ok hN J h0 T with ⟨r, hr, r1⟩ | ⟨w, s, c, ch, a, hr, S⟩
  · have g : decide (0 < (r.length : Int)) = true := decide_eq_true (by omega)
    refine obi hr (oit rfl (obi (gO_T g awake_ok) ?_))
    show some (decide (0 < (r.length : Int)) && true) = some true
    rw [g]; rfl
  · obtain ⟨base, hsol⟩ := S.sol
    obtain ⟨tr, mv, L, hrun, t1, t2, t3, t4, t5, _⟩ := run_ok hN S.job (hsol.plan S.stp)
    have htl : ∀ x, x < l.length → (it l x).Train.toNat < tr.length := fun x hx => by rw [t1]; exact trs_lt hx
    have h16 : tr.length ≤ 16 := by rw [t1]; exact trs_le (m := 15) fun i hi => by have := S.job.tr i hi; omega
    have hloop := trains_ok hN (k := k) hl h12 hI (tr := tr) mv 0 h16 t2 t3 (fun T => (t4 T).imp_of_mem fun {x y} hx hy h => lex_blocks hsol S.stp (t3 T x hx).1 (t3 T y hy).1 S.job (by rw [(t3 T x hx).2, (t3 T y hy).2]) h) (fun T => (t4 T).imp fun {x y} h e => by subst e; exact lex_irr h) (fun x hx => ⟨htl x hx, t5 x hx (by rw [h0 x hx]; omega)⟩)
    refine obi hr (oif rfl (obi (gO_T rfl (pcheck_ok hN S)) (oif rfl (obi hrun (oif rfl (obi hloop ?_))))))
    have g : decide ((ws.length : Int) = (ws.length : Int)) = true := decide_eq_true rfl
    refine obi (gO_T g awake_ok) ?_
    show some (decide ((ws.length : Int) = (ws.length : Int)) && true) = some true
    rw [g]; rfl
end Go.Gv
