/- Diverting: the laws on chosen places. -/
import Derived.Test.YtfomgakgjgkjlaaPlb
import Derived.Test.YtfomgakgjgkjlaaPg
namespace Go.Gv

theorem thr3 {x : Int} (h : x ∈ [0, 800, 2500]) : 0 ≤ x ∧ x ≤ 2500 := by
  simp only [List.mem_cons, List.not_mem_nil, or_false] at h; omega

def dL (b : List T_Span) (i : Nat) (h : i < b.length) : List T_Span := (b.take (i + 1)).set i (flip b[i])
theorem dL_len {b : List T_Span} {i : Nat} (h : i < b.length) : (dL b i h).length = i + 1 := by simp [dL]; omega
theorem dL_get {b : List T_Span} {i j : Nat} (h : i < b.length) (hj : j < (dL b i h).length) : (dL b i h)[j] = if i = j then flip b[i] else b[j]'(by rw [dL_len h] at hj; omega) := by
  simp only [dL, List.getElem_set, List.getElem_take]
theorem dL_good {b : List T_Span} (g : Good b) {i : Nat} (h : i < b.length) (h0 : b[i].Side ≠ 0) : Good (dL b i h) := by
  have hl := dL_len h
  have hb := g.len
  refine ⟨by omega, fun j hj => ?_, fun j k hj hk e => ?_⟩
  · rw [dL_get h hj]
    split
    · have := g.at i h
      exact decide_eq_true (by simp only [flip]; omega)
    · exact g.ok j _
  · rw [dL_get h hj, dL_get h hk] at e
    have q : ∀ (m : Nat) (hm : m < b.length), (if i = m then flip b[i] else b[m]).Element = b[m].Element := fun m hm => by
      split
      · rename_i em; subst em; rfl
      · rfl
    rw [q j (by omega), q k (by omega)] at e
    exact g.uniq j k _ _ e

theorem cfl_before {a b : List T_Span} {th : Int} {c : Nat} (h : cfl a b th = some c) {j : Nat} (hj : j < c) (hjb : j < b.length) : hit a th b[j] = false := by
  have := (List.findIdx?_eq_some_iff_getElem.1 h).2.2 j hj
  simpa using this

theorem clears_none {a b : List T_Span} {th now : Int} (h0 : 0 ≤ th) {c i : Nat} (hc : cfl a b th = some c) (hi : i < b.length) (hic : i < c) (ht : thr a th now b[i] = true) : cfl a (dL b i hi) th = none := by
  refine List.findIdx?_eq_none_iff.2 fun x hx => ?_
  obtain ⟨j, hj, rfl⟩ := List.getElem_of_mem hx
  have hl := dL_len hi
  rw [dL_get hi hj]
  split
  · rw [Bool.eq_false_iff]
    intro hh
    obtain ⟨s, hs, hp⟩ := List.any_eq_true.1 hh
    have e1 : s.Element = b[i].Element := of_decide_eq_true (bandl hp)
    have e2 : b[i].From < ready s (flip b[i]) th := of_decide_eq_true (bandr hp)
    have e3 := (ready_le s (flip b[i]) h0).2
    have e4 := List.all_eq_true.1 (bandr ht) s hs
    simp [e1] at e4
    omega
  · exact cfl_before hc (by omega) _

theorem chv_cases {a b : List T_Span} {th now : Int} : (cfl a b th = none ∧ chv a b th now = (0, 16)) ∨ (∃ c, cfl a b th = some c ∧ c < b.length ∧ lastI (thrI a b th now) c = none ∧ chv a b th now = (0, 15)) ∨
    ∃ (c i : Nat) (hi : i < b.length), cfl a b th = some c ∧ c < b.length ∧ i < c ∧ lastI (thrI a b th now) c = some i ∧ thr a th now b[i] = true ∧ chv a b th now = ((i : Int), 0) := by
  unfold chv
  cases hc : cfl a b th with
  | none => exact .inl ⟨rfl, rfl⟩
  | some c =>
    have hcl := cfl_lt hc
    cases hi : lastI (thrI a b th now) c with
    | none => exact .inr (.inl ⟨c, rfl, hcl, hi, by simp [hi]⟩)
    | some i =>
      obtain ⟨h1, h2, _⟩ := lastI_some hi
      rw [thrI_at (by omega)] at h2
      exact .inr (.inr ⟨c, i, by omega, rfl, hcl, h1, hi, h2, by simp [hi]⟩)

theorem clears_loop (r8 : Int × List T_Span × List T_Span) (i : Nat) (hi : i < r8.2.2.length) (hl : r8.2.2.length ≤ 128) : iterN (fun s : Int => law31_DivertClears_l1 200 r8 ((i : Int), 0) (dL r8.2.2 i hi, 0) s) 200 0 = some (.inr ()) := by
  have hdl := dL_len hi
  have h := first_any (r8.2.2.take i) (fun _ => false) false (fun s : Int => law31_DivertClears_l1 200 r8 ((i : Int), 0) (dL r8.2.2 i hi, 0) s) (fun j hj hp => by cases hp) (fun j hj _ => by
    have hji : j < i := by simp at hj; omega
    have e := dL_get hi (j := j) (by omega)
    rw [if_neg (by omega)] at e
    unfold law31_DivertClears_l1
    exact oit (decide_eq_true (by simp only; omega)) (obi (idx_nat (by simp only; omega)) (obi (idx_nat (by omega)) (oif (by rw [e]; simp) (obi (inc_nat (by omega)) rfl))))) (by
    unfold law31_DivertClears_l1
    exact oif (decide_eq_false (by simp; omega)) rfl) 200 (by simp; omega)
  rw [h]
  have : (r8.2.2.take i).any (fun _ => false) = false := by simp
  rw [this]; rfl

theorem DivertClears_true (t : List Int) (now0 : Int) : law31_DivertClears 200 t now0 = some true := by
  obtain ⟨k, a, b, hp, p0, p1, hm⟩ := pair_ok t (k0 := 0) (by omega) (by omega)
  have ga := hm.ga (by omega)
  have gb := hm.gb (by omega)
  have hlb := hm.lb
  obtain ⟨th, hth, thm⟩ := pick_ok 200 t (k := k) (v := [0, 800, 2500]) (by omega) (by omega) (by simp) (by simp)
  have ht := thr3 thm
  obtain ⟨now, hnow, n0, n1⟩ := place_ok 200 now0 (n := 15000) (by omega) (by omega)
  have hv : ∀ x : List T_Span, Good x → vld a x th now = true := fun x gx => by
    unfold vld
    rw [goodB_T ga, goodB_T gx, inT_iff.2 (by omega), inT_iff.2 (by omega)]; rfl
  have hv0 : ∀ x : List T_Span, Good x → vld a x th 0 = true := fun x gx => by
    unfold vld
    rw [goodB_T ga, goodB_T gx, inT_iff.2 (by omega), inT_iff.2 (by omega)]; rfl
  have hch := dChoose_eq 200 (by omega) a b th now
  rw [hv b gb] at hch
  unfold law31_DivertClears
  refine obi rfl (obi hp (obi hth (obi hnow (obi hch ?_))))
  simp only [cond_true]
  rcases chv_cases (a := a) (b := b) (th := th) (now := now) with ⟨_, e⟩ | ⟨c, _, _, _, e⟩ | ⟨c, i, hi, hc, hcl, hic, hl, htr, e⟩
  · rw [e]
    exact oit rfl (obi (gO_T rfl sane_ok) rfl)
  · rw [e]
    exact oit rfl (obi (gO_T rfl sane_ok) rfl)
  · rw [e]
    have hs0 : b[i].Side ≠ 0 := fun h0 => by
      have := bandl (bandl htr)
      simp [h0] at this
    obtain ⟨r, hr, _, _, hr2⟩ := diverted_spec 200 (by omega) b (i : Int)
    have hre := hr2 i gb hi rfl hs0
    subst hre
    have gd := dL_good gb hi hs0
    have hdl := dL_len hi
    have hcf := dConflict_eq 200 (by omega) a (dL b i hi) th
    have hcv : cfv a (dL b i hi) th = -1 := by
      unfold cfv
      rw [clears_none (now := now) (by omega) hc hi hic htr]; rfl
    rw [hv0 _ gd, hcv] at hcf
    have hlen : decide (((dL b i hi).length : Int) = (i : Int) + 1) = true := decide_eq_true (by omega)
    have hgx := dL_get hi (j := i) (by omega)
    rw [if_pos rfl] at hgx
    have hxd : idx (dL b i hi) (i : Int) = some (flip b[i]) := by rw [idx_nat (by omega), hgx]
    have hfrom : now + th ≤ b[i].From := of_decide_eq_true (bandr (bandl htr))
    have c1 : (!(((!decide ((0 : Int) = 0)) || (!decide ((0 : Int) = 0))) || (!decide ((-1 : Int) = (-1))))) = true := by decide
    have c2 : (!((((!decide ((0 : Int) = 0)) || (!decide ((0 : Int) = 0))) || (!decide ((-1 : Int) = (-1)))) || (!decide (((dL b i hi).length : Int) = (i : Int) + 1)))) = true := by rw [hlen]; decide
    have c3 : (((((!decide ((0 : Int) = 0)) || (!decide ((0 : Int) = 0))) || (!decide ((-1 : Int) = (-1)))) || (!decide (((dL b i hi).length : Int) = (i : Int) + 1))) || decide ((flip b[i]).From < now + th)) = false := by
      rw [hlen, decide_eq_false (show ¬ (flip b[i]).From < now + th by simp only [flip]; omega)]; decide
    refine oif rfl (obi hr (obi hcf (obi (gO_T c1 (in64_ok (by omega))) (obi (gO_T c2 hxd) (obi (gO_T c2 (in64_ok (by omega))) (oif c3 (obi (clears_loop (k, a, b) i hi (by simp only; omega)) ?_)))))))
    have e1 : decide ((flip b[i]).Element = b[i].Element) = true := decide_eq_true rfl
    have e2 : decide ((flip b[i]).Side + b[i].Side = 3) = true := decide_eq_true (by simp only [flip]; omega)
    have hg := gb.at i hi
    refine obi hxd (obi (idx_nat hi) (obi (gO_T e1 hxd) (obi (gO_T e1 (idx_nat hi)) (obi (gO_T e1 (in64_ok (by simp only [flip]; omega))) (obi (gO_T (band e1 e2) sane_ok) ?_)))))
    rw [e1, e2]; rfl

theorem last_step1 {a b : List T_Span} (ga : Good a) (gb : Good b) {th now : Int} (h0 : 0 ≤ th) (h1 : th ≤ 1000000000) (n0 : 0 ≤ now) (n1 : now ≤ 1000000000) (k kk : Int) {c j : Nat} (hj : j < c) (hc : c < b.length) (ht : thr a th now b[j] = false) :
    law31_DivertLast_l1 200 (k, a, b) (kk, th) now ((c : Int), 0) (j : Int) = some (.inl ((j + 1 : Nat) : Int)) := by
  have hla := ga.len
  have hlb := gb.len
  have hib : j < b.length := by omega
  have hin : in64 ((j : Int) + 1) = some ((j + 1 : Nat) : Int) := inc_nat (by omega)
  unfold law31_DivertLast_l1
  refine oit (decide_eq_true (by simp only; omega)) (obi (idx_nat hib) (obi (find_eq 200 a (by omega) (by omega) _) (obi (idx_nat hib) ?_)))
  by_cases hs : b[j].Side = 0
  · have e0 : (!decide (b[j].Side = 0)) = false := by simp [hs]
    exact obi (gO_F e0) (obi (gO_F e0) (obi (gO_F (bandF (bandF e0))) (obi (gO_F (bandF (bandF e0))) (obi (gO_F (bandF (bandF e0))) (oif (bandF (bandF e0)) (obi hin rfl))))))
  · have e0 : (!decide (b[j].Side = 0)) = true := by simp [hs]
    refine obi (gO_T e0 (in64_ok (by simp only; omega))) (obi (gO_T e0 (idx_nat hib)) ?_)
    by_cases hf : now + th ≤ b[j].From
    · have ef : decide (now + th ≤ b[j].From) = true := decide_eq_true hf
      rcases rthr ga b[j] th now with ⟨m, hm, e, e2⟩ | ⟨e, e2⟩
      · have hbj := ga.at m hm
        rw [ht] at e2
        rw [e]
        have en : (!decide ((m : Int) < 0)) = true := by simp
        have eb : (((!decide (b[j].Side = 0)) && decide (now + th ≤ b[j].From)) && (!decide ((m : Int) < 0))) = true := band (band e0 ef) en
        have eq : decide (a[m].To + th ≤ b[j].From) = false := by
          rw [e0, ef] at e2
          exact e2.symm
        exact obi (gO_T eb (idx_nat hm)) (obi (gO_T eb (in64_ok (by simp only; omega))) (obi (gO_T eb (idx_nat hib)) (oif (bandF2 (borF (by simp) eq)) (obi hin rfl))))
      · rw [ht, e0, ef] at e2
        cases e2
    · have ef : decide (now + th ≤ b[j].From) = false := decide_eq_false hf
      exact obi (gO_F (bandF (bandF2 ef))) (obi (gO_F (bandF (bandF2 ef))) (obi (gO_F (bandF (bandF2 ef))) (oif (bandF (bandF2 ef)) (obi hin rfl))))
theorem last_step2 {a b : List T_Span} (ga : Good a) (gb : Good b) {th now : Int} (h0 : 0 ≤ th) (h1 : th ≤ 1000000000) (n0 : 0 ≤ now) (n1 : now ≤ 1000000000) (k kk : Int) {c j : Nat} (hj : j < c) (hc : c < b.length) (ht : thr a th now b[j] = false) :
    law31_DivertLast_l2 200 (k, a, b) (kk, th) now ((c : Int), 0) (j : Int) = some (.inl ((j + 1 : Nat) : Int)) := last_step1 ga gb h0 h1 n0 n1 k kk hj hc ht

theorem last_loop1 {a b : List T_Span} (ga : Good a) (gb : Good b) {th now : Int} (h0 : 0 ≤ th) (h1 : th ≤ 1000000000) (n0 : 0 ≤ now) (n1 : now ≤ 1000000000) (k kk : Int) {c lo : Nat} (hlo : lo ≤ c) (hc : c < b.length) (ht : ∀ j (h : j < b.length), lo ≤ j → j < c → thr a th now b[j] = false) :
    iterN (fun s : Int => law31_DivertLast_l1 200 (k, a, b) (kk, th) now ((c : Int), 0) s) 200 (lo : Int) = some (.inr ()) := by
  have hlb := gb.len
  obtain ⟨q, hq, rfl⟩ := iterN_run (f := fun s : Int => law31_DivertLast_l1 200 (k, a, b) (kk, th) now ((c : Int), 0) s) (I := fun s => ∃ j : Nat, s = j ∧ lo ≤ j ∧ j ≤ c) (Q := fun q => q = .inr ()) (fun s => c - s.toNat) (by
    rintro s ⟨j, rfl, hj, hjc⟩
    by_cases h : j < c
    · exact .inl ⟨_, last_step1 ga gb h0 h1 n0 n1 k kk h hc (ht j (by omega) hj h), ⟨j + 1, rfl, by omega, h⟩, by omega⟩
    · refine .inr ⟨_, ?_, rfl⟩
      unfold law31_DivertLast_l1
      exact oif (decide_eq_false (by simp only; omega)) rfl) 200 (lo : Int) ⟨lo, rfl, Nat.le_refl _, hlo⟩ (by omega)
  exact hq
theorem last_loop2 {a b : List T_Span} (ga : Good a) (gb : Good b) {th now : Int} (h0 : 0 ≤ th) (h1 : th ≤ 1000000000) (n0 : 0 ≤ now) (n1 : now ≤ 1000000000) (k kk : Int) {c lo : Nat} (hlo : lo ≤ c) (hc : c < b.length) (ht : ∀ j (h : j < b.length), lo ≤ j → j < c → thr a th now b[j] = false) :
    iterN (fun s : Int => law31_DivertLast_l2 200 (k, a, b) (kk, th) now ((c : Int), 0) s) 200 (lo : Int) = some (.inr ()) := last_loop1 ga gb h0 h1 n0 n1 k kk hlo hc ht

theorem DivertLast_true (t : List Int) (now0 : Int) : law31_DivertLast 200 t now0 = some true := by
  obtain ⟨k, a, b, hp, p0, p1, hm⟩ := pair_ok t (k0 := 0) (by omega) (by omega)
  have ga := hm.ga (by omega)
  have gb := hm.gb (by omega)
  have hlb := hm.lb
  obtain ⟨th, hth, thm⟩ := pick_ok 200 t (k := k) (v := [0, 800, 2500]) (by omega) (by omega) (by simp) (by simp)
  have ht := thr3 thm
  obtain ⟨now, hnow, n0, n1⟩ := place_ok 200 now0 (n := 15000) (by omega) (by omega)
  have hv : vld a b th now = true := by
    unfold vld
    rw [goodB_T ga, goodB_T gb, inT_iff.2 (by omega), inT_iff.2 (by omega)]; rfl
  have hv0 : vld a b th 0 = true := by
    unfold vld
    rw [goodB_T ga, goodB_T gb, inT_iff.2 (by omega), inT_iff.2 (by omega)]; rfl
  have hch := dChoose_eq 200 (by omega) a b th now
  rw [hv] at hch
  have hcf := dConflict_eq 200 (by omega) a b th
  rw [hv0] at hcf
  unfold law31_DivertLast
  refine obi rfl (obi hp (obi hth (obi hnow (obi hcf (obi hch ?_)))))
  simp only [cond_true]
  rcases chv_cases (a := a) (b := b) (th := th) (now := now) with ⟨hc, e⟩ | ⟨c, hc, hcl, hl, e⟩ | ⟨c, i, hi, hc, hcl, hic, hl, htr, e⟩
  · have hcv : cfv a b th = -1 := by unfold cfv; rw [hc]; rfl
    rw [e, hcv]
    exact oit rfl (obi (gO_T rfl sane_ok) rfl)
  · have hcv : cfv a b th = (c : Int) := by unfold cfv; rw [hc]; rfl
    rw [e, hcv]
    have hno : ∀ j (h : j < b.length), 0 ≤ j → j < c → thr a th now b[j] = false := fun j h _ hjc => by
      have := lastI_none hl j hjc
      rwa [thrI_at h] at this
    refine oif (borF rfl (decide_eq_false (by omega))) (oit rfl (obi (x := ((0 : Nat) : Int)) rfl (obi (last_loop1 ga gb (by omega) (by omega) (by omega) (by omega) k (k + 1) (Nat.zero_le c) hcl hno) ?_)))
    exact obi sane_ok rfl
  · have hcv : cfv a b th = (c : Int) := by unfold cfv; rw [hc]; rfl
    rw [e, hcv]
    have hno : ∀ j (h : j < b.length), i + 1 ≤ j → j < c → thr a th now b[j] = false := fun j h hj hjc => by
      have := (lastI_some hl).2.2 j (by omega) hjc
      rwa [thrI_at h] at this
    refine oif (borF rfl (decide_eq_false (by omega))) (oif rfl (oif (borF (borF rfl (decide_eq_false (by simp only; omega))) (decide_eq_false (by simp only; omega))) (obi (inc_nat (by omega)) (obi (last_loop2 ga gb (by omega) (by omega) (by omega) (by omega) k (k + 1) (show i + 1 ≤ c by omega) hcl hno) ?_))))
    exact obi sane_ok rfl

/-! the gap -/
def sh (d : Int) (s : T_Span) : T_Span := T_Span.mk s.Element s.Side (s.From + d) (s.To + d)
theorem late_loop (b : List T_Span) {d : Int} (d0 : 0 ≤ d) (d1 : d ≤ 100000) (hl : b.length ≤ 128) (hb : ∀ (j : Nat) (h : j < b.length), 0 ≤ b[j].From ∧ b[j].From ≤ 1000000000 ∧ 0 ≤ b[j].To ∧ b[j].To ≤ 1000000000) :
    iterN (fun s : Int × List T_Span => law31_DivertAgrees_l1 200 d s.1 s.2) 200 (0, b) = some (b.map (sh d)) := by
  obtain ⟨q, hq, rfl⟩ := iterN_run (f := fun s : Int × List T_Span => law31_DivertAgrees_l1 200 d s.1 s.2) (I := fun s => ∃ i : Nat, s = ((i : Int), (b.take i).map (sh d) ++ b.drop i) ∧ i ≤ b.length) (Q := fun q => q = b.map (sh d)) (fun s => b.length - s.1.toNat) (by
    rintro s ⟨i, rfl, hi⟩
    simp only
    unfold law31_DivertAgrees_l1
    have hlen : ((b.take i).map (sh d) ++ b.drop i).length = b.length := by simp; omega
    by_cases h : i < b.length
    · have hg : ((b.take i).map (sh d) ++ b.drop i)[i]'(by omega) = b[i] := by
        rw [List.getElem_append_right (by simp; omega)]
        simp [Nat.min_eq_left hi]
      have hx : idx ((b.take i).map (sh d) ++ b.drop i) (i : Int) = some b[i] := by rw [idx_nat (by omega), hg]
      have hbi := hb i h
      have hset : ((b.take i).map (sh d) ++ b.drop i).set i (sh d b[i]) = (b.take (i + 1)).map (sh d) ++ b.drop (i + 1) := by
        have hti : ((b.take i).map (sh d)).length = i := by simp; omega
        rw [List.set_append_right _ _ (by omega), hti, Nat.sub_self, List.drop_eq_getElem_cons h, List.set_cons_zero, List.take_succ_eq_append_getElem h, List.map_append, List.append_assoc]
        rfl
      refine .inl ⟨(((i + 1 : Nat) : Int), (b.take (i + 1)).map (sh d) ++ b.drop (i + 1)), oit (decide_eq_true (by omega)) (obi hx (obi (in64_ok (by omega)) (obi hx (obi (in64_ok (by omega)) (obi hx (obi (x := T_Span.mk b[i].Element b[i].Side (b[i].From + d) b[i].To) ?_ (obi (inc_nat (by omega)) ?_))))))), ⟨i + 1, rfl, h⟩, by simp only; omega⟩
      · rw [Int.toNat_natCast, idx_nat (by simp; omega), List.getElem_set_self]
      · rw [Int.toNat_natCast, List.set_set]
        rw [show T_Span.mk b[i].Element b[i].Side (b[i].From + d) (b[i].To + d) = sh d b[i] from rfl, hset]
    · have : i = b.length := by omega
      subst this
      refine .inr ⟨_, oif (decide_eq_false (by omega)) rfl, ?_⟩
      simp) 200 (0, b) ⟨0, by simp, Nat.zero_le _⟩ (by simp only; omega)
  exact hq

theorem DivertAgrees_true (t : List Int) (d0 : Int) : law31_DivertAgrees 200 t d0 = some true := by
  obtain ⟨k, a, b, hp, p0, p1, hm⟩ := pair_ok t (k0 := 0) (by omega) (by omega)
  have ga := hm.ga (by omega)
  have gb := hm.gb (by omega)
  have hla := hm.la
  have hlb := hm.lb
  obtain ⟨th, hth, thm⟩ := pick_ok 200 t (k := k) (v := [0, 800, 2500]) (by omega) (by omega) (by simp) (by simp)
  have ht := thr3 thm
  obtain ⟨d, hd, e0, e1⟩ := place_ok 200 d0 (n := 20000) (by omega) (by omega)
  have hns : ¬ Slow a b := by
    rintro ⟨s, hs, _, _, _, e⟩
    obtain ⟨j, hj, rfl⟩ := List.getElem_of_mem hs
    have := hm.ha j hj; omega
  rcases rGap_spec 200 (by omega) ga gb (th := th) (by omega) (by omega) with ⟨_, hs⟩ | ⟨g, hg, hgap, _⟩
  · exact absurd hs hns
  have gl : Good (b.map (sh d)) := by
    refine ⟨by simp; omega, fun i h => ?_, fun i j hi hj e => ?_⟩
    · rw [List.getElem_map]
      have := hm.hb i (by simpa using h)
      exact decide_eq_true (by simp only [sh]; omega)
    · rw [List.getElem_map, List.getElem_map] at e
      exact gb.uniq i j (by simpa using hi) (by simpa using hj) e
  have hv0 : vld a (b.map (sh d)) th 0 = true := by
    unfold vld
    rw [goodB_T ga, goodB_T gl, inT_iff.2 (by omega), inT_iff.2 (by omega)]; rfl
  have hcf := dConflict_eq 200 (by omega) a (b.map (sh d)) th
  rw [hv0] at hcf
  have hiff : decide (cfv a (b.map (sh d)) th < 0) = decide (g ≤ d) := by
    congr 1
    apply propext
    have h1 : cfv a (b.map (sh d)) th < 0 ↔ cfl a (b.map (sh d)) th = none := by
      unfold cfv
      cases cfl a (b.map (sh d)) th with
      | none => simp
      | some c => simp
    rw [h1]
    constructor
    · intro h
      rcases hgap.one with e | ⟨s, hs, u, hu, e, e2⟩
      · omega
      · have h2 := List.findIdx?_eq_none_iff.1 h (sh d u) (List.mem_map_of_mem hu)
        have h3 : ¬ (u.From + d < ready s u th) := fun hlt => by
          have : hit a th (sh d u) = true := List.any_eq_true.2 ⟨s, hs, band (decide_eq_true e) (decide_eq_true hlt)⟩
          rw [h2] at this; cases this
        omega
    · intro h
      refine List.findIdx?_eq_none_iff.2 fun x hx => ?_
      obtain ⟨u, hu, rfl⟩ := List.mem_map.1 hx
      rw [Bool.eq_false_iff]
      intro hh
      obtain ⟨s, hs, hp⟩ := List.any_eq_true.1 hh
      have e2 : u.From + d < ready s u th := of_decide_eq_true (bandr hp)
      have := hgap.most s hs u hu (of_decide_eq_true (bandl hp))
      omega
  have hfin : ((decide ((0 : Int) = 0) && decide ((0 : Int) = 0)) && (decide (cfv a (b.map (sh d)) th < 0) == decide (g ≤ d))) = true := by rw [hiff]; simp
  unfold law31_DivertAgrees
  refine obi rfl (obi hp (obi hth (obi hg (obi hd (obi (app_ok (by simp; omega) (by simp; omega)) (obi (by rw [List.nil_append]; exact late_loop b (d := d) (by omega) (by omega) (by omega) (fun j h => by have := hm.hb j h; omega)) (obi hcf (obi (gO_T hfin sane_ok) ?_))))))))
  exact congrArg some (band hfin rfl)
end Go.Gv
