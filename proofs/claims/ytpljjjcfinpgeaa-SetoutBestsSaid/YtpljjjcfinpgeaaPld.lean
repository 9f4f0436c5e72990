/- Setting out (chapter 34): SetoutBests. -/
import Derived.Test.YtpljjjcfinpgeaaPlc
namespace Go.Gv
theorem Same.perm {key : Int → Int} {l l' : List Int} (h : Same key l l') : l'.Perm l := by
  rw [List.perm_iff_count]
  intro x
  have h1 := h (key x)
  have e : ∀ m : List Int, (m.filter fun y => decide (key y = key x)).count x = m.count x := fun m => List.count_filter (decide_eq_true rfl)
  rw [← e l', ← e l, h1]
theorem at0_mem {l : List Int} {x : Int} (h : x ∈ idxs l.length) : at0 l x ∈ l := by
  have := idxs_mem.1 h
  unfold at0
  rw [List.getD_eq_getElem?_getD, List.getElem?_eq_getElem (by omega)]
  exact List.getElem_mem _
theorem map_idxs (l : List Int) : (idxs l.length).map (at0 l) = l := by
  apply List.ext_getElem?
  intro k
  by_cases h : k < l.length
  · have : (idxs l.length)[k]? = some (k : Int) := by unfold idxs; simp [h]
    rw [List.getElem?_map, this, List.getElem?_eq_getElem h]
    simp [at0, h]
  · rw [List.getElem?_eq_none (by simp [idxs_len]; omega), List.getElem?_eq_none (by omega)]
/-- a descending list has one group of each stop -/
theorem gr_low {s : Int} : ∀ {l : List Int}, (∀ x ∈ l, x ≤ s) → gr s true l = 0
  | [], _ => rfl
  | x :: t, h => by
    rw [gr_cons]
    have ih := gr_low fun y hy => h y (List.mem_cons_of_mem _ hy)
    have := h x List.mem_cons_self
    by_cases e : x = s
    · rw [if_pos e, ih]; rfl
    · rw [if_neg e, if_neg (by omega), ih]
theorem gr_desc {s : Int} : ∀ {l : List Int}, l.Pairwise (· ≥ ·) → gr s false l = if s ∈ l then 1 else 0
  | [], _ => rfl
  | x :: t, h => by
    obtain ⟨h1, h2⟩ := List.pairwise_cons.1 h
    rw [gr_cons]
    by_cases e : x = s
    · rw [if_pos e, if_pos (by simp [e]), gr_low fun y hy => by have := h1 y hy; omega]; rfl
    · rw [if_neg e]
      have : (if s < x then gr s false t else gr s false t) = gr s false t := by split <;> rfl
      rw [this, gr_desc h2]
      by_cases m : s ∈ t
      · rw [if_pos m, if_pos (List.mem_cons_of_mem _ m)]
      · rw [if_neg m, if_neg]
        rw [List.mem_cons]
        rintro (h | h)
        · exact e h.symm
        · exact m h
theorem sumG_desc {l : List Int} (h : l.Pairwise (· ≥ ·)) : ∀ n, sumG l n = (planL l n).length
  | 0 => rfl
  | n + 1 => by
    rw [planL_succ, List.length_append]
    simp only [sumG]
    rw [sumG_desc h n, gr_desc h]
    congr 1
    unfold rowL
    by_cases m : (n : Int) ∈ l
    · rw [if_pos m, if_pos (List.count_pos_iff.2 m)]; rfl
    · rw [if_neg m, if_neg (fun q => m (List.count_pos_iff.1 q))]; rfl
theorem sumG_least {l l' : List Int} (h : l'.Pairwise (· ≥ ·)) (hp : ∀ x, x ∈ l' ↔ x ∈ l) : ∀ n, sumG l' n ≤ sumG l n
  | 0 => Nat.le_refl _
  | n + 1 => by
    have ih := sumG_least h hp n
    simp only [sumG]
    have : gr n false l' ≤ gr n false l := by
      rw [gr_desc h]
      by_cases m : (n : Int) ∈ l'
      · rw [if_pos m]; exact gr_pos.2 ((hp _).1 m)
      · rw [if_neg m]; omega
    omega
theorem SetoutBests_true (t : List Int) : law34_SetoutBests 2000 t = some true := by
  have hN : 2000 ≤ 2000 := Nat.le_refl _
  obtain ⟨k', l, hl, _, _, hlen, hx⟩ := train_ok hN t (k := 0) (by omega) (by omega) (n := 24) (by omega)
  have hin := train_in hx
  have hB := Best_eq hN l
  rw [BL_good (by omega) hin] at hB
  obtain ⟨b, hb⟩ : ∃ b, b = bestL l := ⟨_, rfl⟩
  rw [← hb] at hB
  have hsame : Same (keyB l) (idxs l.length) b := by rw [hb]; exact best_same (okL_iff.1 hin)
  have hstr : b.Pairwise fun x y => keyB l x < keyB l y ∨ keyB l x = keyB l y ∧ x < y := by rw [hb]; exact bk_strict l 16
  have hperm := hsame.perm
  have hblen : b.length = l.length := by rw [hperm.length_eq, idxs_len]
  have hbm : ∀ x ∈ b, 0 ≤ x ∧ x < l.length := fun x hx => idxs_mem.1 (hperm.mem_iff.1 hx)
  obtain ⟨mv, hmv⟩ : ∃ mv, mv = b.map (at0 l) := ⟨_, rfl⟩
  have hmp : mv.Perm l := by
    have := hperm.map (at0 l)
    rw [map_idxs] at this
    rw [hmv]; exact this
  have hdesc : mv.Pairwise (· ≥ ·) := by
    rw [hmv, List.pairwise_map]
    refine hstr.imp fun h => ?_
    unfold keyB at h
    show at0 l _ ≥ at0 l _
    omega
  have hmlen : mv.length = l.length := hmp.length_eq
  have hmin : okL mv 16 = true := okL_iff.2 fun x h => okL_iff.1 hin x (hmp.mem_iff.1 h)
  -- the loop over the order
  have h1 : iterN (fun s : Int × List Bool × List Int => law34_SetoutBests_l1 2000 (k', l) (b, 0) s.1 s.2.1 s.2.2) 2000 (0, List.replicate l.length false, []) = some (.inr mv) := by
    refine runN1 (f := fun s : Int × List Bool × List Int => law34_SetoutBests_l1 2000 (k', l) (b, 0) s.1 s.2.1 s.2.2) b.length
      (fun i u => u.1 = i ∧ u.2.1.length = l.length ∧ (∀ k : Nat, u.2.1[k]? = some true → (k : Int) ∈ b.take i) ∧ u.2.2 = (b.take i).map (at0 l)) _ ?_ ?_ 2000 (by omega) _ ⟨rfl, by simp, fun k h => ?_, by simp⟩
    · rintro i ⟨j, sn, m⟩ hi ⟨rfl, hsn, hs, rfl⟩
      simp only at hsn hs ⊢
      have hbi := hbm _ (List.getElem_mem hi)
      obtain ⟨x, hxi⟩ : ∃ x : Nat, b[i] = x := ⟨b[i].toNat, by omega⟩
      have e1 : idx b (i : Int) = some (x : Int) := by rw [idx_nat hi, hxi]
      have hxl : x < l.length := by omega
      have hfx : sn[x]? = some false := by
        rw [List.getElem?_eq_getElem (by omega)]
        cases hc : sn[x]'(by omega) with
        | false => rfl
        | true =>
          have := hs x (by rw [List.getElem?_eq_getElem (by omega), hc])
          obtain ⟨q, hq, e⟩ := List.getElem_of_mem this
          have hqi : q < i := by simp at hq; omega
          rw [List.getElem_take] at e
          have := List.pairwise_iff_getElem.1 hstr q i (by omega) hi hqi
          rw [e, hxi] at this
          omega
      have e2 : idx sn (x : Int) = some false := idx_some_of hfx
      have e3 : idx l (x : Int) = some (at0 l x) := by unfold at0; rw [Int.toNat_natCast]; exact idx_getD 0 hxl
      have d0 : decide ((x : Int) < 0) = false := decide_eq_false (by omega)
      have d1 : decide ((List.length l : Int) ≤ (x : Int)) = false := decide_eq_false (by omega)
      have d2 : (decide ((x : Int) < 0) || decide ((List.length l : Int) ≤ (x : Int))) = false := borF d0 d1
      have d3 : ((decide ((x : Int) < 0) || decide ((List.length l : Int) ≤ (x : Int))) || false) = false := borF d2 rfl
      have fin : ∀ P : Bool, P = false → (bif P then some (.inr (Sum.inl false)) else (Option.bind (idx b (i : Int)) fun x520 => Option.bind (idx sn x520) fun x523 => Option.bind (idx b (i : Int)) fun x528 => Option.bind (idx l x528) fun x531 => Option.bind (app 8 ((b.take i).map (at0 l)) ([x531])) fun l537 => Option.bind (in64 ((i : Int) + 1)) fun x543 => some (.inl (x543, (List.set sn (Int.toNat x520) true), l537)))) = (some (.inl (((i + 1 : Nat) : Int), sn.set x true, (b.take (i + 1)).map (at0 l))) : Option ((Int × List Bool × List Int) ⊕ (Bool ⊕ (List Int)))) := fun P hP =>
        oif hP (obi e1 (obi e2 (obi e1 (obi e3 (obi (app_ok (by simp only [List.length_map, List.length_take, List.length_cons, List.length_nil]; omega) (by simp only [List.length_map, List.length_take, List.length_cons, List.length_nil]; omega)) (obi (inc_nat (by omega)) (by
          rw [take_snoc hi, List.map_append, hxi]; rfl)))))))
      refine ⟨(((i + 1 : Nat) : Int), sn.set x true, (b.take (i + 1)).map (at0 l)), ?_, rfl, by simp [hsn], fun k hk => ?_, rfl⟩
      · unfold law34_SetoutBests_l1
        refine oit (decide_eq_true (by simp only; omega)) ?_
        by_cases h0 : i = 0
        · have z : decide (0 < (i : Int)) = false := decide_eq_false (by omega)
          have z1 : ∀ a : Bool, (a && decide (0 < (i : Int))) = false := fun a => bandF2 z
          have z2 : ∀ a c : Bool, (a && (decide (0 < (i : Int)) && c)) = false := fun a c => bandF2 (bandF z)
          exact obi e1 (obi (gO_T (bnotIt d0) e1) (obi (gO_T (bnotIt d2) e1) (obi (gO_T (bnotIt d2) e2) (obi (gO_F (z1 _)) (obi (gO_F (z1 _)) (obi (gO_F (z1 _)) (obi (gO_F (z1 _)) (obi (gO_F (z1 _)) (obi (gO_F (z2 _ _)) (obi (gO_F (z2 _ _)) (obi (gO_F (z2 _ _)) (fin _ (borF d3 (bandF (bandF z)))))))))))))))
        · have z : decide (0 < (i : Int)) = true := decide_eq_true (by omega)
          obtain ⟨y, hyi⟩ : ∃ y : Nat, b[i - 1] = y := ⟨(b[i - 1]).toNat, by have := hbm _ (List.getElem_mem (show i - 1 < b.length by omega)); omega⟩
          have hyl : y < l.length := by have := hbm _ (List.getElem_mem (show i - 1 < b.length by omega)); omega
          have e4 : in64 ((i : Int) - 1) = some ((i - 1 : Nat) : Int) := in64_nat (by omega) (by omega)
          have e5 : idx b ((i - 1 : Nat) : Int) = some (y : Int) := by rw [idx_nat (by omega), hyi]
          have e6 : idx l (y : Int) = some (at0 l y) := by unfold at0; rw [Int.toNat_natCast]; exact idx_getD 0 hyl
          have hlt := List.pairwise_iff_getElem.1 hstr (i - 1) i (by omega) hi (by omega)
          rw [hxi, hyi] at hlt
          unfold keyB at hlt
          have z1 : ((!((decide ((x : Int) < 0) || decide ((List.length l : Int) ≤ (x : Int))) || false)) && decide (0 < (i : Int))) = true := band (bnotIt d3) z
          by_cases he : at0 l x = at0 l y
          · have z2 : ((!((decide ((x : Int) < 0) || decide ((List.length l : Int) ≤ (x : Int))) || false)) && (decide (0 < (i : Int)) && decide (at0 l x = at0 l y))) = true := band (bnotIt d3) (band z (decide_eq_true he))
            exact obi e1 (obi (gO_T (bnotIt d0) e1) (obi (gO_T (bnotIt d2) e1) (obi (gO_T (bnotIt d2) e2) (obi (gO_T z1 e1) (obi (gO_T z1 e3) (obi (gO_T z1 e4) (obi (gO_T z1 e5) (obi (gO_T z1 e6) (obi (gO_T z2 e1) (obi (gO_T z2 e4) (obi (gO_T z2 e5) (fin _ (borF d3 (bandF2 (decide_eq_false (by omega))))))))))))))))
          · have z2 : ((!((decide ((x : Int) < 0) || decide ((List.length l : Int) ≤ (x : Int))) || false)) && (decide (0 < (i : Int)) && decide (at0 l x = at0 l y))) = false := bandF2 (bandF2 (decide_eq_false he))
            exact obi e1 (obi (gO_T (bnotIt d0) e1) (obi (gO_T (bnotIt d2) e1) (obi (gO_T (bnotIt d2) e2) (obi (gO_T z1 e1) (obi (gO_T z1 e3) (obi (gO_T z1 e4) (obi (gO_T z1 e5) (obi (gO_T z1 e6) (obi (gO_F z2) (obi (gO_F z2) (obi (gO_F z2) (fin _ (borF d3 (bandF (bandF2 (decide_eq_false he))))))))))))))))
      · rw [take_snoc hi, List.mem_append, hxi]
        have hk' : (sn.set x true)[k]? = some true := hk
        rw [List.getElem?_set] at hk'
        by_cases e : x = k
        · subst e; exact .inr (by simp)
        · rw [if_neg e] at hk'; exact .inl (hs k hk')
    · rintro ⟨j, sn, m⟩ ⟨rfl, _, _, rfl⟩
      simp only
      rw [List.take_length, ← hmv]
      exact oif (decide_eq_false (by simp only; omega)) rfl
    · rw [List.getElem?_replicate] at h
      split at h
      · cases h
      · cases h
  -- the moved wagons
  have hP := Plan_eq hN mv 16
  rw [PL_good (by omega) hmin] at hP
  have hG := Groups_eq hN mv
  rw [GL_good (by omega) hmin] at hG
  have hG2 := Groups_eq hN l
  rw [GL_good (by omega) hin] at hG2
  have hn := sumG_desc hdesc 16
  have hm := sumG_least hdesc (fun x => hmp.mem_iff) 16
  have hB2 := Best_eq hN mv
  rw [BL_good (by omega) hmin] at hB2
  have hag : bestL mv = idxs mv.length := by
    refine sorted_one (key := keyB mv) ?_ (best_asc mv) (best_same (okL_iff.1 hmin))
    unfold AscK
    refine (idxs_asc mv.length).imp_of_mem fun {x y} hx hy h => ?_
    have h1 := idxs_mem.1 hx
    have h2 := idxs_mem.1 hy
    have h3 := List.pairwise_iff_getElem.1 hdesc x.toNat y.toNat (by omega) (by omega) (by omega)
    unfold keyB at0
    rw [List.getD_eq_getElem?_getD, List.getElem?_eq_getElem (by omega), List.getD_eq_getElem?_getD, List.getElem?_eq_getElem (by omega)]
    simp only [Option.getD_some]
    omega
  rw [hag] at hB2
  have h2 : iterN (fun s : Int => law34_SetoutBests_l2 2000 (idxs mv.length, 0) s) 2000 0 = some (.inr ()) := by
    refine runN1 (f := fun s : Int => law34_SetoutBests_l2 2000 (idxs mv.length, 0) s) mv.length (fun i u => u = i) _ ?_ ?_ 2000 (by omega) 0 rfl
    · rintro i _ hi rfl
      have e : idx (idxs mv.length) (i : Int) = some (i : Int) := idx_some_of (by unfold idxs; simp [hi])
      exact ⟨_, oit (decide_eq_true (by simp only [idxs_len]; omega)) (obi e (oif (bnotIf (decide_eq_true rfl)) (obi (inc_nat (by omega)) rfl))), rfl⟩
    · rintro _ rfl
      exact oif (decide_eq_false (by simp only [idxs_len]; omega)) rfl
  unfold law34_SetoutBests
  refine obi rfl (obi hl (obi hB (oif (borF rfl (bnotIf (decide_eq_true (by simp only; omega)))) (obi (x := List.replicate l.length false) ?_ (obi h1 (obi hP (obi hG (obi hG2 (oif ?_ (obi hB2 (obi h2 ?_)))))))))))
  · unfold mkL
    rw [if_pos (by simp only; omega)]; simp
  · refine borF (borF rfl (bnotIf (decide_eq_true ?_))) (decide_eq_false ?_)
    · simp only; omega
    · simp only; omega
  · have q : (decide ((0 : Int) = 0) && decide ((List.length (idxs mv.length) : Int) = (List.length l : Int))) = true := band rfl (decide_eq_true (by rw [idxs_len]; omega))
    exact obi (gO_T q sane_ok) (congrArg some (band q rfl))
end Go.Gv
