/- Engines (chapter 39): orders and assignments. -/
import Derived.Test.YtodjacghadpbfaaPi
namespace Go.Gv
/-! checks -/
def badT (x : T_Task) : Bool := (decide (x.From < 0) || decide (x.To ≤ x.From)) || decide (10080 < x.To)
def vE (l : List T_Task) (T : Int) : Int := if 64 < l.length then 3 else if T < 0 ∨ 10080 < T then 2 else bif l.any badT then 1 else 0
theorem check_eq {N : Nat} (hN : 5000 ≤ N) (l : List T_Task) (T : Int) : engine_check N l T = some (vE l T) := by
  unfold engine_check vE
  by_cases h : 64 < l.length
  · rw [if_pos h]; exact oit (decide_eq_true (by omega)) rfl
  · rw [if_neg h]
    refine oif (decide_eq_false (by omega)) ?_
    by_cases h2 : T < 0 ∨ 10080 < T
    · rw [if_pos h2]
      refine oit ?_ rfl
      rcases h2 with h2 | h2
      · exact borT (decide_eq_true h2)
      · exact borT2 (decide_eq_true h2)
    · rw [if_neg h2]
      refine oif (borF (decide_eq_false (by omega)) (decide_eq_false (by omega))) (obi (first_any l badT 1 (f := engine_check_l1 N l) (fun i hi hp => ?_) (fun i hi hp => ?_) ?_ N (by omega)) ?_)
      · exact oit (decide_eq_true (by omega)) (obi (idx_nat hi) (oit hp rfl))
      · exact oit (decide_eq_true (by omega)) (obi (idx_nat hi) (oif hp (obi (inc_nat (by omega)) rfl)))
      · exact oif (decide_eq_false (by omega)) rfl
      · cases l.any badT <;> rfl
theorem rcheck_eq {N : Nat} (hN : 5000 ≤ N) (l : List T_Task) (T : Int) : r39_check N l T = some (vE l T) := by
  unfold r39_check vE
  by_cases h : 64 < l.length
  · rw [if_pos h]; exact oit (decide_eq_true (by omega)) rfl
  · rw [if_neg h]
    refine oif (decide_eq_false (by omega)) ?_
    by_cases h2 : T < 0 ∨ 10080 < T
    · rw [if_pos h2]
      refine oit ?_ rfl
      rcases h2 with h2 | h2
      · exact borT (decide_eq_true h2)
      · exact borT2 (decide_eq_true h2)
    · rw [if_neg h2]
      have step : ∀ (i : Nat) (hi : i < l.length) (R : Option ((Int) ⊕ (Int ⊕ Unit))), (bif badT l[i] then (some (.inr (Sum.inl 1))) else (Option.bind (in64 ((i : Int) + 1)) fun x145 => some (.inl x145))) = R → r39_check_l1 N l i = R := by
        intro i hi R h
        have e := idx_nat hi
        refine oit (decide_eq_true (by omega)) (obi e ?_)
        by_cases c1 : l[i].From < 0
        · have q1 : (!decide (l[i].From < 0)) = false := bnotIf (decide_eq_true c1)
          have q2 : ∀ b, (!(decide (l[i].From < 0) || b)) = false := fun b => bnotIf (borT (decide_eq_true c1))
          have q3 : badT l[i] = true := borT (borT (decide_eq_true c1))
          rw [q3] at h
          exact obi (gO_F q1) (obi (gO_F q1) (obi (gO_F (q2 _)) (oit (borT (borT (decide_eq_true c1))) h)))
        · have q1 : (!decide (l[i].From < 0)) = true := bnotIt (decide_eq_false c1)
          refine obi (gO_T q1 e) (obi (gO_T q1 e) ?_)
          by_cases c2 : l[i].To ≤ l[i].From
          · have q2 : (!(decide (l[i].From < 0) || decide (l[i].To ≤ l[i].From))) = false := bnotIf (borT2 (decide_eq_true c2))
            have q3 : badT l[i] = true := borT (borT2 (decide_eq_true c2))
            rw [q3] at h
            exact obi (gO_F q2) (oit (borT (borT2 (decide_eq_true c2))) h)
          · have q2 : (!(decide (l[i].From < 0) || decide (l[i].To ≤ l[i].From))) = true := bnotIt (borF (decide_eq_false c1) (decide_eq_false c2))
            exact obi (gO_T q2 e) h
      refine oif (borF (decide_eq_false (by omega)) (decide_eq_false (by omega))) (obi (first_any l badT 1 (f := r39_check_l1 N l) (fun i hi hp => ?_) (fun i hi hp => ?_) ?_ N (by omega)) ?_)
      · exact step i hi _ (oit hp rfl)
      · exact step i hi _ (oif hp (obi (inc_nat (by omega)) rfl))
      · exact oif (decide_eq_false (by omega)) rfl
      · cases l.any badT <;> rfl
/-- valid tasks and a valid turn -/
structure Val (l : List T_Task) (T : Int) : Prop where
  len : l.length ≤ 64
  t0 : 0 ≤ T
  t1 : T ≤ 10080
  ok : ∀ x ∈ l, 0 ≤ x.From ∧ x.From < x.To ∧ x.To ≤ 10080
theorem vE_zero {l : List T_Task} {T : Int} : vE l T = 0 ↔ Val l T := by
  unfold vE
  by_cases h : 64 < l.length
  · rw [if_pos h]; exact ⟨fun e => by omega, fun v => absurd v.len (by omega)⟩
  · rw [if_neg h]
    by_cases h2 : T < 0 ∨ 10080 < T
    · rw [if_pos h2]; exact ⟨fun e => by omega, fun v => by have := v.t0; have := v.t1; omega⟩
    · rw [if_neg h2]
      cases hb : l.any badT with
      | true =>
        refine ⟨fun e => by simp at e, fun v => ?_⟩
        obtain ⟨x, hx, hp⟩ := List.any_eq_true.1 hb
        have := v.ok x hx
        unfold badT at hp
        simp at hp; omega
      | false =>
        refine ⟨fun _ => ⟨by omega, by omega, by omega, fun x hx => ?_⟩, fun _ => rfl⟩
        have := List.any_eq_false.1 hb x hx
        unfold badT at this
        simp at this; omega
def tk (l : List T_Task) (i : Nat) : T_Task := l.getD i default
theorem tk_mem {l : List T_Task} {i : Nat} (h : i < l.length) : tk l i ∈ l := by
  unfold tk; rw [List.getD_eq_getElem?_getD, List.getElem?_eq_getElem h]; exact List.getElem_mem h
theorem Val.tk {l : List T_Task} {T : Int} (v : Val l T) {i : Nat} (h : i < l.length) : 0 ≤ (tk l i).From ∧ (tk l i).From < (tk l i).To ∧ (tk l i).To ≤ 10080 := v.ok _ (tk_mem h)
theorem idx_tk {l : List T_Task} {i : Nat} (h : i < l.length) : idx l (i : Int) = some (tk l i) := idx_getD _ h
/-! the order -/
def keyO (l : List T_Task) (x : Int) : Int := (tk l x.toNat).From
theorem cmpc_eq (N : Nat) (a b : Int) : g_cmp_Compare_int N a b = some (if a < b then -1 else if b < a then 1 else 0) := by
  refine obi (x := false) (congrArg some (bnotIf (decide_eq_true rfl))) (obi (x := false) (congrArg some (bnotIf (decide_eq_true rfl))) (oif rfl (oif rfl ?_)))
  by_cases h : a < b
  · rw [if_pos h]; exact oit (decide_eq_true h) rfl
  · rw [if_neg h]
    refine oif (decide_eq_false h) ?_
    by_cases h2 : b < a
    · rw [if_pos h2]; exact oit (decide_eq_true h2) rfl
    · rw [if_neg h2]; exact oif (decide_eq_false h2) rfl
theorem cmp_ok (N : Nat) (l : List T_Task) : ∀ x y, x ∈ idxs l.length → y ∈ idxs l.length → ∃ r, engine_order_1 N x y [l] = some r ∧ (r < 0 ↔ keyO l x < keyO l y) := by
  intro x y hx hy
  rw [idxs_mem] at hx hy
  obtain ⟨i, rfl⟩ : ∃ i : Nat, x = i := ⟨x.toNat, by omega⟩
  obtain ⟨j, rfl⟩ : ∃ j : Nat, y = j := ⟨y.toNat, by omega⟩
  refine ⟨_, obi rfl (obi (idx_tk (by omega)) (obi (idx_tk (by omega)) (obi (cmpc_eq N _ _) rfl))), ?_⟩
  unfold keyO
  simp only [Int.toNat_natCast]
  split
  · omega
  · split <;> omega
/-- the order of the tasks -/
structure IsO (l : List T_Task) (o : List Nat) : Prop where
  nd : o.Nodup
  len : o.length = l.length
  lt : ∀ j ∈ o, j < l.length
  all : ∀ j, j < l.length → j ∈ o
  asc : o.Pairwise fun i j => (tk l i).From ≤ (tk l j).From
theorem isO_of {l : List T_Task} {r : List Int} (hs : Same (keyO l) (idxs l.length) r) (ha : AscK (keyO l) r) : IsO l (r.map Int.toNat) ∧ r = (r.map Int.toNat).map Int.ofNat := by
  have hp := hs.perm
  have hm : ∀ x ∈ r, 0 ≤ x ∧ x < l.length := fun x hx => idxs_mem.1 (hp.mem_iff.1 hx)
  have hnd : r.Nodup := hp.nodup_iff.2 ((idxs_asc _).imp fun h => by omega)
  refine ⟨⟨?_, by rw [List.length_map, hp.length_eq, idxs_len], fun j hj => ?_, fun j hj => ?_, ?_⟩, ?_⟩
  · unfold List.Nodup
    rw [List.pairwise_map]
    exact hnd.imp_of_mem fun {x y} hx hy h e => h (by have := hm x hx; have := hm y hy; omega)
  · obtain ⟨x, hx, rfl⟩ := List.mem_map.1 hj
    have := hm x hx; omega
  · exact List.mem_map.2 ⟨(j : Int), hp.mem_iff.2 (idxs_mem.2 ⟨by omega, by omega⟩), by simp⟩
  · rw [List.pairwise_map]
    exact ha
  · rw [List.map_map]
    symm
    rw [List.map_congr_left (g := id), List.map_id]
    intro x hx
    have := hm x hx
    simp; omega
theorem order_eq {N : Nat} (hN : 5000 ≤ N) {l : List T_Task} (hl : l.length ≤ 64) : ∃ r, engine_order N l = some r ∧ Same (keyO l) (idxs l.length) r ∧ AscK (keyO l) r := by
  have h1 : iterN (fun s : Int × List Int => engine_order_l1 N l s.1 s.2) N (0, []) = some (idxs l.length) := by
    refine runN1 (f := fun s : Int × List Int => engine_order_l1 N l s.1 s.2) l.length (fun i u => u.1 = i ∧ u.2 = idxs i) _ ?_ ?_ N (by omega) (0, []) ⟨rfl, rfl⟩
    · rintro i ⟨j, o⟩ hi ⟨rfl, rfl⟩
      exact ⟨_, oit (decide_eq_true (by simp only; omega)) (obi (app_ok (by simp only [idxs_len, List.length_cons, List.length_nil]; omega) (by simp only [idxs_len, List.length_cons, List.length_nil]; omega)) (obi (inc_nat (by omega)) rfl)), rfl, (idxs_succ i).symm⟩
    · rintro ⟨j, o⟩ ⟨rfl, rfl⟩
      exact oif (decide_eq_false (by simp)) rfl
  obtain ⟨r, hr, _, hs, ha⟩ := sort_ok (c := [l]) (S := fun x => x ∈ idxs l.length) (show 2000 ≤ N by omega) (cmp_ok N l) (l := idxs l.length) (fun x hx => hx) (by rw [idxs_len]; omega)
  exact ⟨r, obi h1 (obi hr rfl), hs, ha⟩
/-- inserting at the place behind all that are not above -/
theorem ins_ok {l : List T_Task} {o : List Int} {i k : Nat} (ha : AscK (keyO l) o) (hs : Same (keyO l) (idxs i) o) (hk : k ≤ o.length) (hlow : ∀ x ∈ o.take k, keyO l x ≤ keyO l i) (hup : ∀ x ∈ o.drop k, keyO l i < keyO l x) :
    AscK (keyO l) (o.take k ++ ([(i : Int)] ++ o.drop k)) ∧ Same (keyO l) (idxs (i + 1)) (o.take k ++ ([(i : Int)] ++ o.drop k)) := by
  constructor
  · unfold AscK at ha ⊢
    rw [← List.take_append_drop k o, List.pairwise_append] at ha
    rw [List.pairwise_append, List.pairwise_append]
    refine ⟨ha.1, ⟨by simp, ha.2.1, fun x hx y hy => ?_⟩, fun x hx y hy => ?_⟩
    · simp at hx; subst hx; have := hup y hy; omega
    · rcases List.mem_append.1 hy with h | h
      · simp at h; subst h; exact hlow x hx
      · exact ha.2.2 x hx y h
  · intro t
    rw [idxs_succ, List.filter_append, List.filter_append, List.filter_append, ← hs t]
    conv => rhs; rw [← List.take_append_drop k o]
    rw [List.filter_append, List.append_assoc]
    congr 1
    by_cases e : keyO l i = t
    · have : (o.drop k).filter (fun x => decide (keyO l x = t)) = [] := by
        rw [List.filter_eq_nil_iff]
        intro x hx h
        have := hup x hx
        have := of_decide_eq_true h
        omega
      rw [this, List.append_nil, List.nil_append]
    · have : ([(i : Int)]).filter (fun x => decide (keyO l x = t)) = [] := by
        rw [List.filter_eq_nil_iff]
        intro x hx h
        simp at hx; subst hx
        exact e (of_decide_eq_true h)
      rw [this, List.append_nil, List.nil_append]
theorem rorder_eq {N : Nat} (hN : 5000 ≤ N) {l : List T_Task} (hl : l.length ≤ 64) : ∃ r, r39_order N l = some r ∧ Same (keyO l) (idxs l.length) r ∧ AscK (keyO l) r := by
  obtain ⟨r, hr, hQ⟩ := runN (f := fun s : Int × List Int => r39_order_l4 N l s.1 s.2) l.length (fun i u => u.1 = i ∧ u.2.length = i ∧ Same (keyO l) (idxs i) u.2 ∧ AscK (keyO l) u.2) (fun r => Same (keyO l) (idxs l.length) r ∧ AscK (keyO l) r) (by
    rintro i ⟨j, o⟩ hi ⟨rfl, hlen, hs, ha⟩
    simp only at hlen hs ha ⊢
    left
    have hmem : ∀ x ∈ o, 0 ≤ x ∧ x < i := fun x hx => idxs_mem.1 (hs.mem.1 hx)
    obtain ⟨k, hk0, hk1, hk2, hk3⟩ : ∃ k : Nat, iterN (fun s : Int => r39_order_l5 N l i o s) N (o.length : Int) = some (k : Int) ∧ k ≤ o.length ∧ (∀ x ∈ o.take k, keyO l x ≤ keyO l i) ∧ (∀ x ∈ o.drop k, keyO l i < keyO l x) := by
      obtain ⟨r, hr, k, rfl, hQ⟩ := iterN_run (f := fun s : Int => r39_order_l5 N l i o s)
        (I := fun s => ∃ k : Nat, s = k ∧ k ≤ o.length ∧ ∀ x ∈ o.drop k, keyO l i < keyO l x)
        (Q := fun s => ∃ k : Nat, s = (k : Int) ∧ k ≤ o.length ∧ (∀ x ∈ o.take k, keyO l x ≤ keyO l i) ∧ (∀ x ∈ o.drop k, keyO l i < keyO l x)) (fun s => s.toNat) (by
        rintro _ ⟨k, rfl, hk, hup⟩
        unfold r39_order_l5
        by_cases h0 : 0 < k
        · have z : decide (0 < (k : Int)) = true := decide_eq_true (by omega)
          have e1 : in64 ((k : Int) - 1) = some ((k - 1 : Nat) : Int) := in64_nat (by omega) (by omega)
          have hx := hmem _ (List.getElem_mem (show k - 1 < o.length by omega))
          obtain ⟨x, hxe⟩ : ∃ x : Nat, o[k - 1] = x := ⟨(o[k - 1]).toNat, by omega⟩
          have e2 : idx o ((k - 1 : Nat) : Int) = some (x : Int) := by rw [idx_nat (by omega), hxe]
          have e3 : idx l (x : Int) = some (tk l x) := idx_tk (by omega)
          have e4 : idx l (i : Int) = some (tk l i) := idx_tk hi
          have ek : keyO l o[k - 1] = (tk l x).From := by rw [hxe]; unfold keyO; simp
          have ei : keyO l i = (tk l i).From := by unfold keyO; simp
          by_cases hlt : (tk l i).From < (tk l x).From
          · refine .inl ⟨_, obi (gO_T z e1) (obi (gO_T z e2) (obi (gO_T z e3) (obi (gO_T z e4) (oit (band z (decide_eq_true hlt)) (obi e1 rfl))))), ⟨k - 1, rfl, by omega, fun y hy => ?_⟩, by omega⟩
            rw [drop_cons (show k - 1 < o.length by omega), show k - 1 + 1 = k by omega] at hy
            rcases List.mem_cons.1 hy with rfl | hy
            · omega
            · exact hup y hy
          · refine .inr ⟨_, obi (gO_T z e1) (obi (gO_T z e2) (obi (gO_T z e3) (obi (gO_T z e4) (oif (bandF2 (decide_eq_false hlt)) rfl)))), k, rfl, hk, fun y hy => ?_, hup⟩
            obtain ⟨q, hq, rfl⟩ := List.getElem_of_mem hy
            have hql : q < k := by simp at hq; omega
            rw [List.getElem_take]
            by_cases e : q = k - 1
            · subst e; omega
            · have := List.pairwise_iff_getElem.1 ha q (k - 1) (by omega) (by omega) (by omega)
              omega
        · have z : decide (0 < (k : Int)) = false := decide_eq_false (by omega)
          obtain rfl : k = 0 := by omega
          exact .inr ⟨_, obi (gO_F z) (obi (gO_F z) (obi (gO_F z) (obi (gO_F z) (oif (bandF z) rfl)))), 0, rfl, hk, fun y hy => by simp at hy, hup⟩) N (o.length : Int) ⟨o.length, rfl, Nat.le_refl _, fun x hx => by simp at hx⟩ (by omega)
      exact ⟨k, hr, hQ⟩
    have s1 : slc o 0 (k : Int) = some (o.take k) := by have := slc_nat (l := o) (a := 0) (b := k) (by omega) hk1; simpa using this
    have s2 : slc o (k : Int) (o.length : Int) = some (o.drop k) := by have := slc_nat (l := o) (a := k) (b := o.length) hk1 (Nat.le_refl _); simpa using this
    have s3 : app 8 [(i : Int)] (o.drop k) = some ([(i : Int)] ++ o.drop k) := app_ok (by simp only [List.length_cons, List.length_nil, List.length_drop]; omega) (by simp only [List.length_cons, List.length_nil, List.length_drop]; omega)
    have s4 : appC 8 (o.take k) ([(i : Int)] ++ o.drop k) = some (o.take k ++ ([(i : Int)] ++ o.drop k)) := by
      unfold appC
      rw [if_neg (by simp)]
      exact app_ok (by simp only [List.length_append, List.length_cons, List.length_nil, List.length_drop, List.length_take]; omega) (by simp only [List.length_append, List.length_cons, List.length_nil, List.length_drop, List.length_take]; omega)
    obtain ⟨h1, h2⟩ := ins_ok ha hs hk1 hk2 hk3
    exact ⟨_, oit (decide_eq_true (by omega)) (obi hk0 (obi s1 (obi s2 (obi s3 (obi s4 (obi (inc_nat (by omega)) rfl)))))), rfl, by simp only [List.length_append, List.length_cons, List.length_nil, List.length_drop, List.length_take]; omega, h2, h1⟩) (by
    rintro ⟨j, o⟩ ⟨rfl, hlen, hs, ha⟩
    exact ⟨o, oif (decide_eq_false (by simp)) rfl, hs, ha⟩) N (by omega) (0, []) ⟨rfl, rfl, fun _ => rfl, List.Pairwise.nil⟩
  exact ⟨r, obi hr rfl, hQ⟩
/-- both orders are one -/
theorem orders {N : Nat} (hN : 5000 ≤ N) {l : List T_Task} (hl : l.length ≤ 64) : ∃ o, IsO l o ∧ engine_order N l = some (o.map Int.ofNat) ∧ r39_order N l = some (o.map Int.ofNat) := by
  obtain ⟨r, h1, h2, h3⟩ := order_eq hN hl
  obtain ⟨r', h4, h5, h6⟩ := rorder_eq hN hl
  obtain ⟨h7, h8⟩ := isO_of h2 h3
  have e : r' = r := sorted_one h3 h6 fun t => (h5 t).trans (h2 t).symm
  exact ⟨_, h7, by rw [h1]; exact congrArg some h8, by rw [h4, e]; exact congrArg some h8⟩
end Go.Gv
