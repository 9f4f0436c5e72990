/- Throwing (chapter 24): the program's Commands, whole. -/
import Derived.Test.YtpelfidmcpcmjaaPlg
namespace Go.Gv
theorem drop_range {n i : Nat} (h : i < n) : (List.range n).drop i = i :: (List.range n).drop (i + 1) := by
  rw [List.drop_eq_getElem_cons (by simpa using h), List.getElem_range]
theorem srvO_mem {l : List (List T_Span)} {r : List Int} {th : Int} {st : List T_Throw} (v : V24 l r th st) {k : Nat} (hk : k < l.length) {s : T_Span} {m m' : List T_Command} (h : srvO l r th st m k s = .inl m') (hm : ∀ x ∈ m, 0 ≤ x.Time ∧ x.Time ≤ 1000000000) : ∀ x ∈ m', 0 ≤ x.Time ∧ x.Time ≤ 1000000000 := by
  have htm := tm_bound v s.Element k (by omega)
  unfold srvO at h
  split at h
  · injection h with h; rw [← h]; exact hm
  split at h
  · cases h
  split at h
  · cases h
  rename_i c3
  split at h
  · cases h
  split at h
  · cases h
  injection h with h
  rw [← h]
  intro x hx
  rcases List.mem_append.1 hx with hx | hx
  · exact hm x hx
  · simp at hx; rw [hx]; simp only; omega
theorem rowO_mem {l : List (List T_Span)} {r : List Int} {th : Int} {st : List T_Throw} (v : V24 l r th st) {k : Nat} (hk : k < l.length) : ∀ (ss : List T_Span) {m m' : List T_Command}, rowO l r th st k ss m = .inl m' → (∀ x ∈ m, 0 ≤ x.Time ∧ x.Time ≤ 1000000000) → ∀ x ∈ m', 0 ≤ x.Time ∧ x.Time ≤ 1000000000
  | [], m, m', h, hm => by
    unfold rowO at h
    injection h with h; rw [← h]; exact hm
  | s :: t, m, m', h, hm => by
    unfold rowO at h
    cases hs : srvO l r th st m k s with
    | inr e => rw [hs] at h; cases h
    | inl m1 =>
      rw [hs] at h
      exact rowO_mem v hk t h (srvO_mem v hk hs hm)
theorem allO_mem {l : List (List T_Span)} {r : List Int} {th : Int} {st : List T_Throw} (v : V24 l r th st) : ∀ (ks : List Nat) {m m' : List T_Command}, (∀ k ∈ ks, k < l.length) → allO l r th st ks m = .inl m' → (∀ x ∈ m, 0 ≤ x.Time ∧ x.Time ≤ 1000000000) → ∀ x ∈ m', 0 ≤ x.Time ∧ x.Time ≤ 1000000000
  | [], m, m', _, h, hm => by
    unfold allO at h
    injection h with h; rw [← h]; exact hm
  | k :: t, m, m', hk, h, hm => by
    unfold allO at h
    cases hs : rowO l r th st k (lk l k) m with
    | inr e => rw [hs] at h; cases h
    | inl m1 =>
      rw [hs] at h
      exact allO_mem v t (fun k' h' => hk k' (List.mem_cons_of_mem _ h')) h (rowO_mem v (hk k List.mem_cons_self) _ hs hm)
def keyT (x : T_Command) : Int := x.Time
/-- what both make: an error, or commands that a stable sort by time puts in order -/
theorem Commands_eq {N : Nat} (hN : 2000 ≤ N) {l : List (List T_Span)} {r : List Int} {th : Int} {st : List T_Throw} (v : V24 l r th st) (hck : ck24 l r th st = 0) :
    (∃ e, allO l r th st (List.range l.length) [] = .inr e ∧ e ≠ 0 ∧ throwplan_Commands N l r th st = some ([], e)) ∨
    ∃ made out, allO l r th st (List.range l.length) [] = .inl made ∧ made.length ≤ 1024 ∧ throwplan_Commands N l r th st = some (out, 0) ∧ out.length = made.length ∧ Same keyT made out ∧ AscK keyT out := by
  have hll := v.ll
  obtain ⟨ms, hms, hmget⟩ := sides_eq hN v
  obtain ⟨q, hq, hQ⟩ := runN (f := fun s : Int × (List (Int × Int)) × (List (Int × Int)) × (List (Int × Bool)) × List T_Command => throwplan_Commands_l7 N l r th s.1 s.2.1 s.2.2.1 s.2.2.2.1 s.2.2.2.2) l.length
    (fun i s => s.1 = i ∧ (∀ e, (mget s.2.1 e).getD 1 = lastS s.2.2.2.2 st e) ∧ (∀ e, (mget s.2.2.1 e).getD 0 = tmE l r e i) ∧ (∀ e, (mget s.2.2.2.1 e).getD false = slE l e i) ∧ s.2.2.2.2.length ≤ 1024 ∧ allO l r th st ((List.range l.length).drop i) s.2.2.2.2 = allO l r th st (List.range l.length) [])
    (fun q => (∃ e, allO l r th st (List.range l.length) [] = .inr e ∧ e ≠ 0 ∧ q = .inl ([], e)) ∨ ∃ a b c made, allO l r th st (List.range l.length) [] = .inl made ∧ made.length ≤ 1024 ∧ q = .inr (a, b, c, made)) (by
    rintro k ⟨k', sd, un, sl, md⟩ hk ⟨rfl, h1, h2, h3, hm, hV⟩
    simp only at h1 h2 h3 hm hV ⊢
    rw [drop_range hk, allO] at hV
    obtain ⟨q, hq, hQ⟩ := row_loop hN v hk hm h1 h2 h3
    unfold throwplan_Commands_l7
    rcases hQ with ⟨e, a1, a2, rfl⟩ | ⟨m', sd', a1, a2, a3, rfl⟩
    · rw [a1] at hV
      exact .inr ⟨_, oit (decide_eq_true (by omega)) (obi (idx_lk hk) (obi hq rfl)), .inl ⟨e, hV.symm, a2, rfl⟩⟩
    · rw [a1] at hV
      obtain ⟨u, hu, b1, b2⟩ := until_loop hN v hk h2 h3
      exact .inl ⟨_, oit (decide_eq_true (by omega)) (obi (idx_lk hk) (obi hq (obi hu (obi (inc_nat (by omega)) rfl)))), rfl, a3, b1, b2, a2, hV⟩) (by
    rintro ⟨k', sd, un, sl, md⟩ ⟨rfl, h1, h2, h3, hm, hV⟩
    simp only at h1 h2 h3 hm hV
    rw [List.drop_of_length_le (by simp), allO] at hV
    exact ⟨_, oif (decide_eq_false (by simp)) rfl, .inr ⟨sd, un, sl, md, hV.symm, hm, rfl⟩⟩) N (by omega) (0, ms, [], [], []) ⟨rfl, fun e => by simp only; rw [hmget]; rfl, fun e => rfl, fun e => rfl, by simp, rfl⟩
  have hc0 : throwplan_check N l r th st = some 0 := by rw [check_eq hN, hck]
  rcases hQ with ⟨e, a1, a2, rfl⟩ | ⟨a, b, c, made, a1, a2, rfl⟩
  · exact .inl ⟨e, a1, a2, obi hc0 (oif rfl (obi hms (obi hq rfl)))⟩
  · have hT := allO_mem v _ (fun k h => by simpa using h) a1 (fun x h => by simp at h)
    obtain ⟨out, ho, hlen, hs, ha⟩ := sort_ok (key := keyT) (S := fun x => 0 ≤ x.Time ∧ x.Time ≤ 1000000000) hN (fun x y hx hy => ⟨x.Time - y.Time, obi (in64_ok (by omega)) rfl, by unfold keyT; omega⟩) (l := made) hT (by omega)
    exact .inr ⟨made, out, a1, a2, obi hc0 (oif rfl (obi hms (obi hq (obi ho rfl)))), hlen, hs, ha⟩
end Go.Gv
